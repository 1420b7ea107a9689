/-
  Contracts of the code that the law reaches, and plain laws. Conditions: as each says.
-/
import Derived.Test.YtiiekaehbahenaaGreatDoorV24
set_option linter.all false
set_option maxHeartbeats 40000000
set_option maxRecDepth 100000
namespace Go.Proofs.YtiiekaehbahenaaGreatDoor
open Lib (hid)
open Tryz
section
namespace Wid
open Go.RowKit Mem Atl
theorem csub_any (x:Nat) (hx:x<9223372036854775808) (w:World):
  Calls prog 89 #[.int .i64 0,.int .i64 x] w fun r w'=>r= .returned (.tuple #[.int .i64 (-(x:Int)),.int .i64 0])/\w=w':=by
 have hw:IntKind.i64.wrap (0 - (x:Int))= -(x:Int):=by rw [IntKind.wrap_i64];omega
 by_cases h0:x=0
 ·subst h0
  go_enter func89,ntmps89;go_wp2
  go_ret2
  exact ⟨rfl,rfl⟩
 ·have q1:((x:Int) == 0)=false:=by rw [beq_eq_false_iff_ne];omega
  have q2:decide (-(x:Int)<0)=true:=decide_eq_true (by omega)
  have q3:decide ((0:Int)<x)=true:=decide_eq_true (by omega)
  go_enter func89,ntmps89;go_wp2
  go_ret2
  exact ⟨rfl,rfl⟩
theorem cneg_any (x:Nat) (hx:x<9223372036854775808) (w:World):
  Calls prog 46 #[.int .i64 x] w fun r w'=>r= .returned (.tuple #[.int .i64 (-(x:Int)),.int .i64 0])/\w=w':=by
 have HS:=hid (fun z=>csub_any x hx z);go_enter func46,ntmps46
 go_wp2_with (go_at_call 89;refine (HS.out _).mono ?_;rintro r w1 ⟨rfl,rfl⟩)
 go_ret2
 exact ⟨rfl,rfl⟩
abbrev durF (f:Nat->Int):Array Value:=#[.int .i64 (f 0),.int .i64 (f 1),.int .i64 (f 2),.int .i64 (f 3),.int .i64 (f 4),.int .i64 (f 5),.int .i64 (f 6),.int .i64 (f 7)]
theorem oct8 {k:Nat} (hk:k<8):k=0\/k=1\/k=2\/k=3\/k=4\/k=5\/k=6\/k=7:=by omega
theorem durF_cell {w:World} {X:Nat} {T:TypeId} {f:Nat->Int} (h:Blk w X T (durF f)) {k:Nat} (hk:k<8):w.cell? ⟨X,k,none⟩=some (.int .i64 (f k)):=by
 rw [h.cell k]
 rcases oct8 hk with rfl|rfl|rfl|rfl|rfl|rfl|rfl|rfl<;>rfl
theorem durF_set {w:World} {X:Nat} {T:TypeId} {f:Nat->Int} (h:Blk w X T (durF f)) {k:Nat} (hk:k<8) (v:Int):
  Blk (w.setCell ⟨X,k,none⟩ (.int .i64 v)) X T (durF fun j=>if j=k then v else f j):=by
 have:=h.set_ k (.int .i64 v)
 rcases oct8 hk with rfl|rfl|rfl|rfl|rfl|rfl|rfl|rfl<;>exact this
def negF (D:Nat->Nat) (k:Nat):Nat->Int:=fun j=>if j<k then -(D j:Int) else (D j:Int)
theorem negF_succ (D:Nat->Nat) (k:Nat):(fun j=>if j=k then -(D k:Int) else negF D k j)=negF D (k+1):=by
 funext j
 unfold negF
 by_cases h:j=k
 ·subst h;simp
 ·rw [if_neg h]
  by_cases h2:j<k
  ·rw [if_pos h2,if_pos (by omega)]
  ·rw [if_neg h2,if_neg (by omega)]
theorem blk_eq {w:World} {X:Nat} {T:TypeId} {c d:Array Value} (h:Blk w X T c) (e:c=d):Blk w X T d:=e ▸ h
theorem dneg_any (a b c d e f g h:Nat) (hD:∀ k,oct a b c d e f g h k<9223372036854775808) (hrt:rightB (oct a b c d e f g h)=true) (w:World):
  Calls prog 14 #[.agg (durV a b c d e f g h)] w fun r w'=>r= .returned (.tuple #[.agg (durF (negF (oct a b c d e f g h) 8)),.int .i64 0])/\Below w.heap.size w w':=by
 obtain ⟨bX,bR,hbX,hzX⟩:=box2 w 32 32 (durV a b c d e f g h) #[.int .i64 0,.int .i64 0,.int .i64 0,.int .i64 0,.int .i64 0,.int .i64 0,.int .i64 0,.int .i64 0];have cX:=bX.cell;have HX:=hid (And.intro bX (And.intro bR hbX));clear bX bR hbX;have hRt:=fun z=>right_any a b c d e f g h hD z;rw [hrt] at hRt;have HRt:=hid hRt;have hD0:durV a b c d e f g h=durF (negF (oct a b c d e f g h) 0):=rfl;obtain ⟨D,hDD⟩:∃ D,oct a b c d e f g h=D:=⟨_,rfl⟩;rw [hDD] at hD hD0 ⊢;have HD:=hid (And.intro hD hD0);clear hDD hD hRt hrt hD0;go_enter func14,ntmps14
 go_wp2_with fail
 generalize (w.alloc (.cells (durV a b c d e f g h) 32)).alloc (.cells #[.int .i64 0,.int .i64 0,.int .i64 0,.int .i64 0,.int .i64 0,.int .i64 0,.int .i64 0,.int .i64 0] 32)=W at*
 go_wp2_with (go_at_call 31;refine (HRt.out _).mono ?_;rintro r w1 ⟨rfl,hb⟩;have HW:=hid (And.intro (HX.out.1.below hb HX.out.1.lt) (And.intro (HX.out.2.1.below hb HX.out.2.1.lt) (HX.out.2.2.trans (hb.mono HX.out.2.2.size))));have hw1:=HW.out.2.2.size;have hw2:=HW.out.2.1.lt;clear hb cX HX)
 go_at_call 45
 refine (fields_any w.heap.size w1).mono ?_
 rintro r w2 ⟨rfl,bF,hb⟩;have HW2:=hid (And.intro (HW.out.1.below hb HW.out.1.lt) (And.intro bF (And.intro (HW.out.2.1.below hb HW.out.2.1.lt) (HW.out.2.2.trans (hb.mono HW.out.2.2.size)))));have hw3:=bF.lt;clear bF hb HW;obtain ⟨F,hF⟩:∃ F,w1.heap.size=F:=⟨_,rfl⟩;rw [hF] at HW2 hw1 hw2 hw3;rw [hF];clear hF
 go_wp2_with fail
 go_loopw [5,6,7,15] (fun _ _ _ i wr=>∃ k:Nat,k<=8/\i= .int .i64 k/\Blk wr w.heap.size 32 (durF (negF D k))/\Blk wr F 62 (ptrC w.heap.size)/\Blk wr (w.heap.size+1) 32 #[.int .i64 0,.int .i64 0,.int .i64 0,.int .i64 0,.int .i64 0,.int .i64 0,.int .i64 0,.int .i64 0]/\Below w.heap.size w wr) (fun _ _ _ i _=>8 - (intOf i).toNat)
 case atStart=>exact ⟨0,by omega,rfl,blk_eq HW2.out.1 HD.out.2,HW2.out.2.1,HW2.out.2.2.1,HW2.out.2.2.2⟩
 case round=>
  obtain ⟨k,hk,rfl,b1,b2,b3,b4⟩:=hrel;have HB:=hid (And.intro b1 (And.intro b2 (And.intro b3 b4)))
  by_cases hk8:k<8
  ·have ad:Addr.add ⟨F,1,none⟩ k=⟨F,1+k,none⟩:=by unfold Addr.add;split<;>simp_all
   have p1:=ptr_cell b2 hk8;have p2:=durF_cell b1 hk8;have p3:=b1.frozen k;have hx2:=HD.out.1 k;rw [show negF D k k=(D k:Int) from if_neg (Nat.lt_irrefl _)] at p2;have HN:=hid (fun z=>cneg_any (D k) hx2 z);obtain ⟨x,hx⟩:∃ x,D k=x:=⟨_,rfl⟩;rw [hx] at p2 hx2 HN;have Hx:=hid hx;clear hx b1 b2 b3 b4
   go_wp2_with (go_at_call 46;refine (HN.out _).mono ?_;rintro r w3 ⟨rfl,rfl⟩)
   refine ⟨⟨k+1,by omega,by go_num,?_,HB.out.2.1.far (by show F≠w.heap.size;omega) _,HB.out.2.2.1.far (by show w.heap.size+1≠w.heap.size;omega) _,HB.out.2.2.2.setCell (Nat.le_refl _) _⟩,by simp [intOf];omega⟩
   have:=durF_set HB.out.1 hk8 (-(x:Int));rw [<-Hx.out,negF_succ,Hx.out] at this;exact this
  ·obtain rfl:k=8:=by omega
   obtain ⟨y0,e0⟩:∃ y,negF D 8 0=y:=⟨_,rfl⟩;obtain ⟨y1,e1⟩:∃ y,negF D 8 1=y:=⟨_,rfl⟩;obtain ⟨y2,e2⟩:∃ y,negF D 8 2=y:=⟨_,rfl⟩;obtain ⟨y3,e3⟩:∃ y,negF D 8 3=y:=⟨_,rfl⟩;obtain ⟨y4,e4⟩:∃ y,negF D 8 4=y:=⟨_,rfl⟩;obtain ⟨y5,e5⟩:∃ y,negF D 8 5=y:=⟨_,rfl⟩;obtain ⟨y6,e6⟩:∃ y,negF D 8 6=y:=⟨_,rfl⟩;obtain ⟨y7,e7⟩:∃ y,negF D 8 7=y:=⟨_,rfl⟩;simp only [durF,e0,e1,e2,e3,e4,e5,e6,e7] at b1;have c1:=b1.cell;have c3:=b3.cell;have f3:=b3.frozen
   have HE:=hid (show (.agg #[.int .i64 y0,.int .i64 y1,.int .i64 y2,.int .i64 y3,.int .i64 y4,.int .i64 y5,.int .i64 y6,.int .i64 y7]:Value)= .agg (durF (negF D 8)) from by simp only [durF,e0,e1,e2,e3,e4,e5,e6,e7])
   clear b1 b2 b3 b4 e0 e1 e2 e3 e4 e5 e6 e7;go_wp2;have bF:=((((((((HB.out.2.2.1.set_ 0 (.int .i64 y0)).set_ 1 (.int .i64 y1)).set_ 2 (.int .i64 y2)).set_ 3 (.int .i64 y3)).set_ 4 (.int .i64 y4)).set_ 5 (.int .i64 y5)).set_ 6 (.int .i64 y6)).set_ 7 (.int .i64 y7))
   have hF:=((((((((HB.out.2.2.2.setCell (p:=⟨w.heap.size+1,0,none⟩) (by show w.heap.size<=w.heap.size+1;omega) (.int .i64 y0)).setCell (p:=⟨w.heap.size+1,1,none⟩) (by show w.heap.size<=w.heap.size+1;omega) (.int .i64 y1)).setCell (p:=⟨w.heap.size+1,2,none⟩) (by show w.heap.size<=w.heap.size+1;omega) (.int .i64 y2)).setCell (p:=⟨w.heap.size+1,3,none⟩) (by show w.heap.size<=w.heap.size+1;omega) (.int .i64 y3)).setCell (p:=⟨w.heap.size+1,4,none⟩) (by show w.heap.size<=w.heap.size+1;omega) (.int .i64 y4)).setCell (p:=⟨w.heap.size+1,5,none⟩) (by show w.heap.size<=w.heap.size+1;omega) (.int .i64 y5)).setCell (p:=⟨w.heap.size+1,6,none⟩) (by show w.heap.size<=w.heap.size+1;omega) (.int .i64 y6)).setCell (p:=⟨w.heap.size+1,7,none⟩) (by show w.heap.size<=w.heap.size+1;omega) (.int .i64 y7))
   clear c1 c3 f3 HB;generalize World.setCell _ ⟨w.heap.size+1,7,none⟩ _=WF at*;simp only [List.setIfInBounds_toArray,List.set_cons_succ,List.set_cons_zero] at bF;have cF:=bF.cell
   exact bodyPost_ret (v:= .tuple #[.agg #[.int .i64 y0,.int .i64 y1,.int .i64 y2,.int .i64 y3,.int .i64 y4,.int .i64 y5,.int .i64 y6,.int .i64 y7],.int .i64 0]) (by simp [results,Tryz.results14,go_sem,cF]) rfl ⟨by rw [HE.out],hF⟩
end Wid
end
end Go.Proofs.YtiiekaehbahenaaGreatDoor
