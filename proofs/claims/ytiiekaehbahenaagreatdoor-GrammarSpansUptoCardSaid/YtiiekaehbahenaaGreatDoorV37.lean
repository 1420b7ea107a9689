/-
  Contracts of the code that the law reaches, and plain laws. Conditions: as each says.
-/
import Derived.Test.YtiiekaehbahenaaGreatDoorV36
set_option linter.all false
set_option maxHeartbeats 40000000
set_option maxRecDepth 100000
namespace Go.Proofs.YtiiekaehbahenaaGreatDoor
open Lib (hid)
open Tryz
section
namespace Gr
open Go.RowKit Mem Atl Wid RefZ Dig
theorem zd_abs {w:World} {neg:Bool} {A:Option Addr} {n c:Nat} {ds:List Int} {z:Int} {L:Nat} (h:ZD w neg A n c ds z L) (h0:0<=z):dval ds=z:=by
 have h1:=dval_nonneg h.canon.1;have h2:=h.val
 cases neg<;>simp [sg] at h2<;>omega
theorem cmp_lim (x:Nat):decide (cmpI (x:Int) (two 53*1000000000)<0)=decide (x<limN):=by
 rw [show two 53*1000000000=(limN:Int) from by decide]
 unfold cmpI
 by_cases h:x<limN
 ·rw [if_pos (by omega),decide_eq_true h];rfl
 ·rw [if_neg (by omega),decide_eq_false h];split<;>rfl
theorem right18 (a b c d e f g h:Nat) (hD:∀ k,oct a b c d e f g h k<9223372036854775808) (w:World):Calls prog 79 #[.agg (durV a b c d e f g h)] w fun r w'=>r= .returned (.bool (rightB (oct a b c d e f g h)))/\Below w.heap.size w w':=by
 obtain ⟨R,hR⟩:∃ R,rightB (oct a b c d e f g h)=R:=⟨_,rfl⟩;rw [hR];have HR:=hid hR;clear hR;have hbx:=box1 w 32 (durV a b c d e f g h);have HB:=hid hbx;have c0:=hbx.1.cell;clear hbx;go_enter func79,ntmps79
 go_wp2_with fail
 generalize World.alloc _ _=W at*
 go_at_call 109
 refine (fields18 a b c d e f g h W).mono ?_
 rintro r w1 ⟨rfl,bF,hb1⟩;have H1:=hid (And.intro (HB.out.1.below hb1 HB.out.1.lt) (And.intro bF (HB.out.2.1.trans (hb1.mono HB.out.2.1.size))));clear bF hb1 HB c0;obtain ⟨F,hF⟩:∃ F,W.heap.size+1=F:=⟨_,rfl⟩;rw [hF] at H1 ⊢;clear hF
 go_wp2_with fail
 go_loopw [4,5,6] (fun up dn i wr=>∃ (k:Nat) (u:Bool),k<=8/\up= .bool u/\dn= .bool false/\i= .int .i64 k/\(∀ j,j<k->j<3->oct a b c d e f g h j<=4294967295)/\Below w1.heap.size w1 wr) (fun _ _ i _=>8 - (intOf i).toNat)
 case atStart=>exact ⟨0,false,by omega,rfl,rfl,rfl,fun j h=>by omega,Below.refl _ _⟩
 case round=>
  obtain ⟨k,u,hk,rfl,rfl,rfl,hok,hb⟩:=hrel;have HB:=hid hb;have hbel:=H1.out.2.2.trans (hb.mono H1.out.2.2.size)
  by_cases hk8:k<8
  ·have q1:decide ((k:Int)<8)=true:=decide_eq_true (by omega)
   have hx:=oct_cellT (H1.out.2.1.below hb H1.out.2.1.lt) hk8;have ad:=addr_at F k;obtain ⟨X,hX⟩:∃ X:Int,((oct a b c d e f g h k:Nat):Int)=X:=⟨_,rfl⟩;rw [hX] at hx
   have q2:decide (X<0)=false:=decide_eq_false (by omega)
   have q3:decide (X< -4294967295)=false:=decide_eq_false (by omega)
   obtain ⟨s,q4⟩:∃ s,decide (0<X)=s:=⟨_,rfl⟩
   by_cases hk3:k<3
   ·have q5:decide ((k:Int)<3)=true:=decide_eq_true (by omega)
    by_cases hxL:X<=4294967295
    ·have q6:decide (4294967295<X)=false:=decide_eq_false (by omega)
     clear hb
     cases u<;>cases s
     all_goals go_wp2
     all_goals
      refine ⟨⟨k+1,_,by omega,rfl,rfl,by go_num,fun j h1 h2=>?_,HB.out⟩,by simp [intOf];omega⟩
      by_cases hj:j=k
      ·subst hj;omega
      ·exact hok j (by omega) h2
    ·have q6:decide (4294967295<X)=true:=decide_eq_true (by omega)
     have hRr:=HR.out
     rw [rightB_no hk3 (by omega)] at hRr
     subst hRr;clear hb
     cases u<;>cases s
     all_goals go_wp2
     all_goals exact bodyPost_ret (v:= .bool false) (by simp [results,Tryz.results79,go_sem]) rfl ⟨rfl,hbel⟩
   ·have q5:decide ((k:Int)<3)=false:=decide_eq_false (by omega)
    clear hb
    cases u<;>cases s
    all_goals go_wp2
    all_goals exact ⟨⟨k+1,_,by omega,rfl,rfl,by go_num,fun j h1 h2=>hok j (by omega) h2,HB.out⟩,by simp [intOf];omega⟩
  ·have hk':k=8:=by omega
   subst hk'
   have q1:decide (((8:Nat):Int)<8)=false:=by decide
   have p1:=(H1.out.1.below hb H1.out.1.lt);have c0:=p1.cell;have hbs:=hb.size;obtain ⟨M,hM⟩:∃ M:Int,two 53*1000000000=M:=⟨_,rfl⟩;obtain ⟨T,hT⟩:∃ T:Int,((totN (oct a b c d e f g h):Nat):Int)=T:=⟨_,rfl⟩;obtain ⟨C,hC⟩:∃ C:Int,cmpI T M=C:=⟨_,rfl⟩
   have q7:decide (C<0)=R:=by
    rw [<-HR.out,rightB_end (fun j h=>hok j (by omega) h),<-hC,<-hT,<-hM]
    exact cmp_lim _
   have HTt:=hid (total18 a b c d e f g h hD wr);have HLi:=hid (fun z=>limit18 z)
   have hT0:0<=T:=by omega
   rw [hT] at HTt;rw [hM] at HLi;have HCe:=hid hC;clear hb p1 hM hT hC hok
   cases u
   all_goals go_wp2_with (first
    |(go_at_call 110;refine HTt.out.mono ?_;rintro e w2 ⟨v2,rfl,⟨n2,A2,k2,c2,d2,rfl,hz2⟩,hb2⟩;have Hz2:=hid hz2;have kb2:=hbel.trans (hb2.mono hbel.size);have hv2:=zd_abs hz2 hT0;clear hb2 hz2)
    |(go_at_call 106;refine (abs_any _ _ _ _ _ _ _ _ Hz2.out).mono ?_;rw [hv2];rintro e w3 ⟨v3,rfl,⟨n3,A3,k3,c3,d3,rfl,hz3⟩,hb3⟩;have Hz3:=hid hz3;have kb3:=kb2.trans (hb3.mono kb2.size);clear hb3 hz3)
    |(go_at_call 111;refine (HLi.out _).mono ?_;rintro e w4 ⟨v4,rfl,⟨n4,A4,k4,c4,d4,rfl,hz4⟩,hb4⟩;have Hz4:=hid hz4;have Hz3':=hid (Hz3.out.below hb4);have kb4:=kb3.trans (hb4.mono kb3.size);clear hb4 hz4)
    |(go_at_call 107;refine (cmp_any _ _ _ _ _ _ _ _ _ _ _ _ _ _ _ Hz3'.out Hz4.out (by omega) (by omega)).mono ?_;rw [HCe.out];rintro e w5 ⟨rfl,hb5⟩;have kb5:=kb4.trans (hb5.mono kb4.size);clear hb5))
   all_goals exact bodyPost_ret (v:= .bool R) (by simp [results,Tryz.results79,go_sem]) rfl ⟨rfl,kb5⟩
def negO (D:Nat->Nat) (k:Nat):Nat->Int:=fun j=>if j<k then -(D j:Int) else 0
theorem negO_succ (D:Nat->Nat) (k:Nat):(fun j=>if j=k then -(D k:Int) else negO D k j)=negO D (k+1):=by
 funext j
 unfold negO
 by_cases h:j=k
 ·subst h;simp
 ·rw [if_neg h]
  by_cases h2:j<k
  ·rw [if_pos h2,if_pos (by omega)]
  ·rw [if_neg h2,if_neg (by omega)]
theorem neg18 (a b c d e f g h:Nat) (hD:∀ k,oct a b c d e f g h k<9223372036854775808) (w:World):Calls prog 80 #[.agg (durV a b c d e f g h)] w fun r w'=>r= .returned (.tuple #[.agg (durF (negO (oct a b c d e f g h) 8)),.int .i64 0])/\Below w.heap.size w w':=by
 have hbx:=box2 w 32 32 (durV a b c d e f g h) #[.int .i64 0,.int .i64 0,.int .i64 0,.int .i64 0,.int .i64 0,.int .i64 0,.int .i64 0,.int .i64 0];have HB:=hid hbx;have c0:=hbx.1.cell;clear hbx;go_enter func80,ntmps80
 go_wp2_with fail
 generalize World.alloc (World.alloc _ _) _=W at*
 go_at_call 109
 refine (fields18 a b c d e f g h W).mono ?_
 rintro r w1 ⟨rfl,bF,hb1⟩;have H1:=hid (And.intro (HB.out.2.1.below hb1 HB.out.2.1.lt) (And.intro bF (HB.out.2.2.1.trans (hb1.mono HB.out.2.2.1.size))));clear bF hb1 HB c0;obtain ⟨F,hF⟩:∃ F,W.heap.size+1=F:=⟨_,rfl⟩;rw [hF] at H1 ⊢;clear hF
 go_wp2_with fail
 have bO0:Blk (w1.alloc (.cells #[.int .i64 0,.int .i64 0,.int .i64 0,.int .i64 0,.int .i64 0,.int .i64 0,.int .i64 0,.int .i64 0] 130)) w1.heap.size 130 (durF (negO (oct a b c d e f g h) 0)):=Blk.new _ _ _;have H2:=hid (And.intro (H1.out.1.alloc (.cells #[.int .i64 0,.int .i64 0,.int .i64 0,.int .i64 0,.int .i64 0,.int .i64 0,.int .i64 0,.int .i64 0] 130)) (And.intro (H1.out.2.1.alloc (.cells #[.int .i64 0,.int .i64 0,.int .i64 0,.int .i64 0,.int .i64 0,.int .i64 0,.int .i64 0,.int .i64 0] 130)) (And.intro bO0 (H1.out.2.2.alloc H1.out.2.2.size (.cells #[.int .i64 0,.int .i64 0,.int .i64 0,.int .i64 0,.int .i64 0,.int .i64 0,.int .i64 0,.int .i64 0] 130)))));have n1:=H1.out.1.lt;have n2:=H1.out.2.1.lt;clear bO0 H1;generalize w1.alloc _=W2 at*;generalize w1.heap.size=N at*
 go_loopw [6] (fun i wr=>∃ k:Nat,k<=8/\i= .int .i64 k/\Blk wr (w.heap.size+1) 32 #[.int .i64 0,.int .i64 0,.int .i64 0,.int .i64 0,.int .i64 0,.int .i64 0,.int .i64 0,.int .i64 0]/\Blk wr F 2 (durV a b c d e f g h)/\Blk wr N 130 (durF (negO (oct a b c d e f g h) k))/\Below w.heap.size w wr) (fun i _=>8 - (intOf i).toNat)
 case atStart=>exact ⟨0,by omega,rfl,H2.out.1,H2.out.2.1,H2.out.2.2.1,H2.out.2.2.2⟩
 case round=>
  obtain ⟨k,hk,rfl,b1,b2,b3,b4⟩:=hrel;have HB:=hid (And.intro b1 (And.intro b2 (And.intro b3 b4)))
  by_cases hk8:k<8
  ·have q1:decide ((k:Int)<8)=true:=decide_eq_true (by omega)
   have hx:=oct_cellT b2 hk8;have ad:=addr_at F k;have ad2:=addr_at N k;have fr:=b3.frozen k;have oc:=durF_cell b3 hk8;have hb:=hD k;obtain ⟨X,hX⟩:∃ X:Int,((oct a b c d e f g h k:Nat):Int)=X:=⟨_,rfl⟩;rw [hX] at hx
   have q2:(X == -9223372036854775808)=false:=by rw [beq_eq_false_iff_ne];omega
   have q3:IntKind.i64.wrap (-X)= -X:=by rw [IntKind.wrap_i64];omega
   clear b1 b2 b3 b4;go_wp2
   refine ⟨⟨k+1,by omega,by go_num,HB.out.1.far (by show w.heap.size+1≠N;omega) _,HB.out.2.1.far (by show F≠N;omega) _,?_,HB.out.2.2.2.setCell (by show w.heap.size<=N;omega) _⟩,by simp [intOf];omega⟩
   have:=durF_set HB.out.2.2.1 hk8 (-X);rw [<-hX,negO_succ,hX] at this;exact this
  ·obtain rfl:k=8:=by omega
   obtain ⟨y0,e0⟩:∃ y,negO (oct a b c d e f g h) 8 0=y:=⟨_,rfl⟩;obtain ⟨y1,e1⟩:∃ y,negO (oct a b c d e f g h) 8 1=y:=⟨_,rfl⟩;obtain ⟨y2,e2⟩:∃ y,negO (oct a b c d e f g h) 8 2=y:=⟨_,rfl⟩;obtain ⟨y3,e3⟩:∃ y,negO (oct a b c d e f g h) 8 3=y:=⟨_,rfl⟩;obtain ⟨y4,e4⟩:∃ y,negO (oct a b c d e f g h) 8 4=y:=⟨_,rfl⟩;obtain ⟨y5,e5⟩:∃ y,negO (oct a b c d e f g h) 8 5=y:=⟨_,rfl⟩;obtain ⟨y6,e6⟩:∃ y,negO (oct a b c d e f g h) 8 6=y:=⟨_,rfl⟩;obtain ⟨y7,e7⟩:∃ y,negO (oct a b c d e f g h) 8 7=y:=⟨_,rfl⟩;simp only [durF,e0,e1,e2,e3,e4,e5,e6,e7] at b3;have c3:=b3.cell
   have q1:decide (((8:Nat):Int)<8)=false:=by decide
   have HE:=hid (show (.agg #[.int .i64 y0,.int .i64 y1,.int .i64 y2,.int .i64 y3,.int .i64 y4,.int .i64 y5,.int .i64 y6,.int .i64 y7]:Value)= .agg (durF (negO (oct a b c d e f g h) 8)) from by simp only [durF,e0,e1,e2,e3,e4,e5,e6,e7])
   clear b1 b2 b3 b4 e0 e1 e2 e3 e4 e5 e6 e7
   go_wp2_with fail
   go_at_call 78
   refine (made18 y0 y1 y2 y3 y4 y5 y6 y7 wr).mono ?_
   rintro r w3 ⟨rfl,hb3⟩;have bR:=HB.out.1.below hb3 HB.out.1.lt;have fR:=bR.frozen;have cR:=bR.cell;have kb:=HB.out.2.2.2.trans (hb3.mono HB.out.2.2.2.size);have HR:=hid (And.intro bR kb);clear bR kb hb3 c3;go_wp2;have bF:=((((((((HR.out.1.set_ 0 (.int .i64 y0)).set_ 1 (.int .i64 y1)).set_ 2 (.int .i64 y2)).set_ 3 (.int .i64 y3)).set_ 4 (.int .i64 y4)).set_ 5 (.int .i64 y5)).set_ 6 (.int .i64 y6)).set_ 7 (.int .i64 y7))
   have hF:=((((((((HR.out.2.setCell (p:=⟨w.heap.size+1,0,none⟩) (by show w.heap.size<=w.heap.size+1;omega) (.int .i64 y0)).setCell (p:=⟨w.heap.size+1,1,none⟩) (by show w.heap.size<=w.heap.size+1;omega) (.int .i64 y1)).setCell (p:=⟨w.heap.size+1,2,none⟩) (by show w.heap.size<=w.heap.size+1;omega) (.int .i64 y2)).setCell (p:=⟨w.heap.size+1,3,none⟩) (by show w.heap.size<=w.heap.size+1;omega) (.int .i64 y3)).setCell (p:=⟨w.heap.size+1,4,none⟩) (by show w.heap.size<=w.heap.size+1;omega) (.int .i64 y4)).setCell (p:=⟨w.heap.size+1,5,none⟩) (by show w.heap.size<=w.heap.size+1;omega) (.int .i64 y5)).setCell (p:=⟨w.heap.size+1,6,none⟩) (by show w.heap.size<=w.heap.size+1;omega) (.int .i64 y6)).setCell (p:=⟨w.heap.size+1,7,none⟩) (by show w.heap.size<=w.heap.size+1;omega) (.int .i64 y7))
   clear cR fR HB HR;generalize World.setCell _ ⟨w.heap.size+1,7,none⟩ _=WF at*;simp only [List.setIfInBounds_toArray,List.set_cons_succ,List.set_cons_zero] at bF;have cF:=bF.cell
   exact bodyPost_ret (v:= .tuple #[.agg #[.int .i64 y0,.int .i64 y1,.int .i64 y2,.int .i64 y3,.int .i64 y4,.int .i64 y5,.int .i64 y6,.int .i64 y7],.int .i64 0]) (by simp [results,Tryz.results80,go_sem,cF]) rfl ⟨by rw [HE.out],hF⟩
end Gr
end
end Go.Proofs.YtiiekaehbahenaaGreatDoor
