/-
  Contracts of the code that the law reaches, and plain laws. Conditions: as each says.
-/
import Derived.Test.YtiiekaehbahenaaGreatDoorV18
set_option linter.all false
set_option maxHeartbeats 40000000
set_option maxRecDepth 100000
namespace Go.Proofs.YtiiekaehbahenaaGreatDoor
open Lib (hid)
open Tryz
section
section
namespace Wid
open Go.RowKit Mem Atl
def limN:Nat:=9007199254740992000000000
def rightB (D:Nat->Nat):Bool:=(decide (D 0<=4294967295) && decide (D 1<=4294967295) && decide (D 2<=4294967295)) && decide (totN D<limN)
theorem rightB_no {D:Nat->Nat} {k:Nat} (hk:k<3) (h:¬ D k<=4294967295):rightB D=false:=by
 have:k=0\/k=1\/k=2:=by omega
 rcases this with rfl|rfl|rfl<;>simp [rightB,h]
theorem rightB_end {D:Nat->Nat} (h:∀ j,j<3->D j<=4294967295):rightB D=decide (totN D<limN):=by
 simp [rightB,h 0 (by decide),h 1 (by decide),h 2 (by decide)]
theorem cmp_lt (a b:Nat):decide ((if a=b then (0:Int) else if a<b then -1 else 1)<0)=decide (a<b):=by
 by_cases h:a=b
 ·subst h;simp
 ·rw [if_neg h]
  by_cases h2:a<b<;>simp [h2]
theorem right_any (a b c d e f g h:Nat) (hD:∀ k,oct a b c d e f g h k<9223372036854775808) (w:World):
  Calls prog 31 #[.agg (durV a b c d e f g h)] w fun r w'=>r= .returned (.bool (rightB (oct a b c d e f g h)))/\Below w.heap.size w w':=by
 obtain ⟨bX,hbX,hzX⟩:=box1 w 32 (durV a b c d e f g h);have cX:=bX.cell;have HX:=hid (And.intro bX hbX);clear bX hbX;have HSg:=hid (fun z=>dsign_any a b c d e f g h hD z);have hTt:=fun z=>total_any a b c d e f g h hD z;have HDc:=hid (fun (z:World) (k:Nat) (hz:Blk z w.heap.size 32 (durV a b c d e f g h)) (hk:k<8)=>oct_cell hz hk);obtain ⟨D,hDD⟩:∃ D,oct a b c d e f g h=D:=⟨_,rfl⟩;rw [hDD] at HDc hD HSg hTt ⊢;have HD:=hid hD;clear hDD hD
 obtain ⟨S,hS⟩:∃ S:Int,(if allZ D 8=true then (0:Int) else 1)=S:=⟨_,rfl⟩
 rw [hS] at HSg
 have hs0:decide (S<0)=false:=by rw [<-hS];split<;>rfl
 have HS:=hid hS;clear hS;obtain ⟨R,hR⟩:∃ R,rightB D=R:=⟨_,rfl⟩;rw [hR];have HR:=hid hR;clear hR;have hLi:=fun z=>limit_any z;have hCm:=fun z=>cmp_nn (totN D) 9007199254740992000000000 z
 obtain ⟨C,hC⟩:∃ C:Int,(if totN D=9007199254740992000000000 then (0:Int) else if totN D<9007199254740992000000000 then -1 else 1)=C:=⟨_,rfl⟩
 have hC0:decide (C<0)=decide (totN D<limN):=by rw [<-hC];exact cmp_lt _ _
 rw [hC] at hCm;obtain ⟨hi,hhi⟩:∃ y,totN D / 18446744073709551616=y:=⟨_,rfl⟩;obtain ⟨lo,hlo⟩:∃ y,totN D % 18446744073709551616=y:=⟨_,rfl⟩;obtain ⟨lh,hlh⟩:∃ y,9007199254740992000000000 / 18446744073709551616=y:=⟨_,rfl⟩;obtain ⟨ll,hll⟩:∃ y,9007199254740992000000000 % 18446744073709551616=y:=⟨_,rfl⟩;simp only [wN,hiN,loN,hhi,hlo,hlh,hll] at hCm hLi hTt;have HTt:=hid hTt;have HLi:=hid hLi;have HCm:=hid hCm;clear hC hhi hlo hlh hll hTt hLi hCm;go_enter func31,ntmps31
 go_wp2_with fail
 generalize w.alloc (.cells (durV a b c d e f g h) 32)=W at*
 go_wp2_with (go_at_call 61;refine (HSg.out _).mono ?_;rintro r w1 ⟨rfl,hb⟩;have HW:=hid (And.intro (HX.out.1.below hb HX.out.1.lt) (HX.out.2.trans (hb.mono HX.out.2.size)));have hw1:=HW.out.2.size;have hw2:=HW.out.1.lt;clear hb cX HX)
 go_at_call 45
 refine (fields_any w.heap.size w1).mono ?_
 rintro r w2 ⟨rfl,bF,hb⟩;have HW2:=hid (And.intro (HW.out.1.below hb HW.out.1.lt) (And.intro bF (HW.out.2.trans (hb.mono HW.out.2.size))));have hw3:=hb.size;clear bF hb HW;obtain ⟨F,hF⟩:∃ F,w1.heap.size=F:=⟨_,rfl⟩;rw [hF] at HW2 hw1 hw2 hw3;rw [hF];clear hF
 go_wp2_with fail
 go_loopw [4,5,6,12] (fun _ _ _ i wr=>∃ k:Nat,k<=9/\i= .int .i64 k/\(∀ j,j+1<k->j<3->D j<=4294967295)/\Below w2.heap.size w2 wr) (fun _ _ _ i _=>9 - (intOf i).toNat)
 case atStart=>exact ⟨0,by omega,rfl,fun j h=>by omega,Below.refl _ _⟩
 case round=>
  obtain ⟨k,hk,rfl,hok,hb⟩:=hrel;have HOk:=hid hok;have HB:=hid hb;have hsz:=hb.size;clear hok hb;have bX:=HW2.out.1.below HB.out HW2.out.1.lt;have bF:=HW2.out.2.1.below HB.out HW2.out.2.1.lt
  by_cases hk9:k<9
  ·have ad:Addr.add ⟨F,0,none⟩ k=⟨F,k,none⟩:=by unfold Addr.add;split<;>simp_all
   by_cases hk0:k=0
   ·subst hk0
    have p1:=bF.cell 0;go_wp2
    refine ⟨⟨1,by omega,by go_num,fun j h=>by omega,HB.out⟩,by simp [intOf]⟩
   ·obtain ⟨m,rfl⟩:∃ m,k=m+1:=⟨k - 1,by omega⟩
    have p1:=ptr_cell bF (k:=m) (by omega)
    rw [Nat.add_comm 1 m] at p1
    have p2:=HDc.out wr m bX (by omega)
    have hx2:=HD.out m;obtain ⟨x,hx⟩:∃ x,D m=x:=⟨_,rfl⟩;rw [hx] at p2 hx2;have Hx:=hid hx;clear hx
    have q0:((m:Int)+1 == 0)=false:=by rw [beq_eq_false_iff_ne];omega
    have q1:((((m+1:Nat)):Int) == 0)=false:=by rw [beq_eq_false_iff_ne];omega
    have hkey:x=0\/(x≠0/\S=1):=by
     by_cases hx0:x=0
     ·exact .inl hx0
     ·refine .inr ⟨hx0,?_⟩
      rw [<-HS.out,allZ_no (by rw [Hx.out];exact hx0) (by omega:m<8)];rfl
    obtain ⟨s,hs⟩:∃ s:Int,(if x=0 then (0:Int) else 1)=s:=⟨_,rfl⟩
    have HSn:=hid (fun z=>sign_nn x z);rw [hs] at HSn
    have hpick:(s != 0)=false\/(s != 0)=true/\(s != S)=false:=by
     rcases hkey with h|⟨h,h'⟩
     ·left;rw [<-hs,if_pos h];rfl
     ·right;rw [<-hs,if_neg h,h'];exact ⟨rfl,rfl⟩
    clear hs hkey
    by_cases hm3:m<3
    ·have q2:decide ((m:Int)+1<4)=true:=decide_eq_true (by omega)
     have q3:decide ((((m+1:Nat)):Int)<4)=true:=decide_eq_true (by omega)
     by_cases hxL:x<=4294967295
     ·have q4:decide (4294967295<(x:Int))=false:=decide_eq_false (by omega)
      have q5:decide ((x:Int)< -4294967295)=false:=decide_eq_false (by omega)
      rcases hpick with hp|⟨hp,hp2⟩
      all_goals
       go_wp2_with (first
        |(go_at_call 60;refine (of_nn _ hx2 _).mono ?_;rintro r wa ⟨rfl,hb⟩;have HBa:=hid (HB.out.trans (hb.mono hsz));have hsa:=HBa.out.size;clear hb)
        |(go_at_call 62;refine (HSn.out _).mono ?_;rintro r wb ⟨rfl,hb⟩;have HBb:=hid (HBa.out.trans (hb.mono hsa));have p2b:=HDc.out wb m (HW2.out.1.below HBb.out HW2.out.1.lt) (by omega);rw [Hx.out] at p2b;clear hb))
       refine ⟨⟨m+2,by omega,by go_num,fun j h1 h2=>?_,HBb.out⟩,by simp [intOf];omega⟩
       by_cases hj:j=m
       ·subst hj;rw [Hx.out];omega
       ·exact HOk.out j (by omega) h2
     ·have q4:decide (4294967295<(x:Int))=true:=decide_eq_true (by omega)
      have hR:=HR.out
      rw [rightB_no hm3 (by rw [Hx.out];exact hxL)] at hR
      subst hR
      rcases hpick with hp|⟨hp,hp2⟩
      all_goals
       go_wp2_with (first
        |(go_at_call 60;refine (of_nn _ hx2 _).mono ?_;rintro r wa ⟨rfl,hb⟩;have HBa:=hid (HB.out.trans (hb.mono hsz));have hsa:=HBa.out.size;clear hb)
        |(go_at_call 62;refine (HSn.out _).mono ?_;rintro r wb ⟨rfl,hb⟩;have HBb:=hid (HBa.out.trans (hb.mono hsa));have p2b:=HDc.out wb m (HW2.out.1.below HBb.out HW2.out.1.lt) (by omega);rw [Hx.out] at p2b;clear hb))
       go_ret;exact ⟨rfl,HW2.out.2.2.trans (HBb.out.mono HW2.out.2.2.size)⟩
    ·have q2:decide ((m:Int)+1<4)=false:=decide_eq_false (by omega)
     have q3:decide ((((m+1:Nat)):Int)<4)=false:=decide_eq_false (by omega)
     rcases hpick with hp|⟨hp,hp2⟩
     all_goals
      go_wp2_with (first
       |(go_at_call 60;refine (of_nn _ hx2 _).mono ?_;rintro r wa ⟨rfl,hb⟩;have HBa:=hid (HB.out.trans (hb.mono hsz));have hsa:=HBa.out.size;clear hb)
       |(go_at_call 62;refine (HSn.out _).mono ?_;rintro r wb ⟨rfl,hb⟩;have HBb:=hid (HBa.out.trans (hb.mono hsa));have p2b:=HDc.out wb m (HW2.out.1.below HBb.out HW2.out.1.lt) (by omega);rw [Hx.out] at p2b;clear hb))
      refine ⟨⟨m+2,by omega,by go_num,fun j h1 h2=>?_,HBb.out⟩,by simp [intOf];omega⟩
      exact HOk.out j (by omega) h2
  ·obtain rfl:k=9:=by omega
   have hR:=HR.out
   rw [rightB_end (fun j h=>HOk.out j (by omega) h)] at hR
   subst hR;have cX:=bX.cell
   go_wp2_with (go_at_call 63;refine (HTt.out _).mono ?_;rintro r wa ⟨rfl,hb⟩;have HBa:=hid ((HW2.out.2.2.trans (HB.out.mono HW2.out.2.2.size)).trans (hb.mono (Nat.le_trans HW2.out.2.2.size hsz)));clear hb cX)
   have bT:=Blk.new wa 112 #[.int .i64 hi,.int .u64 lo];have HBt:=hid (HBa.out.alloc HBa.out.size (.cells #[.int .i64 hi,.int .u64 lo] 112));obtain ⟨T,hT⟩:∃ T,wa.heap.size=T:=⟨_,rfl⟩;rw [hT] at bT;rw [hT];clear hT;generalize wa.alloc (.cells #[.int .i64 hi,.int .u64 lo] 112)=WT at*;obtain ⟨Cls,hCls⟩:∃ C:World->Prop,C=fun z=>Below WT.heap.size WT z:=⟨_,rfl⟩
   have hC:∀ z,Cls z->Below WT.heap.size WT z:=fun z h=>by rw [hCls] at h;exact h
   have hstart:Cls WT.drew:=by rw [hCls];exact (Below.refl _ _).drew
   have inst:Nonempty (Qt.In Cls):=⟨⟨_,hstart⟩⟩;have gE:=fun (z:Qt.In Cls) (i:Nat)=>(bT.below (hC z.w z.h) bT.lt).cell i
   have hL:∀ z,Cls z->Calls prog 66 #[] z fun e w'=>e= .returned (.agg #[.int .i64 lh,.int .u64 ll])/\Cls w':=fun z hz=>by
    refine (HLi.out z).mono ?_
    rintro e w' ⟨rfl,hb⟩
    exact ⟨rfl,by rw [hCls];exact (hC z hz).trans (hb.mono (hC z hz).size)⟩
   have hM:∀ z,Cls z->Calls prog 65 #[.agg #[.int .i64 hi,.int .u64 lo],.agg #[.int .i64 lh,.int .u64 ll]] z fun e w'=>e= .returned (.int .i64 C)/\Cls w':=fun z hz=>by
    refine (HCm.out z).mono ?_
    rintro e w' ⟨rfl,hb⟩
    exact ⟨rfl,by rw [hCls];exact (hC z hz).trans (hb.mono (hC z hz).size)⟩
   have HC:=hid hC;have HSt:=hid hstart;have HLm:=hid hL;have HMl:=hid hM;clear hC hstart hCls hL hM
   go_wp2_with fail
   refine Qt.wp_region_cls Cls (by kernel_rfl) (by kernel_rfl) HSt.out ?_
   repeat (go_big_quiet_step (first
    |(go_at_call 66;exact Qt.quiet_cls (HLm.out _ (Qt.In.h _)))
    |(go_at_call 65;exact Qt.quiet_cls (HMl.out _ (Qt.In.h _)))))
   refine wpQuiet_nil ?_
   rintro wq ⟨⟨w9,hq⟩,e9⟩;obtain rfl:wq=w9:=e9;have hbq:=HC.out wq hq;have HF:=hid (HBt.out.trans (hbq.mono HBt.out.size));go_wp2;go_ret
   exact ⟨by rw [<-hC0];rfl,HF.out⟩
end Wid
end
end
section
section
namespace Wid
open Go.RowKit Mem Atl
theorem csub_any (x:Nat) (hx:x<9223372036854775808) (w:World):
  Calls prog 89 #[.int .i64 0,.int .i64 x] w fun r w'=>r= .returned (.tuple #[.int .i64 (-(x:Int)),.int .i64 0])/\w=w':=by
 have hw:IntKind.i64.wrap (0 - (x:Int))= -(x:Int):=by rw [IntKind.wrap_i64];omega
 by_cases h0:x=0
 ·subst h0
  go_enter func89,ntmps89;go_wp2
  go_ret2
  exact ⟨rfl,rfl⟩
 ·have q1:((x:Int) == 0)=false:=by rw [beq_eq_false_iff_ne];omega
  have q2:decide (-(x:Int)<0)=true:=decide_eq_true (by omega)
  have q3:decide ((0:Int)<x)=true:=decide_eq_true (by omega)
  go_enter func89,ntmps89;go_wp2
  go_ret2
  exact ⟨rfl,rfl⟩
theorem cneg_any (x:Nat) (hx:x<9223372036854775808) (w:World):
  Calls prog 46 #[.int .i64 x] w fun r w'=>r= .returned (.tuple #[.int .i64 (-(x:Int)),.int .i64 0])/\w=w':=by
 have HS:=hid (fun z=>csub_any x hx z);go_enter func46,ntmps46
 go_wp2_with (go_at_call 89;refine (HS.out _).mono ?_;rintro r w1 ⟨rfl,rfl⟩)
 go_ret2
 exact ⟨rfl,rfl⟩
abbrev durF (f:Nat->Int):Array Value:=#[.int .i64 (f 0),.int .i64 (f 1),.int .i64 (f 2),.int .i64 (f 3),.int .i64 (f 4),.int .i64 (f 5),.int .i64 (f 6),.int .i64 (f 7)]
theorem oct8 {k:Nat} (hk:k<8):k=0\/k=1\/k=2\/k=3\/k=4\/k=5\/k=6\/k=7:=by omega
theorem durF_cell {w:World} {X:Nat} {T:TypeId} {f:Nat->Int} (h:Blk w X T (durF f)) {k:Nat} (hk:k<8):w.cell? ⟨X,k,none⟩=some (.int .i64 (f k)):=by
 rw [h.cell k]
 rcases oct8 hk with rfl|rfl|rfl|rfl|rfl|rfl|rfl|rfl<;>rfl
theorem durF_set {w:World} {X:Nat} {T:TypeId} {f:Nat->Int} (h:Blk w X T (durF f)) {k:Nat} (hk:k<8) (v:Int):
  Blk (w.setCell ⟨X,k,none⟩ (.int .i64 v)) X T (durF fun j=>if j=k then v else f j):=by
 have:=h.set_ k (.int .i64 v)
 rcases oct8 hk with rfl|rfl|rfl|rfl|rfl|rfl|rfl|rfl<;>exact this
def negF (D:Nat->Nat) (k:Nat):Nat->Int:=fun j=>if j<k then -(D j:Int) else (D j:Int)
theorem negF_succ (D:Nat->Nat) (k:Nat):(fun j=>if j=k then -(D k:Int) else negF D k j)=negF D (k+1):=by
 funext j
 unfold negF
 by_cases h:j=k
 ·subst h;simp
 ·rw [if_neg h]
  by_cases h2:j<k
  ·rw [if_pos h2,if_pos (by omega)]
  ·rw [if_neg h2,if_neg (by omega)]
theorem blk_eq {w:World} {X:Nat} {T:TypeId} {c d:Array Value} (h:Blk w X T c) (e:c=d):Blk w X T d:=e ▸ h
theorem dneg_any (a b c d e f g h:Nat) (hD:∀ k,oct a b c d e f g h k<9223372036854775808) (hrt:rightB (oct a b c d e f g h)=true) (w:World):
  Calls prog 14 #[.agg (durV a b c d e f g h)] w fun r w'=>r= .returned (.tuple #[.agg (durF (negF (oct a b c d e f g h) 8)),.int .i64 0])/\Below w.heap.size w w':=by
 obtain ⟨bX,bR,hbX,hzX⟩:=box2 w 32 32 (durV a b c d e f g h) #[.int .i64 0,.int .i64 0,.int .i64 0,.int .i64 0,.int .i64 0,.int .i64 0,.int .i64 0,.int .i64 0];have cX:=bX.cell;have HX:=hid (And.intro bX (And.intro bR hbX));clear bX bR hbX;have hRt:=fun z=>right_any a b c d e f g h hD z;rw [hrt] at hRt;have HRt:=hid hRt;have hD0:durV a b c d e f g h=durF (negF (oct a b c d e f g h) 0):=rfl;obtain ⟨D,hDD⟩:∃ D,oct a b c d e f g h=D:=⟨_,rfl⟩;rw [hDD] at hD hD0 ⊢;have HD:=hid (And.intro hD hD0);clear hDD hD hRt hrt hD0;go_enter func14,ntmps14
 go_wp2_with fail
 generalize (w.alloc (.cells (durV a b c d e f g h) 32)).alloc (.cells #[.int .i64 0,.int .i64 0,.int .i64 0,.int .i64 0,.int .i64 0,.int .i64 0,.int .i64 0,.int .i64 0] 32)=W at*
 go_wp2_with (go_at_call 31;refine (HRt.out _).mono ?_;rintro r w1 ⟨rfl,hb⟩;have HW:=hid (And.intro (HX.out.1.below hb HX.out.1.lt) (And.intro (HX.out.2.1.below hb HX.out.2.1.lt) (HX.out.2.2.trans (hb.mono HX.out.2.2.size))));have hw1:=HW.out.2.2.size;have hw2:=HW.out.2.1.lt;clear hb cX HX)
 go_at_call 45
 refine (fields_any w.heap.size w1).mono ?_
 rintro r w2 ⟨rfl,bF,hb⟩;have HW2:=hid (And.intro (HW.out.1.below hb HW.out.1.lt) (And.intro bF (And.intro (HW.out.2.1.below hb HW.out.2.1.lt) (HW.out.2.2.trans (hb.mono HW.out.2.2.size)))));have hw3:=bF.lt;clear bF hb HW;obtain ⟨F,hF⟩:∃ F,w1.heap.size=F:=⟨_,rfl⟩;rw [hF] at HW2 hw1 hw2 hw3;rw [hF];clear hF
 go_wp2_with fail
 go_loopw [5,6,7,15] (fun _ _ _ i wr=>∃ k:Nat,k<=8/\i= .int .i64 k/\Blk wr w.heap.size 32 (durF (negF D k))/\Blk wr F 62 (ptrC w.heap.size)/\Blk wr (w.heap.size+1) 32 #[.int .i64 0,.int .i64 0,.int .i64 0,.int .i64 0,.int .i64 0,.int .i64 0,.int .i64 0,.int .i64 0]/\Below w.heap.size w wr) (fun _ _ _ i _=>8 - (intOf i).toNat)
 case atStart=>exact ⟨0,by omega,rfl,blk_eq HW2.out.1 HD.out.2,HW2.out.2.1,HW2.out.2.2.1,HW2.out.2.2.2⟩
 case round=>
  obtain ⟨k,hk,rfl,b1,b2,b3,b4⟩:=hrel;have HB:=hid (And.intro b1 (And.intro b2 (And.intro b3 b4)))
  by_cases hk8:k<8
  ·have ad:Addr.add ⟨F,1,none⟩ k=⟨F,1+k,none⟩:=by unfold Addr.add;split<;>simp_all
   have p1:=ptr_cell b2 hk8;have p2:=durF_cell b1 hk8;have p3:=b1.frozen k;have hx2:=HD.out.1 k;rw [show negF D k k=(D k:Int) from if_neg (Nat.lt_irrefl _)] at p2;have HN:=hid (fun z=>cneg_any (D k) hx2 z);obtain ⟨x,hx⟩:∃ x,D k=x:=⟨_,rfl⟩;rw [hx] at p2 hx2 HN;have Hx:=hid hx;clear hx b1 b2 b3 b4
   go_wp2_with (go_at_call 46;refine (HN.out _).mono ?_;rintro r w3 ⟨rfl,rfl⟩)
   refine ⟨⟨k+1,by omega,by go_num,?_,HB.out.2.1.far (by show F≠w.heap.size;omega) _,HB.out.2.2.1.far (by show w.heap.size+1≠w.heap.size;omega) _,HB.out.2.2.2.setCell (Nat.le_refl _) _⟩,by simp [intOf];omega⟩
   have:=durF_set HB.out.1 hk8 (-(x:Int));rw [<-Hx.out,negF_succ,Hx.out] at this;exact this
  ·obtain rfl:k=8:=by omega
   obtain ⟨y0,e0⟩:∃ y,negF D 8 0=y:=⟨_,rfl⟩;obtain ⟨y1,e1⟩:∃ y,negF D 8 1=y:=⟨_,rfl⟩;obtain ⟨y2,e2⟩:∃ y,negF D 8 2=y:=⟨_,rfl⟩;obtain ⟨y3,e3⟩:∃ y,negF D 8 3=y:=⟨_,rfl⟩;obtain ⟨y4,e4⟩:∃ y,negF D 8 4=y:=⟨_,rfl⟩;obtain ⟨y5,e5⟩:∃ y,negF D 8 5=y:=⟨_,rfl⟩;obtain ⟨y6,e6⟩:∃ y,negF D 8 6=y:=⟨_,rfl⟩;obtain ⟨y7,e7⟩:∃ y,negF D 8 7=y:=⟨_,rfl⟩;simp only [durF,e0,e1,e2,e3,e4,e5,e6,e7] at b1;have c1:=b1.cell;have c3:=b3.cell;have f3:=b3.frozen
   have HE:=hid (show (.agg #[.int .i64 y0,.int .i64 y1,.int .i64 y2,.int .i64 y3,.int .i64 y4,.int .i64 y5,.int .i64 y6,.int .i64 y7]:Value)= .agg (durF (negF D 8)) from by simp only [durF,e0,e1,e2,e3,e4,e5,e6,e7])
   clear b1 b2 b3 b4 e0 e1 e2 e3 e4 e5 e6 e7;go_wp2;have bF:=((((((((HB.out.2.2.1.set_ 0 (.int .i64 y0)).set_ 1 (.int .i64 y1)).set_ 2 (.int .i64 y2)).set_ 3 (.int .i64 y3)).set_ 4 (.int .i64 y4)).set_ 5 (.int .i64 y5)).set_ 6 (.int .i64 y6)).set_ 7 (.int .i64 y7))
   have hF:=((((((((HB.out.2.2.2.setCell (p:=⟨w.heap.size+1,0,none⟩) (by show w.heap.size<=w.heap.size+1;omega) (.int .i64 y0)).setCell (p:=⟨w.heap.size+1,1,none⟩) (by show w.heap.size<=w.heap.size+1;omega) (.int .i64 y1)).setCell (p:=⟨w.heap.size+1,2,none⟩) (by show w.heap.size<=w.heap.size+1;omega) (.int .i64 y2)).setCell (p:=⟨w.heap.size+1,3,none⟩) (by show w.heap.size<=w.heap.size+1;omega) (.int .i64 y3)).setCell (p:=⟨w.heap.size+1,4,none⟩) (by show w.heap.size<=w.heap.size+1;omega) (.int .i64 y4)).setCell (p:=⟨w.heap.size+1,5,none⟩) (by show w.heap.size<=w.heap.size+1;omega) (.int .i64 y5)).setCell (p:=⟨w.heap.size+1,6,none⟩) (by show w.heap.size<=w.heap.size+1;omega) (.int .i64 y6)).setCell (p:=⟨w.heap.size+1,7,none⟩) (by show w.heap.size<=w.heap.size+1;omega) (.int .i64 y7))
   clear c1 c3 f3 HB;generalize World.setCell _ ⟨w.heap.size+1,7,none⟩ _=WF at*;simp only [List.setIfInBounds_toArray,List.set_cons_succ,List.set_cons_zero] at bF;have cF:=bF.cell
   exact bodyPost_ret (v:= .tuple #[.agg #[.int .i64 y0,.int .i64 y1,.int .i64 y2,.int .i64 y3,.int .i64 y4,.int .i64 y5,.int .i64 y6,.int .i64 y7],.int .i64 0]) (by simp [results,Tryz.results14,go_sem,cF]) rfl ⟨by rw [HE.out],hF⟩
end Wid
end
end
end Go.Proofs.YtiiekaehbahenaaGreatDoor
