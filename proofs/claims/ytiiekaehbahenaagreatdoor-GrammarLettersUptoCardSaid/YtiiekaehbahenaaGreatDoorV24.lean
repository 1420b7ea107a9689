/-
  Contracts of the code that the law reaches, and plain laws. Conditions: as each says.
-/
import Derived.Test.YtiiekaehbahenaaGreatDoorV23
set_option linter.all false
set_option maxHeartbeats 40000000
set_option maxRecDepth 100000
namespace Go.Proofs.YtiiekaehbahenaaGreatDoor
open Lib (hid)
open Tryz
section
namespace Wid
open Go.RowKit Mem Atl
def limN:Nat:=9007199254740992000000000
def rightB (D:Nat->Nat):Bool:=(decide (D 0<=4294967295) && decide (D 1<=4294967295) && decide (D 2<=4294967295)) && decide (totN D<limN)
theorem rightB_no {D:Nat->Nat} {k:Nat} (hk:k<3) (h:¬ D k<=4294967295):rightB D=false:=by
 have:k=0\/k=1\/k=2:=by omega
 rcases this with rfl|rfl|rfl<;>simp [rightB,h]
theorem rightB_end {D:Nat->Nat} (h:∀ j,j<3->D j<=4294967295):rightB D=decide (totN D<limN):=by
 simp [rightB,h 0 (by decide),h 1 (by decide),h 2 (by decide)]
theorem cmp_lt (a b:Nat):decide ((if a=b then (0:Int) else if a<b then -1 else 1)<0)=decide (a<b):=by
 by_cases h:a=b
 ·subst h;simp
 ·rw [if_neg h]
  by_cases h2:a<b<;>simp [h2]
theorem right_any (a b c d e f g h:Nat) (hD:∀ k,oct a b c d e f g h k<9223372036854775808) (w:World):
  Calls prog 31 #[.agg (durV a b c d e f g h)] w fun r w'=>r= .returned (.bool (rightB (oct a b c d e f g h)))/\Below w.heap.size w w':=by
 obtain ⟨bX,hbX,hzX⟩:=box1 w 32 (durV a b c d e f g h);have cX:=bX.cell;have HX:=hid (And.intro bX hbX);clear bX hbX;have HSg:=hid (fun z=>dsign_any a b c d e f g h hD z);have hTt:=fun z=>total_any a b c d e f g h hD z;have HDc:=hid (fun (z:World) (k:Nat) (hz:Blk z w.heap.size 32 (durV a b c d e f g h)) (hk:k<8)=>oct_cell hz hk);obtain ⟨D,hDD⟩:∃ D,oct a b c d e f g h=D:=⟨_,rfl⟩;rw [hDD] at HDc hD HSg hTt ⊢;have HD:=hid hD;clear hDD hD
 obtain ⟨S,hS⟩:∃ S:Int,(if allZ D 8=true then (0:Int) else 1)=S:=⟨_,rfl⟩
 rw [hS] at HSg
 have hs0:decide (S<0)=false:=by rw [<-hS];split<;>rfl
 have HS:=hid hS;clear hS;obtain ⟨R,hR⟩:∃ R,rightB D=R:=⟨_,rfl⟩;rw [hR];have HR:=hid hR;clear hR;have hLi:=fun z=>limit_any z;have hCm:=fun z=>cmp_nn (totN D) 9007199254740992000000000 z
 obtain ⟨C,hC⟩:∃ C:Int,(if totN D=9007199254740992000000000 then (0:Int) else if totN D<9007199254740992000000000 then -1 else 1)=C:=⟨_,rfl⟩
 have hC0:decide (C<0)=decide (totN D<limN):=by rw [<-hC];exact cmp_lt _ _
 rw [hC] at hCm;obtain ⟨hi,hhi⟩:∃ y,totN D / 18446744073709551616=y:=⟨_,rfl⟩;obtain ⟨lo,hlo⟩:∃ y,totN D % 18446744073709551616=y:=⟨_,rfl⟩;obtain ⟨lh,hlh⟩:∃ y,9007199254740992000000000 / 18446744073709551616=y:=⟨_,rfl⟩;obtain ⟨ll,hll⟩:∃ y,9007199254740992000000000 % 18446744073709551616=y:=⟨_,rfl⟩;simp only [wN,hiN,loN,hhi,hlo,hlh,hll] at hCm hLi hTt;have HTt:=hid hTt;have HLi:=hid hLi;have HCm:=hid hCm;clear hC hhi hlo hlh hll hTt hLi hCm;go_enter func31,ntmps31
 go_wp2_with fail
 generalize w.alloc (.cells (durV a b c d e f g h) 32)=W at*
 go_wp2_with (go_at_call 61;refine (HSg.out _).mono ?_;rintro r w1 ⟨rfl,hb⟩;have HW:=hid (And.intro (HX.out.1.below hb HX.out.1.lt) (HX.out.2.trans (hb.mono HX.out.2.size)));have hw1:=HW.out.2.size;have hw2:=HW.out.1.lt;clear hb cX HX)
 go_at_call 45
 refine (fields_any w.heap.size w1).mono ?_
 rintro r w2 ⟨rfl,bF,hb⟩;have HW2:=hid (And.intro (HW.out.1.below hb HW.out.1.lt) (And.intro bF (HW.out.2.trans (hb.mono HW.out.2.size))));have hw3:=hb.size;clear bF hb HW;obtain ⟨F,hF⟩:∃ F,w1.heap.size=F:=⟨_,rfl⟩;rw [hF] at HW2 hw1 hw2 hw3;rw [hF];clear hF
 go_wp2_with fail
 go_loopw [4,5,6,12] (fun _ _ _ i wr=>∃ k:Nat,k<=9/\i= .int .i64 k/\(∀ j,j+1<k->j<3->D j<=4294967295)/\Below w2.heap.size w2 wr) (fun _ _ _ i _=>9 - (intOf i).toNat)
 case atStart=>exact ⟨0,by omega,rfl,fun j h=>by omega,Below.refl _ _⟩
 case round=>
  obtain ⟨k,hk,rfl,hok,hb⟩:=hrel;have HOk:=hid hok;have HB:=hid hb;have hsz:=hb.size;clear hok hb;have bX:=HW2.out.1.below HB.out HW2.out.1.lt;have bF:=HW2.out.2.1.below HB.out HW2.out.2.1.lt
  by_cases hk9:k<9
  ·have ad:Addr.add ⟨F,0,none⟩ k=⟨F,k,none⟩:=by unfold Addr.add;split<;>simp_all
   by_cases hk0:k=0
   ·subst hk0
    have p1:=bF.cell 0;go_wp2
    refine ⟨⟨1,by omega,by go_num,fun j h=>by omega,HB.out⟩,by simp [intOf]⟩
   ·obtain ⟨m,rfl⟩:∃ m,k=m+1:=⟨k - 1,by omega⟩
    have p1:=ptr_cell bF (k:=m) (by omega)
    rw [Nat.add_comm 1 m] at p1
    have p2:=HDc.out wr m bX (by omega)
    have hx2:=HD.out m;obtain ⟨x,hx⟩:∃ x,D m=x:=⟨_,rfl⟩;rw [hx] at p2 hx2;have Hx:=hid hx;clear hx
    have q0:((m:Int)+1 == 0)=false:=by rw [beq_eq_false_iff_ne];omega
    have q1:((((m+1:Nat)):Int) == 0)=false:=by rw [beq_eq_false_iff_ne];omega
    have hkey:x=0\/(x≠0/\S=1):=by
     by_cases hx0:x=0
     ·exact .inl hx0
     ·refine .inr ⟨hx0,?_⟩
      rw [<-HS.out,allZ_no (by rw [Hx.out];exact hx0) (by omega:m<8)];rfl
    obtain ⟨s,hs⟩:∃ s:Int,(if x=0 then (0:Int) else 1)=s:=⟨_,rfl⟩
    have HSn:=hid (fun z=>sign_nn x z);rw [hs] at HSn
    have hpick:(s != 0)=false\/(s != 0)=true/\(s != S)=false:=by
     rcases hkey with h|⟨h,h'⟩
     ·left;rw [<-hs,if_pos h];rfl
     ·right;rw [<-hs,if_neg h,h'];exact ⟨rfl,rfl⟩
    clear hs hkey
    by_cases hm3:m<3
    ·have q2:decide ((m:Int)+1<4)=true:=decide_eq_true (by omega)
     have q3:decide ((((m+1:Nat)):Int)<4)=true:=decide_eq_true (by omega)
     by_cases hxL:x<=4294967295
     ·have q4:decide (4294967295<(x:Int))=false:=decide_eq_false (by omega)
      have q5:decide ((x:Int)< -4294967295)=false:=decide_eq_false (by omega)
      rcases hpick with hp|⟨hp,hp2⟩
      all_goals
       go_wp2_with (first
        |(go_at_call 60;refine (of_nn _ hx2 _).mono ?_;rintro r wa ⟨rfl,hb⟩;have HBa:=hid (HB.out.trans (hb.mono hsz));have hsa:=HBa.out.size;clear hb)
        |(go_at_call 62;refine (HSn.out _).mono ?_;rintro r wb ⟨rfl,hb⟩;have HBb:=hid (HBa.out.trans (hb.mono hsa));have p2b:=HDc.out wb m (HW2.out.1.below HBb.out HW2.out.1.lt) (by omega);rw [Hx.out] at p2b;clear hb))
       refine ⟨⟨m+2,by omega,by go_num,fun j h1 h2=>?_,HBb.out⟩,by simp [intOf];omega⟩
       by_cases hj:j=m
       ·subst hj;rw [Hx.out];omega
       ·exact HOk.out j (by omega) h2
     ·have q4:decide (4294967295<(x:Int))=true:=decide_eq_true (by omega)
      have hR:=HR.out
      rw [rightB_no hm3 (by rw [Hx.out];exact hxL)] at hR
      subst hR
      rcases hpick with hp|⟨hp,hp2⟩
      all_goals
       go_wp2_with (first
        |(go_at_call 60;refine (of_nn _ hx2 _).mono ?_;rintro r wa ⟨rfl,hb⟩;have HBa:=hid (HB.out.trans (hb.mono hsz));have hsa:=HBa.out.size;clear hb)
        |(go_at_call 62;refine (HSn.out _).mono ?_;rintro r wb ⟨rfl,hb⟩;have HBb:=hid (HBa.out.trans (hb.mono hsa));have p2b:=HDc.out wb m (HW2.out.1.below HBb.out HW2.out.1.lt) (by omega);rw [Hx.out] at p2b;clear hb))
       go_ret;exact ⟨rfl,HW2.out.2.2.trans (HBb.out.mono HW2.out.2.2.size)⟩
    ·have q2:decide ((m:Int)+1<4)=false:=decide_eq_false (by omega)
     have q3:decide ((((m+1:Nat)):Int)<4)=false:=decide_eq_false (by omega)
     rcases hpick with hp|⟨hp,hp2⟩
     all_goals
      go_wp2_with (first
       |(go_at_call 60;refine (of_nn _ hx2 _).mono ?_;rintro r wa ⟨rfl,hb⟩;have HBa:=hid (HB.out.trans (hb.mono hsz));have hsa:=HBa.out.size;clear hb)
       |(go_at_call 62;refine (HSn.out _).mono ?_;rintro r wb ⟨rfl,hb⟩;have HBb:=hid (HBa.out.trans (hb.mono hsa));have p2b:=HDc.out wb m (HW2.out.1.below HBb.out HW2.out.1.lt) (by omega);rw [Hx.out] at p2b;clear hb))
      refine ⟨⟨m+2,by omega,by go_num,fun j h1 h2=>?_,HBb.out⟩,by simp [intOf];omega⟩
      exact HOk.out j (by omega) h2
  ·obtain rfl:k=9:=by omega
   have hR:=HR.out
   rw [rightB_end (fun j h=>HOk.out j (by omega) h)] at hR
   subst hR;have cX:=bX.cell
   go_wp2_with (go_at_call 63;refine (HTt.out _).mono ?_;rintro r wa ⟨rfl,hb⟩;have HBa:=hid ((HW2.out.2.2.trans (HB.out.mono HW2.out.2.2.size)).trans (hb.mono (Nat.le_trans HW2.out.2.2.size hsz)));clear hb cX)
   have bT:=Blk.new wa 112 #[.int .i64 hi,.int .u64 lo];have HBt:=hid (HBa.out.alloc HBa.out.size (.cells #[.int .i64 hi,.int .u64 lo] 112));obtain ⟨T,hT⟩:∃ T,wa.heap.size=T:=⟨_,rfl⟩;rw [hT] at bT;rw [hT];clear hT;generalize wa.alloc (.cells #[.int .i64 hi,.int .u64 lo] 112)=WT at*;obtain ⟨Cls,hCls⟩:∃ C:World->Prop,C=fun z=>Below WT.heap.size WT z:=⟨_,rfl⟩
   have hC:∀ z,Cls z->Below WT.heap.size WT z:=fun z h=>by rw [hCls] at h;exact h
   have hstart:Cls WT.drew:=by rw [hCls];exact (Below.refl _ _).drew
   have inst:Nonempty (Qt.In Cls):=⟨⟨_,hstart⟩⟩;have gE:=fun (z:Qt.In Cls) (i:Nat)=>(bT.below (hC z.w z.h) bT.lt).cell i
   have hL:∀ z,Cls z->Calls prog 66 #[] z fun e w'=>e= .returned (.agg #[.int .i64 lh,.int .u64 ll])/\Cls w':=fun z hz=>by
    refine (HLi.out z).mono ?_
    rintro e w' ⟨rfl,hb⟩
    exact ⟨rfl,by rw [hCls];exact (hC z hz).trans (hb.mono (hC z hz).size)⟩
   have hM:∀ z,Cls z->Calls prog 65 #[.agg #[.int .i64 hi,.int .u64 lo],.agg #[.int .i64 lh,.int .u64 ll]] z fun e w'=>e= .returned (.int .i64 C)/\Cls w':=fun z hz=>by
    refine (HCm.out z).mono ?_
    rintro e w' ⟨rfl,hb⟩
    exact ⟨rfl,by rw [hCls];exact (hC z hz).trans (hb.mono (hC z hz).size)⟩
   have HC:=hid hC;have HSt:=hid hstart;have HLm:=hid hL;have HMl:=hid hM;clear hC hstart hCls hL hM
   go_wp2_with fail
   refine Qt.wp_region_cls Cls (by kernel_rfl) (by kernel_rfl) HSt.out ?_
   repeat (go_big_quiet_step (first
    |(go_at_call 66;exact Qt.quiet_cls (HLm.out _ (Qt.In.h _)))
    |(go_at_call 65;exact Qt.quiet_cls (HMl.out _ (Qt.In.h _)))))
   refine wpQuiet_nil ?_
   rintro wq ⟨⟨w9,hq⟩,e9⟩;obtain rfl:wq=w9:=e9;have hbq:=HC.out wq hq;have HF:=hid (HBt.out.trans (hbq.mono HBt.out.size));go_wp2;go_ret
   exact ⟨by rw [<-hC0];rfl,HF.out⟩
end Wid
end
end Go.Proofs.YtiiekaehbahenaaGreatDoor
