/-
  Contracts of the code that the law reaches, and plain laws. Conditions: as each says.
-/
import Derived.Test.YtmlejgdohcpmjaaGreatDoorV15
import Derived.Test.YtmlejgdohcpmjaaGreatDoorV07
set_option linter.all false
set_option maxHeartbeats 40000000
set_option maxRecDepth 100000
namespace Go.Proofs.YtmlejgdohcpmjaaGreatDoor
open Lib (hid)
open Tryz
section
section
namespace Yrs
open Go.RowKit Mem Img Civ Rul
theorem years_any (x:Table) (A A2:Option Addr) (c c2:Nat) (w:World) (h:TabOk x A A2 w):
  Calls prog 25 #[.agg (tabCells x A c A2 c2)] w fun e w'=>∃ b,e= .returned (.bool b)/\(b=true->x.shifts.length<=2000/\x.tail.length<=10)/\Below w.heap.size w w':=by
 have hone:=One.new w 27 (tabCells x A c A2 c2);have hrt:=h.rt;clear h;simp only [tabCells] at hone ⊢
 obtain ⟨W,hW⟩:∃ W,w.alloc (.cells #[.string x.name,.int .i64 x.first.off,.int .i64 x.first.save,.string x.first.abbr,.slice A x.shifts.length c,.int .i64 x.till,.slice A2 x.tail.length c2,.int .i64 x.off,.string x.format] 27)=W:=⟨_,rfl⟩
 rw [hW] at hone;have HO:=hid hone;have H:=hid hrt;have c0:=hone.1.cell;clear hone hrt;go_enter func25,ntmps25
 by_cases h1:x.shifts.length<=2000
 rotate_left
 ·have h1b:decide ((2000:Int)<(x.shifts.length:Nat))=true:=decide_eq_true (by omega)
  go_wp2_with fail
  go_ret
  exact ⟨false,rfl,by simp,HO.out.2⟩
 ·have h1b:decide ((2000:Int)<(x.shifts.length:Nat))=false:=decide_eq_false (by omega)
  by_cases h2:x.tail.length<=10
  rotate_left
  ·have h2b:decide ((10:Int)<(x.tail.length:Nat))=true:=decide_eq_true (by omega)
   go_wp2_with fail
   go_ret
   exact ⟨false,rfl,by simp,HO.out.2⟩
  ·have h2b:decide ((10:Int)<(x.tail.length:Nat))=false:=decide_eq_false (by omega)
   go_wp2_with fail
   go_loopw [3,4,5] (fun l g i wr=>∃ (k:Nat) (lo hi:Int),k<=x.tail.length/\l= .int .i64 lo/\g= .int .i64 hi/\i= .int .i64 k/\wr=W) (fun _ _ i _=>x.tail.length - (intOf i).toNat)
   case atStart=>exact ⟨0,10000,0,Nat.zero_le _,rfl,rfl,rfl,rfl⟩
   case round=>
    obtain ⟨k,lo,hi,hk,rfl,rfl,rfl,rfl⟩:=hrel
    by_cases hkn:k<x.tail.length
    ·obtain ⟨ad,hA,hadb,a0,a1,a2,a3,a4,a5,a6,a7,a8,a9,a10⟩:=rule_cells (H.out.below HO.out.2) hkn
     subst hA
     go_wp2_with fail
     exact ⟨⟨k+1,_,_,by omega,rfl,rfl,by go_num,trivial⟩,by simp [intOf];omega⟩
    ·obtain rfl:k=x.tail.length:=by omega
     cases h3:decide (hi<lo)<;>cases h4:decide (1<=lo)
     all_goals go_wp2_with fail
     all_goals go_ret
     all_goals exact ⟨_,rfl,fun _=>⟨h1,h2⟩,HO.out.2⟩
end Yrs
end
end
section
section
namespace R11
open Go.RowKit Mem Civ Mom Img Rul
theorem rule_bad {r:Rule} (h:¬ (1<=r.lo/\r.lo<=9999)\/¬ ((1<=r.hi/\r.hi<=9999)\/r.hi=1000000)\/spotB (spotOf r)=false\/¬ (-43200<=r.save/\r.save<=43200)):Rul.ruleB r=false:=by
 refine decide_eq_false fun ⟨h1,h2,h3,h4,h5⟩=>?_
 rcases h with h|h|h|h
 ·exact h h1
 ·exact h h2
 ·rw [spotB_true h3] at h;cases h
 ·exact h ⟨h4,h5⟩
theorem rule_good {r:Rule} (h1:1<=r.lo/\r.lo<=9999) (h2:(1<=r.hi/\r.hi<=9999)\/r.hi=1000000) (h3:spotB (spotOf r)=true) (h4: -43200<=r.save/\r.save<=43200):Rul.ruleB r=true:=
 decide_eq_true ⟨h1,h2,spotB_ok h3,h4.1,h4.2⟩
theorem right_any (rs:List Rule) (A:Option Addr) (c:Nat) (w:World) (h:Reads w w.heap.size 11 A rs.length (rs.flatMap Rule.cells)) (hn:rs.length<=1000000):
  Calls prog 37 #[.slice A rs.length c] w fun e w'=>e= .returned (.bool (rulesB rs))/\Below w.heap.size w w':=by
 have H:=hid h;clear h;obtain ⟨R,hR⟩:∃ R,rulesB rs=R:=⟨_,rfl⟩;rw [hR];have HR:=hid hR;clear hR;go_enter func37,ntmps37
 go_wp2_with fail
 go_loopw [3] (fun i wr=>∃ k:Nat,k<=rs.length/\i= .int .i64 k/\(rs.take k).all Rul.ruleB=true/\Below w.heap.size w wr) (fun i _=>rs.length - (intOf i).toNat)
 case atStart=>exact ⟨0,Nat.zero_le _,rfl,rfl,Below.refl _ _⟩
 case round=>
  obtain ⟨k,hk,rfl,hall,hb⟩:=hrel;have HB:=hid hb;have Hall:=hid hall;clear hb hall;obtain ⟨wo,rfl⟩:∃ wo:World,wo=wr:=⟨_,rfl⟩
  by_cases hkn:k<rs.length
  ·obtain ⟨ad,hA,hadb,a0,a1,a2,a3,a4,a5,a6,a7,a8,a9,a10⟩:=rule_cells (H.out.below HB.out) hkn
   subst hA;have HSt:Hid (Rul.ruleB rs[k]=true->(rs.take (k+1)).all Rul.ruleB=true):=fun h=>(Src.all_step Rul.ruleB rs k hkn Hall.out).trans h
   have HNo:Hid (Rul.ruleB rs[k]=false->R=false):=fun h=>by rw [<-HR.out];exact Src.all_no Rul.ruleB rs k hkn h
   have hbad:=@rule_bad rs[k];have hgood:=@rule_good rs[k];generalize rs[k]=r at*;obtain ⟨r0,r1,r2,r3,r4,r5,r6,r7,r8,r9,r10⟩:=r;simp only [spotOf] at a0 a1 a2 a3 a4 a5 a6 a7 a8 a9 a10 hbad hgood;have HSp:=hid (fun z=>R09.right_any ⟨r3,r4,r5,r6,r7,r8⟩ z);simp only [Spot.cells] at HSp;generalize Rul.ruleB ⟨r0,r1,r2,r3,r4,r5,r6,r7,r8,r9,r10⟩=rb at*;generalize spotB ⟨r3,r4,r5,r6,r7,r8⟩=sb at*;have hzo:=HB.out.size;have hxb:=Blk.new wo 69 #[.string r0,.int .i64 r1,.int .i64 r2,.int .i64 r3,.int .i64 r4,.int .i64 r5,.int .i64 r6,.int .i64 r7,.int .i64 r8,.int .i64 r9,.string r10];have hbb:=HB.out.alloc hzo (.cells #[.string r0,.int .i64 r1,.int .i64 r2,.int .i64 r3,.int .i64 r4,.int .i64 r5,.int .i64 r6,.int .i64 r7,.int .i64 r8,.int .i64 r9,.string r10] 69);have HBX:=hid hbb;have cx:=hxb.cell;have HX:=hid hxb;have HBad:=hid hbad;have HGood:=hid hgood;clear hbb hxb hbad hgood HR Hall
   have hcase:(r1<1)\/(1<=r1/\9999<r1)\/((1<=r1/\r1<=9999)/\r2<1)\/((1<=r1/\r1<=9999)/\(1<=r2/\9999<r2)/\¬ r2=1000000)\/((1<=r1/\r1<=9999)/\(1<=r2/\r2<=9999))\/((1<=r1/\r1<=9999)/\r2=1000000):=by omega
   rcases hcase with h1|⟨h1,h2⟩|⟨⟨h1,h2⟩,h3⟩|⟨⟨h1,h2⟩,⟨h3,h4⟩,h5⟩|⟨⟨h1,h2⟩,h3,h4⟩|⟨⟨h1,h2⟩,rfl⟩
   ·have hr:=HNo.out (HBad.out (.inl (by omega)))
    subst hr;clear HBad HGood HNo HSt;go_wp2;go_ret;exact ⟨rfl,HBX.out⟩
   ·have hr:=HNo.out (HBad.out (.inl (by omega)))
    subst hr;clear HBad HGood HNo HSt;go_wp2;go_ret;exact ⟨rfl,HBX.out⟩
   ·have hr:=HNo.out (HBad.out (.inr (.inl (by omega))))
    subst hr;clear HBad HGood HNo HSt;go_wp2;go_ret;exact ⟨rfl,HBX.out⟩
   ·have hr:=HNo.out (HBad.out (.inr (.inl (by omega))))
    subst hr;clear HBad HGood HNo HSt;go_wp2;go_ret;exact ⟨rfl,HBX.out⟩
   ·have hlo:1<=r1/\r1<=9999:=⟨h1,h2⟩
    cases sb
    ·have hr:=HNo.out (HBad.out (.inr (.inr (.inl rfl))))
     subst hr;clear HBad HGood HNo HSt hlo
     go_wp2_with (go_at_call 64;refine (HSp.out _).mono ?_;rintro e w1 ⟨rfl,hb⟩;have hbw:=below_of_eq hb;have HB1:=hid (Below.trans HBX.out (hbw.mono HBX.out.size));have c1:=fun i=>(HX.out.below hbw HX.out.lt).cell i;clear hb hbw)
     go_ret;exact ⟨rfl,HB1.out⟩
    ·by_cases h6:43200<r9
     ·have hr:=HNo.out (HBad.out (.inr (.inr (.inr (by omega)))))
      subst hr;clear HBad HGood HNo HSt hlo
      go_wp2_with (go_at_call 64;refine (HSp.out _).mono ?_;rintro e w1 ⟨rfl,hb⟩;have hbw:=below_of_eq hb;have HB1:=hid (Below.trans HBX.out (hbw.mono HBX.out.size));have c1:=fun i=>(HX.out.below hbw HX.out.lt).cell i;clear hb hbw)
      go_ret;exact ⟨rfl,HB1.out⟩
     ·by_cases h7:r9< -43200
      ·have hr:=HNo.out (HBad.out (.inr (.inr (.inr (by omega)))))
       subst hr;clear HBad HGood HNo HSt hlo
       go_wp2_with (go_at_call 64;refine (HSp.out _).mono ?_;rintro e w1 ⟨rfl,hb⟩;have hbw:=below_of_eq hb;have HB1:=hid (Below.trans HBX.out (hbw.mono HBX.out.size));have c1:=fun i=>(HX.out.below hbw HX.out.lt).cell i;clear hb hbw)
       go_ret;exact ⟨rfl,HB1.out⟩
      ·have hst:=HSt.out (HGood.out hlo (.inl ⟨h3,h4⟩) rfl ⟨by omega,by omega⟩)
       have HS2:=hid hst;clear HBad HGood HNo HSt hlo hst
       go_wp2_with (go_at_call 64;refine (HSp.out _).mono ?_;rintro e w1 ⟨rfl,hb⟩;have hbw:=below_of_eq hb;have HB1:=hid (Below.trans HBX.out (hbw.mono HBX.out.size));have c1:=fun i=>(HX.out.below hbw HX.out.lt).cell i;clear hb hbw)
       exact ⟨⟨k+1,by omega,by go_num,HS2.out,HB1.out⟩,by simp [intOf];omega⟩
   ·have hlo:1<=r1/\r1<=9999:=⟨h1,h2⟩
    cases sb
    ·have hr:=HNo.out (HBad.out (.inr (.inr (.inl rfl))))
     subst hr;clear HBad HGood HNo HSt hlo
     go_wp2_with (go_at_call 64;refine (HSp.out _).mono ?_;rintro e w1 ⟨rfl,hb⟩;have hbw:=below_of_eq hb;have HB1:=hid (Below.trans HBX.out (hbw.mono HBX.out.size));have c1:=fun i=>(HX.out.below hbw HX.out.lt).cell i;clear hb hbw)
     go_ret;exact ⟨rfl,HB1.out⟩
    ·by_cases h6:43200<r9
     ·have hr:=HNo.out (HBad.out (.inr (.inr (.inr (by omega)))))
      subst hr;clear HBad HGood HNo HSt hlo
      go_wp2_with (go_at_call 64;refine (HSp.out _).mono ?_;rintro e w1 ⟨rfl,hb⟩;have hbw:=below_of_eq hb;have HB1:=hid (Below.trans HBX.out (hbw.mono HBX.out.size));have c1:=fun i=>(HX.out.below hbw HX.out.lt).cell i;clear hb hbw)
      go_ret;exact ⟨rfl,HB1.out⟩
     ·by_cases h7:r9< -43200
      ·have hr:=HNo.out (HBad.out (.inr (.inr (.inr (by omega)))))
       subst hr;clear HBad HGood HNo HSt hlo
       go_wp2_with (go_at_call 64;refine (HSp.out _).mono ?_;rintro e w1 ⟨rfl,hb⟩;have hbw:=below_of_eq hb;have HB1:=hid (Below.trans HBX.out (hbw.mono HBX.out.size));have c1:=fun i=>(HX.out.below hbw HX.out.lt).cell i;clear hb hbw)
       go_ret;exact ⟨rfl,HB1.out⟩
      ·have hst:=HSt.out (HGood.out hlo (.inr rfl) rfl ⟨by omega,by omega⟩)
       have HS2:=hid hst;clear HBad HGood HNo HSt hlo hst
       go_wp2_with (go_at_call 64;refine (HSp.out _).mono ?_;rintro e w1 ⟨rfl,hb⟩;have hbw:=below_of_eq hb;have HB1:=hid (Below.trans HBX.out (hbw.mono HBX.out.size));have c1:=fun i=>(HX.out.below hbw HX.out.lt).cell i;clear hb hbw)
       exact ⟨⟨k+1,by omega,by go_num,HS2.out,HB1.out⟩,by simp [intOf];omega⟩
  ·obtain rfl:k=rs.length:=by omega
   rw [List.take_length] at Hall
   have hr:R=true:=by rw [<-HR.out];exact Hall.out
   subst hr;go_wp2;go_ret;exact ⟨rfl,HB.out⟩
end R11
end
end
end Go.Proofs.YtmlejgdohcpmjaaGreatDoor
