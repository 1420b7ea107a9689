/-
  Contracts of the code that the law reaches, and plain laws. Conditions: as each says.
-/
import Derived.Test.YtiiekaehbahenaaGreatDoorV31
set_option linter.all false
set_option maxHeartbeats 40000000
set_option maxRecDepth 100000
namespace Go.Proofs.YtiiekaehbahenaaGreatDoor
open Lib (hid)
open Tryz
section
section
namespace Chk
open Go.RowKit
def In64 (x:Int):Prop:= -9223372036854775808<=x/\x<=9223372036854775807
instance (x:Int):Decidable (In64 x):=by unfold In64;infer_instance
theorem in64_of_wf {a:Int} (h:(Lit.int .i64 a).wf=true):In64 a:=by
 unfold In64;simpa [Lit.wf,IntKind.min,IntKind.max,IntKind.signed,IntKind.bits] using h
def unlB (a b:Int):Bool:=decide (a<0/\b > 0\/a > 0/\b<0)
theorem ret1 {k:IntKind} {a c:Int} (h:a=c):Ending.returned (.int k a)= .returned (.int k c):=by rw [h]
theorem ret2 {k l:IntKind} {a b c d:Int} (h:a=c) (h':b=d):Ending.returned (.tuple #[.int k a,.int l b])= .returned (.tuple #[.int k c,.int l d]):=by rw [h,h']
theorem ret3 {k l m:IntKind} {a b c d x y:Int} (h:a=c) (h':b=d) (h2:x=y):Ending.returned (.tuple #[.int k a,.int l b,.int m x])= .returned (.tuple #[.int k c,.int l d,.int m y]):=by rw [h,h',h2]
def fitV (x:Int):Int:=if In64 x then x else 0
def fitE (x:Int):Int:=if In64 x then 0 else 2
theorem fitV_yes {x:Int} (h:In64 x):fitV x=x:=if_pos h
theorem fitE_yes {x:Int} (h:In64 x):fitE x=0:=if_pos h
theorem fitV_no {x:Int} (h:¬ In64 x):fitV x=0:=if_neg h
theorem fitE_no {x:Int} (h:¬ In64 x):fitE x=2:=if_neg h
theorem in64_zero:In64 0:=by unfold In64;omega
theorem fitV_in (x:Int):In64 (fitV x):=by
 unfold fitV;split
 ·assumption
 ·exact in64_zero
theorem wrap_lo {x:Int} (h0: -18446744073709551616<=x) (h:x< -9223372036854775808):wrap64 x=x+18446744073709551616:=by unfold wrap64;omega
theorem wrap_hi {x:Int} (h0:x<=18446744073709551615) (h:9223372036854775807<x):wrap64 x=x - 18446744073709551616:=by unfold wrap64;omega
theorem unlB_yes {a b:Int} (h:a<0/\0<b\/0<a/\b<0):unlB a b=true:=by unfold unlB;simpa using h
theorem unlB_no {a b:Int} (h:¬ (a<0/\0<b\/0<a/\b<0)):unlB a b=false:=by unfold unlB;simpa using h
theorem add_test_yes (a b:Int) (h:In64 (a+b)):(unlB a b=true)\/(unlB a b=false/\(b == 0)=true)\/(unlB a b=false/\(b == 0)=false/\(decide (a<wrap64 (a+b)) == decide (0<b))=true):=by
 rw [IntWalk.wrap64_in _ h];unfold unlB
 by_cases h1:0<b<;>by_cases h2:b=0<;>by_cases h3:b<0<;>by_cases h4:a<0<;>by_cases h5:0<a<;>simp [h1,h2,h3,h4,h5]<;>omega
theorem add_test_no (a b:Int) (ha:In64 a) (hb:In64 b) (h:¬ In64 (a+b)):unlB a b=false/\(b == 0)=false/\(decide (a<wrap64 (a+b)) == decide (0<b))=false:=by
 unfold In64 at ha hb h
 refine ⟨unlB_no (by omega),by simp;omega,?_⟩
 rcases (show a+b< -9223372036854775808\/9223372036854775807<a+b by omega) with h'|h'
 ·rw [wrap_lo (by omega) h']
  have e1:a<a+b+18446744073709551616:=by omega
  have e2:¬ 0<b:=by omega
  simp [e1,e2]
 ·rw [wrap_hi (by omega) h']
  have e1:¬ a<a+b - 18446744073709551616:=by omega
  have e2:0<b:=by omega
  simp [e1,e2]
theorem sub_test_yes (a b:Int) (h:In64 (a - b)):(b == 0)=true\/((b == 0)=false/\(decide (wrap64 (a - b)<a) == decide (0<b))=true):=by
 rw [IntWalk.wrap64_in _ h]
 by_cases h1:0<b<;>by_cases h2:b=0<;>simp [h1,h2]<;>omega
theorem sub_test_no (a b:Int) (ha:In64 a) (hb:In64 b) (h:¬ In64 (a - b)):(b == 0)=false/\(decide (wrap64 (a - b)<a) == decide (0<b))=false:=by
 unfold In64 at ha hb h
 refine ⟨by simp;omega,?_⟩
 rcases (show a - b< -9223372036854775808\/9223372036854775807<a - b by omega) with h'|h'
 ·rw [wrap_lo (by omega) h']
  have e1:¬ (a - b+18446744073709551616<a):=by omega
  have e2:0<b:=by omega
  simp [e1,e2]
 ·rw [wrap_hi (by omega) h']
  have e1:a - b - 18446744073709551616<a:=by omega
  have e2:¬ 0<b:=by omega
  simp [e1,e2]
theorem sub_any (a b:Int) (w:World) (ha:In64 a) (hb:In64 b):
  Calls prog 89 #[.int .i64 a,.int .i64 b] w fun e w'=>e= .returned (.tuple #[.int .i64 (fitV (a - b)),.int .i64 (fitE (a - b))])/\w=w':=by
 obtain ⟨s,hs⟩:∃ s,wrap64 (a - b)=s:=⟨_,rfl⟩
 by_cases h:In64 (a - b)
 ·have hv:=fitV_yes h
  have he:=fitE_yes h
  have hsv:s=a - b:=by rw [<-hs];exact IntWalk.wrap64_in _ h
  have ht:=sub_test_yes a b h;rw [hs] at ht;have Hv:=hid hv;have He:=hid he;have Hs:=hid hsv;clear hv he hsv ha hb h
  rcases ht with h2|⟨h2,h3⟩
  all_goals
   go_enter func89,ntmps89;go_wp2
   go_ret2
   exact ⟨ret2 (by first|rw [Hv.out,Hs.out]|rw [Hv.out,hs,Hs.out]) He.out.symm,rfl⟩
 ·have hv:=fitV_no h
  have he:=fitE_no h;obtain ⟨h2,h3⟩:=sub_test_no a b ha hb h;rw [hs] at h3;have Hv:=hid hv;have He:=hid he;clear hv he ha hb h;go_enter func89,ntmps89;go_wp2
  go_ret2
  exact ⟨ret2 Hv.out.symm He.out.symm,rfl⟩
theorem neg_any (a:Int) (w:World) (ha:In64 a):
  Calls prog 46 #[.int .i64 a] w fun e w'=>e= .returned (.tuple #[.int .i64 (fitV (0 - a)),.int .i64 (fitE (0 - a))])/\w=w':=by
 go_enter func46,ntmps46
 go_wp2_with (go_at_call 89;refine (sub_any 0 a _ in64_zero ha).mono ?_;rintro e w' ⟨rfl,rfl⟩)
 go_ret2
 exact ⟨ret2 (by simp) (by simp),rfl⟩
def absV (a:Int):Int:=if a<0 then 0 - a else a
theorem tdiv_mul_lt (p b:Int) (hb:b≠0):(p - b*p.tdiv b).natAbs<b.natAbs:=by
 have h:=Int.mul_tdiv_add_tmod p b
 have e:p - b*p.tdiv b=p.tmod b:=by omega
 rw [e]
 have:=Int.tmod_lt_of_pos p (b:=b.natAbs) (by omega)
 rw [Int.natAbs_tmod]
 exact Nat.mod_lt _ (by omega)
theorem wrap_mod (x:Int):∃ k:Int,wrap64 x=x+k*18446744073709551616:=by
 refine ⟨-((x+9223372036854775808) / 18446744073709551616),?_⟩
 unfold wrap64;omega
theorem wrap_in (x:Int):In64 (wrap64 x):=by unfold wrap64 In64;omega
theorem mul_test_no (a b:Int) (ha:In64 a) (hb:In64 b) (hb0:b≠0) (h:¬ In64 (a*b)) (h1:¬ (a= -1/\b= -9223372036854775808)) (h2:¬ (b= -1/\a= -9223372036854775808)):
  wrap64 ((wrap64 (a*b)).tdiv b)≠a:=by
 intro hq;obtain ⟨k,hk⟩:=wrap_mod (a*b);have hp:=wrap_in (a*b)
 have hk0:k≠0:=by rintro rfl;rw [hk] at hp;exact h (by simpa using hp)
 have hlt:=tdiv_mul_lt (wrap64 (a*b)) b hb0
 by_cases hs:b= -1
 ·subst hs
  have ea:a* -1= -a:=by omega
  rw [ea] at h;unfold In64 at ha h;omega
 ·have hq2:(wrap64 (a*b)).tdiv b=a:=by
   have h2:=Int.natAbs_tdiv_le_natAbs (wrap64 (a*b)) b
   have h3:(wrap64 (a*b)).natAbs<=9223372036854775808:=by unfold In64 at hp;omega
   have h4:(wrap64 (a*b)).tdiv b<=9223372036854775807:=by
    refine Int.not_lt.mp (fun h4=>?_)
    ·exfalso
     have h5:((wrap64 (a*b)).tdiv b)=9223372036854775808:=by omega
     have h6:(wrap64 (a*b)).natAbs=9223372036854775808:=by omega
     rw [h5] at hlt;unfold In64 at hb hp;generalize wrap64 (a*b)=q at*;omega
   have h7:=IntWalk.wrap64_in ((wrap64 (a*b)).tdiv b) ⟨by omega,h4⟩
   omega
  rw [hq2] at hlt;have e2:b*a=a*b:=Int.mul_comm _ _;rw [e2,hk] at hlt;unfold In64 at hb;generalize a*b=x at*;omega
theorem mul_test_yes (a b:Int) (ha:In64 a) (hb0:b≠0) (h:In64 (a*b)):
  ¬ (a= -1/\b= -9223372036854775808)/\¬ (b= -1/\a= -9223372036854775808)/\wrap64 ((wrap64 (a*b)).tdiv b)=a:=by
 refine ⟨?_,?_,?_⟩
 ·rintro ⟨rfl,rfl⟩;unfold In64 at h;omega
 ·rintro ⟨rfl,rfl⟩;unfold In64 at h;omega
 ·rw [IntWalk.wrap64_in _ h,Int.mul_tdiv_cancel _ hb0,IntWalk.wrap64_in _ ha]
def mayE (a b:Int):Int:=if b=0 then 3 else if a= -9223372036854775808/\b= -1 then 2 else 0
def divV (a b:Int):Int:=if mayE a b=0 then a.fdiv b else 0
def divR (a b:Int):Int:=if mayE a b=0 then a.fmod b else 0
def eucV (a b:Int):Int:=if mayE a b=0 then a / b else 0
def eucR (a b:Int):Int:=if mayE a b=0 then a % b else 0
theorem tmod_bd (a b:Int) (hb0:b≠0):(a.tmod b).natAbs<b.natAbs/\(0<=a->0<=a.tmod b)/\(a<=0->a.tmod b<=0):=by
 refine ⟨by rw [Int.natAbs_tmod];exact Nat.mod_lt _ (by omega),fun h=>Int.tmod_nonneg _ h,fun h=>?_⟩
 have:=Int.tmod_nonneg (a:= -a) b (by omega)
 rw [Int.neg_tmod] at this;omega
theorem fdiv_of (a b q r:Int) (h:a=b*q+r) (hr:(0<b/\0<=r/\r<b)\/(b<0/\b<r/\r<=0)):a.fdiv b=q/\a.fmod b=r:=by
 have h1:=Int.mul_fdiv_add_fmod a b
 have hq:a.fdiv b=q:=by
  rcases hr with ⟨hb,h2,h3⟩|⟨hb,h2,h3⟩
  ·have g1:=Int.fmod_nonneg_of_pos a hb
   have g2:=Int.fmod_lt_of_pos a hb
   have:b*(a.fdiv b - q)=r - a.fmod b:=by rw [Int.mul_sub];omega
   rcases Int.lt_trichotomy (a.fdiv b - q) 0 with h4|h4|h4
   ·have:=Int.mul_le_mul_of_nonneg_left (show a.fdiv b - q<=-1 by omega) (Int.le_of_lt hb)
    omega
   ·omega
   ·have:=Int.mul_le_mul_of_nonneg_left (show 1<=a.fdiv b - q by omega) (Int.le_of_lt hb)
    omega
  ·have e:a.fmod b= -((-a).fmod (-b)):=by rw [Int.neg_fmod_neg];omega
   have g1:=Int.fmod_nonneg_of_pos (-a) (show 0< -b by omega)
   have g2:=Int.fmod_lt_of_pos (-a) (show 0< -b by omega)
   have:b*(a.fdiv b - q)=r - a.fmod b:=by rw [Int.mul_sub];omega
   rcases Int.lt_trichotomy (a.fdiv b - q) 0 with h4|h4|h4
   ·have:=Int.mul_le_mul_of_nonpos_left (show b<=0 by omega) (show a.fdiv b - q<=-1 by omega)
    omega
   ·omega
   ·have:=Int.mul_le_mul_of_nonpos_left (show b<=0 by omega) (show 1<=a.fdiv b - q by omega)
    omega
 exact ⟨hq,by rw [hq] at h1;omega⟩
theorem ediv_of (a b q r:Int) (h:a=b*q+r) (hr:0<=r/\r<b.natAbs):a / b=q/\a % b=r:=by
 have hb:b≠0:=by omega
 have h1:a % b=r:=by
  rw [h,Int.mul_add_emod_self_left]
  rcases Int.lt_or_lt_of_ne hb with hb|hb
  ·rw [<-Int.emod_neg];exact Int.emod_eq_of_lt hr.1 (by omega)
  ·exact Int.emod_eq_of_lt hr.1 (by omega)
 have h2:=Int.mul_ediv_add_emod a b
 exact ⟨Int.eq_of_mul_eq_mul_left hb (by omega),h1⟩
theorem tdiv_in (a b:Int) (ha:In64 a) (hb0:b≠0) (h:¬ (a= -9223372036854775808/\b= -1)):In64 (a.tdiv b):=by
 have h2:=Int.natAbs_tdiv_le_natAbs a b;unfold In64 at ha ⊢
 refine ⟨by omega,?_⟩
 refine Int.not_lt.mp fun h4=>?_
 have h5:a= -9223372036854775808:=by omega
 subst h5;have h1:=Int.mul_tdiv_add_tmod (-9223372036854775808) b
 have h6:(Int.tdiv (-9223372036854775808) b)=9223372036854775808:=by omega
 rw [h6] at h1;have:=tmod_bd (-9223372036854775808) b hb0;omega
end Chk
end
end
section
section
namespace RefZ
open Go.RowKit Mem Dig Chk
def decIn (z:Int):Bool:=decide (In64 z)
theorem fits_any (neg:Bool) (A:Option Addr) (n c:Nat) (ds:List Int) (z:Int) (L:Nat) (w:World) (h:ZD w neg A n c ds z L) (hL:L<=1000000):
  Calls prog 77 #[.agg #[.bool neg,.slice A n c]] w fun e w'=>e= .returned (.tuple #[.int .i64 (fitV z),.bool (decIn z)])/\Below w.heap.size w w':=by
 have hbx:=box1 w 70 #[.bool neg,.slice A n c];have hcp:=h.sl.cap;have hcm:=h.sl.capm;unfold maxLen at hcm;go_enter func77,ntmps77;have Ha:=hid h;have Hbx:=hid hbx;clear h hbx
 go_wp2_with fail
 generalize w.alloc (Obj.cells #[Value.bool neg,Value.slice A n c] 70)=W at*;obtain ⟨hb0,hbel,hsz⟩:=Hbx.out;have HA:Hid (ZD W.drew neg A n c ds z L):=(Ha.out.below hbel).below (below_drew W);have HB:Hid (Below w.heap.size w W.drew):=hbel.drew;have q0:W.drew.cell? ⟨w.heap.size,0,none⟩=some (.bool neg):=hb0.cell 0;have q1:W.drew.cell? ⟨w.heap.size,1,none⟩=some (.slice A n c):=hb0.cell 1;clear hbel Hbx hb0 Ha;have hszd:w.heap.size<W.drew.heap.size:=hsz
 by_cases h1:two 63<=z
 ·have t1:decide (0<=cmpI z (two 63))=true:=by
   rcases cmpI_cases z (two 63) with ⟨h,e⟩|⟨h,e⟩|⟨h,e⟩<;>rw [e]<;>first|rfl|omega
  have hni:¬ In64 z:=by rw [two_63] at h1;unfold In64;omega
  have e1:=fitV_no hni;have e2:decIn z=false:=decide_eq_false hni;have E1:=hid e1;have E2:=hid e2;clear e1 e2 h1 hni
  go_region_with (first
    |(go_at_call 108;refine (power_any 63 W.drew (by omega)).mono ?_;rintro e w1 ⟨v,rfl,⟨neg1,A1,k1,c1,ds1,rfl,hz1⟩,hb1⟩;have HA1:Hid (ZD w1 neg A n c ds z L):=HA.out.below hb1;have HB1:Hid (Below w.heap.size w w1):=HB.out.trans (hb1.mono (by omega));have k0:w1.cell? ⟨w.heap.size,0,none⟩=some (.bool neg):=cell_later hb1 q0;have k1:w1.cell? ⟨w.heap.size,1,none⟩=some (.slice A n c):=cell_later hb1 q1)
    |(go_at_call 107;refine (cmp_any neg neg1 A A1 n _ c c1 ds ds1 z (two 63) L (63+4) w1 HA1.out hz1 hL (by omega)).mono ?_;rintro e w2 ⟨rfl,hb2⟩;have HB2:Hid (Below w.heap.size w w2):=HB1.out.trans (hb2.mono HB1.out.size)))
  all_goals
   go_wp2
   go_ret2
   rw [E1.out,E2.out];exact ⟨rfl,HB2.out⟩
 ·have t1:decide (0<=cmpI z (two 63))=false:=by
   rcases cmpI_cases z (two 63) with ⟨h,e⟩|⟨h,e⟩|⟨h,e⟩<;>rw [e]<;>first|rfl|omega
  by_cases h2:z< -two 63
  ·have t2:decide (cmpI z (-two 63)<0)=true:=by
    rcases cmpI_cases z (-two 63) with ⟨h,e⟩|⟨h,e⟩|⟨h,e⟩<;>rw [e]<;>first|rfl|omega
   have hni:¬ In64 z:=by rw [two_63] at h2;unfold In64;omega
   have e1:=fitV_no hni;have e2:decIn z=false:=decide_eq_false hni;have E1:=hid e1;have E2:=hid e2;clear e1 e2 h1 hni h2
   go_region_held3 (fun w'=>w'.cell? ⟨w.heap.size,0,none⟩=some (.bool neg)/\w'.cell? ⟨w.heap.size,1,none⟩=some (.slice A n c)) ((simp [*];done))
   (first
    |(go_at_call 108;have tk:=tokC;refine (power_any 63 w2 (by omega)).mono ?_;rintro e w3 ⟨v,rfl,⟨neg3,A3,k3,c3,ds3,rfl,hz3⟩,hb3⟩;have HA3:Hid (ZD w3 neg A n c ds z L):=HA2.out.below hb3;have HB3:Hid (Below w.heap.size w w3):=HB2.out.trans (hb3.mono HB2.out.size);have kk3:=keep2 (by assumption) hb3)
    |(go_at_call 108;refine (power_any 63 W.drew (by omega)).mono ?_;rintro e w1 ⟨v,rfl,⟨neg1,A1,k1,c1,ds1,rfl,hz1⟩,hb1⟩;have HA1:Hid (ZD w1 neg A n c ds z L):=HA.out.below hb1;have HB1:Hid (Below w.heap.size w w1):=HB.out.trans (hb1.mono HB.out.size);have kk:=keep2 (by assumption) hb1)
    |(go_at_call 104;refine (neg_any neg3 A3 k3 c3 ds3 (two 63) (63+4) w3 hz3).mono ?_;rintro e w4 ⟨v,rfl,⟨neg4,A4,k4,c4,ds4,rfl,hz4⟩,hb4⟩;have HA4:Hid (ZD w4 neg A n c ds z L):=HA3.out.below hb4;have HB4:Hid (Below w.heap.size w w4):=HB3.out.trans (hb4.mono HB3.out.size);have kk4:=keep2 (by assumption) hb4;have tokN:True:=trivial)
    |(go_at_call 107;have tk:=tokN;refine (cmp_any neg neg4 A A4 n k4 c c4 ds ds4 z (-two 63) L (63+4) w4 HA4.out hz4 hL (by omega)).mono ?_;rintro e w5 ⟨rfl,hb5⟩;have HB5:Hid (Below w.heap.size w w5):=HB4.out.trans (hb5.mono HB4.out.size);have HA5:Hid (ZD w5 neg A n c ds z L):=HA4.out.below hb5;have kk5:=keep2 (by assumption) hb5)
    |(go_at_call 107;refine (cmp_any neg neg1 A A1 n k1 c c1 ds ds1 z (two 63) L (63+4) w1 HA1.out hz1 hL (by omega)).mono ?_;rintro e w2 ⟨rfl,hb2⟩;have HB2:Hid (Below w.heap.size w w2):=HB1.out.trans (hb2.mono HB1.out.size);have HA2:Hid (ZD w2 neg A n c ds z L):=HA1.out.below hb2;have kk2:=keep2 (by assumption) hb2;have tokC:True:=trivial))
   go_wp2
   go_ret2
   rw [E1.out,E2.out];exact ⟨rfl,HB5.out⟩
  ·have t2:decide (cmpI z (-two 63)<0)=false:=by
    rcases cmpI_cases z (-two 63) with ⟨h,e⟩|⟨h,e⟩|⟨h,e⟩<;>rw [e]<;>first|rfl|omega
   have hni:In64 z:=by rw [two_63] at h1 h2;unfold In64;omega
   have e1:=fitV_yes hni;have e2:decIn z=true:=decide_eq_true hni;have E1:=hid e1;have E2:=hid e2;have E3:=hid hni;clear e1 e2 h1 hni h2
   go_region_held3 (fun w'=>w'.cell? ⟨w.heap.size,0,none⟩=some (.bool neg)/\w'.cell? ⟨w.heap.size,1,none⟩=some (.slice A n c)) ((simp [*];done))
   (first
    |(go_at_call 108;have tk:=tokC;refine (power_any 63 w2 (by omega)).mono ?_;rintro e w3 ⟨v,rfl,⟨neg3,A3,k3,c3,ds3,rfl,hz3⟩,hb3⟩;have HA3:Hid (ZD w3 neg A n c ds z L):=HA2.out.below hb3;have HB3:Hid (Below w.heap.size w w3):=HB2.out.trans (hb3.mono HB2.out.size);have kk3:=keep2 (by assumption) hb3)
    |(go_at_call 108;refine (power_any 63 W.drew (by omega)).mono ?_;rintro e w1 ⟨v,rfl,⟨neg1,A1,k1,c1,ds1,rfl,hz1⟩,hb1⟩;have HA1:Hid (ZD w1 neg A n c ds z L):=HA.out.below hb1;have HB1:Hid (Below w.heap.size w w1):=HB.out.trans (hb1.mono HB.out.size);have kk:=keep2 (by assumption) hb1)
    |(go_at_call 104;refine (neg_any neg3 A3 k3 c3 ds3 (two 63) (63+4) w3 hz3).mono ?_;rintro e w4 ⟨v,rfl,⟨neg4,A4,k4,c4,ds4,rfl,hz4⟩,hb4⟩;have HA4:Hid (ZD w4 neg A n c ds z L):=HA3.out.below hb4;have HB4:Hid (Below w.heap.size w w4):=HB3.out.trans (hb4.mono HB3.out.size);have kk4:=keep2 (by assumption) hb4;have tokN:True:=trivial)
    |(go_at_call 107;have tk:=tokN;refine (cmp_any neg neg4 A A4 n k4 c c4 ds ds4 z (-two 63) L (63+4) w4 HA4.out hz4 hL (by omega)).mono ?_;rintro e w5 ⟨rfl,hb5⟩;have HB5:Hid (Below w.heap.size w w5):=HB4.out.trans (hb5.mono HB4.out.size);have HA5:Hid (ZD w5 neg A n c ds z L):=HA4.out.below hb5;have kk5:=keep2 (by assumption) hb5)
    |(go_at_call 107;refine (cmp_any neg neg1 A A1 n k1 c c1 ds ds1 z (two 63) L (63+4) w1 HA1.out hz1 hL (by omega)).mono ?_;rintro e w2 ⟨rfl,hb2⟩;have HB2:Hid (Below w.heap.size w w2):=HB1.out.trans (hb2.mono HB1.out.size);have HA2:Hid (ZD w2 neg A n c ds z L):=HA1.out.below hb2;have kk2:=keep2 (by assumption) hb2;have tokC:True:=trivial))
   have r0:=kk5.1;have r1:=kk5.2;clear t1 t2 q0 q1 hb1 hb2 hb3 hb4 hb5 hz1 hz3 hz4;go_wp2;have HZ5:=HA5.out;have hdz:=HZ5.canon.1;have hln:=HZ5.sl.len;have hval:=HZ5.val;have Hd:=hid hdz;have Hln:=hid hln;have Hval:=hid hval;have HS:=hid HZ5.sl;clear HZ5 hdz hln hval HA5 HA4 HA3 HA2 HA1 HA kk kk2 kk3 kk4 kk5;have hn0:0<=(n:Int):=Int.natCast_nonneg _
   go_loop [4,5] (fun v i=>∃ k:Nat,k<=n/\i= .int .i64 ((k:Int) - 1)/\v= .int .i64 (sg neg*dval (ds.drop k))) (fun _ i=>(intOf i+1).toNat)
   case atStart=>exact ⟨n,Nat.le_refl _,rfl,by rw [List.drop_eq_nil_of_le (by rw [Hln.out];exact Nat.le_refl _)];simp [dval_nil]⟩
   case round=>
    obtain ⟨k,hk,rfl,rfl⟩:=hrel
    by_cases hk0:0<k
    ·obtain ⟨k,rfl⟩:∃ j,k=j+1:=⟨k - 1,by omega⟩
     obtain ⟨ad,rfl,hcell⟩:=HS.out.cell (k:=k) (by omega)
     have hdg:=Hd.out.at_ k
     have hstep:=dval_drop (ds:=ds) (k:=k) (by rw [Hln.out];omega)
     have hle:=dval_drop_le Hd.out k;have hnn:=dval_nonneg (Hd.out.drop (k+1));obtain ⟨q,hq⟩:∃ q,dval (ds.drop (k+1))=q:=⟨_,rfl⟩;obtain ⟨x,hx⟩:∃ x,dg ds k=x:=⟨_,rfl⟩;have hi:=E3.out;unfold In64 at hi;rw [hq,hx] at hstep;rw [hq] at hnn;rw [hx] at hdg hcell;rw [hstep] at hle;have Hst:=hid hstep;have Hq:=hid hq;clear hstep hx
     cases neg
     ·have hz:z=dval ds:=by rw [Hval.out,sg_false]
      have b1:q*65536+x<=9223372036854775807:=by omega
      have b2:q*65536<=9223372036854775807:=by omega
      rw [hq,sg_false];clear hi hz hq hle;go_wp2
      go_round
      case rel=>exact ⟨k,by omega,by go_num,by rw [Hst.out,sg_false];go_num⟩
      case measure=>simp [intOf]
     ·have hz:z= -dval ds:=by rw [Hval.out,sg_true]
      have b1: -9223372036854775808<=-q*65536+ -x:=by omega
      have b2: -9223372036854775808<=-q*65536:=by omega
      rw [hq,sg_true];clear hi hz hq hle;go_wp2
      go_round
      case rel=>exact ⟨k,by omega,by go_num,by rw [Hst.out,sg_true];go_num⟩
      case measure=>simp [intOf]
    ·obtain rfl:k=0:=by omega
     go_wp2
     go_ret2
     rw [E1.out,E2.out,Hval.out];exact ⟨rfl,HB5.out⟩
end RefZ
end
end
end Go.Proofs.YtiiekaehbahenaaGreatDoor
