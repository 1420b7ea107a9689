/-
  Contracts of the code that the law reaches, and plain laws. Conditions: as each says.
-/
import Derived.Test.YtmlejgdohcpmjaaGreatDoorV00
import Derived.Test.YtmlejgdohcpmjaaGreatDoorProg
import Derived.WalkLawsBesides
import Derived.Handy
import Derived.Lib.Hide
set_option linter.all false
set_option maxHeartbeats 40000000
set_option maxRecDepth 100000
namespace Go.Proofs.YtmlejgdohcpmjaaGreatDoor
open Lib (hid)
open Tryz
section
section
namespace Civ
open Go.RowKit Mem
def Fl (a b:Int):Prop:=(0<=a.tmod b->a.tdiv b=a / b/\a.tmod b=a % b)/\(a.tmod b<0->a.tdiv b - 1=a / b/\a.tmod b+b=a % b)/\(-b<a.tmod b/\a.tmod b<b)/\(-1000000000000000<=a.tdiv b/\a.tdiv b<=1000000000000000)/\0<b/\b<=1000000000000
theorem tneg (a b:Int):a.tdiv b= -((-a).tdiv b)/\a.tmod b= -((-a).tmod b):=by
 rw [Int.neg_tdiv,Int.neg_tmod];omega
theorem fl_400 (a:Int) (ha: -1000000000000000<=a/\a<=1000000000000000):Fl a 400:=by
 unfold Fl
 rcases Int.le_total 0 a with h|h
 ·rw [Int.tdiv_eq_ediv_of_nonneg h,Int.tmod_eq_emod_of_nonneg h];omega
 ·rw [(tneg a 400).1,(tneg a 400).2,Int.tdiv_eq_ediv_of_nonneg (by omega),Int.tmod_eq_emod_of_nonneg (by omega)];omega
theorem fl_era (a:Int) (ha: -1000000000000000<=a/\a<=1000000000000000):Fl a 146097:=by
 unfold Fl
 rcases Int.le_total 0 a with h|h
 ·rw [Int.tdiv_eq_ediv_of_nonneg h,Int.tmod_eq_emod_of_nonneg h];omega
 ·rw [(tneg a 146097).1,(tneg a 146097).2,Int.tdiv_eq_ediv_of_nonneg (by omega),Int.tmod_eq_emod_of_nonneg (by omega)];omega
theorem fl_7 (a:Int) (ha: -1000000000000000<=a/\a<=1000000000000000):Fl a 7:=by
 unfold Fl
 rcases Int.le_total 0 a with h|h
 ·rw [Int.tdiv_eq_ediv_of_nonneg h,Int.tmod_eq_emod_of_nonneg h];omega
 ·rw [(tneg a 7).1,(tneg a 7).2,Int.tdiv_eq_ediv_of_nonneg (by omega),Int.tmod_eq_emod_of_nonneg (by omega)];omega
theorem floor_any (a b:Int) (w:World) (hf:Fl a b):
  Calls prog 122 #[.int .i64 a,.int .i64 b] w fun e w'=>e= .returned (.tuple #[.int .i64 (a / b),.int .i64 (a % b)])/\∃ n,w'=w.drewN n:=by
 obtain ⟨h1,h2,⟨h6,h7⟩,⟨h8,h9⟩,hb,hb2⟩:=hf
 have hne:¬ b=0:=by omega
 rcases Int.lt_or_le (a.tmod b) 0 with h3|h3
 ·obtain ⟨e1,e2⟩:=h2 h3
  have E1:=hid e1;have E2:=hid e2;clear h1 h2 e1 e2;go_enter func122,ntmps122;go_wp2
  go_quiet (fail)
  go_wp2
  go_ret2
  exact ⟨by rw [<-E1.out,<-E2.out];rfl,nq,rfl⟩
 ·obtain ⟨e1,e2⟩:=h1 h3
  have E1:=hid e1;have E2:=hid e2;clear h1 h2 e1 e2;go_enter func122,ntmps122;go_wp2
  go_quiet (fail)
  go_wp2
  go_ret2
  exact ⟨by rw [<-E1.out,<-E2.out];rfl,nq,rfl⟩
def leapB (y:Int):Bool:=y % 4 == 0 && (!(y % 100 == 0) || y % 400 == 0)
theorem tz (y k:Int):(y.tmod k == 0)=(y % k == 0):=by
 rw [Bool.eq_iff_iff,beq_iff_eq,beq_iff_eq,<-Int.dvd_iff_tmod_eq_zero,<-Int.dvd_iff_emod_eq_zero]
theorem leap_any (y:Int) (w:World):Calls prog 205 #[.int .i64 y] w fun e w'=>e= .returned (.bool (leapB y))/\w=w':=by
 have h1:=tz y 4;have h2:=tz y 100;have h3:=tz y 400
 have h4:(y.tmod 100 != 0)= !(y % 100 == 0):=by rw [<-h2];rfl
 unfold leapB;generalize (y % 4 == 0)=c1 at*;generalize (y % 100 == 0)=c2 at*;generalize (y % 400 == 0)=c3 at*;go_enter func205,ntmps205
 cases c1<;>cases c2<;>cases c3
 all_goals
  go_wp2;go_ret;exact ⟨rfl,rfl⟩
def mlen (y m:Int):Int:=if m<1\/12<m then 0 else if m=2 then (if leapB y=true then 29 else 28) else if m=4\/m=6\/m=9\/m=11 then 30 else 31
theorem mlen_bd (y m:Int):0<=mlen y m/\mlen y m<=31:=by
 unfold mlen
 split
 ·omega
 ·split
  ·split<;>omega
  ·split<;>omega
theorem monthLen_any (y m:Int) (w:World):Calls prog 197 #[.int .i64 y,.int .i64 m] w fun e w'=>e= .returned (.int .i64 (mlen y m))/\Below w.heap.size w w':=by
 have hb:Below w.heap.size w (w.alloc (.cells #[.int .i64 0,.int .i64 31,.int .i64 28,.int .i64 31,.int .i64 30,.int .i64 31,.int .i64 30,.int .i64 31,.int .i64 31,.int .i64 30,.int .i64 31,.int .i64 30,.int .i64 31] 218)):=(Below.refl _ _).alloc (Nat.le_refl _) _
 by_cases h1:m<1
 ·have e:mlen y m=0:=if_pos (.inl h1)
  rw [e];clear e;go_enter func197,ntmps197;go_wp2;go_ret;exact ⟨rfl,hb⟩
 ·by_cases h2:12<m
  ·have e:mlen y m=0:=if_pos (.inr h2)
   rw [e];clear e;go_enter func197,ntmps197;go_wp2;go_ret;exact ⟨rfl,hb⟩
  ·by_cases h3:m=2
   ·subst h3
    obtain ⟨q,hq⟩:∃ q,leapB y=q:=⟨_,rfl⟩
    have e:mlen y 2=if q=true then 29 else 28:=by rw [<-hq];rfl
    have Hl:=hid (leap_any y);rw [hq] at Hl;rw [e];clear e hq;go_enter func197,ntmps197
    cases q
    all_goals
     go_wp2_with (go_at_call 205;refine (Hl.out _).mono ?_;rintro e w1 ⟨rfl,rfl⟩)
     go_ret;exact ⟨rfl,hb⟩
   ·have hm:m=1\/m=3\/m=4\/m=5\/m=6\/m=7\/m=8\/m=9\/m=10\/m=11\/m=12:=by omega
    have hm2:(m == 2)=false:=by simpa using h3
    rcases hm with rfl|rfl|rfl|rfl|rfl|rfl|rfl|rfl|rfl|rfl|rfl
    all_goals
     go_enter func197,ntmps197;go_wp2;go_ret;exact ⟨rfl,hb⟩
end Civ
namespace Civ
open Go.RowKit Mem
def One (w:World) (b:Nat) (t:TypeId) (cs:Array Value) (w1:World):Prop:=Blk w1 b t cs/\Below w.heap.size w w1
theorem One.step {w w1 w2:World} {b:Nat} {t:TypeId} {cs:Array Value} (h:One w b t cs w1) (hb:Below w1.heap.size w1 w2):One w b t cs w2:=⟨h.1.below hb h.1.lt,h.2.trans (hb.mono h.2.size)⟩
theorem One.drew {w w1:World} {b:Nat} {t:TypeId} {cs:Array Value} (h:One w b t cs w1):One w b t cs w1.drew:=⟨h.1.drew,h.2.drew⟩
theorem One.new (w:World) (t:TypeId) (cs:Array Value):One w w.heap.size t cs (w.alloc (.cells cs t)):=⟨Blk.new w t cs,(Below.refl _ _).alloc (Nat.le_refl _) _⟩
theorem below_dr {B:Nat} {a w:World} {n:Nat} (h:Below B a w):Below B a (w.drewN n):=⟨h.os,h.tape,h.output,h.size,h.block⟩
theorem below_drs {w w':World} (h:∃ n,w'=w.drewN n):Below w.heap.size w w':=by obtain ⟨n,rfl⟩:=h;exact below_dr (Below.refl _ _)
def countI (y m d:Int):Int:=
 let a:=if m<3 then y - 1 else y
 let k:=if m<3 then m+9 else m - 3
 a / 400*146097+a % 400*365+a % 400 / 4 - a % 400 / 100+(153*k+2) / 5+d - 1 - 719468
theorem count_any (y m d:Int) (w:World) (hy: -300000<=y/\y<=300000) (hm:1<=m/\m<=12) (hd: -1000<=d/\d<=1000):
  Calls prog 203 #[.agg #[.int .i64 y,.int .i64 m,.int .i64 d]] w fun e w'=>e= .returned (.int .i64 (countI y m d))/\Below w.heap.size w w':=by
 have hone:=One.new w 115 #[.int .i64 y,.int .i64 m,.int .i64 d];obtain ⟨W,hW⟩:∃ W,w.alloc (.cells #[.int .i64 y,.int .i64 m,.int .i64 d] 115)=W:=⟨_,rfl⟩;rw [hW] at hone;have HO:=hid hone;have cc:=hone.1.cell;obtain ⟨hy1,hy2⟩:=hy;obtain ⟨hm1,hm2⟩:=hm;obtain ⟨hd1,hd2⟩:=hd;clear hone;unfold countI
 by_cases h:m<3
 ·simp only [if_pos h]
  have r1:0<=(y - 1) % 400:=by omega
  have r2:(y - 1) % 400<400:=by omega
  have r3: -1000<=(y - 1) / 400:=by omega
  have r4:(y - 1) / 400<=1000:=by omega
  have Hf:=hid (fun w1=>floor_any (y - 1) 400 w1 (fl_400 _ (by omega)))
  generalize (y - 1) % 400=r at*;generalize (y - 1) / 400=c at*;go_enter func203,ntmps203;go_wp2
  go_quiet (fail)
  go_wp2_with (go_at_call 122;refine (Hf.out _).mono ?_;rintro e w1 ⟨rfl,n,rfl⟩)
  go_ret
  refine ⟨?_,below_dr HO.out.2⟩
  rw [show m+9=m - 3+12 from by omega]
  rfl
 ·simp only [if_neg h]
  have h':¬ m - 3<0:=by omega
  have r1:0<=y % 400:=by omega
  have r2:y % 400<400:=by omega
  have r3: -1000<=y / 400:=by omega
  have r4:y / 400<=1000:=by omega
  have Hf:=hid (fun w1=>floor_any y 400 w1 (fl_400 _ (by omega)))
  generalize y % 400=r at*;generalize y / 400=c at*;go_enter func203,ntmps203;go_wp2
  go_quiet (fail)
  go_wp2_with (go_at_call 122;refine (Hf.out _).mono ?_;rintro e w1 ⟨rfl,n,rfl⟩)
  go_ret;exact ⟨rfl,below_dr HO.out.2⟩
def daysO (y m d:Int):Option Int:=
 if y< -271821\/275760<y\/d<1\/mlen y m<d then none
 else if countI y m d< -100000001\/100000000<countI y m d then none else some (countI y m d)
theorem mlen_m {y m d:Int} (h1:1<=d) (h2:d<=mlen y m):1<=m/\m<=12:=by
 unfold mlen at h2
 split at h2<;>omega
def dayV (r:Option Int):Value:=match r with
 |some n=> .tuple #[.int .i64 n,.bool true]
 |none=> .tuple #[.int .i64 0,.bool false]
theorem days_any (y m d:Int) (w:World):
  Calls prog 192 #[.agg #[.int .i64 y,.int .i64 m,.int .i64 d]] w fun e w'=>e= .returned (dayV (daysO y m d))/\Below w.heap.size w w':=by
 have hone:=One.new w 115 #[.int .i64 y,.int .i64 m,.int .i64 d];obtain ⟨W,hW⟩:∃ W,w.alloc (.cells #[.int .i64 y,.int .i64 m,.int .i64 d] 115)=W:=⟨_,rfl⟩;rw [hW] at hone;obtain ⟨Cls,hCls⟩:∃ C:World->Prop,C=One w w.heap.size 115 #[.int .i64 y,.int .i64 m,.int .i64 d]:=⟨_,rfl⟩
 have hC:∀ z,Cls z->One w w.heap.size 115 #[.int .i64 y,.int .i64 m,.int .i64 d] z:=fun z h=>by rw [hCls] at h;exact h
 have hstart:Cls W.drew:=by rw [hCls];exact hone.drew
 have hnext:∀ z z':World,Cls z->Below z.heap.size z z'->Cls z':=fun z z' h hb=>by rw [hCls] at h ⊢;exact h.step hb
 have inst:Nonempty (Qt.In Cls):=⟨⟨_,hstart⟩⟩;have z0:∀ z:Qt.In Cls,z.w.cell? ⟨w.heap.size,0,none⟩=some (.int .i64 y):=fun z=>(hC z.w z.h).1.cell 0;have z1:∀ z:Qt.In Cls,z.w.cell? ⟨w.heap.size,1,none⟩=some (.int .i64 m):=fun z=>(hC z.w z.h).1.cell 1;have z2:∀ z:Qt.In Cls,z.w.cell? ⟨w.heap.size,2,none⟩=some (.int .i64 d):=fun z=>(hC z.w z.h).1.cell 2;have HM:Hid (∀ z,Cls z->Calls prog 197 #[.int .i64 y,.int .i64 m] z fun e z'=>e= .returned (.int .i64 (mlen y m))/\Cls z'):=fun z h=>(monthLen_any y m z).mono fun e z' ⟨he,hb⟩=>⟨he,hnext z z' h hb⟩;have HC:=hid hC;have HS:=hid hstart;have HN:=hid hnext;clear hone hCls hC hstart hnext;obtain ⟨R,hR⟩:∃ R,daysO y m d=R:=⟨_,rfl⟩;rw [hR];have hb31:=mlen_bd y m;unfold daysO at hR;go_enter func192,ntmps192;go_wp2
 cases h1:decide (y< -271821)
 ·cases h2:decide (275760<y)
  ·cases h3:decide (d<1)
   ·cases h4:decide (mlen y m<d)
    ·have hno:¬ (y< -271821\/275760<y\/d<1\/mlen y m<d):=by simp at h1 h2 h3 h4;omega
     rw [if_neg hno] at hR
     have hmm:=mlen_m (y:=y) (m:=m) (d:=d) (by omega) (by omega)
     have HCo:=hid (fun z=>count_any y m d z (by omega) hmm (by omega))
     have HR:=hid hR;clear hR hno hmm
     refine Qt.wp_region_cls Cls (by kernel_rfl) (by kernel_rfl) HS.out ?_
     repeat (go_big_quiet_step (exact Qt.quiet_cls (HM.out _ (Qt.In.h _))))
     refine wpQuiet_nil ?_
     rintro wq ⟨⟨w9,hq⟩,e9⟩
     have hq2:=HC.out wq (by rw [e9];exact hq)
     clear hq e9;have cq:=hq2.1.cell;have HQ:=hid hq2;clear hq2;generalize countI y m d=n at*
     cases h5:decide (n< -100000001)
     ·cases h6:decide (100000000<n)
      ·have hn:¬ (n< -100000001\/100000000<n):=by simp at h5 h6;omega
       have hR:=HR.out;rw [if_neg hn] at hR;subst hR;clear HR hn
       go_wp2_with (go_at_call 203;refine (HCo.out _).mono ?_;rintro e w1 ⟨rfl,hb⟩;have HB:=hid (HQ.out.step hb);clear hb)
       go_ret2
       exact ⟨rfl,HB.out.2⟩
      ·have hn:n< -100000001\/100000000<n:=by simp at h6;omega
       have hR:=HR.out;rw [if_pos hn] at hR;subst hR;clear HR hn
       go_wp2_with (go_at_call 203;refine (HCo.out _).mono ?_;rintro e w1 ⟨rfl,hb⟩;have HB:=hid (HQ.out.step hb);clear hb)
       go_ret2
       exact ⟨rfl,HB.out.2⟩
     ·have hn:n< -100000001\/100000000<n:=by simp at h5;omega
      have hR:=HR.out;rw [if_pos hn] at hR;subst hR;clear HR hn
      go_wp2_with (go_at_call 203;refine (HCo.out _).mono ?_;rintro e w1 ⟨rfl,hb⟩;have HB:=hid (HQ.out.step hb);clear hb)
      go_ret2
      exact ⟨rfl,HB.out.2⟩
    ·have hno:y< -271821\/275760<y\/d<1\/mlen y m<d:=by simp at h4;omega
     rw [if_pos hno] at hR;subst hR;clear hno
     refine Qt.wp_region_cls Cls (by kernel_rfl) (by kernel_rfl) HS.out ?_
     repeat (go_big_quiet_step (exact Qt.quiet_cls (HM.out _ (Qt.In.h _))))
     refine wpQuiet_nil ?_
     rintro wq ⟨⟨w9,hq⟩,e9⟩
     have HQ:=hid (HC.out wq (by rw [e9];exact hq))
     clear hq e9;go_wp2
     go_ret2
     exact ⟨rfl,HQ.out.2⟩
   ·have hno:y< -271821\/275760<y\/d<1\/mlen y m<d:=by simp at h3;omega
    rw [if_pos hno] at hR;subst hR;clear hno
    refine Qt.wp_region_cls Cls (by kernel_rfl) (by kernel_rfl) HS.out ?_
    repeat (go_big_quiet_step (exact Qt.quiet_cls (HM.out _ (Qt.In.h _))))
    refine wpQuiet_nil ?_
    rintro wq ⟨⟨w9,hq⟩,e9⟩
    have HQ:=hid (HC.out wq (by rw [e9];exact hq))
    clear hq e9;go_wp2
    go_ret2
    exact ⟨rfl,HQ.out.2⟩
  ·have hno:y< -271821\/275760<y\/d<1\/mlen y m<d:=by simp at h2;omega
   rw [if_pos hno] at hR;subst hR;clear hno
   refine Qt.wp_region_cls Cls (by kernel_rfl) (by kernel_rfl) HS.out ?_
   repeat (go_big_quiet_step (exact Qt.quiet_cls (HM.out _ (Qt.In.h _))))
   refine wpQuiet_nil ?_
   rintro wq ⟨⟨w9,hq⟩,e9⟩
   have HQ:=hid (HC.out wq (by rw [e9];exact hq))
   clear hq e9;go_wp2
   go_ret2
   exact ⟨rfl,HQ.out.2⟩
 ·have hno:y< -271821\/275760<y\/d<1\/mlen y m<d:=by simp at h1;omega
  rw [if_pos hno] at hR;subst hR;clear hno
  refine Qt.wp_region_cls Cls (by kernel_rfl) (by kernel_rfl) HS.out ?_
  repeat (go_big_quiet_step (exact Qt.quiet_cls (HM.out _ (Qt.In.h _))))
  refine wpQuiet_nil ?_
  rintro wq ⟨⟨w9,hq⟩,e9⟩
  have HQ:=hid (HC.out wq (by rw [e9];exact hq))
  clear hq e9;go_wp2
  go_ret2
  exact ⟨rfl,HQ.out.2⟩
end Civ
end
end
section
section
namespace Mom
open Go.RowKit Mem Civ
structure Spot where
 month:Int
 kind:Int
 weekday:Int
 day:Int
 time:Int
 ref:Int
 deriving DecidableEq
def Spot.cells (s:Spot):List Value:=[.int .i64 s.month,.int .i64 s.kind,.int .i64 s.weekday,.int .i64 s.day,.int .i64 s.time,.int .i64 s.ref]
def Spot.okP (s:Spot):Prop:=1<=s.month/\s.month<=12/\0<=s.kind/\s.kind<=3/\-604799<=s.time/\s.time<=604799/\0<=s.ref/\s.ref<=2/\
 (s.kind=0->s.weekday=0/\1<=s.day/\s.day<=31)/\(s.kind=1->1<=s.weekday/\s.weekday<=7/\s.day=0)/\(2<=s.kind->1<=s.weekday/\s.weekday<=7/\1<=s.day/\s.day<=31)
instance (s:Spot):Decidable s.okP:=by unfold Spot.okP;infer_instance
def spotB (s:Spot):Bool:=decide s.okP
theorem spotB_false {s:Spot} (h:¬ s.okP):spotB s=false:=decide_eq_false h
theorem spotB_true {s:Spot} (h:s.okP):spotB s=true:=decide_eq_true h
theorem ret_b {a b:Bool} (h:a=b):Ending.returned (.bool a)= .returned (.bool b):=by rw [h]
theorem right_any (s:Spot) (w:World):Calls prog 131 #[.agg s.cells.toArray] w fun e w'=>e= .returned (.bool (spotB s))/\w'=w.alloc (.cells s.cells.toArray 67):=by
 obtain ⟨mo,k,wd,d,t,r⟩:=s;obtain ⟨q,hq⟩:∃ q,spotB ⟨mo,k,wd,d,t,r⟩=q:=⟨_,rfl⟩;rw [hq];have HQ:=hid hq;simp only [Spot.cells];clear hq;go_enter func131,ntmps131
 by_cases hb:1<=mo/\mo<=12/\0<=k/\k<=3/\-604799<=t/\t<=604799/\0<=r/\r<=2
 ·obtain ⟨h1,h2,h3,h4,h5,h6,h7,h8⟩:=hb
  have hk:k=0\/k=1\/k=2\/k=3:=by omega
  rcases hk with rfl|rfl|rfl|rfl
  all_goals
   go_wp2
   all_goals
    go_ret
    refine ⟨ret_b (a:=_) ?_,rfl⟩
    rw [<-HQ.out,Bool.eq_iff_iff]
    simp [spotB,Spot.okP]<;>omega
 ·have hs:q=false:=HQ.out ▸ spotB_false (fun h=>hb ⟨h.1,h.2.1,h.2.2.1,h.2.2.2.1,h.2.2.2.2.1,h.2.2.2.2.2.1,h.2.2.2.2.2.2.1,h.2.2.2.2.2.2.2.1⟩)
  subst hs;clear HQ
  have hz:mo<1\/(1<=mo/\12<mo)\/((1<=mo/\mo<=12)/\k<0)\/((1<=mo/\mo<=12)/\0<=k/\3<k)\/((1<=mo/\mo<=12)/\(0<=k/\k<=3)/\t< -604799)\/((1<=mo/\mo<=12)/\(0<=k/\k<=3)/\-604799<=t/\604799<t)\/
    ((1<=mo/\mo<=12)/\(0<=k/\k<=3)/\(-604799<=t/\t<=604799)/\r<0)\/((1<=mo/\mo<=12)/\(0<=k/\k<=3)/\(-604799<=t/\t<=604799)/\0<=r/\2<r):=by omega
  clear hb
  rcases hz with h1|⟨h1,h2⟩|⟨⟨h1,h2⟩,h3⟩|⟨⟨h1,h2⟩,h3,h4⟩|⟨⟨h1,h2⟩,⟨h3,h4⟩,h5⟩|⟨⟨h1,h2⟩,⟨h3,h4⟩,h5,h6⟩|⟨⟨h1,h2⟩,⟨h3,h4⟩,⟨h5,h6⟩,h7⟩|⟨⟨h1,h2⟩,⟨h3,h4⟩,⟨h5,h6⟩,h7,h8⟩
  all_goals
   go_wp2;go_ret;exact ⟨rfl,rfl⟩
end Mom
namespace Mom
open Go.RowKit Mem Civ
theorem back_any (n wd:Int) (w:World) (hn: -1000000000000<=n/\n<=1000000000000) (hwd:0<=wd/\wd<=7):
  Calls prog 204 #[.int .i64 n,.int .i64 wd] w fun e w'=>e= .returned (.int .i64 ((n+4 - wd) % 7))/\w=w':=by
 have hf:=fl_7 (n+3 - wd+1) (by omega)
 obtain ⟨h1,h2,⟨h6,h7⟩,_⟩:=hf;obtain ⟨hn1,hn2⟩:=hn;obtain ⟨hd1,hd2⟩:=hwd
 rw [show n+4 - wd=n+3 - wd+1 by omega]
 rcases Int.lt_or_le ((n+3 - wd+1).tmod 7) 0 with h3|h3
 ·obtain ⟨_,e2⟩:=h2 h3
  have E2:=hid e2;clear h1 h2 e2;go_enter func204,ntmps204;go_wp2;go_ret
  exact ⟨by rw [<-E2.out];rfl,rfl⟩
 ·obtain ⟨_,e2⟩:=h1 h3
  have E2:=hid e2;clear h1 h2 e2;go_enter func204,ntmps204;go_wp2;go_ret
  exact ⟨by rw [<-E2.out];rfl,rfl⟩
def backI (n wd:Int):Int:=(n+4 - wd) % 7
theorem backI_bd (n wd:Int):0<=backI n wd/\backI n wd<=6:=by unfold backI;omega
def spotDay (s:Spot) (f l:Int):Int:=
 if s.kind=0 then f+s.day - 1 else if s.kind=1 then f+l - 1 - backI (f+l - 1) s.weekday
 else if s.kind=2 then f+s.day+5 - backI (f+s.day+5) s.weekday else f+s.day - 1 - backI (f+s.day - 1) s.weekday
section
variable (s:Spot) (f l:Int) (w:World) (hf: -1000000000<=f/\f<=1000000000) (hl:0<=l/\l<=31) (hd:0<=s.day/\s.day<=31) (hw:0<=s.weekday/\s.weekday<=7)
include hf hl hd hw
theorem mday_any (hk:s.kind=0):Calls prog 193 #[.agg #[.int .i64 f,.int .i64 l],.agg s.cells.toArray] w fun e w'=>e= .returned (.int .i64 (spotDay s f l))/\Below w.heap.size w w':=by
 rw [spotDay,if_pos hk];obtain ⟨mo,k,wd,d,t,r⟩:=s;simp only [Spot.cells] at*;have hb2:=box2 w 210 67 #[.int .i64 f,.int .i64 l] #[.int .i64 mo,.int .i64 k,.int .i64 wd,.int .i64 d,.int .i64 t,.int .i64 r];obtain ⟨W,hW⟩:∃ W,(w.alloc (.cells #[.int .i64 f,.int .i64 l] 210)).alloc (.cells #[.int .i64 mo,.int .i64 k,.int .i64 wd,.int .i64 d,.int .i64 t,.int .i64 r] 67)=W:=⟨_,rfl⟩;rw [hW] at hb2;obtain ⟨b1,b2,hb,hz⟩:=hb2;have c1:=b1.cell;have c2:=b2.cell;have HB:=hid hb;obtain ⟨hf1,hf2⟩:=hf;obtain ⟨hl1,hl2⟩:=hl;obtain ⟨hd1,hd2⟩:=hd;clear b1 b2 hb hk;go_enter func193,ntmps193;go_wp2;go_ret;exact ⟨rfl,HB.out⟩
theorem mlast_any (hk:s.kind=1):Calls prog 194 #[.agg #[.int .i64 f,.int .i64 l],.agg s.cells.toArray] w fun e w'=>e= .returned (.int .i64 (spotDay s f l))/\Below w.heap.size w w':=by
 rw [spotDay,if_neg (by omega),if_pos hk]
 obtain ⟨mo,k,wd,d,t,r⟩:=s;simp only [Spot.cells] at*;have hb2:=box2 w 210 67 #[.int .i64 f,.int .i64 l] #[.int .i64 mo,.int .i64 k,.int .i64 wd,.int .i64 d,.int .i64 t,.int .i64 r];obtain ⟨W,hW⟩:∃ W,(w.alloc (.cells #[.int .i64 f,.int .i64 l] 210)).alloc (.cells #[.int .i64 mo,.int .i64 k,.int .i64 wd,.int .i64 d,.int .i64 t,.int .i64 r] 67)=W:=⟨_,rfl⟩;rw [hW] at hb2;obtain ⟨b1,b2,hb,hz⟩:=hb2;have c1:=b1.cell;have c2:=b2.cell;have HB:=hid hb;obtain ⟨hf1,hf2⟩:=hf;obtain ⟨hl1,hl2⟩:=hl;obtain ⟨hd1,hd2⟩:=hd
 have Hk:=hid (fun w1=>back_any (f+l - 1) wd w1 (by omega) hw)
 have hbd:=backI_bd (f+l - 1) wd;unfold backI at hbd ⊢;generalize (f+l - 1+4 - wd) % 7=bk at*;clear b1 b2 hb hk hw;go_enter func194,ntmps194
 go_wp2_with (go_at_call 204;refine (Hk.out _).mono ?_;rintro e w1 ⟨rfl,rfl⟩)
 go_ret;exact ⟨rfl,HB.out⟩
theorem mafter_any (hk:s.kind=2):Calls prog 195 #[.agg #[.int .i64 f,.int .i64 l],.agg s.cells.toArray] w fun e w'=>e= .returned (.int .i64 (spotDay s f l))/\Below w.heap.size w w':=by
 rw [spotDay,if_neg (by omega),if_neg (by omega),if_pos hk]
 obtain ⟨mo,k,wd,d,t,r⟩:=s;simp only [Spot.cells] at*;have hb2:=box2 w 210 67 #[.int .i64 f,.int .i64 l] #[.int .i64 mo,.int .i64 k,.int .i64 wd,.int .i64 d,.int .i64 t,.int .i64 r];obtain ⟨W,hW⟩:∃ W,(w.alloc (.cells #[.int .i64 f,.int .i64 l] 210)).alloc (.cells #[.int .i64 mo,.int .i64 k,.int .i64 wd,.int .i64 d,.int .i64 t,.int .i64 r] 67)=W:=⟨_,rfl⟩;rw [hW] at hb2;obtain ⟨b1,b2,hb,hz⟩:=hb2;have c1:=b1.cell;have c2:=b2.cell;have HB:=hid hb;obtain ⟨hf1,hf2⟩:=hf;obtain ⟨hl1,hl2⟩:=hl;obtain ⟨hd1,hd2⟩:=hd
 have Hk:=hid (fun w1=>back_any (f+d+5) wd w1 (by omega) hw)
 have hbd:=backI_bd (f+d+5) wd;unfold backI at hbd ⊢;generalize (f+d+5+4 - wd) % 7=bk at*;clear b1 b2 hb hk hw;go_enter func195,ntmps195
 go_wp2_with (go_at_call 204;refine (Hk.out _).mono ?_;rintro e w1 ⟨rfl,rfl⟩)
 go_ret;exact ⟨rfl,HB.out⟩
theorem mahead_any (hk:s.kind=3):Calls prog 196 #[.agg #[.int .i64 f,.int .i64 l],.agg s.cells.toArray] w fun e w'=>e= .returned (.int .i64 (spotDay s f l))/\Below w.heap.size w w':=by
 rw [spotDay,if_neg (by omega),if_neg (by omega),if_neg (by omega)]
 obtain ⟨mo,k,wd,d,t,r⟩:=s;simp only [Spot.cells] at*;have hb2:=box2 w 210 67 #[.int .i64 f,.int .i64 l] #[.int .i64 mo,.int .i64 k,.int .i64 wd,.int .i64 d,.int .i64 t,.int .i64 r];obtain ⟨W,hW⟩:∃ W,(w.alloc (.cells #[.int .i64 f,.int .i64 l] 210)).alloc (.cells #[.int .i64 mo,.int .i64 k,.int .i64 wd,.int .i64 d,.int .i64 t,.int .i64 r] 67)=W:=⟨_,rfl⟩;rw [hW] at hb2;obtain ⟨b1,b2,hb,hz⟩:=hb2;have c1:=b1.cell;have c2:=b2.cell;have HB:=hid hb;obtain ⟨hf1,hf2⟩:=hf;obtain ⟨hl1,hl2⟩:=hl;obtain ⟨hd1,hd2⟩:=hd
 have Hk:=hid (fun w1=>back_any (f+d - 1) wd w1 (by omega) hw)
 have hbd:=backI_bd (f+d - 1) wd;unfold backI at hbd ⊢;generalize (f+d - 1+4 - wd) % 7=bk at*;clear b1 b2 hb hk hw;go_enter func196,ntmps196
 go_wp2_with (go_at_call 204;refine (Hk.out _).mono ?_;rintro e w1 ⟨rfl,rfl⟩)
 go_ret;exact ⟨rfl,HB.out⟩
end
end Mom
namespace Mom
open Go.RowKit Mem Civ
theorem below_of_eq {w w':World} {o:Obj} (h:w'=w.alloc o):Below w.heap.size w w':=by subst h;exact (Below.refl _ _).alloc (Nat.le_refl _) _
def onO (s:Spot) (y:Int):Option Int:=
 if spotB s=false\/y<1\/300000<y then none
 else (daysO y s.month 1).bind fun f=>if 100000000<spotDay s f (mlen y s.month) then none else some (spotDay s f (mlen y s.month))
theorem daysO_bd {y m d n:Int} (h:daysO y m d=some n): -100000001<=n/\n<=100000000:=by
 unfold daysO at h
 split at h
 ·cases h
 ·split at h
  ·cases h
  ·injection h with h;omega
theorem spotB_ok {s:Spot} (h:spotB s=true):s.okP:=of_decide_eq_true h
theorem pick0 (w:World):(Instr.index 211 (.agg #[Value.func (Fn.func 193) #[] #[],Value.func (Fn.func 194) #[] #[],Value.func (Fn.func 195) #[] #[],Value.func (Fn.func 196) #[] #[]]) (.int .i64 0)).run prog w= .ok (Value.func (Fn.func 193) #[] #[]) w:=by kernel_rfl
theorem pick1 (w:World):(Instr.index 211 (.agg #[Value.func (Fn.func 193) #[] #[],Value.func (Fn.func 194) #[] #[],Value.func (Fn.func 195) #[] #[],Value.func (Fn.func 196) #[] #[]]) (.int .i64 1)).run prog w= .ok (Value.func (Fn.func 194) #[] #[]) w:=by kernel_rfl
theorem pick2 (w:World):(Instr.index 211 (.agg #[Value.func (Fn.func 193) #[] #[],Value.func (Fn.func 194) #[] #[],Value.func (Fn.func 195) #[] #[],Value.func (Fn.func 196) #[] #[]]) (.int .i64 2)).run prog w= .ok (Value.func (Fn.func 195) #[] #[]) w:=by kernel_rfl
theorem pick3 (w:World):(Instr.index 211 (.agg #[Value.func (Fn.func 193) #[] #[],Value.func (Fn.func 194) #[] #[],Value.func (Fn.func 195) #[] #[],Value.func (Fn.func 196) #[] #[]]) (.int .i64 3)).run prog w= .ok (Value.func (Fn.func 196) #[] #[]) w:=by kernel_rfl
theorem on_any (s:Spot) (y:Int) (w:World):Calls prog 172 #[.agg s.cells.toArray,.int .i64 y] w fun e w'=>e= .returned (dayV (onO s y))/\Below w.heap.size w w':=by
 obtain ⟨R,hR⟩:∃ R,onO s y=R:=⟨_,rfl⟩;rw [hR];unfold onO at hR;have HRt:=hid (fun z=>right_any s z);have hone:=One.new w 67 s.cells.toArray;obtain ⟨mo,k,wd,d,t,r⟩:=s;simp only [Spot.cells] at hone HRt ⊢;obtain ⟨W,hW⟩:∃ W,w.alloc (.cells #[.int .i64 mo,.int .i64 k,.int .i64 wd,.int .i64 d,.int .i64 t,.int .i64 r] 67)=W:=⟨_,rfl⟩;rw [hW] at hone;have HO:=hid hone;have c0:=hone.1.cell;clear hone;go_enter func172,ntmps172;obtain ⟨sb,hsb⟩:∃ sb,spotB ⟨mo,k,wd,d,t,r⟩=sb:=⟨_,rfl⟩;rw [hsb] at HRt hR
 cases sb
 ·rw [if_pos (.inl rfl)] at hR
  subst hR;clear hsb
  go_wp2_with (go_at_call 131;refine (HRt.out _).mono ?_;rintro e w1 ⟨rfl,hw⟩;have HB:=hid (HO.out.step (below_of_eq hw));clear hw)
  go_ret2
  exact ⟨rfl,HB.out.2⟩
 ·by_cases hy:y<1\/300000<y
  ·rw [if_pos (.inr hy)] at hR
   subst hR;clear hsb
   rcases hy with hy|hy
   ·go_wp2_with (go_at_call 131;refine (HRt.out _).mono ?_;rintro e w1 ⟨rfl,hw⟩;have HB:=hid (HO.out.step (below_of_eq hw));clear hw)
    go_ret2
    exact ⟨rfl,HB.out.2⟩
   ·have hy1:¬ y<1:=by omega
    go_wp2_with (go_at_call 131;refine (HRt.out _).mono ?_;rintro e w1 ⟨rfl,hw⟩;have HB:=hid (HO.out.step (below_of_eq hw));clear hw)
    go_ret2
    exact ⟨rfl,HB.out.2⟩
  ·have hy1:1<=y:=by omega
   have hy2:y<=300000:=by omega
   rw [if_neg (by rintro (h|h|h);cases h;omega;omega)] at hR
   clear hy;have Hd:=hid (fun z=>days_any y mo 1 z)
   cases hd:daysO y mo 1 with
   |none=>
    rw [hd,Option.bind_none] at hR;subst hR;rw [hd] at Hd;simp only [dayV] at Hd;clear hsb hd
    go_wp2_with (first
     |(go_at_call 131;refine (HRt.out _).mono ?_;rintro e w1 ⟨rfl,hw⟩;have hb:=HO.out.step (below_of_eq hw);have c1:=hb.1.cell;have HB:=hid hb;clear hw hb)
     |(go_at_call 192;refine (Hd.out _).mono ?_;rintro e w2 ⟨rfl,hw⟩;have HB2:=hid (HB.out.step hw);clear hw))
    go_ret2
    exact ⟨rfl,HB2.out.2⟩
   |some f=>
    rw [hd,Option.bind_some] at hR;rw [hd] at Hd;simp only [dayV] at Hd;have hfb:=daysO_bd hd;have hok:=spotB_ok hsb;have HR:=hid hR;clear hsb hd hR
    go_wp2_with (first
     |(go_at_call 131;refine (HRt.out _).mono ?_;rintro e w1 ⟨rfl,hw⟩;have hb:=HO.out.step (below_of_eq hw);have c1:=hb.1.cell;have HB:=hid hb;clear hw hb)
     |(go_at_call 192;refine (Hd.out _).mono ?_;rintro e w2 ⟨rfl,hw⟩;have HB2:=hid (HB.out.step hw);clear hw))
    obtain ⟨hm1,hm2,hk1,hk2,_,_,_,_,ho1,ho2,ho3⟩:=hok;simp only at hm1 hm2 hk1 hk2 ho1 ho2 ho3;obtain ⟨Cls,hCls⟩:∃ C:World->Prop,C=One w w.heap.size 67 #[.int .i64 mo,.int .i64 k,.int .i64 wd,.int .i64 d,.int .i64 t,.int .i64 r]:=⟨_,rfl⟩
    have hC:∀ z,Cls z->One w w.heap.size 67 #[.int .i64 mo,.int .i64 k,.int .i64 wd,.int .i64 d,.int .i64 t,.int .i64 r] z:=fun z h=>by rw [hCls] at h;exact h
    have hstart:Cls w2.drew:=by rw [hCls];exact HB2.out.drew
    have hnext:∀ z z':World,Cls z->Below z.heap.size z z'->Cls z':=fun z z' h hb=>by rw [hCls] at h ⊢;exact h.step hb
    have inst:Nonempty (Qt.In Cls):=⟨⟨_,hstart⟩⟩;have z0:∀ z:Qt.In Cls,z.w.cell? ⟨w.heap.size,0,none⟩=some (.int .i64 mo):=fun z=>(hC z.w z.h).1.cell 0;have z1:∀ z:Qt.In Cls,z.w.cell? ⟨w.heap.size,1,none⟩=some (.int .i64 k):=fun z=>(hC z.w z.h).1.cell 1;have z2:∀ z:Qt.In Cls,z.w.cell? ⟨w.heap.size,2,none⟩=some (.int .i64 wd):=fun z=>(hC z.w z.h).1.cell 2;have z3:∀ z:Qt.In Cls,z.w.cell? ⟨w.heap.size,3,none⟩=some (.int .i64 d):=fun z=>(hC z.w z.h).1.cell 3;have z4:∀ z:Qt.In Cls,z.w.cell? ⟨w.heap.size,4,none⟩=some (.int .i64 t):=fun z=>(hC z.w z.h).1.cell 4;have z5:∀ z:Qt.In Cls,z.w.cell? ⟨w.heap.size,5,none⟩=some (.int .i64 r):=fun z=>(hC z.w z.h).1.cell 5;have hml:=mlen_bd y mo;have HM:Hid (∀ z,Cls z->Calls prog 197 #[.int .i64 y,.int .i64 mo] z fun e z'=>e= .returned (.int .i64 (mlen y mo))/\Cls z'):=fun z h=>(monthLen_any y mo z).mono fun e z' ⟨he,hb⟩=>⟨he,hnext z z' h hb⟩;generalize mlen y mo=l at*
    have hday:k=0\/k=1\/k=2\/k=3:=by omega
    have HC:=hid hC;have HS:=hid hstart
    rcases hday with rfl|rfl|rfl|rfl
    ·obtain ⟨hd0,hd1,hd2⟩:=ho1 rfl
     have HD:Hid (∀ z,Cls z->Calls prog 193 #[.agg #[.int .i64 f,.int .i64 l],.agg #[.int .i64 mo,.int .i64 0,.int .i64 wd,.int .i64 d,.int .i64 t,.int .i64 r]] z fun e z'=>e= .returned (.int .i64 (spotDay ⟨mo,0,wd,d,t,r⟩ f l))/\Cls z'):=fun z h=>(mday_any ⟨mo,0,wd,d,t,r⟩ f l z (by omega) hml (by show 0<=d/\d<=31;omega) (by show 0<=wd/\wd<=7;omega) rfl).mono fun e z' ⟨he,hb⟩=>⟨he,hnext z z' h hb⟩
     have hpk:=pick0;clear hd0;clear hC hstart hnext hCls ho1 ho2 ho3;generalize spotDay ⟨mo,0,wd,d,t,r⟩ f l=n at*
     refine Qt.wp_region_cls Cls (by kernel_rfl) (by kernel_rfl) HS.out ?_
     repeat (go_big_quiet_step (first|(go_at_call 197;exact Qt.quiet_cls (HM.out _ (Qt.In.h _)))|(go_at_call 193;exact Qt.quiet_cls (HD.out _ (Qt.In.h _)))))
     refine wpQuiet_nil ?_
     rintro wq ⟨⟨w9,hq⟩,e9⟩
     have HQ:=hid (HC.out wq (by rw [e9];exact hq))
     clear hq e9 hpk
     by_cases hn:100000000<n
     ·have hR:=HR.out
      rw [if_pos hn] at hR;subst hR;clear HR;go_wp2
      go_ret2
      exact ⟨rfl,HQ.out.2⟩
     ·have hR:=HR.out
      rw [if_neg hn] at hR;subst hR;clear HR;go_wp2
      go_ret2
      exact ⟨rfl,HQ.out.2⟩
    ·obtain ⟨hd0,hd1,hd2⟩:=ho2 rfl
     have HD:Hid (∀ z,Cls z->Calls prog 194 #[.agg #[.int .i64 f,.int .i64 l],.agg #[.int .i64 mo,.int .i64 1,.int .i64 wd,.int .i64 d,.int .i64 t,.int .i64 r]] z fun e z'=>e= .returned (.int .i64 (spotDay ⟨mo,1,wd,d,t,r⟩ f l))/\Cls z'):=fun z h=>(mlast_any ⟨mo,1,wd,d,t,r⟩ f l z (by omega) hml (by show 0<=d/\d<=31;omega) (by show 0<=wd/\wd<=7;omega) rfl).mono fun e z' ⟨he,hb⟩=>⟨he,hnext z z' h hb⟩
     have hpk:=pick1;clear hd2;clear hC hstart hnext hCls ho1 ho2 ho3;generalize spotDay ⟨mo,1,wd,d,t,r⟩ f l=n at*
     refine Qt.wp_region_cls Cls (by kernel_rfl) (by kernel_rfl) HS.out ?_
     repeat (go_big_quiet_step (first|(go_at_call 197;exact Qt.quiet_cls (HM.out _ (Qt.In.h _)))|(go_at_call 194;exact Qt.quiet_cls (HD.out _ (Qt.In.h _)))))
     refine wpQuiet_nil ?_
     rintro wq ⟨⟨w9,hq⟩,e9⟩
     have HQ:=hid (HC.out wq (by rw [e9];exact hq))
     clear hq e9 hpk
     by_cases hn:100000000<n
     ·have hR:=HR.out
      rw [if_pos hn] at hR;subst hR;clear HR;go_wp2
      go_ret2
      exact ⟨rfl,HQ.out.2⟩
     ·have hR:=HR.out
      rw [if_neg hn] at hR;subst hR;clear HR;go_wp2
      go_ret2
      exact ⟨rfl,HQ.out.2⟩
    ·obtain ⟨hd0,hd1,hd2,hd3⟩:=ho3 (by omega)
     have HD:Hid (∀ z,Cls z->Calls prog 195 #[.agg #[.int .i64 f,.int .i64 l],.agg #[.int .i64 mo,.int .i64 2,.int .i64 wd,.int .i64 d,.int .i64 t,.int .i64 r]] z fun e z'=>e= .returned (.int .i64 (spotDay ⟨mo,2,wd,d,t,r⟩ f l))/\Cls z'):=fun z h=>(mafter_any ⟨mo,2,wd,d,t,r⟩ f l z (by omega) hml (by show 0<=d/\d<=31;omega) (by show 0<=wd/\wd<=7;omega) rfl).mono fun e z' ⟨he,hb⟩=>⟨he,hnext z z' h hb⟩
     have hpk:=pick2;clear hC hstart hnext hCls ho1 ho2 ho3;generalize spotDay ⟨mo,2,wd,d,t,r⟩ f l=n at*
     refine Qt.wp_region_cls Cls (by kernel_rfl) (by kernel_rfl) HS.out ?_
     repeat (go_big_quiet_step (first|(go_at_call 197;exact Qt.quiet_cls (HM.out _ (Qt.In.h _)))|(go_at_call 195;exact Qt.quiet_cls (HD.out _ (Qt.In.h _)))))
     refine wpQuiet_nil ?_
     rintro wq ⟨⟨w9,hq⟩,e9⟩
     have HQ:=hid (HC.out wq (by rw [e9];exact hq))
     clear hq e9 hpk
     by_cases hn:100000000<n
     ·have hR:=HR.out
      rw [if_pos hn] at hR;subst hR;clear HR;go_wp2
      go_ret2
      exact ⟨rfl,HQ.out.2⟩
     ·have hR:=HR.out
      rw [if_neg hn] at hR;subst hR;clear HR;go_wp2
      go_ret2
      exact ⟨rfl,HQ.out.2⟩
    ·obtain ⟨hd0,hd1,hd2,hd3⟩:=ho3 (by omega)
     have HD:Hid (∀ z,Cls z->Calls prog 196 #[.agg #[.int .i64 f,.int .i64 l],.agg #[.int .i64 mo,.int .i64 3,.int .i64 wd,.int .i64 d,.int .i64 t,.int .i64 r]] z fun e z'=>e= .returned (.int .i64 (spotDay ⟨mo,3,wd,d,t,r⟩ f l))/\Cls z'):=fun z h=>(mahead_any ⟨mo,3,wd,d,t,r⟩ f l z (by omega) hml (by show 0<=d/\d<=31;omega) (by show 0<=wd/\wd<=7;omega) rfl).mono fun e z' ⟨he,hb⟩=>⟨he,hnext z z' h hb⟩
     have hpk:=pick3;clear hC hstart hnext hCls ho1 ho2 ho3;generalize spotDay ⟨mo,3,wd,d,t,r⟩ f l=n at*
     refine Qt.wp_region_cls Cls (by kernel_rfl) (by kernel_rfl) HS.out ?_
     repeat (go_big_quiet_step (first|(go_at_call 197;exact Qt.quiet_cls (HM.out _ (Qt.In.h _)))|(go_at_call 196;exact Qt.quiet_cls (HD.out _ (Qt.In.h _)))))
     refine wpQuiet_nil ?_
     rintro wq ⟨⟨w9,hq⟩,e9⟩
     have HQ:=hid (HC.out wq (by rw [e9];exact hq))
     clear hq e9 hpk
     by_cases hn:100000000<n
     ·have hR:=HR.out
      rw [if_pos hn] at hR;subst hR;clear HR;go_wp2
      go_ret2
      exact ⟨rfl,HQ.out.2⟩
     ·have hR:=HR.out
      rw [if_neg hn] at hR;subst hR;clear HR;go_wp2
      go_ret2
      exact ⟨rfl,HQ.out.2⟩
def localO (s:Spot) (y:Int):Option Int:=(onO s y).map fun n=>n*86400+s.time
theorem onO_bd {s:Spot} {y n:Int} (h:onO s y=some n):(-100001000<=n/\n<=100000000)/\s.okP/\1<=y/\y<=300000:=by
 unfold onO at h
 split at h
 ·cases h
 ·rename_i hc
  cases hd:daysO y s.month 1 with
  |none=>rw [hd] at h;cases h
  |some f=>
   rw [hd,Option.bind_some] at h
   have hs:spotB s=true:=by
    cases hb:spotB s
    ·exact absurd (.inl hb) hc
    ·rfl
   have hok:=spotB_ok hs;have hb:=daysO_bd hd;have hm:=mlen_bd y s.month
   split at h
   ·cases h
   ·injection h with h
    refine ⟨⟨?_,by omega⟩,hok,by omega,by omega⟩
    obtain ⟨_,_,_,_,_,_,_,_,ho1,ho2,ho3⟩:=hok;have b1:=backI_bd (f+mlen y s.month - 1) s.weekday;have b2:=backI_bd (f+s.day+5) s.weekday;have b3:=backI_bd (f+s.day - 1) s.weekday;rw [<-h];unfold spotDay
    split
    ·have:=ho1 (by omega);omega
    ·split
     ·have:=ho2 (by omega);omega
     ·split
      ·have:=ho3 (by omega);omega
      ·have:=ho3 (by omega);omega
theorem local_any (s:Spot) (y:Int) (w:World):Calls prog 133 #[.agg s.cells.toArray,.int .i64 y] w fun e w'=>e= .returned (dayV (localO s y))/\Below w.heap.size w w':=by
 have HOn:=hid (fun z=>on_any s y z);have hone:=One.new w 67 s.cells.toArray;unfold localO
 cases ho:onO s y with
 |none=>
  rw [ho] at HOn;simp only [dayV,Option.map_none] at HOn ⊢;obtain ⟨mo,k,wd,d,t,r⟩:=s;simp only [Spot.cells] at hone HOn ⊢;obtain ⟨W,hW⟩:∃ W,w.alloc (.cells #[.int .i64 mo,.int .i64 k,.int .i64 wd,.int .i64 d,.int .i64 t,.int .i64 r] 67)=W:=⟨_,rfl⟩;rw [hW] at hone;have HO:=hid hone;have c0:=hone.1.cell;clear hone ho;go_enter func133,ntmps133
  go_wp2_with (go_at_call 172;refine (HOn.out _).mono ?_;rintro e w1 ⟨rfl,hb⟩;have HB:=hid (HO.out.step hb);clear hb)
  go_ret2
  exact ⟨rfl,HB.out.2⟩
 |some n=>
  rw [ho] at HOn;obtain ⟨⟨hn1,hn2⟩,hok,_⟩:=onO_bd ho;simp only [dayV,Option.map_some] at HOn ⊢;obtain ⟨mo,k,wd,d,t,r⟩:=s;obtain ⟨_,_,_,_,ht1,ht2,_⟩:=hok;simp only [Spot.cells] at hone HOn ht1 ht2 ⊢;obtain ⟨W,hW⟩:∃ W,w.alloc (.cells #[.int .i64 mo,.int .i64 k,.int .i64 wd,.int .i64 d,.int .i64 t,.int .i64 r] 67)=W:=⟨_,rfl⟩;rw [hW] at hone;have HO:=hid hone;have c0:=hone.1.cell;clear hone ho;go_enter func133,ntmps133
  go_wp2_with (go_at_call 172;refine (HOn.out _).mono ?_;rintro e w1 ⟨rfl,hb⟩;have hb2:=HO.out.step hb;have c1:=hb2.1.cell;have HB:=hid hb2;clear hb hb2)
  go_ret2
  exact ⟨rfl,HB.out.2⟩
end Mom
end
end
end Go.Proofs.YtmlejgdohcpmjaaGreatDoor
