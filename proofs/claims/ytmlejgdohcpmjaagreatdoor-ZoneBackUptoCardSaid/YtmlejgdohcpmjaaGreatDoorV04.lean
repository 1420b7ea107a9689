/-
  Contracts of the code that the law reaches, and plain laws. Conditions: as each says.
-/
import Derived.Test.YtmlejgdohcpmjaaGreatDoorV01
set_option linter.all false
set_option maxHeartbeats 40000000
set_option maxRecDepth 100000
namespace Go.Proofs.YtmlejgdohcpmjaaGreatDoor
open Lib (hid)
open Tryz
section
section
namespace R05
open Go.RowKit Mem Civ
theorem leap_any (y:Int) (w:World):Calls prog 142 #[.int .i64 y] w fun e w'=>e= .returned (.bool (leapB y))/\w=w':=by
 have h1:=tz y 4;have h2:=tz y 100;have h3:=tz y 400
 have h4:(y % 400 == 0)=true->(y % 4 == 0)=true:=by simp;omega
 unfold leapB;generalize (y % 4 == 0)=c1 at*;generalize (y % 100 == 0)=c2 at*;generalize (y % 400 == 0)=c3 at*;have H4:=hid h4;clear h4;go_enter func142,ntmps142
 cases c1<;>cases c2<;>cases c3
 all_goals
  go_wp2;go_ret
  refine ⟨?_,rfl⟩
  first
   |rfl
   |exact absurd (H4.out (by trivial)) (by simp)
theorem month_any (y m:Int) (w:World):Calls prog 112 #[.int .i64 y,.int .i64 m] w fun e w'=>e= .returned (.int .i64 (mlen y m))/\w=w':=by
 by_cases h0:m=2
 ·subst h0
  obtain ⟨q,hq⟩:∃ q,leapB y=q:=⟨_,rfl⟩
  have e:mlen y 2=if q=true then 29 else 28:=by rw [<-hq];rfl
  have Hl:=hid (leap_any y);rw [hq] at Hl;rw [e];clear e hq;go_enter func112,ntmps112
  cases q
  all_goals
   go_wp2_with (go_at_call 142;refine (Hl.out _).mono ?_;rintro e w1 ⟨rfl,rfl⟩)
   go_ret;exact ⟨rfl,rfl⟩
 ·by_cases h1:m<1\/12<m
  ·have e:mlen y m=0:=if_pos h1
   rw [e];clear e
   have hn:(m == 1)=false/\(m == 2)=false/\(m == 3)=false/\(m == 4)=false/\(m == 5)=false/\(m == 6)=false/\(m == 7)=false/\(m == 8)=false/\(m == 9)=false/\(m == 10)=false/\(m == 11)=false/\(m == 12)=false:=by
    simp only [beq_eq_false_iff_ne];omega
   obtain ⟨n1,n2,n3,n4,n5,n6,n7,n8,n9,n10,n11,n12⟩:=hn;clear h0 h1;go_enter func112,ntmps112;go_wp2;go_ret;exact ⟨rfl,rfl⟩
  ·have hm:m=1\/m=3\/m=4\/m=5\/m=6\/m=7\/m=8\/m=9\/m=10\/m=11\/m=12:=by omega
   rcases hm with rfl|rfl|rfl|rfl|rfl|rfl|rfl|rfl|rfl|rfl|rfl
   all_goals
    go_enter func112,ntmps112;go_wp2;go_ret;exact ⟨rfl,rfl⟩
def ylen (y:Int):Int:=if leapB y=true then 366 else 365
theorem year_any (y:Int) (w:World):Calls prog 111 #[.int .i64 y] w fun e w'=>e= .returned (.int .i64 (ylen y))/\w=w':=by
 unfold ylen;have Hl:=hid (leap_any y);generalize leapB y=q at*;go_enter func111,ntmps111
 cases q
 all_goals
  go_wp2_with (go_at_call 142;refine (Hl.out _).mono ?_;rintro e w1 ⟨rfl,rfl⟩)
  go_ret;exact ⟨rfl,rfl⟩
theorem down_fact (a b:Int) (hf:Fl a b) (ha: -1000000000000000<=a/\a<=1000000000000000) (hb:a.tdiv b*b+a.tmod b=a):wrap64 (a.tdiv b*b)=a.tdiv b*b/\((a.tdiv b*b<=a/\a.tdiv b=a / b)\/(a<a.tdiv b*b/\a.tdiv b - 1=a / b)):=by
 obtain ⟨h1,h2,⟨h3,h4⟩,h5,h6,h7⟩:=hf
 refine ⟨by unfold wrap64;omega,?_⟩
 by_cases h:0<=a.tmod b
 ·exact .inl ⟨by omega,(h1 h).1⟩
 ·exact .inr ⟨by omega,(h2 (by omega)).1⟩
theorem down_any (a b:Int) (w:World) (hf:Fl a b) (ha: -1000000000000000<=a/\a<=1000000000000000):
  Calls prog 110 #[.int .i64 a,.int .i64 b] w fun e w'=>e= .returned (.int .i64 (a / b))/\w=w':=by
 have hb:a.tdiv b*b+a.tmod b=a:=by rw [Int.mul_comm];exact Int.mul_tdiv_add_tmod a b
 obtain ⟨e1,e2⟩:=down_fact a b hf ha hb;obtain ⟨_,_,_,hq,hb0,_⟩:=hf
 have hbn:¬ b=0:=by omega
 have hw1:wrap64 (a.tdiv b)=a.tdiv b:=by unfold wrap64;omega
 obtain ⟨q,hq1⟩:∃ q,a.tdiv b=q:=⟨_,rfl⟩
 have hw2:wrap64 (q - 1)=q - 1:=by unfold wrap64;omega
 obtain ⟨r,hr⟩:∃ r,a / b=r:=⟨_,rfl⟩;rw [hq1] at e1 e2 hw1;rw [hr] at e2 ⊢;have HE:=hid e2;clear hb e2;go_enter func110,ntmps110
 by_cases hc:a<q*b
 ·have hcb:decide (a<q*b)=true:=decide_eq_true hc
  obtain rfl:q - 1=r:=by have:=HE.out;omega
  clear hc HE hr;go_wp2;go_ret;exact ⟨rfl,rfl⟩
 ·have hcb:decide (a<q*b)=false:=decide_eq_false hc
  obtain rfl:q=r:=by have:=HE.out;omega
  clear hc HE;go_wp2;go_ret;exact ⟨rfl,rfl⟩
theorem leap_iff (y:Int):leapB y=true↔(y % 4=0/\(¬ y % 100=0\/y % 400=0)):=by
 simp [leapB]
theorem jan_era (c:Int):countI (400*c) 1 1=c*146097 - 719528:=by
 unfold countI
 simp only [show (1:Int)<3 from by decide,if_true]
 omega
theorem jan_step (y:Int):countI (y+1) 1 1=countI y 1 1+ylen y:=by
 unfold countI ylen
 simp only [show (1:Int)<3 from by decide,if_true]
 have h:=leap_iff y
 by_cases hl:leapB y=true
 ·rw [if_pos hl]
  have:=h.1 hl;omega
 ·rw [if_neg hl]
  have h2:¬ (y % 4=0/\(¬ y % 100=0\/y % 400=0)):=fun e=>hl (h.2 e);omega
theorem count_bd {y m d:Int} (hy: -300000<=y/\y<=300000) (hm:1<=m/\m<=12) (hd:0<=d/\d<=31): -200000000<=countI y m d/\countI y m d<=200000000:=by
 unfold countI;simp only
 split<;>omega
theorem month_step {y m:Int} (hm:1<=m/\m<=11):countI y (m+1) 1=countI y m 1+mlen y m:=by
 have h:=leap_iff y
 have hc:m=1\/m=2\/m=3\/m=4\/m=5\/m=6\/m=7\/m=8\/m=9\/m=10\/m=11:=by omega
 rcases hc with rfl|rfl|rfl|rfl|rfl|rfl|rfl|rfl|rfl|rfl|rfl
 case inr.inl=>
  by_cases hl:leapB y=true
  ·have:=h.1 hl
   simp [countI,mlen,hl];omega
  ·have h2:¬ (y % 4=0/\(¬ y % 100=0\/y % 400=0)):=fun e=>hl (h.2 e)
   simp [countI,mlen,hl];omega
 all_goals
  simp [countI,mlen];omega
theorem january_any (y:Int) (w:World) (hy: -290000<=y/\y<=290000):Calls prog 199 #[.int .i64 y] w fun e w'=>e= .returned (.int .i64 (countI y 1 1))/\w=w':=by
 have HD:=hid (down_any y 400 w (fl_400 y (by omega)) (by omega))
 have hc:400*(y / 400)<=y/\y<400*(y / 400)+400:=by omega
 have hw0:∀ z:Int,-1000000000<=z/\z<=1000000000->wrap64 z=z:=fun z hz=>by unfold wrap64;omega
 generalize y / 400=c at*
 have hw1:=hw0 (c*146097) (by omega)
 have hw2:=hw0 (c*146097 - 719528) (by omega)
 have hw3:=hw0 (400*c) (by omega)
 have HC:=hid hc;have HY:=hid hy;clear hc hy hw0;go_enter func199,ntmps199
 go_wp2_with (go_at_call 110;refine HD.out.mono ?_;rintro e w1 ⟨rfl,rfl⟩)
 go_loopw [4,5] (fun n k wr=>∃ j:Nat,400*c+j<=y/\k= .int .i64 (400*c+j)/\n= .int .i64 (countI (400*c+j) 1 1)/\wr=w) (fun _ k _=>(y - intOf k).toNat)
 case atStart=>exact ⟨0,by have:=HC.out;omega,by rw [hw3];simp,by rw [hw2,show (400*c+((0:Nat):Int))=400*c by omega,jan_era],rfl⟩
 case round=>
  clear hw1 hw2 hw3;obtain ⟨j,hj,rfl,rfl,rfl⟩:=hrel
  by_cases hlt:400*c+(j:Int)<y
  ·have hb:=count_bd (y:=400*c+j) (m:=1) (d:=1) (by have:=HC.out;have:=HY.out;omega) (by omega) (by omega)
   have hst:=jan_step (400*c+j);have HB:=hid hb;have HS:=hid hst
   have hyl:ylen (400*c+j)=365\/ylen (400*c+j)=366:=by unfold ylen;split<;>simp
   have HYr:=hid (year_any (400*c+j) wr);clear hb hst;generalize countI (400*c+(j:Int)) 1 1=n at*;generalize ylen (400*c+(j:Int))=yl at*
   have hw4:wrap64 (n+yl)=n+yl:=by have:=HB.out;unfold wrap64;omega
   have hw5:wrap64 (400*c+j+1)=400*c+j+1:=by have:=HC.out;have:=HY.out;unfold wrap64;omega
   go_wp2_with (go_at_call 111;refine HYr.out.mono ?_;rintro e w1 ⟨rfl,rfl⟩)
   have hend:∃ j':Nat,400*c+j'<=y/\Value.int .i64 (wrap64 (400*c+j+1))= .int .i64 (400*c+j')/\Value.int .i64 (wrap64 (n+yl))= .int .i64 (countI (400*c+j') 1 1)/\True:=
    ⟨j+1,by omega,by rw [hw5,show (400*c+((j+1:Nat):Int))=400*c+j+1 by omega],by rw [hw4,show (400*c+((j+1:Nat):Int))=400*c+j+1 by omega,HS.out],trivial⟩
   exact ⟨hend,by simp [intOf];omega⟩
  ·obtain rfl:400*c+(j:Int)=y:=by omega
   go_wp2;go_ret;exact ⟨rfl,rfl⟩
theorem days_no {y m d:Int} (h:y< -280000\/280000<y\/m<1\/12<m\/d<1\/mlen y m<d):daysO y m d=none:=by
 unfold daysO;have:=@mlen_m y m d
 by_cases h2:y< -271821\/275760<y\/d<1\/mlen y m<d
 ·rw [if_pos h2]
 ·have:=this (by omega) (by omega)
  omega
theorem days_yes {y m d:Int} (h:¬ (y< -280000\/280000<y\/m<1\/12<m\/d<1\/mlen y m<d)):daysO y m d=if countI y m d< -100000001\/100000000<countI y m d then none else some (countI y m d):=by
 unfold daysO;have hl:=mlen_bd y m
 by_cases h2:y< -271821\/275760<y\/d<1\/mlen y m<d
 ·rw [if_pos h2,if_pos]
  unfold countI;simp only
  split<;>omega
 ·rw [if_neg h2]
theorem count_day (y m d:Int):countI y m d=countI y m 1+d - 1:=by
 unfold countI;simp only
 split<;>omega
theorem days_any (y m d:Int) (w:World):
  Calls prog 178 #[.agg #[.int .i64 y,.int .i64 m,.int .i64 d]] w fun e w'=>e= .returned (dayV (daysO y m d))/\Below w.heap.size w w':=by
 have hone:=One.new w 115 #[.int .i64 y,.int .i64 m,.int .i64 d];obtain ⟨W,hW⟩:∃ W,w.alloc (.cells #[.int .i64 y,.int .i64 m,.int .i64 d] 115)=W:=⟨_,rfl⟩;rw [hW] at hone;obtain ⟨Cls,hCls⟩:∃ C:World->Prop,C=One w w.heap.size 115 #[.int .i64 y,.int .i64 m,.int .i64 d]:=⟨_,rfl⟩
 have hC:∀ z,Cls z->One w w.heap.size 115 #[.int .i64 y,.int .i64 m,.int .i64 d] z:=fun z h=>by rw [hCls] at h;exact h
 have hstart:Cls W.drew:=by rw [hCls];exact hone.drew
 have inst:Nonempty (Qt.In Cls):=⟨⟨_,hstart⟩⟩;have z0:∀ z:Qt.In Cls,z.w.cell? ⟨w.heap.size,0,none⟩=some (.int .i64 y):=fun z=>(hC z.w z.h).1.cell 0;have z1:∀ z:Qt.In Cls,z.w.cell? ⟨w.heap.size,1,none⟩=some (.int .i64 m):=fun z=>(hC z.w z.h).1.cell 1;have z2:∀ z:Qt.In Cls,z.w.cell? ⟨w.heap.size,2,none⟩=some (.int .i64 d):=fun z=>(hC z.w z.h).1.cell 2
 have HM:Hid (∀ z,Cls z->Calls prog 112 #[.int .i64 y,.int .i64 m] z fun e z'=>e= .returned (.int .i64 (mlen y m))/\Cls z'):=fun z h=>(month_any y m z).mono fun e z' ⟨he,hb⟩=>⟨he,by subst hb;exact h⟩
 have HC:=hid hC;have HS:=hid hstart;clear hone hCls hC hstart;have hn0:=@days_no y m d;have hn1:=@days_yes y m d;have hcd:=count_day y m d;have hb31:=mlen_bd y m;obtain ⟨R,hR⟩:∃ R,daysO y m d=R:=⟨_,rfl⟩;rw [hR];rw [hR] at hn0 hn1;clear hR;go_enter func178,ntmps178;go_wp2
 cases h1:decide (y< -280000);rotate_left
 ·have hno:y< -280000\/280000<y\/m<1\/12<m\/d<1\/mlen y m<d:=by simp at h1;omega
  have hr:=hn0 hno;clear hno hn0 hn1;subst hr
  refine Qt.wp_region_cls Cls (by kernel_rfl) (by kernel_rfl) HS.out ?_
  repeat (go_big_quiet_step (exact Qt.quiet_cls (HM.out _ (Qt.In.h _))))
  refine wpQuiet_nil ?_
  rintro wq ⟨⟨w9,hq⟩,e9⟩
  have HQ:=hid (HC.out wq (by rw [e9];exact hq))
  clear hq e9;go_wp2
  go_ret2
  exact ⟨rfl,HQ.out.2⟩
 cases h2:decide (280000<y);rotate_left
 ·have hno:y< -280000\/280000<y\/m<1\/12<m\/d<1\/mlen y m<d:=by simp at h2;omega
  have hr:=hn0 hno;clear hno hn0 hn1;subst hr
  refine Qt.wp_region_cls Cls (by kernel_rfl) (by kernel_rfl) HS.out ?_
  repeat (go_big_quiet_step (exact Qt.quiet_cls (HM.out _ (Qt.In.h _))))
  refine wpQuiet_nil ?_
  rintro wq ⟨⟨w9,hq⟩,e9⟩
  have HQ:=hid (HC.out wq (by rw [e9];exact hq))
  clear hq e9;go_wp2
  go_ret2
  exact ⟨rfl,HQ.out.2⟩
 cases h3:decide (m<1);rotate_left
 ·have hno:y< -280000\/280000<y\/m<1\/12<m\/d<1\/mlen y m<d:=by simp at h3;omega
  have hr:=hn0 hno;clear hno hn0 hn1;subst hr
  refine Qt.wp_region_cls Cls (by kernel_rfl) (by kernel_rfl) HS.out ?_
  repeat (go_big_quiet_step (exact Qt.quiet_cls (HM.out _ (Qt.In.h _))))
  refine wpQuiet_nil ?_
  rintro wq ⟨⟨w9,hq⟩,e9⟩
  have HQ:=hid (HC.out wq (by rw [e9];exact hq))
  clear hq e9;go_wp2
  go_ret2
  exact ⟨rfl,HQ.out.2⟩
 cases h4:decide (12<m);rotate_left
 ·have hno:y< -280000\/280000<y\/m<1\/12<m\/d<1\/mlen y m<d:=by simp at h4;omega
  have hr:=hn0 hno;clear hno hn0 hn1;subst hr
  refine Qt.wp_region_cls Cls (by kernel_rfl) (by kernel_rfl) HS.out ?_
  repeat (go_big_quiet_step (exact Qt.quiet_cls (HM.out _ (Qt.In.h _))))
  refine wpQuiet_nil ?_
  rintro wq ⟨⟨w9,hq⟩,e9⟩
  have HQ:=hid (HC.out wq (by rw [e9];exact hq))
  clear hq e9;go_wp2
  go_ret2
  exact ⟨rfl,HQ.out.2⟩
 cases h5:decide (d<1);rotate_left
 ·have hno:y< -280000\/280000<y\/m<1\/12<m\/d<1\/mlen y m<d:=by simp at h5;omega
  have hr:=hn0 hno;clear hno hn0 hn1;subst hr
  refine Qt.wp_region_cls Cls (by kernel_rfl) (by kernel_rfl) HS.out ?_
  repeat (go_big_quiet_step (exact Qt.quiet_cls (HM.out _ (Qt.In.h _))))
  refine wpQuiet_nil ?_
  rintro wq ⟨⟨w9,hq⟩,e9⟩
  have HQ:=hid (HC.out wq (by rw [e9];exact hq))
  clear hq e9;go_wp2
  go_ret2
  exact ⟨rfl,HQ.out.2⟩
 cases h6:decide (mlen y m<d);rotate_left
 ·have hno:y< -280000\/280000<y\/m<1\/12<m\/d<1\/mlen y m<d:=by simp at h6;omega
  have hr:=hn0 hno;clear hno hn0 hn1;subst hr
  refine Qt.wp_region_cls Cls (by kernel_rfl) (by kernel_rfl) HS.out ?_
  repeat (go_big_quiet_step (exact Qt.quiet_cls (HM.out _ (Qt.In.h _))))
  refine wpQuiet_nil ?_
  rintro wq ⟨⟨w9,hq⟩,e9⟩
  have HQ:=hid (HC.out wq (by rw [e9];exact hq))
  clear hq e9;go_wp2
  go_ret2
  exact ⟨rfl,HQ.out.2⟩
 have hno:¬ (y< -280000\/280000<y\/m<1\/12<m\/d<1\/mlen y m<d):=by simp at h1 h2 h3 h4 h5 h6;omega
 have HR:=hid (hn1 hno)
 have HJ:=hid (fun z=>january_any y z (by omega))
 have HV:=hid hno;clear hn0 hn1 hno
 refine Qt.wp_region_cls Cls (by kernel_rfl) (by kernel_rfl) HS.out ?_
 repeat (go_big_quiet_step (exact Qt.quiet_cls (HM.out _ (Qt.In.h _))))
 refine wpQuiet_nil ?_
 rintro wq ⟨⟨w9,hq⟩,e9⟩
 have hq2:=HC.out wq (by rw [e9];exact hq)
 clear hq e9;have cq:=hq2.1.cell;have HQ:=hid hq2;clear hq2 h1 h2 h3 h4 h5 h6
 go_wp2_with (go_at_call 199;refine (HJ.out _).mono ?_;rintro e w1 ⟨rfl,rfl⟩)
 go_loopw [4,5] (fun n k wr=>∃ j:Int,1<=j/\j<=m/\k= .int .i64 j/\n= .int .i64 (countI y j 1)/\wr=wq) (fun _ k _=>(m - intOf k).toNat)
 case atStart=>exact ⟨1,by omega,by have:=HV.out;omega,rfl,rfl,rfl⟩
 case round=>
  obtain ⟨j,hj1,hj2,rfl,rfl,rfl⟩:=hrel
  by_cases hlt:j<m
  ·have hb:=count_bd (y:=y) (m:=j) (d:=1) (by have:=HV.out;omega) (by have:=HV.out;omega) (by omega)
   have hst:=month_step (y:=y) (m:=j) (by have:=HV.out;omega)
   have hl:=mlen_bd y j;have HB:=hid hb;have HS:=hid hst;have HMj:=hid (month_any y j wr);have hv:=HV.out;clear hb hst hcd;generalize countI y j 1=n at*;generalize mlen y j=l at*
   have hw4:wrap64 (n+l)=n+l:=by have:=HB.out;unfold wrap64;omega
   have hw5:wrap64 (j+1)=j+1:=by unfold wrap64;omega
   clear hv
   go_wp2_with (go_at_call 112;refine HMj.out.mono ?_;rintro e w1 ⟨rfl,rfl⟩)
   exact ⟨⟨j+1,by omega,by omega,by rw [hw5],by rw [hw4,HS.out],trivial⟩,by simp [intOf];omega⟩
  ·obtain rfl:j=m:=by omega
   have hb:=count_bd (y:=y) (m:=j) (d:=1) (by have:=HV.out;omega) (by have:=HV.out;omega) (by omega)
   have hv:=HV.out;have hr:=HR.out;rw [hcd] at hr;have HR:=hid hr;clear hr;generalize countI y j 1=n at*
   have hw4:wrap64 (n+d)=n+d:=by unfold wrap64;omega
   have hw5:wrap64 (n+d - 1)=n+d - 1:=by unfold wrap64;omega
   clear hb hv hcd hj1 hj2 hb31
   cases h1:decide (n+d - 1< -100000001)
   ·cases h2:decide (100000000<n+d - 1)
    ·have hr:=HR.out
     rw [if_neg (by simp at h1 h2;omega)] at hr
     subst hr;clear HR;go_wp2
     go_ret2
     exact ⟨rfl,HQ.out.2⟩
    ·have hr:=HR.out
     rw [if_pos (by simp at h2;omega)] at hr
     subst hr;clear HR;go_wp2
     go_ret2
     exact ⟨rfl,HQ.out.2⟩
   ·have hr:=HR.out
    rw [if_pos (by simp at h1;omega)] at hr
    subst hr;clear HR;go_wp2
    go_ret2
    exact ⟨rfl,HQ.out.2⟩
end R05
end
end
section
section
namespace R09
open Go.RowKit Mem Civ Mom
theorem right_any (s:Spot) (w:World):Calls prog 64 #[.agg s.cells.toArray] w fun e w'=>e= .returned (.bool (spotB s))/\w'=w.alloc (.cells s.cells.toArray 67):=by
 obtain ⟨mo,k,wd,d,t,r⟩:=s;obtain ⟨q,hq⟩:∃ q,spotB ⟨mo,k,wd,d,t,r⟩=q:=⟨_,rfl⟩;rw [hq];have HQ:=hid hq;simp only [Spot.cells];clear hq;go_enter func64,ntmps64
 by_cases hb:1<=mo/\mo<=12/\0<=k/\k<=3/\-604799<=t/\t<=604799/\0<=r/\r<=2
 ·obtain ⟨h1,h2,h3,h4,h5,h6,h7,h8⟩:=hb
  have hk:k=0\/k=1\/k=2\/k=3:=by omega
  rcases hk with rfl|rfl|rfl|rfl
  all_goals
   go_wp2
   all_goals
    go_ret
    refine ⟨ret_b (a:=_) ?_,by first|rfl|simp_all⟩
    rw [<-HQ.out,Bool.eq_iff_iff]
    simp [spotB,Spot.okP]<;>omega
 ·have hs:q=false:=HQ.out ▸ spotB_false (fun h=>hb ⟨h.1,h.2.1,h.2.2.1,h.2.2.2.1,h.2.2.2.2.1,h.2.2.2.2.2.1,h.2.2.2.2.2.2.1,h.2.2.2.2.2.2.2.1⟩)
  subst hs;clear HQ
  have hz:mo<1\/(1<=mo/\12<mo)\/((1<=mo/\mo<=12)/\k<0)\/((1<=mo/\mo<=12)/\0<=k/\3<k)\/((1<=mo/\mo<=12)/\(0<=k/\k<=3)/\t< -604799)\/((1<=mo/\mo<=12)/\(0<=k/\k<=3)/\-604799<=t/\604799<t)\/
    ((1<=mo/\mo<=12)/\(0<=k/\k<=3)/\(-604799<=t/\t<=604799)/\r<0)\/((1<=mo/\mo<=12)/\(0<=k/\k<=3)/\(-604799<=t/\t<=604799)/\0<=r/\2<r):=by omega
  clear hb
  rcases hz with h1|⟨h1,h2⟩|⟨⟨h1,h2⟩,h3⟩|⟨⟨h1,h2⟩,h3,h4⟩|⟨⟨h1,h2⟩,⟨h3,h4⟩,h5⟩|⟨⟨h1,h2⟩,⟨h3,h4⟩,h5,h6⟩|⟨⟨h1,h2⟩,⟨h3,h4⟩,⟨h5,h6⟩,h7⟩|⟨⟨h1,h2⟩,⟨h3,h4⟩,⟨h5,h6⟩,h7,h8⟩
  all_goals
   go_wp2;go_ret;exact ⟨rfl,rfl⟩
theorem back_zero {n wd:Int} (hw:1<=wd/\wd<=7):(n - backI n wd+3) % 7+1=wd:=by unfold backI;omega
def startI (s:Spot) (f l:Int):Int:=if s.kind=1 then f+l - 1 else f+s.day - 1
def wayI (k:Int):Int:=if k=0 then 0 else if k=2 then 1 else -1
theorem target {s:Spot} (h:s.okP) (f l:Int):(s.kind=0->spotDay s f l=startI s f l)/\(s.kind≠0->(spotDay s f l+3) % 7+1=s.weekday)/\
  ∃ j:Nat,j<=6/\startI s f l=spotDay s f l - wayI s.kind*j:=by
 obtain ⟨h1,h2,h3,h4,h5,h6,h7,h8,h9,h10,h11⟩:=h
 have hk:s.kind=0\/s.kind=1\/s.kind=2\/s.kind=3:=by omega
 rcases hk with hk|hk|hk|hk
 ·have e1:spotDay s f l=startI s f l:=by simp [spotDay,startI,hk]
  exact ⟨fun _=>e1,fun e=>absurd hk e,0,by omega,by rw [e1];simp⟩
 ·have e1:spotDay s f l=startI s f l - backI (startI s f l) s.weekday:=by simp [spotDay,startI,hk]
  have hb:=backI_bd (startI s f l) s.weekday
  refine ⟨fun e=>absurd e (by omega),fun _=>by rw [e1];exact back_zero (by have:=h10 hk;omega),(backI (startI s f l) s.weekday).toNat,by omega,?_⟩
  rw [e1]
  simp only [wayI,hk,show ¬ ((1:Int)=0) from by decide,show ¬ ((1:Int)=2) from by decide,if_false]
  omega
 ·have e1:spotDay s f l=startI s f l+6 - backI (startI s f l+6) s.weekday:=by
   simp only [spotDay,startI,hk,show ¬ ((2:Int)=0) from by decide,show ¬ ((2:Int)=1) from by decide,if_false,if_true]
   rw [show f+s.day - 1+6=f+s.day+5 by omega]
  have hb:=backI_bd (startI s f l+6) s.weekday
  refine ⟨fun e=>absurd e (by omega),fun _=>by rw [e1];exact back_zero (by have:=h11 (by omega);omega),(6 - backI (startI s f l+6) s.weekday).toNat,by omega,?_⟩
  rw [e1]
  simp only [wayI,hk,show ¬ ((2:Int)=0) from by decide,if_false,if_true]
  omega
 ·have e1:spotDay s f l=startI s f l - backI (startI s f l) s.weekday:=by
   simp [spotDay,startI,hk]
  have hb:=backI_bd (startI s f l) s.weekday
  refine ⟨fun e=>absurd e (by omega),fun _=>by rw [e1];exact back_zero (by have:=h11 (by omega);omega),(backI (startI s f l) s.weekday).toNat,by omega,?_⟩
  rw [e1]
  simp only [wayI,hk,show ¬ ((3:Int)=0) from by decide,show ¬ ((3:Int)=2) from by decide,if_false]
  omega
theorem target4 {s:Spot} (h:s.okP) (f l:Int):(s.kind=0->spotDay s f l=f+s.day - 1)/\(s.kind=1->∃ j:Nat,j<=6/\f+l - 1=spotDay s f l+j)/\(s.kind=2->∃ j:Nat,j<=6/\f+s.day - 1=spotDay s f l - j)/\
  (s.kind=3->∃ j:Nat,j<=6/\f+s.day - 1=spotDay s f l+j)/\(s.kind≠0->(spotDay s f l+3) % 7+1=s.weekday):=by
 obtain ⟨t0,t1,j,hj,t2⟩:=target h f l
 refine ⟨fun e=>by rw [t0 e];simp [startI,e],fun e=>⟨j,hj,?_⟩,fun e=>⟨j,hj,?_⟩,fun e=>⟨j,hj,?_⟩,t1⟩
 all_goals
  simp [startI,wayI,e] at t2;omega
theorem down_at {n:Int} (h: -300000000<=n/\n<=300000000):wrap64 (n+3)=n+3/\wrap64 (7*((n+3) / 7))=7*((n+3) / 7)/\wrap64 (n+3 - 7*((n+3) / 7))=n+3 - 7*((n+3) / 7)/\wrap64 (n+3 - 7*((n+3) / 7)+1)=n+3 - 7*((n+3) / 7)+1:=by
 unfold wrap64;omega
theorem on_k0 (mo wd d t r y f:Int) (w:World) (hsb:spotB ⟨mo,0,wd,d,t,r⟩=true) (hy:1<=y/\y<=300000) (hd:daysO y mo 1=some f):
  Calls prog 143 #[.agg #[.int .i64 mo,.int .i64 0,.int .i64 wd,.int .i64 d,.int .i64 t,.int .i64 r],.int .i64 y] w
   fun e w'=>e= .returned (dayV (if 100000000<spotDay ⟨mo,0,wd,d,t,r⟩ f (mlen y mo) then none else some (spotDay ⟨mo,0,wd,d,t,r⟩ f (mlen y mo))))/\Below w.heap.size w w':=by
 have hfb:=daysO_bd hd;have hl:=mlen_bd y mo;have hokp:=spotB_ok hsb;have hT4:=target4 hokp f (mlen y mo)
 have hdd:0<=d/\d<=31:=by
  obtain ⟨_,_,_,_,_,_,_,_,a,b,c⟩:=hokp;have:=a rfl;simp only at this;omega
 have HRt:Hid (∀ z,Calls prog 64 #[.agg #[.int .i64 mo,.int .i64 0,.int .i64 wd,.int .i64 d,.int .i64 t,.int .i64 r]] z fun e z'=>e= .returned (.bool true)/\z'=z.alloc (.cells #[.int .i64 mo,.int .i64 0,.int .i64 wd,.int .i64 d,.int .i64 t,.int .i64 r] 67)):=fun z=>by
  have h:=right_any ⟨mo,0,wd,d,t,r⟩ z;rw [hsb] at h;exact h
 have HDa:Hid (∀ z,Calls prog 178 #[.agg #[.int .i64 y,.int .i64 mo,.int .i64 1]] z fun e z'=>e= .returned (.tuple #[.int .i64 f,.bool true])/\Below z.heap.size z z'):=fun z=>by
  have h:=R05.days_any y mo 1 z;rw [hd] at h;exact h
 have HM:=hid (fun z=>R05.month_any y mo z);simp only at hT4;generalize mlen y mo=l at*;generalize spotDay ⟨mo,0,wd,d,t,r⟩ f l=T at*;have hone:=One.new w 67 #[.int .i64 mo,.int .i64 0,.int .i64 wd,.int .i64 d,.int .i64 t,.int .i64 r];obtain ⟨W,hW⟩:∃ W,w.alloc (.cells #[.int .i64 mo,.int .i64 0,.int .i64 wd,.int .i64 d,.int .i64 t,.int .i64 r] 67)=W:=⟨_,rfl⟩;rw [hW] at hone;have HO:=hid hone;have c0:=hone.1.cell;obtain ⟨Cls,hCls⟩:∃ C:World->Prop,C=Civ.One w w.heap.size 67 #[.int .i64 mo,.int .i64 0,.int .i64 wd,.int .i64 d,.int .i64 t,.int .i64 r]:=⟨_,rfl⟩
 have hC:∀ z,Cls z->Civ.One w w.heap.size 67 #[.int .i64 mo,.int .i64 0,.int .i64 wd,.int .i64 d,.int .i64 t,.int .i64 r] z:=fun z h=>by rw [hCls] at h;exact h
 have inst:Nonempty (Qt.In Cls):=⟨⟨W,by rw [hCls];exact hone⟩⟩
 have z2:∀ z:Qt.In Cls,z.w.cell? ⟨w.heap.size,2,none⟩=some (.int .i64 wd):=fun z=>(hC z.w z.h).1.cell 2
 have HDr:Hid (∀ z,Cls z->Cls z.drew):=fun z h=>by rw [hCls] at h ⊢;exact h.drew
 have HCl:=hid hCls
 have hw1:wrap64 (f+d)=f+d:=by unfold wrap64;omega
 have hw2:wrap64 (f+d - 1)=f+d - 1:=by unfold wrap64;omega
 have hw3:wrap64 (f+l)=f+l:=by unfold wrap64;omega
 have hw4:wrap64 (f+l - 1)=f+l - 1:=by unfold wrap64;omega
 obtain ⟨R,hR⟩:∃ R,(if 100000000<T then none else some T)=R:=⟨_,rfl⟩
 rw [hR];have HR:=hid hR;have HT4:=hid hT4
 have y1:decide (y<1)=false:=decide_eq_false (by omega)
 have y2:decide (300000<y)=false:=decide_eq_false (by omega)
 clear hone hCls hC hR hT4 hokp hsb hd hy
 have e0:T=f+d - 1:=HT4.out.1 (by trivial)
 subst e0;clear HT4 hfb hl hdd;go_enter func143,ntmps143
 go_wp2_with (first
   |(go_at_call 64;refine (HRt.out _).mono ?_;rintro e w1 ⟨rfl,hb⟩;have HB1:=hid (HO.out.step (below_of_eq hb));have c1:=fun i=>(HO.out.step (below_of_eq hb)).1.cell i;clear hb)
   |(go_at_call 178;refine (HDa.out _).mono ?_;rintro e w2 ⟨rfl,hb⟩;have HB2:=hid (HB1.out.step hb);have c2:=fun i=>(HB1.out.step hb).1.cell i;clear hb)
   |(go_at_call 112;refine (HM.out _).mono ?_;rintro e w3 ⟨rfl,rfl⟩))
 have hC2:Cls w2.drew:=HDr.out _ (by rw [HCl.out];exact HB2.out)
 refine wp_loop_once ?_
 go_wp2
 refine Qt.wp_region_cls Cls (by kernel_rfl) (by kernel_rfl) hC2 ?_
 repeat (go_big_quiet_step (fail))
 refine wpQuiet_nil ?_
 rintro wq ⟨⟨w9,hq⟩,e9⟩
 have HQ:Hid (Civ.One w w.heap.size 67 #[.int .i64 mo,.int .i64 0,.int .i64 wd,.int .i64 d,.int .i64 t,.int .i64 r] wq):=by rw [<-HCl.out,e9];exact hq
 clear hq e9 c0 c1 c2 hC2;generalize f+d - 1=T at*
 cases h3:decide (100000000<T)
 ·have hr:R=some T:=by rw [<-HR.out,if_neg (by simpa using h3)]
  subst hr;clear HR;go_wp2
  go_ret2
  exact ⟨by first|rfl|(simp [dayV,hw2];done),HQ.out.2⟩
 ·have hr:R=none:=by rw [<-HR.out,if_pos (by simpa using h3)]
  subst hr;clear HR;go_wp2
  go_ret2
  exact ⟨by first|rfl|(simp [dayV,hw2];done),HQ.out.2⟩
theorem on_k1 (mo wd d t r y f:Int) (w:World) (hsb:spotB ⟨mo,1,wd,d,t,r⟩=true) (hy:1<=y/\y<=300000) (hd:daysO y mo 1=some f):
  Calls prog 143 #[.agg #[.int .i64 mo,.int .i64 1,.int .i64 wd,.int .i64 d,.int .i64 t,.int .i64 r],.int .i64 y] w
   fun e w'=>e= .returned (dayV (if 100000000<spotDay ⟨mo,1,wd,d,t,r⟩ f (mlen y mo) then none else some (spotDay ⟨mo,1,wd,d,t,r⟩ f (mlen y mo))))/\Below w.heap.size w w':=by
 have hfb:=daysO_bd hd;have hl:=mlen_bd y mo;have hokp:=spotB_ok hsb;have hT4:=target4 hokp f (mlen y mo)
 have hdd:0<=d/\d<=31:=by
  obtain ⟨_,_,_,_,_,_,_,_,a,b,c⟩:=hokp;have:=b rfl;simp only at this;omega
 have HRt:Hid (∀ z,Calls prog 64 #[.agg #[.int .i64 mo,.int .i64 1,.int .i64 wd,.int .i64 d,.int .i64 t,.int .i64 r]] z fun e z'=>e= .returned (.bool true)/\z'=z.alloc (.cells #[.int .i64 mo,.int .i64 1,.int .i64 wd,.int .i64 d,.int .i64 t,.int .i64 r] 67)):=fun z=>by
  have h:=right_any ⟨mo,1,wd,d,t,r⟩ z;rw [hsb] at h;exact h
 have HDa:Hid (∀ z,Calls prog 178 #[.agg #[.int .i64 y,.int .i64 mo,.int .i64 1]] z fun e z'=>e= .returned (.tuple #[.int .i64 f,.bool true])/\Below z.heap.size z z'):=fun z=>by
  have h:=R05.days_any y mo 1 z;rw [hd] at h;exact h
 have HM:=hid (fun z=>R05.month_any y mo z);simp only at hT4;generalize mlen y mo=l at*;generalize spotDay ⟨mo,1,wd,d,t,r⟩ f l=T at*;have hone:=One.new w 67 #[.int .i64 mo,.int .i64 1,.int .i64 wd,.int .i64 d,.int .i64 t,.int .i64 r];obtain ⟨W,hW⟩:∃ W,w.alloc (.cells #[.int .i64 mo,.int .i64 1,.int .i64 wd,.int .i64 d,.int .i64 t,.int .i64 r] 67)=W:=⟨_,rfl⟩;rw [hW] at hone;have HO:=hid hone;have c0:=hone.1.cell;obtain ⟨Cls,hCls⟩:∃ C:World->Prop,C=Civ.One w w.heap.size 67 #[.int .i64 mo,.int .i64 1,.int .i64 wd,.int .i64 d,.int .i64 t,.int .i64 r]:=⟨_,rfl⟩
 have hC:∀ z,Cls z->Civ.One w w.heap.size 67 #[.int .i64 mo,.int .i64 1,.int .i64 wd,.int .i64 d,.int .i64 t,.int .i64 r] z:=fun z h=>by rw [hCls] at h;exact h
 have inst:Nonempty (Qt.In Cls):=⟨⟨W,by rw [hCls];exact hone⟩⟩
 have z2:∀ z:Qt.In Cls,z.w.cell? ⟨w.heap.size,2,none⟩=some (.int .i64 wd):=fun z=>(hC z.w z.h).1.cell 2
 have HDr:Hid (∀ z,Cls z->Cls z.drew):=fun z h=>by rw [hCls] at h ⊢;exact h.drew
 have HCl:=hid hCls
 have hw1:wrap64 (f+d)=f+d:=by unfold wrap64;omega
 have hw2:wrap64 (f+d - 1)=f+d - 1:=by unfold wrap64;omega
 have hw3:wrap64 (f+l)=f+l:=by unfold wrap64;omega
 have hw4:wrap64 (f+l - 1)=f+l - 1:=by unfold wrap64;omega
 obtain ⟨R,hR⟩:∃ R,(if 100000000<T then none else some T)=R:=⟨_,rfl⟩
 rw [hR];have HR:=hid hR;have HT4:=hid hT4
 have y1:decide (y<1)=false:=decide_eq_false (by omega)
 have y2:decide (300000<y)=false:=decide_eq_false (by omega)
 clear hone hCls hC hR hT4 hokp hsb hd hy
 obtain ⟨j0,hj0,e0⟩:=HT4.out.2.1 (by trivial)
 have hT1:=HT4.out.2.2.2.2 (by decide)
 have hTb: -200000000<=T/\T<=200000000:=by omega
 have E0:=hid e0;have HT1:=hid hT1;have HTb:=hid hTb;clear e0 hT1 hTb HT4 hfb hl hdd;go_enter func143,ntmps143
 go_wp2_with (first
   |(go_at_call 64;refine (HRt.out _).mono ?_;rintro e w1 ⟨rfl,hb⟩;have HB1:=hid (HO.out.step (below_of_eq hb));have c1:=fun i=>(HO.out.step (below_of_eq hb)).1.cell i;clear hb)
   |(go_at_call 178;refine (HDa.out _).mono ?_;rintro e w2 ⟨rfl,hb⟩;have HB2:=hid (HB1.out.step hb);have c2:=fun i=>(HB1.out.step hb).1.cell i;clear hb)
   |(go_at_call 112;refine (HM.out _).mono ?_;rintro e w3 ⟨rfl,rfl⟩))
 have hC2:Cls w2:=by rw [HCl.out];exact HB2.out
 go_loopw [8] (fun n wr=>∃ (j:Nat) (v:Int),j<=6/\T+j=v/\n= .int .i64 v/\Cls wr) (fun n _=>(intOf n - T).toNat)
 case atStart=>exact ⟨j0,_,hj0,rfl,by first|(rw [hw4,E0.out];done)|(rw [hw2,E0.out];done)|(rw [E0.out];done),hC2⟩
 case round=>
  clear c0 c1 c2 hC2 hw1 hw2 hw3 hw4 HB1 HB2;obtain ⟨j,n,hj,hn,rfl,hcl⟩:=hrel
  have hnb: -300000000<=n/\n<=300000000:=by have:=HTb.out;omega
  obtain ⟨v1,v2,v3,v4⟩:=down_at hnb
  have HDn:Hid (∀ z,Cls z->Calls prog 110 #[.int .i64 (wrap64 (n+3)),.int .i64 7] z fun e z'=>e= .returned (.int .i64 ((n+3) / 7))/\Cls z'):=fun z h=>by
   rw [v1]
   exact (R05.down_any (n+3) 7 z (fl_7 _ (by omega)) (by omega)).mono fun e z' ⟨he,hb⟩=>⟨he,by subst hb;exact h⟩
  have hst:Cls wr.drew:=HDr.out _ hcl
  have hv5:wrap64 (n+ -1)=n - 1:=by unfold wrap64;omega
  have HN:=hid (And.intro hj hn)
  by_cases hj1:j=0
  ·have hb1:(wrap64 (wrap64 (wrap64 (n+3) - wrap64 (7*((n+3) / 7)))+1) != wd)=false:=by rw [v1,v2,v3,v4];have:=HT1.out;simp;omega
   have HnT:=hid (show n=T by omega)
   clear hn hnb hj v1 v2 v3 v4;go_wp2
   refine Qt.wp_region_cls Cls (by kernel_rfl) (by kernel_rfl) hst ?_
   repeat (go_big_quiet_step (exact Qt.quiet_cls (HDn.out _ (Qt.In.h _))))
   refine wpQuiet_nil ?_
   rintro wq ⟨⟨w9,hq⟩,e9⟩
   have HQ:Hid (Civ.One w w.heap.size 67 #[.int .i64 mo,.int .i64 1,.int .i64 wd,.int .i64 d,.int .i64 t,.int .i64 r] wq):=by rw [<-HCl.out,e9];exact hq
   clear hq e9 hb1;have hnT:=HnT.out;subst hnT;clear HnT
   cases h3:decide (100000000<n)
   ·have hr:R=some n:=by rw [<-HR.out,if_neg (by simpa using h3)]
    subst hr;clear HR;go_wp2
    go_ret2
    exact ⟨rfl,HQ.out.2⟩
   ·have hr:R=none:=by rw [<-HR.out,if_pos (by simpa using h3)]
    subst hr;clear HR;go_wp2
    go_ret2
    exact ⟨rfl,HQ.out.2⟩
  ·have hb1:(wrap64 (wrap64 (wrap64 (n+3) - wrap64 (7*((n+3) / 7)))+1) != wd)=true:=by rw [v1,v2,v3,v4];have:=HT1.out;simp;omega
   clear hn hnb hj v1 v2 v3 v4;go_wp2
   refine Qt.wp_region_cls Cls (by kernel_rfl) (by kernel_rfl) hst ?_
   repeat (go_big_quiet_step (exact Qt.quiet_cls (HDn.out _ (Qt.In.h _))))
   refine wpQuiet_nil ?_
   rintro wq ⟨⟨w9,hq⟩,e9⟩
   have hcl2:Cls wq:=by rw [e9];exact hq
   clear hq e9 hb1;go_wp2
   have hend:∃ (j':Nat) (v:Int),j'<=6/\T+j'=v/\Value.int .i64 (wrap64 (n+ -1))= .int .i64 v/\Cls wq:=⟨j - 1,n - 1,by have:=HN.out;omega,by have:=HN.out;omega,by rw [hv5],hcl2⟩
   exact ⟨hend,by have:=HN.out;simp [intOf,hv5];omega⟩
theorem on_k2 (mo wd d t r y f:Int) (w:World) (hsb:spotB ⟨mo,2,wd,d,t,r⟩=true) (hy:1<=y/\y<=300000) (hd:daysO y mo 1=some f):
  Calls prog 143 #[.agg #[.int .i64 mo,.int .i64 2,.int .i64 wd,.int .i64 d,.int .i64 t,.int .i64 r],.int .i64 y] w
   fun e w'=>e= .returned (dayV (if 100000000<spotDay ⟨mo,2,wd,d,t,r⟩ f (mlen y mo) then none else some (spotDay ⟨mo,2,wd,d,t,r⟩ f (mlen y mo))))/\Below w.heap.size w w':=by
 have hfb:=daysO_bd hd;have hl:=mlen_bd y mo;have hokp:=spotB_ok hsb;have hT4:=target4 hokp f (mlen y mo)
 have hdd:0<=d/\d<=31:=by
  obtain ⟨_,_,_,_,_,_,_,_,a,b,c⟩:=hokp
  have:=c (by show (2:Int)<=2;decide)
  simp only at this;omega
 have HRt:Hid (∀ z,Calls prog 64 #[.agg #[.int .i64 mo,.int .i64 2,.int .i64 wd,.int .i64 d,.int .i64 t,.int .i64 r]] z fun e z'=>e= .returned (.bool true)/\z'=z.alloc (.cells #[.int .i64 mo,.int .i64 2,.int .i64 wd,.int .i64 d,.int .i64 t,.int .i64 r] 67)):=fun z=>by
  have h:=right_any ⟨mo,2,wd,d,t,r⟩ z;rw [hsb] at h;exact h
 have HDa:Hid (∀ z,Calls prog 178 #[.agg #[.int .i64 y,.int .i64 mo,.int .i64 1]] z fun e z'=>e= .returned (.tuple #[.int .i64 f,.bool true])/\Below z.heap.size z z'):=fun z=>by
  have h:=R05.days_any y mo 1 z;rw [hd] at h;exact h
 have HM:=hid (fun z=>R05.month_any y mo z);simp only at hT4;generalize mlen y mo=l at*;generalize spotDay ⟨mo,2,wd,d,t,r⟩ f l=T at*;have hone:=One.new w 67 #[.int .i64 mo,.int .i64 2,.int .i64 wd,.int .i64 d,.int .i64 t,.int .i64 r];obtain ⟨W,hW⟩:∃ W,w.alloc (.cells #[.int .i64 mo,.int .i64 2,.int .i64 wd,.int .i64 d,.int .i64 t,.int .i64 r] 67)=W:=⟨_,rfl⟩;rw [hW] at hone;have HO:=hid hone;have c0:=hone.1.cell;obtain ⟨Cls,hCls⟩:∃ C:World->Prop,C=Civ.One w w.heap.size 67 #[.int .i64 mo,.int .i64 2,.int .i64 wd,.int .i64 d,.int .i64 t,.int .i64 r]:=⟨_,rfl⟩
 have hC:∀ z,Cls z->Civ.One w w.heap.size 67 #[.int .i64 mo,.int .i64 2,.int .i64 wd,.int .i64 d,.int .i64 t,.int .i64 r] z:=fun z h=>by rw [hCls] at h;exact h
 have inst:Nonempty (Qt.In Cls):=⟨⟨W,by rw [hCls];exact hone⟩⟩
 have z2:∀ z:Qt.In Cls,z.w.cell? ⟨w.heap.size,2,none⟩=some (.int .i64 wd):=fun z=>(hC z.w z.h).1.cell 2
 have HDr:Hid (∀ z,Cls z->Cls z.drew):=fun z h=>by rw [hCls] at h ⊢;exact h.drew
 have HCl:=hid hCls
 have hw1:wrap64 (f+d)=f+d:=by unfold wrap64;omega
 have hw2:wrap64 (f+d - 1)=f+d - 1:=by unfold wrap64;omega
 have hw3:wrap64 (f+l)=f+l:=by unfold wrap64;omega
 have hw4:wrap64 (f+l - 1)=f+l - 1:=by unfold wrap64;omega
 obtain ⟨R,hR⟩:∃ R,(if 100000000<T then none else some T)=R:=⟨_,rfl⟩
 rw [hR];have HR:=hid hR;have HT4:=hid hT4
 have y1:decide (y<1)=false:=decide_eq_false (by omega)
 have y2:decide (300000<y)=false:=decide_eq_false (by omega)
 clear hone hCls hC hR hT4 hokp hsb hd hy
 obtain ⟨j0,hj0,e0⟩:=HT4.out.2.2.1 (by trivial)
 have hT1:=HT4.out.2.2.2.2 (by decide)
 have hTb: -200000000<=T/\T<=200000000:=by omega
 have E0:=hid e0;have HT1:=hid hT1;have HTb:=hid hTb;clear e0 hT1 hTb HT4 hfb hl hdd;go_enter func143,ntmps143
 go_wp2_with (first
   |(go_at_call 64;refine (HRt.out _).mono ?_;rintro e w1 ⟨rfl,hb⟩;have HB1:=hid (HO.out.step (below_of_eq hb));have c1:=fun i=>(HO.out.step (below_of_eq hb)).1.cell i;clear hb)
   |(go_at_call 178;refine (HDa.out _).mono ?_;rintro e w2 ⟨rfl,hb⟩;have HB2:=hid (HB1.out.step hb);have c2:=fun i=>(HB1.out.step hb).1.cell i;clear hb)
   |(go_at_call 112;refine (HM.out _).mono ?_;rintro e w3 ⟨rfl,rfl⟩))
 have hC2:Cls w2:=by rw [HCl.out];exact HB2.out
 go_loopw [8] (fun n wr=>∃ (j:Nat) (v:Int),j<=6/\T - j=v/\n= .int .i64 v/\Cls wr) (fun n _=>(T - intOf n).toNat)
 case atStart=>exact ⟨j0,_,hj0,rfl,by first|(rw [hw4,E0.out];done)|(rw [hw2,E0.out];done)|(rw [E0.out];done),hC2⟩
 case round=>
  clear c0 c1 c2 hC2 hw1 hw2 hw3 hw4 HB1 HB2;obtain ⟨j,n,hj,hn,rfl,hcl⟩:=hrel
  have hnb: -300000000<=n/\n<=300000000:=by have:=HTb.out;omega
  obtain ⟨v1,v2,v3,v4⟩:=down_at hnb
  have HDn:Hid (∀ z,Cls z->Calls prog 110 #[.int .i64 (wrap64 (n+3)),.int .i64 7] z fun e z'=>e= .returned (.int .i64 ((n+3) / 7))/\Cls z'):=fun z h=>by
   rw [v1]
   exact (R05.down_any (n+3) 7 z (fl_7 _ (by omega)) (by omega)).mono fun e z' ⟨he,hb⟩=>⟨he,by subst hb;exact h⟩
  have hst:Cls wr.drew:=HDr.out _ hcl
  have hv5:wrap64 (n+1)=n+1:=by unfold wrap64;omega
  have HN:=hid (And.intro hj hn)
  by_cases hj1:j=0
  ·have hb1:(wrap64 (wrap64 (wrap64 (n+3) - wrap64 (7*((n+3) / 7)))+1) != wd)=false:=by rw [v1,v2,v3,v4];have:=HT1.out;simp;omega
   have HnT:=hid (show n=T by omega)
   clear hn hnb hj v1 v2 v3 v4;go_wp2
   refine Qt.wp_region_cls Cls (by kernel_rfl) (by kernel_rfl) hst ?_
   repeat (go_big_quiet_step (exact Qt.quiet_cls (HDn.out _ (Qt.In.h _))))
   refine wpQuiet_nil ?_
   rintro wq ⟨⟨w9,hq⟩,e9⟩
   have HQ:Hid (Civ.One w w.heap.size 67 #[.int .i64 mo,.int .i64 2,.int .i64 wd,.int .i64 d,.int .i64 t,.int .i64 r] wq):=by rw [<-HCl.out,e9];exact hq
   clear hq e9 hb1;have hnT:=HnT.out;subst hnT;clear HnT
   cases h3:decide (100000000<n)
   ·have hr:R=some n:=by rw [<-HR.out,if_neg (by simpa using h3)]
    subst hr;clear HR;go_wp2
    go_ret2
    exact ⟨rfl,HQ.out.2⟩
   ·have hr:R=none:=by rw [<-HR.out,if_pos (by simpa using h3)]
    subst hr;clear HR;go_wp2
    go_ret2
    exact ⟨rfl,HQ.out.2⟩
  ·have hb1:(wrap64 (wrap64 (wrap64 (n+3) - wrap64 (7*((n+3) / 7)))+1) != wd)=true:=by rw [v1,v2,v3,v4];have:=HT1.out;simp;omega
   clear hn hnb hj v1 v2 v3 v4;go_wp2
   refine Qt.wp_region_cls Cls (by kernel_rfl) (by kernel_rfl) hst ?_
   repeat (go_big_quiet_step (exact Qt.quiet_cls (HDn.out _ (Qt.In.h _))))
   refine wpQuiet_nil ?_
   rintro wq ⟨⟨w9,hq⟩,e9⟩
   have hcl2:Cls wq:=by rw [e9];exact hq
   clear hq e9 hb1;go_wp2
   have hend:∃ (j':Nat) (v:Int),j'<=6/\T - j'=v/\Value.int .i64 (wrap64 (n+1))= .int .i64 v/\Cls wq:=⟨j - 1,n+1,by have:=HN.out;omega,by have:=HN.out;omega,by rw [hv5],hcl2⟩
   exact ⟨hend,by have:=HN.out;simp [intOf,hv5];omega⟩
theorem on_k3 (mo wd d t r y f:Int) (w:World) (hsb:spotB ⟨mo,3,wd,d,t,r⟩=true) (hy:1<=y/\y<=300000) (hd:daysO y mo 1=some f):
  Calls prog 143 #[.agg #[.int .i64 mo,.int .i64 3,.int .i64 wd,.int .i64 d,.int .i64 t,.int .i64 r],.int .i64 y] w
   fun e w'=>e= .returned (dayV (if 100000000<spotDay ⟨mo,3,wd,d,t,r⟩ f (mlen y mo) then none else some (spotDay ⟨mo,3,wd,d,t,r⟩ f (mlen y mo))))/\Below w.heap.size w w':=by
 have hfb:=daysO_bd hd;have hl:=mlen_bd y mo;have hokp:=spotB_ok hsb;have hT4:=target4 hokp f (mlen y mo)
 have hdd:0<=d/\d<=31:=by
  obtain ⟨_,_,_,_,_,_,_,_,a,b,c⟩:=hokp
  have:=c (by show (2:Int)<=3;decide)
  simp only at this;omega
 have HRt:Hid (∀ z,Calls prog 64 #[.agg #[.int .i64 mo,.int .i64 3,.int .i64 wd,.int .i64 d,.int .i64 t,.int .i64 r]] z fun e z'=>e= .returned (.bool true)/\z'=z.alloc (.cells #[.int .i64 mo,.int .i64 3,.int .i64 wd,.int .i64 d,.int .i64 t,.int .i64 r] 67)):=fun z=>by
  have h:=right_any ⟨mo,3,wd,d,t,r⟩ z;rw [hsb] at h;exact h
 have HDa:Hid (∀ z,Calls prog 178 #[.agg #[.int .i64 y,.int .i64 mo,.int .i64 1]] z fun e z'=>e= .returned (.tuple #[.int .i64 f,.bool true])/\Below z.heap.size z z'):=fun z=>by
  have h:=R05.days_any y mo 1 z;rw [hd] at h;exact h
 have HM:=hid (fun z=>R05.month_any y mo z);simp only at hT4;generalize mlen y mo=l at*;generalize spotDay ⟨mo,3,wd,d,t,r⟩ f l=T at*;have hone:=One.new w 67 #[.int .i64 mo,.int .i64 3,.int .i64 wd,.int .i64 d,.int .i64 t,.int .i64 r];obtain ⟨W,hW⟩:∃ W,w.alloc (.cells #[.int .i64 mo,.int .i64 3,.int .i64 wd,.int .i64 d,.int .i64 t,.int .i64 r] 67)=W:=⟨_,rfl⟩;rw [hW] at hone;have HO:=hid hone;have c0:=hone.1.cell;obtain ⟨Cls,hCls⟩:∃ C:World->Prop,C=Civ.One w w.heap.size 67 #[.int .i64 mo,.int .i64 3,.int .i64 wd,.int .i64 d,.int .i64 t,.int .i64 r]:=⟨_,rfl⟩
 have hC:∀ z,Cls z->Civ.One w w.heap.size 67 #[.int .i64 mo,.int .i64 3,.int .i64 wd,.int .i64 d,.int .i64 t,.int .i64 r] z:=fun z h=>by rw [hCls] at h;exact h
 have inst:Nonempty (Qt.In Cls):=⟨⟨W,by rw [hCls];exact hone⟩⟩
 have z2:∀ z:Qt.In Cls,z.w.cell? ⟨w.heap.size,2,none⟩=some (.int .i64 wd):=fun z=>(hC z.w z.h).1.cell 2
 have HDr:Hid (∀ z,Cls z->Cls z.drew):=fun z h=>by rw [hCls] at h ⊢;exact h.drew
 have HCl:=hid hCls
 have hw1:wrap64 (f+d)=f+d:=by unfold wrap64;omega
 have hw2:wrap64 (f+d - 1)=f+d - 1:=by unfold wrap64;omega
 have hw3:wrap64 (f+l)=f+l:=by unfold wrap64;omega
 have hw4:wrap64 (f+l - 1)=f+l - 1:=by unfold wrap64;omega
 obtain ⟨R,hR⟩:∃ R,(if 100000000<T then none else some T)=R:=⟨_,rfl⟩
 rw [hR];have HR:=hid hR;have HT4:=hid hT4
 have y1:decide (y<1)=false:=decide_eq_false (by omega)
 have y2:decide (300000<y)=false:=decide_eq_false (by omega)
 clear hone hCls hC hR hT4 hokp hsb hd hy
 obtain ⟨j0,hj0,e0⟩:=HT4.out.2.2.2.1 (by trivial)
 have hT1:=HT4.out.2.2.2.2 (by decide)
 have hTb: -200000000<=T/\T<=200000000:=by omega
 have E0:=hid e0;have HT1:=hid hT1;have HTb:=hid hTb;clear e0 hT1 hTb HT4 hfb hl hdd;go_enter func143,ntmps143
 go_wp2_with (first
   |(go_at_call 64;refine (HRt.out _).mono ?_;rintro e w1 ⟨rfl,hb⟩;have HB1:=hid (HO.out.step (below_of_eq hb));have c1:=fun i=>(HO.out.step (below_of_eq hb)).1.cell i;clear hb)
   |(go_at_call 178;refine (HDa.out _).mono ?_;rintro e w2 ⟨rfl,hb⟩;have HB2:=hid (HB1.out.step hb);have c2:=fun i=>(HB1.out.step hb).1.cell i;clear hb)
   |(go_at_call 112;refine (HM.out _).mono ?_;rintro e w3 ⟨rfl,rfl⟩))
 have hC2:Cls w2:=by rw [HCl.out];exact HB2.out
 go_loopw [8] (fun n wr=>∃ (j:Nat) (v:Int),j<=6/\T+j=v/\n= .int .i64 v/\Cls wr) (fun n _=>(intOf n - T).toNat)
 case atStart=>exact ⟨j0,_,hj0,rfl,by first|(rw [hw4,E0.out];done)|(rw [hw2,E0.out];done)|(rw [E0.out];done),hC2⟩
 case round=>
  clear c0 c1 c2 hC2 hw1 hw2 hw3 hw4 HB1 HB2;obtain ⟨j,n,hj,hn,rfl,hcl⟩:=hrel
  have hnb: -300000000<=n/\n<=300000000:=by have:=HTb.out;omega
  obtain ⟨v1,v2,v3,v4⟩:=down_at hnb
  have HDn:Hid (∀ z,Cls z->Calls prog 110 #[.int .i64 (wrap64 (n+3)),.int .i64 7] z fun e z'=>e= .returned (.int .i64 ((n+3) / 7))/\Cls z'):=fun z h=>by
   rw [v1]
   exact (R05.down_any (n+3) 7 z (fl_7 _ (by omega)) (by omega)).mono fun e z' ⟨he,hb⟩=>⟨he,by subst hb;exact h⟩
  have hst:Cls wr.drew:=HDr.out _ hcl
  have hv5:wrap64 (n+ -1)=n - 1:=by unfold wrap64;omega
  have HN:=hid (And.intro hj hn)
  by_cases hj1:j=0
  ·have hb1:(wrap64 (wrap64 (wrap64 (n+3) - wrap64 (7*((n+3) / 7)))+1) != wd)=false:=by rw [v1,v2,v3,v4];have:=HT1.out;simp;omega
   have HnT:=hid (show n=T by omega)
   clear hn hnb hj v1 v2 v3 v4;go_wp2
   refine Qt.wp_region_cls Cls (by kernel_rfl) (by kernel_rfl) hst ?_
   repeat (go_big_quiet_step (exact Qt.quiet_cls (HDn.out _ (Qt.In.h _))))
   refine wpQuiet_nil ?_
   rintro wq ⟨⟨w9,hq⟩,e9⟩
   have HQ:Hid (Civ.One w w.heap.size 67 #[.int .i64 mo,.int .i64 3,.int .i64 wd,.int .i64 d,.int .i64 t,.int .i64 r] wq):=by rw [<-HCl.out,e9];exact hq
   clear hq e9 hb1;have hnT:=HnT.out;subst hnT;clear HnT
   cases h3:decide (100000000<n)
   ·have hr:R=some n:=by rw [<-HR.out,if_neg (by simpa using h3)]
    subst hr;clear HR;go_wp2
    go_ret2
    exact ⟨rfl,HQ.out.2⟩
   ·have hr:R=none:=by rw [<-HR.out,if_pos (by simpa using h3)]
    subst hr;clear HR;go_wp2
    go_ret2
    exact ⟨rfl,HQ.out.2⟩
  ·have hb1:(wrap64 (wrap64 (wrap64 (n+3) - wrap64 (7*((n+3) / 7)))+1) != wd)=true:=by rw [v1,v2,v3,v4];have:=HT1.out;simp;omega
   clear hn hnb hj v1 v2 v3 v4;go_wp2
   refine Qt.wp_region_cls Cls (by kernel_rfl) (by kernel_rfl) hst ?_
   repeat (go_big_quiet_step (exact Qt.quiet_cls (HDn.out _ (Qt.In.h _))))
   refine wpQuiet_nil ?_
   rintro wq ⟨⟨w9,hq⟩,e9⟩
   have hcl2:Cls wq:=by rw [e9];exact hq
   clear hq e9 hb1;go_wp2
   have hend:∃ (j':Nat) (v:Int),j'<=6/\T+j'=v/\Value.int .i64 (wrap64 (n+ -1))= .int .i64 v/\Cls wq:=⟨j - 1,n - 1,by have:=HN.out;omega,by have:=HN.out;omega,by rw [hv5],hcl2⟩
   exact ⟨hend,by have:=HN.out;simp [intOf,hv5];omega⟩
theorem on_any (s:Spot) (y:Int) (w:World):Calls prog 143 #[.agg s.cells.toArray,.int .i64 y] w fun e w'=>e= .returned (dayV (onO s y))/\Below w.heap.size w w':=by
 obtain ⟨R,hR⟩:∃ R,onO s y=R:=⟨_,rfl⟩;rw [hR];unfold onO at hR
 by_cases hg:spotB s=true/\(1<=y/\y<=300000)/\(daysO y s.month 1).isSome=true
 ·obtain ⟨g1,g2,g3⟩:=hg
  obtain ⟨f,hf⟩:=Option.isSome_iff_exists.1 g3
  rw [if_neg (by rw [g1];simp;omega),hf,Option.bind_some] at hR
  have hok:=spotB_ok g1
  have hkk:s.kind=0\/s.kind=1\/s.kind=2\/s.kind=3:=by have:=hok.2.2.1;have:=hok.2.2.2.1;omega
  rw [<-hR];obtain ⟨mo,k,wd,d,t,r⟩:=s;simp only at hkk hf
  rcases hkk with rfl|rfl|rfl|rfl
  ·exact on_k0 mo wd d t r y f w g1 g2 hf
  ·exact on_k1 mo wd d t r y f w g1 g2 hf
  ·exact on_k2 mo wd d t r y f w g1 g2 hf
  ·exact on_k3 mo wd d t r y f w g1 g2 hf
 ·have hr:R=none:=by
   rw [<-hR]
   split
   ·rfl
   ·next h=>
    cases hd:daysO y s.month 1 with
    |none=>rfl
    |some f=>exact absurd ⟨by simpa using (fun e=>h (.inl e):¬ spotB s=false),⟨by omega,by omega⟩,by rw [hd];rfl⟩ hg
  subst hr;clear hR;have HG:=hid hg;clear hg;have HRt:=hid (fun z=>right_any s z);have hone:=One.new w 67 s.cells.toArray;obtain ⟨mo,k,wd,d,t,r⟩:=s;simp only [Spot.cells] at hone HRt ⊢;obtain ⟨W,hW⟩:∃ W,w.alloc (.cells #[.int .i64 mo,.int .i64 k,.int .i64 wd,.int .i64 d,.int .i64 t,.int .i64 r] 67)=W:=⟨_,rfl⟩;rw [hW] at hone;have HO:=hid hone;have c0:=hone.1.cell;clear hone;have HDa:=hid (fun z=>R05.days_any y mo 1 z);simp only at HG;generalize spotB ⟨mo,k,wd,d,t,r⟩=sb at*;go_enter func143,ntmps143
  cases sb
  ·go_wp2_with (first
   |(go_at_call 64;refine (HRt.out _).mono ?_;rintro e w1 ⟨rfl,hb⟩;have HB1:=hid (HO.out.step (below_of_eq hb));have c1:=fun i=>(HO.out.step (below_of_eq hb)).1.cell i;clear hb)
   |(go_at_call 178;refine (HDa.out _).mono ?_;rintro e w2 ⟨rfl,hb⟩;have HB2:=hid (HB1.out.step hb);have c2:=fun i=>(HB1.out.step hb).1.cell i;clear hb))
   go_ret2
   exact ⟨rfl,HB1.out.2⟩
  cases h1:decide (y<1);rotate_left
  ·go_wp2_with (first
   |(go_at_call 64;refine (HRt.out _).mono ?_;rintro e w1 ⟨rfl,hb⟩;have HB1:=hid (HO.out.step (below_of_eq hb));have c1:=fun i=>(HO.out.step (below_of_eq hb)).1.cell i;clear hb)
   |(go_at_call 178;refine (HDa.out _).mono ?_;rintro e w2 ⟨rfl,hb⟩;have HB2:=hid (HB1.out.step hb);have c2:=fun i=>(HB1.out.step hb).1.cell i;clear hb))
   go_ret2
   exact ⟨rfl,HB1.out.2⟩
  cases h2:decide (300000<y);rotate_left
  ·go_wp2_with (first
   |(go_at_call 64;refine (HRt.out _).mono ?_;rintro e w1 ⟨rfl,hb⟩;have HB1:=hid (HO.out.step (below_of_eq hb));have c1:=fun i=>(HO.out.step (below_of_eq hb)).1.cell i;clear hb)
   |(go_at_call 178;refine (HDa.out _).mono ?_;rintro e w2 ⟨rfl,hb⟩;have HB2:=hid (HB1.out.step hb);have c2:=fun i=>(HB1.out.step hb).1.cell i;clear hb))
   go_ret2
   exact ⟨rfl,HB1.out.2⟩
  have hd:daysO y mo 1=none:=by
   cases hd:daysO y mo 1 with
   |none=>rfl
   |some f=>exact absurd ⟨rfl,⟨by simp at h1;omega,by simp at h2;omega⟩,by rw [hd];rfl⟩ HG.out
  rw [hd] at HDa;simp only [dayV] at HDa;clear HG hd
  go_wp2_with (first
   |(go_at_call 64;refine (HRt.out _).mono ?_;rintro e w1 ⟨rfl,hb⟩;have HB1:=hid (HO.out.step (below_of_eq hb));have c1:=fun i=>(HO.out.step (below_of_eq hb)).1.cell i;clear hb)
   |(go_at_call 178;refine (HDa.out _).mono ?_;rintro e w2 ⟨rfl,hb⟩;have HB2:=hid (HB1.out.step hb);have c2:=fun i=>(HB1.out.step hb).1.cell i;clear hb))
  go_ret2
  exact ⟨rfl,HB2.out.2⟩
theorem local_any (s:Spot) (y:Int) (w:World):Calls prog 113 #[.agg s.cells.toArray,.int .i64 y] w fun e w'=>e= .returned (dayV (localO s y))/\Below w.heap.size w w':=by
 have HOn:=hid (fun z=>R09.on_any s y z);have hone:=One.new w 67 s.cells.toArray;unfold localO
 cases ho:onO s y with
 |none=>
  rw [ho] at HOn;simp only [dayV,Option.map_none] at HOn ⊢;obtain ⟨mo,k,wd,d,t,r⟩:=s;simp only [Spot.cells] at hone HOn ⊢;obtain ⟨W,hW⟩:∃ W,w.alloc (.cells #[.int .i64 mo,.int .i64 k,.int .i64 wd,.int .i64 d,.int .i64 t,.int .i64 r] 67)=W:=⟨_,rfl⟩;rw [hW] at hone;have HO:=hid hone;have c0:=hone.1.cell;clear hone ho;go_enter func113,ntmps113
  go_wp2_with (go_at_call 143;refine (HOn.out _).mono ?_;rintro e w1 ⟨rfl,hb⟩;have HB:=hid (HO.out.step hb);clear hb)
  go_ret2
  exact ⟨rfl,HB.out.2⟩
 |some n=>
  rw [ho] at HOn;obtain ⟨⟨hn1,hn2⟩,hok,_⟩:=onO_bd ho;simp only [dayV,Option.map_some] at HOn ⊢;obtain ⟨mo,k,wd,d,t,r⟩:=s;obtain ⟨_,_,_,_,ht1,ht2,_⟩:=hok;simp only [Spot.cells] at hone HOn ht1 ht2 ⊢;obtain ⟨W,hW⟩:∃ W,w.alloc (.cells #[.int .i64 mo,.int .i64 k,.int .i64 wd,.int .i64 d,.int .i64 t,.int .i64 r] 67)=W:=⟨_,rfl⟩;rw [hW] at hone;have HO:=hid hone;have c0:=hone.1.cell;clear hone ho;go_enter func113,ntmps113
  go_wp2_with (go_at_call 143;refine (HOn.out _).mono ?_;rintro e w1 ⟨rfl,hb⟩;have hb2:=HO.out.step hb;have c1:=hb2.1.cell;have HB:=hid hb2;clear hb hb2)
  go_ret2
  exact ⟨rfl,HB.out.2⟩
end R09
end
end
end Go.Proofs.YtmlejgdohcpmjaaGreatDoor
