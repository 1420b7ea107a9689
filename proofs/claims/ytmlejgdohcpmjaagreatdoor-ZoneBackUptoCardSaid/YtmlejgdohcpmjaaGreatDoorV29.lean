/-
  Contracts of the code that the law reaches, and plain laws. Conditions: as each says.
-/
import Derived.Test.YtmlejgdohcpmjaaGreatDoorV28
set_option linter.all false
set_option maxHeartbeats 40000000
set_option maxRecDepth 100000
namespace Go.Proofs.YtmlejgdohcpmjaaGreatDoor
open Lib (hid)
open Tryz
section
section
namespace Zon
open Go.RowKit Mem Civ Mom Img Plc Rul Ahd Trn Src Snd Att Rgt Abr Sch Cmq
def cutN (x:Table) (t:Int):Nat:=searchF (shiftF x.shifts t) x.shifts.length 0 x.shifts.length
theorem right_ok {x:Table} (hr:rightB x (tailB x)=true) {k:Nat} (hk:k<x.shifts.length):okAt x.first x.till x.shifts k=true:=by
 unfold rightB shiftsB at hr;rw [Bool.and_eq_true,List.all_eq_true] at hr;exact hr.2 k (List.mem_range.2 hk)
theorem right_rise {x:Table} (hr:rightB x (tailB x)=true):x.shifts.Pairwise fun a b=>a.sec<b.sec:=by
 refine rise_of fun k hk=>?_
 have h1:=right_ok hr hk;unfold okAt at h1
 rw [List.getElem?_eq_getElem hk] at h1
 simp only [Bool.and_eq_true] at h1;exact h1.2.2.2
theorem right_at {x:Table} (hr:rightB x (tailB x)=true) {k:Nat} (hk:k<x.shifts.length):x.shifts[k].ph≠hadAt x.first x.shifts k/\x.shifts[k].sec<x.till:=by
 have h1:=right_ok hr hk;unfold okAt at h1
 rw [List.getElem?_eq_getElem hk] at h1
 simp only [Bool.and_eq_true,Bool.not_eq_true',decide_eq_false_iff_not] at h1
 exact ⟨h1.2.1,by have:=h1.2.2.1;omega⟩
theorem cut_spec {x:Table} (hr:rightB x (tailB x)=true) (t:Int):cutN x t<=x.shifts.length/\(∀ i (hi:i<x.shifts.length),i<cutN x t->x.shifts[i].sec<=t)/\(∀ i (hi:i<x.shifts.length),cutN x t<=i->t<x.shifts[i].sec):=by
 have hri:=right_rise hr
 have hf:∀ i (hi:i<x.shifts.length),shiftF x.shifts t i=decide (t<x.shifts[i].sec):=fun i hi=>by
  unfold shiftF
  rw [List.getElem?_eq_getElem hi,Option.map_some,Option.getD_some]
 have hmono:∀ a b,a<=b->b<x.shifts.length->shiftF x.shifts t a=true->shiftF x.shifts t b=true:=fun a b hab hb h=>by
  rw [hf a (by omega),decide_eq_true_eq] at h
  rw [hf b hb,decide_eq_true_eq]
  rcases Nat.eq_or_lt_of_le hab with rfl|hlt
  ·exact h
  ·have:=List.pairwise_iff_getElem.1 hri a b (by omega) hb hlt
   omega
 obtain ⟨h1,h2⟩:=search_first (f:=shiftF x.shifts t) (n:=x.shifts.length) hmono x.shifts.length 0 x.shifts.length (by omega) (Nat.zero_le _) (Nat.le_refl _) (fun i hi=>by omega) (fun i hi1 hi2=>by omega)
 refine ⟨search_le _ _ 0 _ (Nat.zero_le _),fun i hi hin=>?_,fun i hi hin=>?_⟩
 ·have:=h1 i hin
  rw [hf i hi] at this;have:=of_decide_eq_false this;omega
 ·have:=h2 i hin hi
  rw [hf i hi] at this;exact of_decide_eq_true this
theorem early_shift {x:Table} (hr:rightB x (tailB x)=true) {u:Int} (hu:u<x.till\/x.tail.length=0) (h:Sh x u):∃ s∈x.shifts,s.sec=u:=by
 rcases shift_cases hr h with h1|⟨h0,h1⟩
 ·exact h1
 ·omega
theorem next_shift {x:Table} (hr:rightB x (tailB x)=true) {t:Int} (hn:cutN x t<x.shifts.length):NextR x t (some (x.shifts[cutN x t]'hn).sec):=by
 obtain ⟨c1,c2,c3⟩:=cut_spec hr t;have hri:=right_rise hr;have hat:=right_at hr hn;have hlt:=c3 _ hn (Nat.le_refl _)
 have hle:∀ i (hi:i<x.shifts.length),cutN x t<=i->(x.shifts[cutN x t]'hn).sec<=x.shifts[i].sec:=fun i hi hin=>by
  rcases Nat.eq_or_lt_of_le hin with e|e
  ·subst e;exact Int.le_refl _
  ·exact Int.le_of_lt (List.pairwise_iff_getElem.1 hri _ _ hn hi e)
 refine ⟨fun s hs=>?_,fun u hu1 _ hu3 hsh=>?_⟩
 ·injection hs with hs
  subst hs
  refine ⟨hlt,?_⟩
  unfold Sh
  rw [tell_early (.inl hat.2),tell_early (.inl (by omega))]
  have e1:tellL x.first x.shifts (x.shifts[cutN x t]'hn).sec=hadAt x.first x.shifts (cutN x t+1):=tell_at (by omega) (fun i hi hin=>by
   rcases Nat.eq_or_lt_of_le (Nat.le_of_lt_succ hin) with e|e
   ·subst e;exact Int.le_refl _
   ·exact Int.le_of_lt (List.pairwise_iff_getElem.1 hri _ _ hi hn e)) (fun i hi hin=>List.pairwise_iff_getElem.1 hri _ _ hn hi (by omega))
  have e2:tellL x.first x.shifts ((x.shifts[cutN x t]'hn).sec - 1)=hadAt x.first x.shifts (cutN x t):=tell_at (by omega) (fun i hi hin=>by
   have:=List.pairwise_iff_getElem.1 hri _ _ hi hn hin;omega) (fun i hi hin=>by have:=hle i hi hin;omega)
  rw [e1,e2]
  simp only [hadAt,List.getElem?_eq_getElem hn,Option.map_some,Option.getD_some]
  exact hat.1
 ·have hus:=hu3 _ rfl
  obtain ⟨s,hs,e⟩:=early_shift hr (.inl (by omega)) hsh
  obtain ⟨i,hi,e2⟩:=List.mem_iff_getElem.1 hs
  by_cases hin:i<cutN x t
  ·have:=c2 i hi hin;rw [e2] at this;omega
  ·have:=hle i hi (by omega);rw [e2] at this;omega
theorem over_early {x:Table} (hr:rightB x (tailB x)=true) {t u:Int} (hn:x.shifts.length<=cutN x t) (hu:t<u) (h:u<x.till\/x.tail.length=0):¬ Sh x u:=fun hs=>by
 obtain ⟨_,c2,_⟩:=cut_spec hr t;obtain ⟨s,hm,e⟩:=early_shift hr h hs;obtain ⟨i,hi,e2⟩:=List.mem_iff_getElem.1 hm
 have:=c2 i hi (by omega)
 rw [e2] at this;omega
theorem next_flat {x:Table} (hr:rightB x (tailB x)=true) {t:Int} (hn:x.shifts.length<=cutN x t) (h0:x.tail.length=0):NextR x t none:=
 ⟨(fun s hs=>by cases hs),fun u hu _ _=>over_early hr hn hu (.inr h0)⟩
theorem next_till {x:Table} (hr:rightB x (tailB x)=true) {t:Int} (hn:x.shifts.length<=cutN x t) (ht:t<x.till) (hs:Sh x x.till):NextR x t (some x.till):=
 ⟨fun s e=>by injection e with e;subst e;exact ⟨ht,hs⟩,fun u hu _ h=>over_early hr hn hu (.inl (h _ rfl))⟩
def NoSh (x:Table) (t:Int):Prop:=∀ u,t<u->u<=t+200000->¬ Sh x u
section
variable {x:Table} (hr:rightB x (tailB x)=true) {t:Int} (hn:x.shifts.length<=cutN x t) (h0:x.tail.length≠0) (hq:¬ (t<x.till/\Sh x x.till))
include hr hn h0 hq
theorem next_gap {u:Int} (h1:t<u) (h2:u<=max t x.till):¬ Sh x u:=by
 rcases (by omega:u<x.till\/u=x.till) with h|h
 ·exact over_early hr hn h1 (.inl h)
 ·exact fun hs=>hq ⟨by omega,by rw [<-h];exact hs⟩
theorem next_late {u:Int} (h1:max t x.till<u) (h2:u<=max t x.till+200000) (hs:Sh x u):u∈turnO' x (yearZ (max t x.till) - 2) 6:=by
 have hT:=tailT_of hr h0
 rcases shift_cases hr hs with ⟨s,hm,e⟩|⟨_,h|⟨h3,z,hz⟩⟩
 ·obtain ⟨i,hi,e2⟩:=List.mem_iff_getElem.1 hm
  have:=(right_at hr hi).2;rw [e2] at this;omega
 ·omega
 ·obtain ⟨y1,y2⟩:=turn_near hT hz h1 h2
  exact turn_in hT hz (by unfold keepS;rw [decide_eq_true h3,decide_eq_true hs];rfl) y1 (by omega)
theorem next_some {a:Int} (ha:max t x.till<a) (hs:Sh x a) (hno:∀ u,max t x.till<u->u<=max t x.till+200000->u<a->¬ Sh x u):NextR x t (some a):=
 ⟨fun s e=>by injection e with e;subst e;exact ⟨by omega,hs⟩,fun u h1 h2 h3=>by
  by_cases hc:u<=max t x.till
  ·exact next_gap hr hn h0 hq h1 hc
  ·exact hno u (by omega) (by omega) (h3 _ rfl)⟩
theorem next_first {l:List Int} (hl:l.Pairwise (·<=·)) (hm:∀ a,a∈l↔a∈turnO' x (yearZ (max t x.till) - 2) 6) {i:Nat} (hi:i<l.length) (ha:max t x.till<l[i]) (hb:∀ a∈l.take i,a<=max t x.till):NextR x t (some l[i]):=by
 have hT:=tailT_of hr h0;have hok:=(turnO_ok hT ((hm _).1 (List.getElem_mem hi))).1;simp only [keepS,Bool.and_eq_true,decide_eq_true_eq] at hok
 refine next_some hr hn h0 hq ha hok.2 fun u h1 h2 h3 hs=>?_
 obtain ⟨j,hj,e⟩:=List.mem_iff_getElem.1 ((hm u).2 (next_late hr hn h0 hq h1 h2 hs))
 by_cases hji:j<i
 ·have:=hb u (by rw [<-e];exact List.mem_take_iff_getElem.2 ⟨j,by omega,rfl⟩)
  omega
 ·rcases Nat.eq_or_lt_of_le (Nat.le_of_not_lt hji) with q|q
  ·subst q;omega
  ·have:=List.pairwise_iff_getElem.1 hl i j hi hj q
   omega
theorem next_none {l:List Int} (hm:∀ a,a∈l↔a∈turnO' x (yearZ (max t x.till) - 2) 6) (hb:∀ a∈l,a<=max t x.till):NoSh x (max t x.till):=fun u h1 h2 hs=>by
 have:=hb u ((hm u).2 (next_late hr hn h0 hq h1 h2 hs));omega
theorem next_more {l:List Int} {fr:Int} (hm:∀ a,a∈l↔a∈turnO' x fr 6) (hno:NoSh x (max t x.till)) {a:Int} (ha:a∈l) (h:max t x.till<a):NextR x t (some a):=by
 have hok:=(turnO_ok (tailT_of hr h0) ((hm _).1 ha)).1;simp only [keepS,Bool.and_eq_true,decide_eq_true_eq] at hok;exact next_some hr hn h0 hq h hok.2 fun u h1 h2 _=>hno u h1 h2
theorem next_end (hno:NoSh x (max t x.till)):NextR x t none:=
 ⟨(fun s e=>by cases e),fun u h1 h2 _=>by
  by_cases hc:u<=max t x.till
  ·exact next_gap hr hn h0 hq h1 hc
  ·exact hno u (by omega) (by omega)⟩
end
end Zon
end
end
section
section
namespace Zon
open Go.RowKit Mem Civ Mom Img Plc Rul Ahd Trn Src Snd Att Rgt Abr Sch Cmq
structure Tz (w:World) (cs:Array Value) (z:World):Prop where
 tb:Blk z w.heap.size 61 cs
 bel:Below w.heap.size w z
theorem Tz.lt {w z:World} {cs:Array Value} (h:Tz w cs z):w.heap.size<z.heap.size:=h.tb.lt
theorem Tz.step {w z z':World} {cs:Array Value} (h:Tz w cs z) (hb:Below z.heap.size z z'):Tz w cs z':=⟨h.tb.below hb h.tb.lt,h.bel.trans (hb.mono h.bel.size)⟩
theorem Tz.alloc {w z:World} {cs:Array Value} (h:Tz w cs z) (o:Obj):Tz w cs (z.alloc o):=⟨h.tb.alloc o,h.bel.alloc h.bel.size o⟩
theorem Tz.drew {w z:World} {cs:Array Value} (h:Tz w cs z):Tz w cs z.drew:=⟨h.tb.drew,h.bel.drew⟩
theorem Tz.grown {w z z':World} {cs:Array Value} (h:Tz w cs z) {row:Option Nat} (hg:z.grownBy z' row) (hr:∀ r,row=some r->w.heap.size+1<=r):Tz w cs z':=
 ⟨h.tb.grown hg (fun e=>by have:=hr _ e.symm;omega),h.bel.grown hg h.bel.size (fun r e=>by have:=hr r e;omega)⟩
theorem Tz.new (w:World) (cs:Array Value):Tz w cs (w.alloc (.cells cs 61)):=⟨(box1 w _ cs).1,(box1 w _ cs).2.1⟩
theorem turns_any (x:Table) (A A2:Option Addr) (c c2:Nat) (m fr:Int) (w:World) (h:Rt x A A2 m w) (hT:x.tail.length≠0) (h1: -1000000<=fr) (h2:fr<=1000000):
  Calls prog 59 #[.agg (tabCells x A c A2 c2),.int .i64 fr,.int .i64 (fr+5)] w (TurnsR x fr w):=by
 obtain ⟨i0,hi0,hz0,hz1,hz2⟩:=info_parts info_int64;have hTT:=tailT_of h.right hT;have hone:=Tz.new w (tabCells x A c A2 c2)
 have hw1:(w.alloc (.cells (tabCells x A c A2 c2) 61)).heap.size=w.heap.size+1:=by simp
 have hTu:=fun y z (hb:Below w.heap.size w z)=>Rul.turns_any x.tail A2 c2 y z (h.below hb).tab.rt h.tab.nt (.inl (Nat.le_trans (List.length_filterMap_le _ _) (Nat.le_trans hTT.len (by omega))))
 have hAh:=fun a z (hb:Below w.heap.size w z)=>ahead_more x.tail A2 c2 a z (h.below hb).tab.rt h.tab.nt;have hSh:=fun a (ha: -9223372036854775808<a) (hb:a<=9223372036854775807) z (hz:Below w.heap.size w z)=>shift_any x A A2 c c2 m a z (h.below hz) ha hb;have hG:=fun y t (ht:t∈turnsL x.tail y)=>turnsL_gt hTT ht;have hLn:=turnsL_two hTT;have hOl:=turnO_len hTT fr;have hOs:=turnO_succ x fr;have hAt:∀ y,turnAts x y=((turnsL x.tail y).map (uniT x.tail x.off)).filter (keepS x):=fun y=>rfl;have hRS:=hTT.right;have hOff:=hTT.off;have htil:=h.till;simp only [tabCells] at*
 obtain ⟨W,hW⟩:∃ W,w.alloc (.cells #[.string x.name,.int .i64 x.first.off,.int .i64 x.first.save,.string x.first.abbr,.slice A x.shifts.length c,.int .i64 x.till,.slice A2 x.tail.length c2,.int .i64 x.off,.string x.format] 61)=W:=⟨_,rfl⟩
 rw [hW] at hone hw1;have k0:=hone.tb.cell;have HO:=hid hone;have HTu:=hid hTu;have HAh:=hid hAh;have HSh:=hid hSh;have HG:=hid hG;have HLn:=hid hLn;have HOl:=hid hOl;have HOs:=hid hOs;have HAt:=hid hAt;have HRS:=hid hRS;have Hw1:=hid hw1;obtain ⟨ho1,ho2⟩:=hOff;obtain ⟨ht1,ht2⟩:=htil;obtain ⟨O,hO⟩:∃ O,turnO' x fr=O:=⟨_,rfl⟩;rw [hO] at HOl HOs;unfold TurnsR;rw [hO]
 have hO0:O 0=[]:=by rw [<-hO];rfl
 have HO0:=hid hO0;clear h hTT hone hTu hAh hSh hG hLn hOl hOs hAt hRS hw1 hT hO hO0;go_enter func59,ntmps59;go_wp2;clear k0 hW
 go_loopw [7,8] (fun v y wz=>∃ (j:Nat) (o:List Int),j<=6/\y= .int .i64 (fr+j)/\o=O j/\wz.ownsRow W.heap.size 2 1 v o.length (ints o)/\Tz w #[.string x.name,.int .i64 x.first.off,.int .i64 x.first.save,.string x.first.abbr,.slice A x.shifts.length c,.int .i64 x.till,.slice A2 x.tail.length c2,.int .i64 x.off,.string x.format] wz/\W.heap.size<=wz.heap.size) (fun _ y _=>(fr+6 - intOf y).toNat)
 case atStart=>exact ⟨0,[],by omega,by simp,HO0.out.symm,World.ownsRow_nil _ _ _ _,HO.out,Nat.le_refl _⟩
 case round=>
  clear HO HO0;obtain ⟨j,o,hj,rfl,ho,hown,htz,hs⟩:=hrel;have HQ:=hid ho;have HOw:=hid hown;have HZ:=hid htz;have HS:=hid hs;have k1:=htz.tb.cell;clear ho hown htz hs;obtain ⟨wo,rfl⟩:∃ wo:World,wo=wr:=⟨_,rfl⟩
  by_cases hjn:j<6
  ·have hjb:decide (fr+(j:Int)<=fr+5)=true:=decide_eq_true (by omega)
   have hsu:=HOs.out j;rw [HAt.out] at hsu;have hTm:=HG.out (fr+j);have hTl:=HLn.out (fr+j);have hTc:=HTu.out (fr+j) _ HZ.out.bel;have hol:=HOl.out j;rw [<-HQ.out] at hol hsu;generalize turnsL x.tail (fr+j)=T at*;have HSu:=hid hsu;have HTm:=hid hTm;have HTl:=hid hTl;have HTc:=hid hTc;have Hol:=hid hol;clear hsu hTm hTl hTc hol
   go_wp2_with (go_at_call 90;refine HTc.out.mono ?_;rintro e w2 ⟨At,ct,rfl,hownT,hb⟩;have HT2:=hid hownT;have HO2:=hid (Rul.own_below HOw.out hb);have HZ2:=hid (HZ.out.step hb);have HS2:=hid (Nat.le_trans HS.out hb.size);clear hb hownT k1)
   obtain ⟨BT,hBT⟩:∃ BT,BT=wo.heap.size:=⟨_,rfl⟩;rw [<-hBT] at HT2
   have HBT:=hid (show W.heap.size<=BT by rw [hBT];exact HS.out)
   clear hBT HTc HOw HZ HS
   go_loopw [7,26] (fun v i wz=>∃ (q:Nat) (o2:List Int),q<=T.length/\i= .int .i64 q/\o2=o++((T.take q).map (uniT x.tail x.off)).filter (keepS x)/\wz.ownsRow W.heap.size 2 1 v o2.length (ints o2)/\wz.ownsRow BT 90 4 (.slice At T.length ct) T.length (T.flatMap Turn.cells)/\Tz w #[.string x.name,.int .i64 x.first.off,.int .i64 x.first.save,.string x.first.abbr,.slice A x.shifts.length c,.int .i64 x.till,.slice A2 x.tail.length c2,.int .i64 x.off,.string x.format] wz/\W.heap.size<=wz.heap.size) (fun _ i _=>T.length - (intOf i).toNat)
   case atStart=>exact ⟨0,o,Nat.zero_le _,rfl,by simp,HO2.out,HT2.out,HZ2.out,HS2.out⟩
   case round=>
    clear HO2 HT2 HZ2 HS2;obtain ⟨q,o2,hq,rfl,hq2,hown,hownT,htz,hs⟩:=hrel;have HQ2:=hid hq2;have HOw:=hid hown;have HT:=hid hownT;have HZ:=hid htz;have HS:=hid hs;have hTl2:=HTl.out;clear hq2 hown hownT htz hs
    by_cases hqn:q<T.length
    ·obtain ⟨ad,hA,_,b0,b1,b2,b3⟩:=turn_cells (Reads.of_own HT.out) hqn rfl
     subst hA
     have hqb:decide ((q:Int)<(T.length:Nat))=true:=decide_eq_true (by omega)
     have htk:T.take (q+1)=T.take q++[T[q]]:=List.take_succ_eq_append_getElem hqn
     have hnx:o++((T.take (q+1)).map (uniT x.tail x.off)).filter (keepS x)=if keepS x (uniT x.tail x.off T[q])=true then o2++[uniT x.tail x.off T[q]] else o2:=by
      rw [htk,List.map_append,List.filter_append,<-List.append_assoc,<-HQ2.out]
      by_cases hk:keepS x (uniT x.tail x.off T[q])=true
      ·rw [if_pos hk];simp [hk]
      ·rw [if_neg hk];simp [hk]
     have hol:o2.length<=14:=by
      rw [HQ2.out,List.length_append];have:=List.length_filter_le (keepS x) ((T.take q).map (uniT x.tail x.off));rw [List.length_map,List.length_take] at this;have:=Hol.out;have:=HTl.out;omega
     obtain ⟨r,hr,hg⟩:=HTm.out T[q] (List.getElem_mem hqn);have hb:=turn_bd hg;have hrs:=rule_save HRS.out hr;have href:=(turnL_at hg).2.2.2
     have hud:uniT x.tail x.off T[q]=if T[q].ref=0 then wrap64 ((if T[q].ref=2 then T[q].at_ else wrap64 (T[q].at_ - x.off)) - ((aheadO x.tail T[q].at_).getD noTurn).save) else (if T[q].ref=2 then T[q].at_ else wrap64 (T[q].at_ - x.off)):=rfl
     have hahs:=ahead_save HRS.out T[q].at_;generalize T[q]=t at*;obtain ⟨t0,t1,t2,t3⟩:=t;simp only at b0 b1 b2 b3 hb href hud hahs;rw [<-href] at hrs;have hA2:=HAh.out t0
     rw [aheadX_is (by omega) (by omega)] at hA2
     generalize hN:(aheadO x.tail t0).getD noTurn=N at*;generalize (aheadO x.tail t0).isSome=nb at*;obtain ⟨n0,n1,n2,n3⟩:=N;simp only [Turn.cells] at hA2 hahs hud;obtain ⟨E,hE⟩:∃ E,uniT x.tail x.off ⟨t0,t1,t2,t3⟩=E:=⟨_,rfl⟩;rw [hE] at hnx hud;clear hE hN hg hr href
     have hEb: -9223372036854775808<E/\E<=9223372036854775807:=by
      rw [hud];unfold wrap64;split<;>split<;>omega
     have hS2:=HSh.out E hEb.1 hEb.2;have HNx:=hid hnx;have HA2:=hid hA2;have HS2:=hid hS2;have Hud:=hid hud;have Hol2:=hid hol
     have M1:=hid (show o2.length+1<=maxLen by unfold maxLen;omega)
     have M2:=hid (show (o2.length+1)*8<=140737488355328 by omega)
     clear hnx hA2 hS2 hud hol htk HQ2;have hn:=Blk.new wr 90 #[.int .i64 t0,.int .i64 t1,.int .i64 t2,.string t3];have k1:=hn.cell;have hz1:=HZ.out.alloc (.cells #[.int .i64 t0,.int .i64 t1,.int .i64 t2,.string t3] 90);have k2:=hz1.tb.cell;have HN1:=hid hn;have HZ1:=hid hz1;have HO1:=hid (HOw.out.alloc (.cells #[.int .i64 t0,.int .i64 t1,.int .i64 t2,.string t3] 90));have HT1:=hid (HT.out.alloc (.cells #[.int .i64 t0,.int .i64 t1,.int .i64 t2,.string t3] 90))
     have HS1:=hid (show W.heap.size<=(wr.alloc (.cells #[.int .i64 t0,.int .i64 t1,.int .i64 t2,.string t3] 90)).heap.size by have:=HS.out;simp;omega)
     clear hn hz1 HZ HOw HT HS;obtain ⟨hb1,hb2⟩:=hb;obtain ⟨_,_,hr1,hr2⟩:=hrs
     rcases (by omega:t1=0\/t1=1\/t1=2) with rfl|rfl|rfl
     ·have hE2:t0 - x.off - n2=E:=by rw [Hud.out];unfold wrap64;simp;omega
      have HE2:=hid hE2;clear hE2
      go_upto_region 14 with (go_at_call 69;refine (HA2.out _ HZ1.out.bel).mono ?_;rintro e w3 ⟨rfl,hb⟩;have hz3:=(HZ1.out.step hb).alloc (.cells #[.int .i64 n0,.int .i64 n1,.int .i64 n2,.string n3] 90);have k3:=hz3.tb.cell;have kn:=fun i=>(Blk.new w3 90 #[.int .i64 n0,.int .i64 n1,.int .i64 n2,.string n3]).cell i;have HZ3:=hid hz3;have HO3:=hid ((Rul.own_below HO1.out hb).alloc (.cells #[.int .i64 n0,.int .i64 n1,.int .i64 n2,.string n3] 90));have HT3:=hid ((Rul.own_below HT1.out hb).alloc (.cells #[.int .i64 n0,.int .i64 n1,.int .i64 n2,.string n3] 90));have HS3:=hid (show W.heap.size<=(w3.alloc (.cells #[.int .i64 n0,.int .i64 n1,.int .i64 n2,.string n3] 90)).heap.size by have:=HS1.out;have:=hb.size;simp;omega);clear hb hz3 k1 k2)
      rw [HE2.out];generalize World.alloc w3 _=V at*;clear kn k3 HE2;have HZ:=HZ3;have HO:=HO3;have HT:=HT3;have HS:=HS3;clear HZ3 HO3 HT3 HS3 HZ1 HO1 HT1 HS1 HN1;have k3:=HZ.out.tb.cell
      by_cases hb3:x.till<E
      ·have hbt:decide (x.till<E)=true:=decide_eq_true hb3
       by_cases hsE:Sh x E
       ·have hS3:=HS2.out
        rw [decide_eq_true hsE] at hS3;have hnx:=HNx.out
        rw [if_pos (by unfold keepS;rw [hbt,decide_eq_true hsE];rfl)] at hnx
        have HS3:=hid hS3;have HNy:=hid hnx;clear hS3 hnx HNx HS2 hb3 hsE
        go_wp2_with (first
         |(go_at_call 56;refine (HS3.out _ HZ.out.bel).mono ?_;rintro e w4 ⟨rfl,hb⟩;have HZ4:=hid (HZ.out.step hb);have HO4:=hid (Rul.own_below HO.out hb);have HT4:=hid (Rul.own_below HT.out hb);have HS4:=hid (Nat.le_trans HS.out hb.size);clear hb k3)
         |(at_builtin;refine wpList_append1g w4 rfl (.tmp 66) (.tmp 68) 30 rfl W.heap.size 2 i0 _ 1 8 underlying30 hi0 hz0 hz1 hz2 rfl (by decide) _ o2.length (ints o2) rfl HO4.out (by simp [Act.eval]) rfl one_int M1.out M2.out HS4.out ?_;intro v' w5 ho5 hg5;have HO5:=hid ho5;have HG5:=hid hg5;clear ho5 hg5))
        refine ⟨⟨q+1,o2++[E],by omega,by go_num,HNy.out.symm,?_,?_,?_,?_⟩,by simp [intOf];omega⟩
        ·have:=HO5.out
         rw [ints_snoc] at this;rw [List.length_append];exact this
        ·exact (HT4.out.alloc _).kept HG5.out (Rd.own_own_ne HT4.out HO4.out (by decide)).symm
        ·exact (HZ4.out.alloc _).grown HG5.out (fun r e=>by have:=(HO4.out.lt r e).1;have:=Hw1.out;omega)
        ·have:=HG5.out.size;have:=HS4.out;simp at *;omega
       ·have hS3:=HS2.out
        rw [decide_eq_false hsE] at hS3;have hnx:=HNx.out
        rw [if_neg (by unfold keepS;rw [decide_eq_false hsE];simp)] at hnx
        have HS3:=hid hS3;have HNy:=hid hnx;clear hS3 hnx HNx HS2 hb3 hsE
        go_wp2_with (go_at_call 56;refine (HS3.out _ HZ.out.bel).mono ?_;rintro e w4 ⟨rfl,hb⟩;have HZ4:=hid (HZ.out.step hb);have HO4:=hid (Rul.own_below HO.out hb);have HT4:=hid (Rul.own_below HT.out hb);have HS4:=hid (Nat.le_trans HS.out hb.size);clear hb k3)
        exact ⟨⟨q+1,o2,by omega,by go_num,HNy.out.symm,HO4.out,HT4.out,HZ4.out,HS4.out⟩,by simp [intOf];omega⟩
      ·have hbt:decide (x.till<E)=false:=decide_eq_false hb3
       have hnx:=HNx.out
       rw [if_neg (by unfold keepS;rw [hbt];simp)] at hnx
       have HNy:=hid hnx;clear hnx HNx HS2 hb3
       go_wp2_with fail
       exact ⟨⟨q+1,o2,by omega,by go_num,HNy.out.symm,HO.out,HT.out,HZ.out,HS.out⟩,by simp [intOf];omega⟩
     ·have hE2:t0 - x.off=E:=by rw [Hud.out];unfold wrap64;simp;omega
      have HE2:=hid hE2;clear hE2
      go_upto_region 14 with fail
      rw [HE2.out];generalize World.alloc wr _=V at*;clear k1 k2 HE2;have HZ:=HZ1;have HO:=HO1;have HT:=HT1;have HS:=HS1;clear HZ1 HO1 HT1 HS1 HN1;have k3:=HZ.out.tb.cell
      by_cases hb3:x.till<E
      ·have hbt:decide (x.till<E)=true:=decide_eq_true hb3
       by_cases hsE:Sh x E
       ·have hS3:=HS2.out
        rw [decide_eq_true hsE] at hS3;have hnx:=HNx.out
        rw [if_pos (by unfold keepS;rw [hbt,decide_eq_true hsE];rfl)] at hnx
        have HS3:=hid hS3;have HNy:=hid hnx;clear hS3 hnx HNx HS2 hb3 hsE
        go_wp2_with (first
         |(go_at_call 56;refine (HS3.out _ HZ.out.bel).mono ?_;rintro e w4 ⟨rfl,hb⟩;have HZ4:=hid (HZ.out.step hb);have HO4:=hid (Rul.own_below HO.out hb);have HT4:=hid (Rul.own_below HT.out hb);have HS4:=hid (Nat.le_trans HS.out hb.size);clear hb k3)
         |(at_builtin;refine wpList_append1g w4 rfl (.tmp 66) (.tmp 68) 30 rfl W.heap.size 2 i0 _ 1 8 underlying30 hi0 hz0 hz1 hz2 rfl (by decide) _ o2.length (ints o2) rfl HO4.out (by simp [Act.eval]) rfl one_int M1.out M2.out HS4.out ?_;intro v' w5 ho5 hg5;have HO5:=hid ho5;have HG5:=hid hg5;clear ho5 hg5))
        refine ⟨⟨q+1,o2++[E],by omega,by go_num,HNy.out.symm,?_,?_,?_,?_⟩,by simp [intOf];omega⟩
        ·have:=HO5.out
         rw [ints_snoc] at this;rw [List.length_append];exact this
        ·exact (HT4.out.alloc _).kept HG5.out (Rd.own_own_ne HT4.out HO4.out (by decide)).symm
        ·exact (HZ4.out.alloc _).grown HG5.out (fun r e=>by have:=(HO4.out.lt r e).1;have:=Hw1.out;omega)
        ·have:=HG5.out.size;have:=HS4.out;simp at *;omega
       ·have hS3:=HS2.out
        rw [decide_eq_false hsE] at hS3;have hnx:=HNx.out
        rw [if_neg (by unfold keepS;rw [decide_eq_false hsE];simp)] at hnx
        have HS3:=hid hS3;have HNy:=hid hnx;clear hS3 hnx HNx HS2 hb3 hsE
        go_wp2_with (go_at_call 56;refine (HS3.out _ HZ.out.bel).mono ?_;rintro e w4 ⟨rfl,hb⟩;have HZ4:=hid (HZ.out.step hb);have HO4:=hid (Rul.own_below HO.out hb);have HT4:=hid (Rul.own_below HT.out hb);have HS4:=hid (Nat.le_trans HS.out hb.size);clear hb k3)
        exact ⟨⟨q+1,o2,by omega,by go_num,HNy.out.symm,HO4.out,HT4.out,HZ4.out,HS4.out⟩,by simp [intOf];omega⟩
      ·have hbt:decide (x.till<E)=false:=decide_eq_false hb3
       have hnx:=HNx.out
       rw [if_neg (by unfold keepS;rw [hbt];simp)] at hnx
       have HNy:=hid hnx;clear hnx HNx HS2 hb3
       go_wp2_with fail
       exact ⟨⟨q+1,o2,by omega,by go_num,HNy.out.symm,HO.out,HT.out,HZ.out,HS.out⟩,by simp [intOf];omega⟩
     ·have hE2:t0=E:=by rw [Hud.out];unfold wrap64;simp
      clear Hud;subst hE2
      go_upto_region 14 with fail
      generalize World.alloc wr _=V at*;clear k1 k2;have HZ:=HZ1;have HO:=HO1;have HT:=HT1;have HS:=HS1;clear HZ1 HO1 HT1 HS1 HN1;have k3:=HZ.out.tb.cell
      by_cases hb3:x.till<t0
      ·have hbt:decide (x.till<t0)=true:=decide_eq_true hb3
       by_cases hsE:Sh x t0
       ·have hS3:=HS2.out
        rw [decide_eq_true hsE] at hS3;have hnx:=HNx.out
        rw [if_pos (by unfold keepS;rw [hbt,decide_eq_true hsE];rfl)] at hnx
        have HS3:=hid hS3;have HNy:=hid hnx;clear hS3 hnx HNx HS2 hb3 hsE
        go_wp2_with (first
         |(go_at_call 56;refine (HS3.out _ HZ.out.bel).mono ?_;rintro e w4 ⟨rfl,hb⟩;have HZ4:=hid (HZ.out.step hb);have HO4:=hid (Rul.own_below HO.out hb);have HT4:=hid (Rul.own_below HT.out hb);have HS4:=hid (Nat.le_trans HS.out hb.size);clear hb k3)
         |(at_builtin;refine wpList_append1g w4 rfl (.tmp 66) (.tmp 68) 30 rfl W.heap.size 2 i0 _ 1 8 underlying30 hi0 hz0 hz1 hz2 rfl (by decide) _ o2.length (ints o2) rfl HO4.out (by simp [Act.eval]) rfl one_int M1.out M2.out HS4.out ?_;intro v' w5 ho5 hg5;have HO5:=hid ho5;have HG5:=hid hg5;clear ho5 hg5))
        refine ⟨⟨q+1,o2++[t0],by omega,by go_num,HNy.out.symm,?_,?_,?_,?_⟩,by simp [intOf];omega⟩
        ·have:=HO5.out
         rw [ints_snoc] at this;rw [List.length_append];exact this
        ·exact (HT4.out.alloc _).kept HG5.out (Rd.own_own_ne HT4.out HO4.out (by decide)).symm
        ·exact (HZ4.out.alloc _).grown HG5.out (fun r e=>by have:=(HO4.out.lt r e).1;have:=Hw1.out;omega)
        ·have:=HG5.out.size;have:=HS4.out;simp at *;omega
       ·have hS3:=HS2.out
        rw [decide_eq_false hsE] at hS3;have hnx:=HNx.out
        rw [if_neg (by unfold keepS;rw [decide_eq_false hsE];simp)] at hnx
        have HS3:=hid hS3;have HNy:=hid hnx;clear hS3 hnx HNx HS2 hb3 hsE
        go_wp2_with (go_at_call 56;refine (HS3.out _ HZ.out.bel).mono ?_;rintro e w4 ⟨rfl,hb⟩;have HZ4:=hid (HZ.out.step hb);have HO4:=hid (Rul.own_below HO.out hb);have HT4:=hid (Rul.own_below HT.out hb);have HS4:=hid (Nat.le_trans HS.out hb.size);clear hb k3)
        exact ⟨⟨q+1,o2,by omega,by go_num,HNy.out.symm,HO4.out,HT4.out,HZ4.out,HS4.out⟩,by simp [intOf];omega⟩
      ·have hbt:decide (x.till<t0)=false:=decide_eq_false hb3
       have hnx:=HNx.out
       rw [if_neg (by unfold keepS;rw [hbt];simp)] at hnx
       have HNy:=hid hnx;clear hnx HNx HS2 hb3
       go_wp2_with fail
       exact ⟨⟨q+1,o2,by omega,by go_num,HNy.out.symm,HO.out,HT.out,HZ.out,HS.out⟩,by simp [intOf];omega⟩
    ·obtain rfl:q=T.length:=by omega
     rw [List.take_length,<-HSu.out] at HQ2
     have hqb:decide (((T.length:Nat):Int)<(T.length:Nat))=false:=decide_eq_false (by omega)
     have hwj:wrap64 (fr+(j:Int)+1)=fr+((j+1:Nat):Int):=by unfold wrap64;omega
     go_wp2_with fail
     exact ⟨⟨j+1,o2,by omega,by congr 1;omega,HQ2.out,HOw.out,HZ.out,HS.out⟩,by simp [intOf];omega⟩
  ·obtain rfl:j=6:=by omega
   have hjb:decide (fr+((6:Nat):Int)<=fr+5)=false:=decide_eq_false (by omega)
   have hol:=HOl.out 6;rw [<-HQ.out] at hol;have HLn:=hid (sortI_length o);obtain ⟨A3,c3,hv⟩:=own_slice HOw.out;subst hv
   have HSo:=hid (sort64_any o A3 c3 W.heap.size wo HOw.out (by omega))
   go_wp2_with (go_at_call 91;refine HSo.out.mono ?_;rintro e w2 ⟨rfl,ho,hg⟩;have HO2:=hid ho;have HG2:=hid hg;clear ho hg)
   go_ret
   refine ⟨A3,c3,sortI o,by rw [HLn.out];rfl,?_,sortI_rise o,fun a=>by rw [(sortI_perm o).mem_iff,HQ.out],?_⟩
   ·rw [HLn.out]
    exact own_base HO2.out (by have:=Hw1.out;omega)
   ·exact HZ.out.bel.grown HG2.out HZ.out.bel.size fun r e=>by have:=(HOw.out.lt r e).1;have:=Hw1.out;omega
end Zon
end
end
section
section
namespace Zon
open Go.RowKit Mem Civ Mom Img Plc Rul Ahd Trn Src Snd Att Rgt Abr Sch Cmq
theorem next1_any (ss:List Shift) (A:Option Addr) (c:Nat) (v0 v1 v2 v3 v5 v6 v7 v8:Value) (t:Int) (b0 b1 i:Nat) (w:World) (h:Reads w w.heap.size 4 A ss.length (ss.flatMap Shift.cells)) (hi:i<ss.length)
  (h0:Blk w b0 61 #[v0,v1,v2,v3,.slice A ss.length c,v5,v6,v7,v8]) (h1:w.cell? ⟨b1,0,none⟩=some (.int .i64 t)):
  Calls prog 55 #[.int .i64 i,.pointer (some ⟨b0,0,none⟩),.pointer (some ⟨b1,0,none⟩)] w fun e w'=>e= .returned (.bool (shiftF ss t i))/\Below w.heap.size w w':=by
 obtain ⟨ad,rfl,hadb,c0,c1,c2,c3⟩:=shift_at h hi
 have hq:shiftF ss t i=decide (t<ss[i].sec):=by unfold shiftF;rw [List.getElem?_eq_getElem hi];rfl
 rw [hq];have d0:=fun j=>h0.cell j;clear h hq h0;generalize ss[i]=s at*;obtain ⟨sec,ph⟩:=s;simp only at c0 ⊢;clear c1 c2 c3;go_enter func55,ntmps55;go_wp2
 go_region
 go_wp2;go_ret;exact ⟨rfl,(Below.refl _ _).drew⟩
structure Nx (w:World) (cs:Array Value) (t:Int) (z:World):Prop where
 tb:Blk z w.heap.size 61 cs
 tt:Blk z (w.heap.size+1) 2 #[.int .i64 t]
 bel:Below w.heap.size w z
theorem Nx.step {w z z':World} {cs:Array Value} {t:Int} (h:Nx w cs t z) (hb:Below z.heap.size z z'):Nx w cs t z':=⟨h.tb.below hb h.tb.lt,h.tt.below hb h.tt.lt,h.bel.trans (hb.mono h.bel.size)⟩
theorem Nx.alloc {w z:World} {cs:Array Value} {t:Int} (h:Nx w cs t z) (o:Obj):Nx w cs t (z.alloc o):=⟨h.tb.alloc o,h.tt.alloc o,h.bel.alloc h.bel.size o⟩
theorem Nx.drew {w z:World} {cs:Array Value} {t:Int} (h:Nx w cs t z):Nx w cs t z.drew:=⟨h.tb.drew,h.tt.drew,h.bel.drew⟩
theorem Nx.grown {w z z':World} {cs:Array Value} {t:Int} (h:Nx w cs t z) {row:Option Nat} (hg:z.grownBy z' row) (hr:∀ r,row=some r->w.heap.size+1<r):Nx w cs t z':=
 ⟨h.tb.grown hg (fun e=>by have:=hr _ e.symm;omega),h.tt.grown hg (fun e=>by have:=hr _ e.symm;omega),h.bel.grown hg h.bel.size (fun r e=>by have:=hr r e;omega)⟩
theorem Nx.set {w z:World} {cs:Array Value} {t:Int} (h:Nx w cs t z) (u:Int):Nx w cs u (z.setCell ⟨w.heap.size+1,0,none⟩ (.int .i64 u)):=
 ⟨h.tb.far (by dsimp only;omega) _,h.tt.set_ 0 _,h.bel.setCell (by dsimp only;omega) _⟩
theorem Nx.start (w:World) (cs:Array Value) (t:Int):Nx w cs t ((w.alloc (.cells cs 61)).alloc (.cells #[.int .i64 t] 2)):=by
 obtain ⟨b0,b1,hb,_⟩:=box2 w 61 2 cs #[.int .i64 t];exact ⟨b0,b1,hb⟩
theorem yearZ_bd (t:Int): -300000<=yearZ t/\yearZ t<=300000:=by
 unfold yearZ;have h:=zyear_bd t;generalize max (min (t.tdiv 86400) 100000000) (-100000001)=n at*;have hy:=year_in n;have h0:=jan_at
 constructor
 ·by_cases hc: -300000<=yearD n
  ·exact hc
  ·have:=jan_mono (a:=yearD n+1) (b:=1) (by omega);omega
 ·by_cases hc:yearD n<=300000
  ·exact hc
  ·have:=jan_mono (a:=1) (b:=yearD n) (by omega);omega
def optV (o:Option Int):Value:= .tuple #[.int .i64 (o.getD 0),.bool o.isSome]
theorem own_len {w:World} {base size n c:Nat} {A:Option Addr} {e:TypeId} {xs:List Value} (h:w.ownsRow base e size (.slice A n c) n xs):n<=9223372036854775807:=by
 rcases h.2 with ⟨_,h0⟩|⟨g,cap,cur,hv,_,_,h1,h2,_⟩
 ·omega
 ·unfold maxLen at h2;omega
def NextP (x:Table) (t:Int) (w:World) (e:Ending) (w':World):Prop:=∃ o:Option Int,e= .returned (optV o)/\NextR x t o/\Below w.heap.size w w'
theorem next_any (x:Table) (A A2:Option Addr) (c c2:Nat) (m t:Int) (w:World) (h:Rt x A A2 m w) (h1: -9223372036854775808<=t) (h2:t<=9223372036854775807):
  Calls prog 32 #[.agg (tabCells x A c A2 c2),.int .i64 t] w (NextP x t w):=by
 obtain ⟨i0,hi0,hz0,hz1,hz2⟩:=info_parts info_int;have hns:=h.tab.ns;have htil:=h.till;have hst:=Nx.start w (tabCells x A c A2 c2) t;have hcut:searchF (shiftF x.shifts t) x.shifts.length 0 x.shifts.length=cutN x t:=rfl
 have hSr:=fun z (hz:Nx w (tabCells x A c A2 c2) t z)=>search_any x.shifts.length 55 #[.pointer (some ⟨w.heap.size,0,none⟩),.pointer (some ⟨w.heap.size+1,0,none⟩)] (shiftF x.shifts t) z h.tab.ns (enters_of func55 (by kernel_rfl) rfl)
  (fun i z2 hi hb2=>next1_any x.shifts A c _ _ _ _ _ _ _ _ t w.heap.size (w.heap.size+1) i z2 (h.below (hz.step hb2).bel).tab.rs hi (hz.step hb2).tb ((hz.step hb2).tt.cell 0))
 rw [hcut] at hSr;have hle:=(cut_spec h.right t).1;have hsh:=fun (j:Nat) (hj:j<x.shifts.length) z (hb:Below w.heap.size w z)=>shift_at (h.below hb).tab.rs hj;have hnx:=fun (hj:cutN x t<x.shifts.length)=>next_shift h.right hj;have hfl:=fun (hj:x.shifts.length<=cutN x t) (h0:x.tail.length=0)=>next_flat h.right hj h0;have htl:=fun (hj:x.shifts.length<=cutN x t) (ht:t<x.till) (hs:Sh x x.till)=>next_till h.right hj ht hs
 have hSf:=fun (ht:t<x.till) z (hb:Below w.heap.size w z)=>shift_any x A A2 c c2 m x.till z (h.below hb) (by omega) htil.2
 have hFr:=fun (h0:x.tail.length≠0) z (hb:Below w.heap.size w z)=>froms_any x A A2 c c2 m z (h.below hb) h0;have hTu:=fun (h0:x.tail.length≠0) fr (f1: -1000000<=fr) (f2:fr<=1000000) z (hb:Below w.heap.size w z)=>turns_any x A A2 c c2 m fr z (h.below hb) h0 f1 f2
 have hYr:=fun z=>zyear_any (max t x.till) z (by omega) (by omega)
 have hr:=h.right;simp only [tabCells] at*
 obtain ⟨W,hW⟩:∃ W,(w.alloc (.cells #[.string x.name,.int .i64 x.first.off,.int .i64 x.first.save,.string x.first.abbr,.slice A x.shifts.length c,.int .i64 x.till,.slice A2 x.tail.length c2,.int .i64 x.off,.string x.format] 61)).alloc (.cells #[.int .i64 t] 2)=W:=⟨_,rfl⟩
 rw [hW] at hst;have c0:=hst.tb.cell;have HO:=hid hst;have HSr:=hid hSr;have HSh:=hid hsh;have HNx:=hid hnx;have HFl:=hid hfl;have HTl:=hid htl;have HSf:=hid hSf;have HFr:=hid hFr;have HTu:=hid hTu;have HYr:=hid hYr;have HR:=hid hr;clear h hst hcut hSr hsh hnx hfl htl hSf hFr hTu hYr hr;obtain ⟨t1,t2⟩:=htil
 by_cases hj:cutN x t<x.shifts.length
 ·have hs:=HSh.out _ hj
  have hN:=HNx.out hj;have HN:=hid hN;obtain ⟨ad,hA,hadb,_⟩:=hs w (Below.refl _ _);subst hA;have HS:=hid hs;generalize (x.shifts[cutN x t]'hj)=s at*;obtain ⟨sec,⟨po,ps,pa⟩⟩:=s;simp only at hs hN;obtain ⟨K,hK⟩:∃ K:Nat,cutN x t=K:=⟨_,rfl⟩;rw [hK] at HSr HS hj
  have hKb:decide ((K:Int)<(x.shifts.length:Nat))=true:=decide_eq_true (by omega)
  clear HSh HNx HFl HTl HSf HFr HTu HYr HR hs hN hK hadb hle;go_enter func32,ntmps32
  go_wp2_with (go_at_call 44;refine (HSr.out _ HO.out).mono ?_;rintro e w2 ⟨rfl,hb⟩;have HO2:=hid (HO.out.step hb);have e0:=HO2.out.tb.cell;have hs2:=HS.out _ HO2.out.bel;obtain ⟨ad2,hA2,_,s0,s1,s2,s3⟩:=hs2;injection hA2 with hA2;subst hA2;clear hb c0 s1 s2 s3)
  go_ret2
  exact ⟨some sec,rfl,HN.out,HO2.out.bel⟩
 ·have hn:x.shifts.length<=cutN x t:=by omega
  obtain ⟨K,hK⟩:∃ K:Nat,cutN x t=K:=⟨_,rfl⟩
  have hKb:decide (K<x.shifts.length)=false:=decide_eq_false (by omega)
  rw [hK] at HSr;clear HSh HNx hj hK
  by_cases h0:x.tail.length=0
  ·have HN:=hid (HFl.out hn h0)
   have h0b:(((x.tail.length:Nat):Int) == 0)=true:=by simp [h0]
   clear HFl HTl HSf HFr HTu HYr HR hn hle h0;go_enter func32,ntmps32
   go_wp2_with (go_at_call 44;refine (HSr.out _ HO.out).mono ?_;rintro e w2 ⟨rfl,hb⟩;have HO2:=hid (HO.out.step hb);have e0:=HO2.out.tb.cell;clear hb c0)
   go_ret2
   exact ⟨none,rfl,HN.out,HO2.out.bel⟩
  ·have h0b:(((x.tail.length:Nat):Int) == 0)=false:=beq_eq_false_iff_ne.2 (by omega)
   have HN0:=hid h0
   by_cases hq:t<x.till/\Sh x x.till
   ·have HN:=hid (HTl.out hn hq.1 hq.2)
    have hS:=HSf.out hq.1;rw [decide_eq_true hq.2] at hS;have HS:=hid hS;have hlb:decide (t<x.till)=true:=decide_eq_true hq.1;clear HFl HTl HSf HFr HTu HYr HR hn hle h0 hq hS;go_enter func32,ntmps32
    go_wp2_with (first
     |(go_at_call 44;refine (HSr.out _ HO.out).mono ?_;rintro e w2 ⟨rfl,hb⟩;have HO2:=hid (HO.out.step hb);have e0:=HO2.out.tb.cell;have e1:=HO2.out.tt.cell 0;clear hb c0)
     |(go_at_call 56;refine (HS.out _ HO2.out.bel).mono ?_;rintro e w3 ⟨rfl,hb⟩;have HO3:=hid (HO2.out.step hb);have d0:=HO3.out.tb.cell;clear hb e0 e1))
    go_ret2
    exact ⟨some x.till,rfl,HN.out,HO3.out.bel⟩
   ·have hY:=yearZ_bd (max t x.till)
    have hnf:=fun (l:List Int) (hl:l.Pairwise (·<=·)) (hm:∀ a,a∈l↔a∈turnO' x (yearZ (max t x.till) - 2) 6) (i:Nat) (hi:i<l.length) (ha:max t x.till<l[i]) (hb:∀ a∈l.take i,a<=max t x.till)=>next_first HR.out hn h0 hq hl hm hi ha hb;have hnn:=fun (l:List Int) (hm:∀ a,a∈l↔a∈turnO' x (yearZ (max t x.till) - 2) 6) (hb:∀ a∈l,a<=max t x.till)=>next_none HR.out hn h0 hq hm hb;have hnm:=fun (l:List Int) (fr:Int) (hm:∀ a,a∈l↔a∈turnO' x fr 6) (hno:NoSh x (max t x.till)) (a:Int) (ha:a∈l) (h:max t x.till<a)=>next_more HR.out hn h0 hq hm hno ha h;have hne:=fun (hno:NoSh x (max t x.till))=>next_end HR.out hn h0 hq hno;have hFr:=HFr.out h0
    have hTu:=fun y (y1: -300000<=y) (y2:y<=300000) z hb=>HTu.out h0 (y - 2) (by omega) (by omega) z hb
    have hSb:t<x.till->∀ z,Below w.heap.size w z->Calls prog 56 #[.agg #[.string x.name,.int .i64 x.first.off,.int .i64 x.first.save,.string x.first.abbr,.slice A x.shifts.length c,.int .i64 x.till,.slice A2 x.tail.length c2,.int .i64 x.off,.string x.format],.int .i64 x.till] z fun e w'=>e= .returned (.bool false)/\Below z.heap.size z w':=fun ht z hb=>by
     have:=HSf.out ht z hb
     rwa [decide_eq_false (fun hs=>hq ⟨ht,hs⟩)] at this
    have hT0: -9223372036854775808<=max t x.till/\max t x.till<=9223372036854775807:=by omega
    obtain ⟨T0,hT0e⟩:∃ T0,max t x.till=T0:=⟨_,rfl⟩;rw [hT0e] at hnf hnn hnm hne hY HYr hT0;obtain ⟨Y,hYe⟩:∃ Y,yearZ T0=Y:=⟨_,rfl⟩;rw [hYe] at hnf hnn hY HYr;have HNF:=hid hnf;have HNN:=hid hnn;have HNM:=hid hnm;have HNE:=hid hne;have HFr2:=hid hFr;have HTu2:=hid hTu;have HSb:=hid hSb;obtain ⟨y1,y2⟩:=hY
    have hjoin:∀ y:Int,y - 2+5=y+3:=fun y=>by omega
    have HJ:=hid hjoin;clear HFl HTl HSf HFr HTu hn hle h0 hq hnf hnn hnm hne hFr hTu hSb hYe hjoin HN0;go_enter func32,ntmps32
    by_cases ht:t<x.till
    focus
     have hS2:=hid (HSb.out ht);have htb:decide (t<x.till)=true:=decide_eq_true ht;clear HSb
     go_upto_region 8 with (first
      |(go_at_call 44;refine (HSr.out _ HO.out).mono ?_;rintro e w2 ⟨rfl,hb⟩;have HO2:=hid (HO.out.step hb);have e0:=HO2.out.tb.cell;have e1:=HO2.out.tt.cell 0;clear hb c0)
      |(go_at_call 56;refine (hS2.out _ HO2.out.bel).mono ?_;rintro e w3 ⟨rfl,hb⟩;have HO3:=hid (HO2.out.step hb);have d0:=HO3.out.tb.cell;have d1:=HO3.out.tt.cell 0;have f1:=HO3.out.tt.frozen 0;clear hb e0 e1))
     have HV:=HO3;clear HO2 HO3 hS2 htb
     go_upto_region 9 with fail
     have HV2:=hid (HV.out.set T0);clear d0 d1 f1 HV;generalize World.setCell w3 _ _=V at*;clear ht
    rotate_left
    focus
     have htb:decide (t<x.till)=false:=decide_eq_false ht;clear HSb
     go_upto_region 8 with (go_at_call 44;refine (HSr.out _ HO.out).mono ?_;rintro e w2 ⟨rfl,hb⟩;have HO2:=hid (HO.out.step hb);have d0:=HO2.out.tb.cell;have d1:=HO2.out.tt.cell 0;have f1:=HO2.out.tt.frozen 0;clear hb c0)
     have HV:=HO2;clear HO2 htb
     go_upto_region 9 with fail
     have HV2:=hid (HV.out.set T0);clear d0 d1 f1 HV;generalize World.setCell w2 _ _=V at*;clear ht
    all_goals
     have d0:=HV2.out.tb.cell;have d1:=HV2.out.tt.cell 0
     go_cut [60,61,62] from 55 to 62 (fun s60 s61 s62 wx=>∃ (Ay:Option Addr) (cy:Nat) (l:List Int),s60= .slice Ay (1+l.length) cy/\s61= .int .i64 ((1+l.length:Nat):Int)/\s62= .int .i64 0/\l.length<=2/\(∀ y∈l,1<=y/\y<=9999)/\wx.ownsRow (w.heap.size+1+1) 3 1 (.slice Ay (1+l.length) cy) (1+l.length) (ints (Y :: l))/\Nx w #[.string x.name,.int .i64 x.first.off,.int .i64 x.first.save,.string x.first.abbr,.slice A x.shifts.length c,.int .i64 x.till,.slice A2 x.tail.length c2,.int .i64 x.off,.string x.format] T0 wx)
     case first=>
      go_region_law (first
       |(refine step_append_any wf rfl (.tmp 57) (.tmp 59) 56 rfl (w.heap.size+1+1) 3 i0 _ 1 8 underlying56 hi0 hz0 hz1 hz2 rfl (by decide) _ 1 _ (by simp [Act.eval]) HOa.out wf.heap.size Af l.length cf (ints l) (by simp [Act.eval]) HRf.out (one_ints l) M1.out M2.out HSf.out ?_;intro v' wB hown8 hg8 _;obtain ⟨Ay,cy,rfl⟩:=own_slice hown8;have HOB:=hid hown8;have HNB:=hid (HNf.out.grown hg8 (fun r e=>(HOa.out.lt r e).1));clear hown8 hg8)
       |(refine step_append_any (wf.alloc (.cells #[.int .i64 Y] 3)) rfl (.tmp 57) (.tmp 59) 56 rfl (w.heap.size+1+1) 3 i0 _ 1 8 underlying56 hi0 hz0 hz1 hz2 rfl (by decide) _ 1 _ (by simp [Act.eval]) HOb.out (wf.alloc (.cells #[.int .i64 Y] 3)).heap.size Af l.length cf (ints l) (by simp [Act.eval]) HRb.out (one_ints l) M1.out M2.out HSb.out ?_;intro v' wB hown8 hg8 _;obtain ⟨Ay,cy,rfl⟩:=own_slice hown8;have HOB:=hid hown8;have HNB:=hid ((HNf.out.alloc _).grown hg8 (fun r e=>(HOb.out.lt r e).1));clear hown8 hg8)
       |(go_simp;go_at_call 57;refine (HYr.out _).mono ?_;rintro e wy ⟨rfl,hb⟩;have HNy:=hid (HV2.out.drew.step hb);have e0:=HNy.out.tb.cell;have e1:=fun o i=>(HNy.out.alloc o).tb.cell i;clear hb)
       |(go_simp;go_at_call 58;refine (HFr2.out _ (HNy.out.alloc (.cells #[.int .i64 Y] 3)).bel).mono ?_;rintro e wf ⟨Af,cf,l,rfl,hof,hl2,hly,hb⟩;have HNf:=hid ((HNy.out.alloc (.cells #[.int .i64 Y] 3)).step hb);have HOa:=hid (own_of_blk (base:=w.heap.size+1+1) (n:=1) (size:=1) ((Blk.new wy 3 #[.int .i64 Y]).below hb (Blk.new wy 3 #[.int .i64 Y]).lt) (by have:=HNy.out.tt.lt;omega) rfl (by decide));have HRf:=hid (Reads.of_own hof);have Hl2:=hid hl2;have Hly:=hid hly;have M1:=hid (show 1+l.length<=maxLen by unfold maxLen;omega);have M2:=hid (show (1+l.length)*8<=140737488355328 by omega);have HSf:=hid (show w.heap.size+1+1<=wf.heap.size by have:=HNf.out.tt.lt;omega);clear hof hl2 hly hb)
       |(go_simp;go_at_call 58;refine (HFr2.out _ HNy.out.bel).mono ?_;rintro e wf ⟨Af,cf,l,rfl,hof,hl2,hly,hb⟩;have HNf:=hid (HNy.out.step hb);have HOb:=hid (own_of_blk (base:=w.heap.size+1+1) (n:=1) (size:=1) (Blk.new wf 3 #[.int .i64 Y]) (by have:=HNf.out.tt.lt;omega) rfl (by decide));have HRb:=hid (Reads.of_own (hof.alloc (.cells #[.int .i64 Y] 3)));have Hl2:=hid hl2;have Hly:=hid hly;have M1:=hid (show 1+l.length<=maxLen by unfold maxLen;omega);have M2:=hid (show (1+l.length)*8<=140737488355328 by omega);have HSb:=hid (show w.heap.size+1+1<=(wf.alloc (.cells #[.int .i64 Y] 3)).heap.size by have:=HNf.out.tt.lt;simp;omega);clear hof hl2 hly hb))
      all_goals
       go_wp2;go_meet;exact ⟨Ay,cy,l,rfl,rfl,rfl,Hl2.out,Hly.out,HOB.out,HNB.out⟩
     case rest=>
      obtain ⟨Ay,cy,l,rfl,rfl,rfl,hl2,hly,hob,hnb⟩:=hcut;have Hl2:=hid hl2;have Hly:=hid hly;have HOB:=hid hob;have HNB:=hid hnb;have hn2:=hl2
      have hn3:1<=1+l.length/\1+l.length<=3:=by omega
      have hn1:(Y :: l).length=1+l.length:=by simp;omega
      have HOw:Hid (wc.ownsRow (w.heap.size+1+1) 3 1 (.slice Ay (1+l.length) cy) (1+l.length) (ints (Y :: l))):=HOB.out
      have hyb:∀ k (hk:k<(Y :: l).length),-300000<=(Y :: l)[k]/\(Y :: l)[k]<=300000:=fun k hk=>by
       rcases List.mem_cons.1 (List.getElem_mem hk) with e|e
       ·rw [e];exact ⟨y1,y2⟩
       ·have:=Hly.out _ e;omega
      have hy0:∀ (hk:0<(Y :: l).length),(Y :: l)[0]=Y:=fun _=>rfl;have HYb:=hid hyb;have HY0:=hid hy0;have Hn1:=hid hn1;clear hyb hy0 d0 d1 HOB Hl2 Hly HV2 hl2 hly hob hnb;generalize Y :: l=ys at*;generalize 1+l.length=n at*;clear hn1 hn2;obtain ⟨n1,n3⟩:=hn3
      go_wp2_with fail
      go_loopw [62] (fun i wz=>∃ q:Nat,q<=n/\i= .int .i64 q/\(q=0\/NoSh x T0)/\wz.ownsRow (w.heap.size+1+1) 3 1 (.slice Ay n cy) n (ints ys)/\Nx w #[.string x.name,.int .i64 x.first.off,.int .i64 x.first.save,.string x.first.abbr,.slice A x.shifts.length c,.int .i64 x.till,.slice A2 x.tail.length c2,.int .i64 x.off,.string x.format] T0 wz) (fun i _=>n - (intOf i).toNat)
      case atStart=>exact ⟨0,Nat.zero_le _,rfl,.inl rfl,HOw.out,HNB.out⟩
      case round=>
       clear HOw HNB;obtain ⟨q,hq,rfl,hno,hown,hnx⟩:=hrel;have HNo:=hid hno;have HOw:=hid hown;have HN:=hid hnx;have k0:=hnx.tb.cell;have k1:=hnx.tt.cell 0;clear hno hown hnx
       by_cases hqn:q<n
       ·have hk:q<ys.length:=by rw [Hn1.out];exact hqn
        obtain ⟨ad,hA,_,a0⟩:=reads_map (Reads.of_own HOw.out) Hn1.out hqn;subst hA;have hyq:=HYb.out q hk
        have hz:q=0->ys[q]=Y:=fun e=>by subst e;exact HY0.out hk
        generalize ys[q]=yq at*;obtain ⟨M,hM⟩:∃ M,max yq Y=M:=⟨_,rfl⟩
        have hMz:q=0->M=Y:=fun e=>by have:=hz e;omega
        obtain ⟨m1,m2⟩: -300000<=M/\M<=300000:=by omega
        have hTm:=HTu2.out M m1 m2;simp only [HJ.out M] at hTm;have HTm:=hid hTm;have HMz:=hid hMz
        have hqb:decide ((q:Int)<(n:Nat))=true:=decide_eq_true (by omega)
        clear hTm hMz hz hyq hk
        go_wp2_with (first
         |(go_at_call 57;refine (HYr.out _).mono ?_;rintro e w6 ⟨rfl,hb⟩;have HN6:=hid (HN.out.step hb);have k2:=HN6.out.tb.cell;have HO6:=hid (Rul.own_below HOw.out hb);clear hb k0 k1 a0)
         |(go_at_call 59;refine (HTm.out _ HN6.out.bel).mono ?_;rintro e w7 ⟨A7,c7,l2,rfl,ho,hs,hm,hb⟩;have HN7:=hid (HN6.out.step hb);have HO7:=hid (Rul.own_below HO6.out hb);have HL7:=hid ho;have HS7:=hid hs;have HM7:=hid hm;have k3:=HN7.out.tt.cell 0;have hl7:=own_len ho;clear hb ho hs hm k2))
        go_loopw [77] (fun i wz=>∃ p:Nat,p<=l2.length/\i= .int .i64 p/\wz=w7/\∀ a∈l2.take p,a<=T0) (fun i _=>l2.length - (intOf i).toNat)
        case atStart=>exact ⟨0,Nat.zero_le _,rfl,rfl,by simp⟩
        case round=>
         obtain ⟨p,hp,rfl,rfl,hle⟩:=hrel;have HLe:=hid hle;clear hle
         by_cases hpn:p<l2.length
         ·obtain ⟨a7,hA,_,b0⟩:=reads_map (Reads.of_own HL7.out) rfl hpn
          subst hA
          have hpb:decide ((p:Int)<(l2.length:Nat))=true:=decide_eq_true (by omega)
          have hmem:=List.getElem_mem hpn;have htk:=List.take_succ_eq_append_getElem hpn
          by_cases ha:T0<l2[p]
          ·have HR9:Hid (NextR x t (some l2[p])):=by
            rcases Nat.eq_zero_or_pos q with e|e
            ·exact HNF.out l2 HS7.out (by rw [<-HMz.out e];exact HM7.out) p hpn ha HLe.out
            ·exact HNM.out l2 (M - 2) HM7.out (HNo.out.resolve_left (by omega)) _ hmem ha
           have hab:decide (T0<l2[p])=true:=decide_eq_true ha;clear ha hmem htk;generalize l2[p]=a9 at*
           go_wp2_with fail
           go_ret2
           exact ⟨some a9,rfl,HR9.out,HN7.out.bel⟩
          ·have hab:decide (T0<l2[p])=false:=decide_eq_false ha
           have HT9:Hid (∀ a∈l2.take (p+1),a<=T0):=fun a h9=>by
            rw [htk] at h9
            rcases List.mem_append.1 h9 with e|e
            ·exact HLe.out a e
            ·rw [List.mem_singleton.1 e];omega
           clear ha hmem htk;generalize l2[p]=a9 at*
           go_wp2_with fail
           exact ⟨⟨p+1,by omega,by go_num,trivial,HT9.out⟩,by simp [intOf];omega⟩
         ·obtain rfl:p=l2.length:=by omega
          have hpb:decide (((l2.length:Nat):Int)<(l2.length:Nat))=false:=decide_eq_false (by omega)
          have HS9:Hid (NoSh x T0):=by
           rcases Nat.eq_zero_or_pos q with e|e
           ·exact HNN.out l2 (by rw [<-HMz.out e];exact HM7.out) (by have:=HLe.out;rwa [List.take_length] at this)
           ·exact HNo.out.resolve_left (by omega)
          go_wp2_with fail
          exact ⟨⟨q+1,by omega,by go_num,.inr HS9.out,HO7.out,HN7.out⟩,by simp [intOf];omega⟩
       ·have HS9:Hid (NoSh x T0):=HNo.out.resolve_left (by omega)
        have hqb:decide ((q:Int)<(n:Nat))=false:=decide_eq_false (by omega)
        go_wp2_with fail
        go_ret2
        exact ⟨none,rfl,HNE.out HS9.out,HN.out.bel⟩
end Zon
end
end
end Go.Proofs.YtmlejgdohcpmjaaGreatDoor
