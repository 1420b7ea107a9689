/-
  Contracts of the code that the law reaches, and plain laws. Conditions: as each says.
-/
import Derived.Test.YtmlejgdohcpmjaaGreatDoorV41
set_option linter.all false
set_option maxHeartbeats 40000000
set_option maxRecDepth 100000
namespace Go.Proofs.YtmlejgdohcpmjaaGreatDoor
open Lib (hid)
open Tryz
section
namespace Zon
open Go.RowKit Mem Civ Mom Img Plc Rul Ahd Trn Src Snd Att Rgt Abr Sch Cmq
theorem poss_sum {x:Table} {loc t:Int} (h:t∈possD x loc):t+offT x t=loc:=((poss_is x loc).2 t).1 h
theorem first_gap {x:Table} (hr:rightB x (tailB x)=true) {loc T:Int} (h:GapAt x loc T):∃ T,FirstGap x loc T:=by
 have key:∀ (n:Nat) (T:Int),(T - (loc - 86400)).toNat<=n->GapAt x loc T->∃ T,FirstGap x loc T:=by
  intro n
  induction n with
  |zero=>
   intro T hn hg;have:=(gap_in hr hg).1;omega
  |succ n ih=>
   intro T hn hg
   by_cases hc:∃ T',T'<T/\GapAt x loc T'
   ·obtain ⟨T',h1,h2⟩:=hc
    have:=(gap_in hr h2).1
    exact ih T' (by omega) h2
   ·exact ⟨T,hg,fun T' h1 h2=>hc ⟨T',h1,h2⟩⟩
 exact key _ T (Nat.le_refl _) h
theorem choose_cases {x:Table} {loc:Int} (how:Int) (hok:okT x loc=true):(chooseP x loc how).2≠0\/
  ((chooseP x loc how).2=0/\(chooseP x loc how).1∈possD x loc/\(shapeD x loc).kind≠1)\/
  ((chooseP x loc how).2=0/\possD x loc=[]/\∃ T a b,shapeD x loc=⟨1,T,a,b⟩/\T+a<=loc/\loc<T+b/\(-86400<a/\a<86400)/\(-86400<b/\b<86400)/\(chooseP x loc how).1=if how=2 then loc - b else loc - a):=by
 have hr:rightB x (tailB x)=true:=by unfold okT at hok;simp only [Bool.and_eq_true] at hok;exact hok.1
 have hl: -9000000000000<=loc/\loc<=9000000000000:=by unfold okT at hok;simp only [Bool.and_eq_true,decide_eq_true_eq] at hok;exact hok.2
 have hC:chooseP x loc how=if how<1\/how > 4 then (0,1) else chooseL (possD x loc) (shapeD x loc) loc how:=by unfold chooseP;rw [hok];simp
 by_cases hh:how<1\/how > 4
 ·rw [hC,if_pos hh];exact .inl (by decide)
 rw [hC,if_neg hh];unfold chooseL
 have hkind:possD x loc≠[]->(shapeD x loc).kind≠1:=fun hne=>by
  have:(possD x loc).length≠0:=fun e=>hne (List.length_eq_zero_iff.1 e);unfold shapeD
  split
  ·exact by decide
  ·rw [if_pos (by omega)];exact by decide
 have hlast:∀ l:List Int,l≠[]->l.getLastD 0∈l:=fun l hl=>by
  rw [List.getLastD_eq_getLast?,List.getLast?_eq_some_getLast hl]
  exact List.getLast_mem hl
 have hhead:∀ l:List Int,l≠[]->l.headD 0∈l:=fun l hl=>by
  cases l with
  |nil=>exact absurd rfl hl
  |cons a l=>exact List.mem_cons_self
 by_cases hne:possD x loc=[]
 ·rw [hne]
  simp only [List.length_nil]
  rw [if_neg (by decide),if_neg (by decide)]
  obtain ⟨T,hT⟩:=gap_there hr (loc:=loc) fun t ht=>by
   have:=((poss_is x loc).2 t).2 ht;rw [hne] at this
   cases this
  have hfirst:∃ T,FirstGap x loc T:=first_gap hr hT;obtain ⟨T,hT⟩:=hfirst
  have hS:shapeD x loc=⟨1,T,offT x (T - 1),offT x T⟩:=by
   unfold shapeD;rw [hne];simp only [List.length_nil]
   rw [if_neg (by decide),if_neg (by decide)]
   exact gap_is hr hl.1 hl.2 hT
  by_cases h4:how=4
  ·rw [if_pos h4];exact .inl (by decide)
  ·rw [if_neg h4]
   refine .inr (.inr ⟨by split<;>rfl,trivial,T,_,_,hS,hT.1.1,hT.1.2,off_bd hr _,off_bd hr _,?_⟩)
   rw [hS]
   split<;>rfl
 ·have hk:=hkind hne
  split
  ·exact .inr (.inl ⟨rfl,hhead _ hne,hk⟩)
  ·split
   ·split
    ·exact .inl (by decide)
    ·split
     ·exact .inr (.inl ⟨rfl,hlast _ hne,hk⟩)
     ·exact .inr (.inl ⟨rfl,hhead _ hne,hk⟩)
   ·next h1 h2=>exact absurd (List.length_eq_zero_iff.1 (by omega)) hne
theorem back_refused (x:Table) (A A2:Option Addr) (c c2:Nat) (loc how:Int) (m:Int) (w:World) (h:TabOk x A A2 w) (hm:w.cell? ⟨0,0,none⟩=some (.int .i64 m)) (hti:In64 x.till) (hse:∀ s∈x.shifts,In64 s.sec) (hne:(chooseP x loc how).2≠0):
  Calls prog 7 #[.agg (tabCells x A c A2 c2),.int .i64 loc,.int .i64 how] w fun e w'=>e= .returned (.bool true)/\Below w.heap.size w w':=by
 have hA:=fun z (hb:Below w.heap.size w z)=>alive_any m z (cell_later hb hm);have hG:=fun z (hb:Below w.heap.size w z)=>great_any x A A2 c c2 z (h.below hb);have hC:=fun z (hb:Below w.heap.size w z)=>choose_any x A A2 c c2 m loc how z (h.below hb) (cell_later hb hm) hti hse;have hS:=fun z (hb:Below w.heap.size w z)=>zaround_any x A A2 c c2 m loc z (h.below hb) (cell_later hb hm) hti hse;have hP:=fun z (hb:Below w.heap.size w z)=>possible_any x A A2 c c2 m loc z (h.below hb) (cell_later hb hm) hti hse;obtain ⟨b0,hbw,hsz⟩:=box1 w 27 (tabCells x A c A2 c2);simp only [tabCells] at*
 obtain ⟨W,hW⟩:∃ W,w.alloc (.cells #[.string x.name,.int .i64 x.first.off,.int .i64 x.first.save,.string x.first.abbr,.slice A x.shifts.length c,.int .i64 x.till,.slice A2 x.tail.length c2,.int .i64 x.off,.string x.format] 27)=W:=⟨_,rfl⟩
 rw [hW] at b0 hbw hsz;have k0:=b0.cell
 have HA:=hid hA;have HG:=hid (hG W hbw);have HC:=hid hC;have HS:=hid hS;have HP:=hid hP;have HK:Hid (Kp1 w w.heap.size 27 #[.string x.name,.int .i64 x.first.off,.int .i64 x.first.save,.string x.first.abbr,.slice A x.shifts.length c,.int .i64 x.till,.slice A2 x.tail.length c2,.int .i64 x.off,.string x.format] W):=⟨b0,hbw⟩
 clear h hm hti hse hA hG hC hS hP hbw b0;generalize chooseP x loc how=R at*;obtain ⟨t,e⟩:=R;obtain ⟨S,hSe⟩:∃ S,toldS x loc=S:=⟨_,rfl⟩;rw [hSe] at HS;clear hSe;obtain ⟨g0,g1,g2,g3⟩:=S;simp only at HC HS hne;have hnb:(e == 0)=false:=beq_eq_false_iff_ne.2 hne
 have hnb2:(e != 0)=true:=by simp [bne,hnb]
 clear hne;go_enter func7,ntmps7
 go_wp2_with (first
  |(go_at_call 9;refine HG.out.mono ?_;rintro e w1 ⟨b,rfl,hbl,hb⟩;have HK1:=hid (HK.out.step hb);have k1:=HK1.out.b.cell;have Hbl:=hid hbl;clear hb k0 hbl;cases b)
  |(go_at_call 17;refine (HC.out _ HK1.out.bel).mono ?_;rintro e w2 ⟨rfl,hb⟩;have HK2:=hid (HK1.out.step hb);have k2:=HK2.out.b.cell;clear hb k1)
  |(go_at_call 15;refine (HS.out _ HK2.out.bel).mono ?_;rintro e w3 ⟨rfl,hb⟩;have HK3:=hid ((HK2.out.step hb).step ((Below.refl _ _).alloc (Nat.le_refl _) (.cells #[.int .i64 g0,.int .i64 g1,.int .i64 g2,.int .i64 g3] 35)));have k3:=HK3.out.b.cell;have HS3:=hid (Blk.new w3 35 #[.int .i64 g0,.int .i64 g1,.int .i64 g2,.int .i64 g3]);clear hb k2)
  |(go_at_call 10;refine (HA.out _ HK3.out.bel).mono ?_;rintro e w4 ⟨rfl,hb⟩;have HB7:=hid (HK3.out.step hb).bel;clear hb)
  |(go_at_call 10;refine (HA.out _ HK1.out.bel).mono ?_;rintro e w4 ⟨rfl,hb⟩;have HB7:=hid (HK1.out.step hb).bel;clear hb))
 all_goals go_ret
 all_goals exact ⟨rfl,HB7.out⟩
theorem back_gap (x:Table) (A A2:Option Addr) (c c2:Nat) (loc how:Int) (m:Int) (w:World) (h:TabOk x A A2 w) (hm:w.cell? ⟨0,0,none⟩=some (.int .i64 m)) (hti:In64 x.till) (hse:∀ s∈x.shifts,In64 s.sec) (hok:okT x loc=true) (he:(chooseP x loc how).2=0) (hp:possD x loc=[]) (T a b:Int) (hg:shapeD x loc=⟨1,T,a,b⟩) (h1:T+a<=loc) (h2:loc<T+b) (ha: -86400<a/\a<86400) (hb: -86400<b/\b<86400) (hc:(chooseP x loc how).1=if how=2 then loc - b else loc - a):
  Calls prog 7 #[.agg (tabCells x A c A2 c2),.int .i64 loc,.int .i64 how] w fun e w'=>e= .returned (.bool true)/\Below w.heap.size w w':=by
 have hA:=fun z (hb:Below w.heap.size w z)=>alive_any m z (cell_later hb hm);have hG:=fun z (hb:Below w.heap.size w z)=>great_any x A A2 c c2 z (h.below hb);have hC:=fun z (hb:Below w.heap.size w z)=>choose_any x A A2 c c2 m loc how z (h.below hb) (cell_later hb hm) hti hse;have hS:=fun z (hb:Below w.heap.size w z)=>zaround_any x A A2 c c2 m loc z (h.below hb) (cell_later hb hm) hti hse;have hP:=fun z (hb:Below w.heap.size w z)=>possible_any x A A2 c c2 m loc z (h.below hb) (cell_later hb hm) hti hse
 have hr:rightB x (tailB x)=true:=by unfold okT at hok;simp only [Bool.and_eq_true] at hok;exact hok.1
 have hl: -9000000000000<=loc/\loc<=9000000000000:=by unfold okT at hok;simp only [Bool.and_eq_true,decide_eq_true_eq] at hok;exact hok.2
 have hT:=fun t (a1: -9223372036854775808<=t) (a2:t<=9223372036854775807) z (hb:Below w.heap.size w z)=>at_any x A A2 c c2 t m z (h.below hb) (cell_later hb hm) a1 a2;simp only [at_doc,hr,if_true] at hT
 have hTL:toldL x loc=[]:=by unfold toldL;rw [hok,hp];simp
 have hTS:toldS x loc=⟨1,T,a,b⟩:=by unfold toldS;rw [hok,hg];simp
 have hob:=fun t=>off_bd hr t;unfold offT at hob;rw [hTL] at hP;rw [hTS,hok] at hS;rw [he] at hC;rw [hc] at hC
 obtain ⟨t,ht⟩:∃ t,(if how=2 then loc - b else loc - a)=t:=⟨_,rfl⟩
 rw [ht] at hC
 have htb: -9100000000000<=t/\t<=9100000000000:=by rw [<-ht];split<;>omega
 have hT:=hT t (by omega) (by omega)
 have hob:=hob t;obtain ⟨Q,hQ⟩:∃ Q,tellD x t=Q:=⟨_,rfl⟩;rw [hQ] at hT hob;obtain ⟨q0,q1,q2⟩:=Q;simp only [List.length_nil] at hT hob hS hP;obtain ⟨b0,hbw,hsz⟩:=box1 w 27 (tabCells x A c A2 c2);simp only [tabCells] at*
 obtain ⟨W,hW⟩:∃ W,w.alloc (.cells #[.string x.name,.int .i64 x.first.off,.int .i64 x.first.save,.string x.first.abbr,.slice A x.shifts.length c,.int .i64 x.till,.slice A2 x.tail.length c2,.int .i64 x.off,.string x.format] 27)=W:=⟨_,rfl⟩
 rw [hW] at b0 hbw hsz;have k0:=b0.cell
 have HA:=hid hA;have HG:=hid (hG W hbw);have HC:=hid hC;have HS:=hid hS;have HP:=hid hP;have HK:Hid (Kp1 w w.heap.size 27 #[.string x.name,.int .i64 x.first.off,.int .i64 x.first.save,.string x.first.abbr,.slice A x.shifts.length c,.int .i64 x.till,.slice A2 x.tail.length c2,.int .i64 x.off,.string x.format] W):=⟨b0,hbw⟩
 have HT:=hid hT;clear h hm hti hse hA hG hC hS hP hbw b0 hT hQ hTL hTS he hc hp hg hok hr
 by_cases hh:how=2
 ·subst hh
  rw [if_pos rfl] at ht;subst ht
  have d1:decide (b - a > 0)=true:=decide_eq_true (by omega)
  have d2:(loc - b+a == loc - (b - a))=true:=beq_iff_eq.2 (by omega)
  have d3:decide (loc - b<T)=true:=decide_eq_true (by omega)
  go_enter func7,ntmps7
  go_wp2_with (first
   |(go_at_call 9;refine HG.out.mono ?_;rintro e w1 ⟨b,rfl,hbl,hb⟩;have HK1:=hid (HK.out.step hb);have k1:=HK1.out.b.cell;have Hbl:=hid hbl;clear hb k0 hbl;cases b)
   |(go_at_call 17;refine (HC.out _ HK1.out.bel).mono ?_;rintro e w2 ⟨rfl,hb⟩;have HK2:=hid (HK1.out.step hb);have k2:=HK2.out.b.cell;clear hb k1)
   |(go_at_call 15;refine (HS.out _ HK2.out.bel).mono ?_;rintro e w3 ⟨rfl,hb⟩;have HK3:=hid ((HK2.out.step hb).step ((Below.refl _ _).alloc (Nat.le_refl _) (.cells #[.int .i64 1,.int .i64 T,.int .i64 a,.int .i64 b] 35)));have k3:=HK3.out.b.cell;have HS3:=hid (Blk.new w3 35 #[.int .i64 1,.int .i64 T,.int .i64 a,.int .i64 b]);clear hb k2)
   |(go_at_call 10;refine (HA.out _ HK1.out.bel).mono ?_;rintro e w4 ⟨rfl,hb⟩;have HB7:=hid (HK1.out.step hb).bel;clear hb)
   |(go_at_call 24;refine (HT.out _ HK3.out.bel).mono ?_;rintro e w4 ⟨rfl,hb⟩;have HK4:=hid ((HK3.out.step hb).step ((Below.refl _ _).alloc (Nat.le_refl _) (.cells #[.int .i64 q0,.int .i64 q1,.string q2] 23)));have k4:=HK4.out.b.cell;have HP4:=hid (Blk.new w4 23 #[.int .i64 q0,.int .i64 q1,.string q2]);have p4:=HP4.out.cell;have HS4:=hid ((HS3.out.below hb HS3.out.lt).alloc (.cells #[.int .i64 q0,.int .i64 q1,.string q2] 23));clear hb k3)
   |(go_at_call 11;refine (HP.out _ HK4.out.bel).mono ?_;rintro e w5 ⟨A',c',rfl,ho,hb⟩;have HK5:=hid (HK4.out.step hb);have k5:=HK5.out.b.cell;have HS5:=hid (HS4.out.below hb HS4.out.lt);have HR5:=hid (Reads.of_own ho);have hNl:=own_len ho;clear hb k4 p4 ho))
  ·go_loopw [15,16] (fun u15 u16 wr=>u15= .bool true/\u16= .int .i64 0/\Below w5.heap.size w5 wr) (fun _ _ _=>0)
   case atStart=>exact ⟨rfl,rfl,Below.refl _ _⟩
   case round=>
    obtain ⟨rfl,rfl,hbr⟩:=hrel;have HKr:=hid (HK5.out.step hbr);have sr:=fun i=>(HS5.out.below hbr HS5.out.lt).cell i;have HSr:=hid (HS5.out.below hbr HS5.out.lt);clear hbr k5
    go_wp2_with (go_at_call 10;refine (HA.out _ HKr.out.bel).mono ?_;rintro e w8 ⟨rfl,hb⟩;have s8:=fun i=>(HSr.out.below hb HSr.out.lt).cell i;have HB7:=hid (HKr.out.step hb).bel;clear hb sr)
    go_ret;exact ⟨rfl,HB7.out⟩
  ·go_ret
   exact ⟨rfl,HB7.out⟩
 ·have hh2:(how == 2)=false:=beq_eq_false_iff_ne.2 hh
  rw [if_neg hh] at ht;subst ht
  have d1:decide (b - a > 0)=true:=decide_eq_true (by omega)
  have d2:(loc - a+b == loc+(b - a))=true:=beq_iff_eq.2 (by omega)
  have d3:decide (loc - a ≥ T)=true:=decide_eq_true (by omega)
  clear hh;go_enter func7,ntmps7
  go_wp2_with (first
   |(go_at_call 9;refine HG.out.mono ?_;rintro e w1 ⟨b,rfl,hbl,hb⟩;have HK1:=hid (HK.out.step hb);have k1:=HK1.out.b.cell;have Hbl:=hid hbl;clear hb k0 hbl;cases b)
   |(go_at_call 17;refine (HC.out _ HK1.out.bel).mono ?_;rintro e w2 ⟨rfl,hb⟩;have HK2:=hid (HK1.out.step hb);have k2:=HK2.out.b.cell;clear hb k1)
   |(go_at_call 15;refine (HS.out _ HK2.out.bel).mono ?_;rintro e w3 ⟨rfl,hb⟩;have HK3:=hid ((HK2.out.step hb).step ((Below.refl _ _).alloc (Nat.le_refl _) (.cells #[.int .i64 1,.int .i64 T,.int .i64 a,.int .i64 b] 35)));have k3:=HK3.out.b.cell;have HS3:=hid (Blk.new w3 35 #[.int .i64 1,.int .i64 T,.int .i64 a,.int .i64 b]);clear hb k2)
   |(go_at_call 10;refine (HA.out _ HK1.out.bel).mono ?_;rintro e w4 ⟨rfl,hb⟩;have HB7:=hid (HK1.out.step hb).bel;clear hb)
   |(go_at_call 24;refine (HT.out _ HK3.out.bel).mono ?_;rintro e w4 ⟨rfl,hb⟩;have HK4:=hid ((HK3.out.step hb).step ((Below.refl _ _).alloc (Nat.le_refl _) (.cells #[.int .i64 q0,.int .i64 q1,.string q2] 23)));have k4:=HK4.out.b.cell;have HP4:=hid (Blk.new w4 23 #[.int .i64 q0,.int .i64 q1,.string q2]);have p4:=HP4.out.cell;have HS4:=hid ((HS3.out.below hb HS3.out.lt).alloc (.cells #[.int .i64 q0,.int .i64 q1,.string q2] 23));clear hb k3)
   |(go_at_call 11;refine (HP.out _ HK4.out.bel).mono ?_;rintro e w5 ⟨A',c',rfl,ho,hb⟩;have HK5:=hid (HK4.out.step hb);have k5:=HK5.out.b.cell;have HS5:=hid (HS4.out.below hb HS4.out.lt);have HR5:=hid (Reads.of_own ho);have hNl:=own_len ho;clear hb k4 p4 ho))
  ·go_loopw [15,16] (fun u15 u16 wr=>u15= .bool true/\u16= .int .i64 0/\Below w5.heap.size w5 wr) (fun _ _ _=>0)
   case atStart=>exact ⟨rfl,rfl,Below.refl _ _⟩
   case round=>
    obtain ⟨rfl,rfl,hbr⟩:=hrel;have HKr:=hid (HK5.out.step hbr);have sr:=fun i=>(HS5.out.below hbr HS5.out.lt).cell i;have HSr:=hid (HS5.out.below hbr HS5.out.lt);clear hbr k5
    go_wp2_with (go_at_call 10;refine (HA.out _ HKr.out.bel).mono ?_;rintro e w8 ⟨rfl,hb⟩;have s8:=fun i=>(HSr.out.below hb HSr.out.lt).cell i;have HB7:=hid (HKr.out.step hb).bel;clear hb sr)
    go_ret;exact ⟨rfl,HB7.out⟩
  ·go_ret
   exact ⟨rfl,HB7.out⟩
theorem back_there (x:Table) (A A2:Option Addr) (c c2:Nat) (loc how:Int) (m:Int) (w:World) (h:TabOk x A A2 w) (hm:w.cell? ⟨0,0,none⟩=some (.int .i64 m)) (hti:In64 x.till) (hse:∀ s∈x.shifts,In64 s.sec) (hok:okT x loc=true) (he:(chooseP x loc how).2=0) (hp:(chooseP x loc how).1∈possD x loc) (hg:(shapeD x loc).kind≠1):
  Calls prog 7 #[.agg (tabCells x A c A2 c2),.int .i64 loc,.int .i64 how] w fun e w'=>e= .returned (.bool true)/\Below w.heap.size w w':=by
 have hA:=fun z (hb:Below w.heap.size w z)=>alive_any m z (cell_later hb hm);have hG:=fun z (hb:Below w.heap.size w z)=>great_any x A A2 c c2 z (h.below hb);have hC:=fun z (hb:Below w.heap.size w z)=>choose_any x A A2 c c2 m loc how z (h.below hb) (cell_later hb hm) hti hse;have hS:=fun z (hb:Below w.heap.size w z)=>zaround_any x A A2 c c2 m loc z (h.below hb) (cell_later hb hm) hti hse;have hP:=fun z (hb:Below w.heap.size w z)=>possible_any x A A2 c c2 m loc z (h.below hb) (cell_later hb hm) hti hse
 have hr:rightB x (tailB x)=true:=by unfold okT at hok;simp only [Bool.and_eq_true] at hok;exact hok.1
 have hl: -9000000000000<=loc/\loc<=9000000000000:=by unfold okT at hok;simp only [Bool.and_eq_true,decide_eq_true_eq] at hok;exact hok.2
 have hT:=fun t (a1: -9223372036854775808<=t) (a2:t<=9223372036854775807) z (hb:Below w.heap.size w z)=>at_any x A A2 c c2 t m z (h.below hb) (cell_later hb hm) a1 a2;simp only [at_doc,hr,if_true] at hT
 have hTL:toldL x loc=possD x loc:=by unfold toldL;rw [hok];simp
 have hTS:toldS x loc=shapeD x loc:=by unfold toldS;rw [hok];simp
 have hsum:∀ a∈possD x loc,(-9100000000000<=a/\a<=9100000000000)/\a+(tellD x a).off=loc/\(-86400<(tellD x a).off/\(tellD x a).off<86400):=fun a ha=>by
  have h1:=poss_sum ha;have h2:=off_bd hr a;have e:(tellD x a).off=offT x a:=rfl;rw [e]
  exact ⟨by omega,h1,h2⟩
 have hrise:=(poss_is x loc).1;have hlen:=poss_len x loc;rw [hTL] at hP;rw [hTS,hok] at hS;rw [he] at hC;obtain ⟨t,ht⟩:∃ t,(chooseP x loc how).1=t:=⟨_,rfl⟩;rw [ht] at hC hp;have hst:=hsum t hp
 have hTt:=hT t (by omega) (by omega)
 obtain ⟨Q,hQ⟩:∃ Q,tellD x t=Q:=⟨_,rfl⟩;rw [hQ] at hTt hst;obtain ⟨q0,q1,q2⟩:=Q;generalize shapeD x loc=S at*;obtain ⟨g0,g1,g2,g3⟩:=S;simp only at hTt hst hS hg;generalize possD x loc=L at*;obtain ⟨b0,hbw,hsz⟩:=box1 w 27 (tabCells x A c A2 c2);simp only [tabCells] at*
 obtain ⟨W,hW⟩:∃ W,w.alloc (.cells #[.string x.name,.int .i64 x.first.off,.int .i64 x.first.save,.string x.first.abbr,.slice A x.shifts.length c,.int .i64 x.till,.slice A2 x.tail.length c2,.int .i64 x.off,.string x.format] 27)=W:=⟨_,rfl⟩
 rw [hW] at b0 hbw hsz;have k0:=b0.cell
 have HA:=hid hA;have HG:=hid (hG W hbw);have HC:=hid hC;have HS:=hid hS;have HP:=hid hP;have HK:Hid (Kp1 w w.heap.size 27 #[.string x.name,.int .i64 x.first.off,.int .i64 x.first.save,.string x.first.abbr,.slice A x.shifts.length c,.int .i64 x.till,.slice A2 x.tail.length c2,.int .i64 x.off,.string x.format] W):=⟨b0,hbw⟩
 have HT:=hid hTt;have HTa:=hid hT;have HSum:=hid hsum;have HRise:=hid hrise;have Hp:=hid hp
 have hN:L.length≠0:=fun e=>by rw [List.length_eq_zero_iff.1 e] at hp;cases hp
 have hN0:(((L.length:Nat):Int) == 0)=false:=beq_eq_false_iff_ne.2 (by omega)
 have hgb:(g0 == 1)=false:=beq_eq_false_iff_ne.2 hg
 have hgn:(g0 != 1)=true:=by simp [bne,hgb]
 clear h hm hti hse hA hG hC hS hP hbw b0 hT hTt hQ hTL hTS he hp hg hok hr hsum hrise hlen ht hN;go_enter func7,ntmps7
 go_wp2_with (first
  |(go_at_call 9;refine HG.out.mono ?_;rintro e w1 ⟨b,rfl,hbl,hb⟩;have HK1:=hid (HK.out.step hb);have k1:=HK1.out.b.cell;have Hbl:=hid hbl;clear hb k0 hbl;cases b)
  |(go_at_call 17;refine (HC.out _ HK1.out.bel).mono ?_;rintro e w2 ⟨rfl,hb⟩;have HK2:=hid (HK1.out.step hb);have k2:=HK2.out.b.cell;clear hb k1)
  |(go_at_call 15;refine (HS.out _ HK2.out.bel).mono ?_;rintro e w3 ⟨rfl,hb⟩;have HK3:=hid ((HK2.out.step hb).step ((Below.refl _ _).alloc (Nat.le_refl _) (.cells #[.int .i64 g0,.int .i64 g1,.int .i64 g2,.int .i64 g3] 35)));have k3:=HK3.out.b.cell;have HS3:=hid (Blk.new w3 35 #[.int .i64 g0,.int .i64 g1,.int .i64 g2,.int .i64 g3]);clear hb k2)
  |(go_at_call 10;refine (HA.out _ HK1.out.bel).mono ?_;rintro e w4 ⟨rfl,hb⟩;have HB7:=hid (HK1.out.step hb).bel;clear hb)
  |(go_at_call 24;refine (HT.out _ HK3.out.bel).mono ?_;rintro e w4 ⟨rfl,hb⟩;have HK4:=hid ((HK3.out.step hb).step ((Below.refl _ _).alloc (Nat.le_refl _) (.cells #[.int .i64 q0,.int .i64 q1,.string q2] 23)));have k4:=HK4.out.b.cell;have HP4:=hid (Blk.new w4 23 #[.int .i64 q0,.int .i64 q1,.string q2]);have p4:=HP4.out.cell;have HS4:=hid ((HS3.out.below hb HS3.out.lt).alloc (.cells #[.int .i64 q0,.int .i64 q1,.string q2] 23));clear hb k3)
  |(go_at_call 11;refine (HP.out _ HK4.out.bel).mono ?_;rintro e w5 ⟨A',c',rfl,ho,hb⟩;have HK5:=hid (HK4.out.step hb);have k5:=HK5.out.b.cell;have HS5:=hid (HS4.out.below hb HS4.out.lt);have HR5:=hid (Reads.of_own ho);have hNl:=own_len ho;clear hb k4 p4 ho))
 ·go_loopw [15,16] (fun u15 u16 wr=>∃ k:Nat,k<=L.length/\u16= .int .i64 k/\u15= .bool (decide (t∈L.take k))/\Below w5.heap.size w5 wr) (fun _ u16 _=>L.length - (intOf u16).toNat)
  case atStart=>exact ⟨0,Nat.zero_le _,rfl,by simp,Below.refl _ _⟩
  case round=>
   obtain ⟨k,hk,rfl,rfl,hbr⟩:=hrel;have HKr:=hid (HK5.out.step hbr);have HSr:=hid (HS5.out.below hbr HS5.out.lt);have HBr:=hid hbr;clear hbr k5
   by_cases hkn:k<L.length
   ·have hrr:=fun j (hj:j<L.length) z (hz:Below w5.heap.size w5 z)=>ints_at (HR5.out.below hz) hj
    obtain ⟨ad,hA,hadb,a0⟩:=hrr k hkn wr HBr.out
    have hmv:∀ j (hj:j<L.length) V,Below w5.heap.size w5 V->V.cell? (ad.add j)=some (.int .i64 L[j]):=fun j hj V hV=>by
     obtain ⟨ad2,e2,_,h2⟩:=hrr j hj V hV;rw [hA] at e2
     injection e2 with e2
     rw [e2];exact h2
    have Hmv:=hid hmv;subst hA;have hsa:=HSum.out L[k] (List.getElem_mem hkn)
    have htk:decide (t∈L.take (k+1))=(decide (t∈L.take k) || (L[k] == t)):=by
     rw [List.take_succ_eq_append_getElem hkn,Bool.eq_iff_iff];simp only [List.mem_append,List.mem_singleton,decide_eq_true_eq,Bool.or_eq_true,beq_iff_eq];exact or_congr_right eq_comm
    have hlt:∀ j,0<k->j=k - 1->∀ (hj:j<L.length),L[j]<L[k]:=fun j h0 e hj=>List.pairwise_iff_getElem.1 HRise.out j k hj hkn (by omega)
    have hq1:=HTa.out L[k] (by omega) (by omega)
    obtain ⟨P,hP⟩:∃ P,tellD x L[k]=P:=⟨_,rfl⟩;rw [hP] at hsa hq1;obtain ⟨p0,p1,p2⟩:=P;simp only at hsa hq1
    have hpk:0<k->∃ b,(∀ V,Below w5.heap.size w5 V->V.cell? (ad.add (k - 1))=some (.int .i64 b))/\b<L[k]:=fun h0=>⟨L[k - 1],fun V hV=>hmv (k - 1) (by omega) V hV,hlt (k - 1) h0 rfl (by omega)⟩
    have hmk:∀ V,Below w5.heap.size w5 V->V.cell? (ad.add k)=some (.int .i64 L[k]):=fun V hV=>hmv k hkn V hV;have Htk:=hid htk;have HPk:=hid hpk;have HQ1:=hid hq1;have Hkn:=hid hkn;have HMk:=hid hmk;clear hrr hmv hadb htk hlt hP hq1 hpk hmk HSum HTa HRise Hmv;generalize L[k]=a at*
    have hsb:(a+p0 != loc)=false:=by simp [bne,hsa.2.1]
    have kr:=HKr.out.b.cell
    have hSS:∀ w',Below wr.heap.size wr w'->w'.cell? (ad.add k)=some (.int .i64 a)/\w'.cell? ⟨w.heap.size,0,none⟩=some (.string x.name)/\w'.cell? ⟨w.heap.size,1,none⟩=some (.int .i64 x.first.off)/\w'.cell? ⟨w.heap.size,2,none⟩=some (.int .i64 x.first.save)/\w'.cell? ⟨w.heap.size,3,none⟩=some (.string x.first.abbr)/\w'.cell? ⟨w.heap.size,4,none⟩=some (.slice A x.shifts.length c)/\w'.cell? ⟨w.heap.size,5,none⟩=some (.int .i64 x.till)/\w'.cell? ⟨w.heap.size,6,none⟩=some (.slice A2 x.tail.length c2)/\w'.cell? ⟨w.heap.size,7,none⟩=some (.int .i64 x.off)/\w'.cell? ⟨w.heap.size,8,none⟩=some (.string x.format)/\Below wr.heap.size wr w':=fun w' h=>⟨HMk.out _ (HBr.out.trans (h.mono HBr.out.size)),(HKr.out.b.below h HKr.out.b.lt).cell 0,(HKr.out.b.below h HKr.out.b.lt).cell 1,(HKr.out.b.below h HKr.out.b.lt).cell 2,(HKr.out.b.below h HKr.out.b.lt).cell 3,(HKr.out.b.below h HKr.out.b.lt).cell 4,(HKr.out.b.below h HKr.out.b.lt).cell 5,(HKr.out.b.below h HKr.out.b.lt).cell 6,(HKr.out.b.below h HKr.out.b.lt).cell 7,(HKr.out.b.below h HKr.out.b.lt).cell 8,h⟩
    have HSS:=hid hSS;have kb0:=below_drew wr;clear hSS
    go_wp2_with fail
    clear a0 kr
    go_cut [17] from 59 to 107 (fun s17 wx=>∃ g,s17= .pointer (some ⟨g,0,none⟩)/\Blk wx g 23 #[.int .i64 p0,.int .i64 p1,.string p2]/\Below wr.heap.size wr wx)
    case first=>
     go_region_held3 (fun w'=>w'.cell? (ad.add k)=some (.int .i64 a)/\w'.cell? ⟨w.heap.size,0,none⟩=some (.string x.name)/\w'.cell? ⟨w.heap.size,1,none⟩=some (.int .i64 x.first.off)/\w'.cell? ⟨w.heap.size,2,none⟩=some (.int .i64 x.first.save)/\w'.cell? ⟨w.heap.size,3,none⟩=some (.string x.first.abbr)/\w'.cell? ⟨w.heap.size,4,none⟩=some (.slice A x.shifts.length c)/\w'.cell? ⟨w.heap.size,5,none⟩=some (.int .i64 x.till)/\w'.cell? ⟨w.heap.size,6,none⟩=some (.slice A2 x.tail.length c2)/\w'.cell? ⟨w.heap.size,7,none⟩=some (.int .i64 x.off)/\w'.cell? ⟨w.heap.size,8,none⟩=some (.string x.format)/\Below wr.heap.size wr w') (exact HSS.out _ (by go_grown)) ((go_at_call 24;refine (HQ1.out _ (HKr.out.bel.trans (Below.mono (by go_grown) HKr.out.bel.size))).mono ?_;rintro e v9 ⟨rfl,hb⟩;have kb5:=bel_n3 (W:=wr) (by go_grown) hb;have ks5:=kb5.size;first|(have hz:Blk v9 wr.heap.size 23 #[.int .i64 0,.int .i64 0,.string ⟨#[]⟩]:=(Blk.new wr.drew 23 #[.int .i64 0,.int .i64 0,.string ⟨#[]⟩]).below hb (Blk.new wr.drew 23 #[.int .i64 0,.int .i64 0,.string ⟨#[]⟩]).lt;have c5:=hz.cell;have f5:=hz.frozen;have HZ5:=hid hz;clear hz)|skip))
     all_goals go_wp2_with fail
     all_goals go_meet
     all_goals first
      |exact ⟨_,rfl,Blk.new _ _ _,kb5.alloc ks5 _⟩
      |exact ⟨_,rfl,by have hz:=((HZ5.out.set_ 0 (.int .i64 p0)).set_ 1 (.int .i64 p1)).set_ 2 (.string p2);simpa using hz,((kb5.setCell (by simp) _).setCell (by simp) _).setCell (by simp) _⟩
    case rest=>
     obtain ⟨g,rfl,hx,hwc⟩:=hcut;have HX:=hid hx;have HBc:=hid (HBr.out.trans (hwc.mono HBr.out.size));clear hx hwc HSS kb0 HQ1
     rcases Nat.eq_zero_or_pos k with h0|h0
     ·have hkb:decide ((0:Int)<(k:Int))=false:=decide_eq_false (by omega)
      have hkb2:decide (0<k)=false:=decide_eq_false (by omega)
      clear h0;obtain ⟨Cls,hCls⟩:∃ C:World->Prop,C=fun z=>Below wc.heap.size wc z:=⟨_,rfl⟩
      have hC:∀ z,Cls z->Below wc.heap.size wc z:=fun z h=>by rw [hCls] at h;exact h
      have hst9:Cls wc.drew:=by rw [hCls];exact (Below.refl _ _).drew
      have inst:Nonempty (Qt.In Cls):=⟨⟨_,hst9⟩⟩;have gq:∀ (z:Qt.In Cls) (i:Nat),z.w.cell? ⟨g,i,none⟩=#[.int .i64 p0,.int .i64 p1,.string p2][i]?:=fun z i=>(HX.out.below (hC z.w z.h) HX.out.lt).cell i;have ga:∀ z:Qt.In Cls,z.w.cell? (ad.add k)=some (.int .i64 a):=fun z=>HMk.out _ (HBc.out.trans ((hC z.w z.h).mono HBc.out.size));have HSt:=hid hst9;have HC:=hid hC;clear hCls hst9 hC HPk HMk
      go_wp2_with fail
      refine Qt.wp_region_cls Cls (by kernel_rfl) (by kernel_rfl) HSt.out ?_
      repeat (go_big_quiet_step (fail))
      refine wpQuiet_nil ?_
      rintro wq ⟨⟨w9,hq⟩,e9⟩;obtain rfl:wq=w9:=e9;have HBq:=hid (HBc.out.trans ((HC.out wq hq).mono HBc.out.size));have ra:=ga ⟨wq,hq⟩;simp only at ra;clear gq ga inst HSt HC hq;obtain ⟨D,hD⟩:∃ D,decide (t∈L.take k)=D:=⟨_,rfl⟩;have hT9:=Htk.out;rw [hD] at hT9 ⊢;have HT9:=hid hT9;clear hD hT9 Htk
      cases D with
      |true=>
       go_wp2_with fail
       go_roundw
       case rel=>exact ⟨k+1,by have:=Hkn.out;omega,by go_num,by rw [HT9.out];rfl,HBq.out⟩
       case measure=>have:=Hkn.out;simp [intOf];omega
      |false=>
       go_wp2_with fail
       go_roundw
       case rel=>exact ⟨k+1,by have:=Hkn.out;omega,by go_num,by rw [HT9.out];rfl,HBq.out⟩
       case measure=>have:=Hkn.out;simp [intOf];omega
     ·have hkb:decide ((0:Int)<(k:Int))=true:=decide_eq_true (by omega)
      have hkb2:decide (0<k)=true:=decide_eq_true (by omega)
      obtain ⟨b,hb1,hb2⟩:=HPk.out h0
      have hbb:decide (b ≥ a)=false:=decide_eq_false (by omega)
      have hidx:((k:Int) - 1).toNat=k - 1:=by omega
      clear hb2;obtain ⟨Cls,hCls⟩:∃ C:World->Prop,C=fun z=>Below wc.heap.size wc z:=⟨_,rfl⟩
      have hC:∀ z,Cls z->Below wc.heap.size wc z:=fun z h=>by rw [hCls] at h;exact h
      have hst9:Cls wc.drew:=by rw [hCls];exact (Below.refl _ _).drew
      have inst:Nonempty (Qt.In Cls):=⟨⟨_,hst9⟩⟩;have gq:∀ (z:Qt.In Cls) (i:Nat),z.w.cell? ⟨g,i,none⟩=#[.int .i64 p0,.int .i64 p1,.string p2][i]?:=fun z i=>(HX.out.below (hC z.w z.h) HX.out.lt).cell i;have ga:∀ z:Qt.In Cls,z.w.cell? (ad.add k)=some (.int .i64 a):=fun z=>HMk.out _ (HBc.out.trans ((hC z.w z.h).mono HBc.out.size));have gb:∀ z:Qt.In Cls,z.w.cell? (ad.add (k - 1))=some (.int .i64 b):=fun z=>hb1 _ (HBc.out.trans ((hC z.w z.h).mono HBc.out.size));clear hb1;have HSt:=hid hst9;have HC:=hid hC;clear hCls hst9 hC HPk HMk
      go_wp2_with fail
      refine Qt.wp_region_cls Cls (by kernel_rfl) (by kernel_rfl) HSt.out ?_
      repeat (go_big_quiet_step (fail))
      refine wpQuiet_nil ?_
      rintro wq ⟨⟨w9,hq⟩,e9⟩;obtain rfl:wq=w9:=e9;have HBq:=hid (HBc.out.trans ((HC.out wq hq).mono HBc.out.size));have ra:=ga ⟨wq,hq⟩;simp only at ra;clear gq ga gb inst HSt HC hq;obtain ⟨D,hD⟩:∃ D,decide (t∈L.take k)=D:=⟨_,rfl⟩;have hT9:=Htk.out;rw [hD] at hT9 ⊢;have HT9:=hid hT9;clear hD hT9 Htk
      cases D with
      |true=>
       go_wp2_with fail
       go_roundw
       case rel=>exact ⟨k+1,by have:=Hkn.out;omega,by go_num,by rw [HT9.out];rfl,HBq.out⟩
       case measure=>have:=Hkn.out;simp [intOf];omega
      |false=>
       go_wp2_with fail
       go_roundw
       case rel=>exact ⟨k+1,by have:=Hkn.out;omega,by go_num,by rw [HT9.out];rfl,HBq.out⟩
       case measure=>have:=Hkn.out;simp [intOf];omega
   ·obtain rfl:k=L.length:=by omega
    rw [List.take_length];have hpt:=Hp.out;have hdt:decide (t∈L)=true:=decide_eq_true hpt;have sr:=HSr.out.cell;rw [hdt];clear hdt hpt
    go_wp2_with (go_at_call 10;refine (HA.out _ HKr.out.bel).mono ?_;rintro e w8 ⟨rfl,hb⟩;have s8:=fun i=>(HSr.out.below hb HSr.out.lt).cell i;have HB7:=hid (HKr.out.step hb).bel;clear hb sr)
    go_ret;exact ⟨rfl,HB7.out⟩
 ·go_ret
  exact ⟨rfl,HB7.out⟩
theorem back_law (x:Table) (A A2:Option Addr) (c c2:Nat) (loc how:Int) (m:Int) (w:World) (h:TabOk x A A2 w) (hm:w.cell? ⟨0,0,none⟩=some (.int .i64 m)) (hti:In64 x.till) (hse:∀ s∈x.shifts,In64 s.sec) (_:In64 loc) (_:In64 how):
  Calls prog 7 #[.agg (tabCells x A c A2 c2),.int .i64 loc,.int .i64 how] w fun e w'=>e= .returned (.bool true)/\Below w.heap.size w w':=by
 cases hok:okT x loc with
 |false=>exact back_refused x A A2 c c2 loc how m w h hm hti hse (by unfold chooseP;rw [hok];simp)
 |true=>
  rcases choose_cases how hok with he|⟨he,hp,hg⟩|⟨he,hp,T,a,b,hg,h1,h2,ha,hb,hc⟩
  ·exact back_refused x A A2 c c2 loc how m w h hm hti hse he
  ·exact back_there x A A2 c c2 loc how m w h hm hti hse hok he hp hg
  ·exact back_gap x A A2 c c2 loc how m w h hm hti hse hok he hp T a b hg h1 h2 ha hb hc
end Zon
end
end Go.Proofs.YtmlejgdohcpmjaaGreatDoor
