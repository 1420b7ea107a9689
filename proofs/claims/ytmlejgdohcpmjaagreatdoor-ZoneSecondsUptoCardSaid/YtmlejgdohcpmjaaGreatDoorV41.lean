/-
  Contracts of the code that the law reaches, and plain laws. Conditions: as each says.
-/
import Derived.Test.YtmlejgdohcpmjaaGreatDoorV35
import Derived.Test.YtmlejgdohcpmjaaGreatDoorV40
set_option linter.all false
set_option maxHeartbeats 40000000
set_option maxRecDepth 100000
namespace Go.Proofs.YtmlejgdohcpmjaaGreatDoor
open Lib (hid)
open Tryz
section
namespace Zon
open Go.RowKit Mem Civ Mom Img Plc Rul Ahd Trn Src Snd Att Rgt Abr Sch Cmq
structure Kp1 (w:World) (g:Nat) (t:TypeId) (cs:Array Value) (z:World):Prop where
 b:Blk z g t cs
 bel:Below w.heap.size w z
theorem Kp1.step {w:World} {g:Nat} {t:TypeId} {cs:Array Value} {z z':World} (k:Kp1 w g t cs z) (hb:Below z.heap.size z z'):Kp1 w g t cs z':=⟨k.b.below hb k.b.lt,k.bel.trans (hb.mono k.bel.size)⟩
theorem seconds_law (x:Table) (A A2:Option Addr) (c c2:Nat) (loc:Int) (m:Int) (w:World) (h:TabOk x A A2 w) (hm:w.cell? ⟨0,0,none⟩=some (.int .i64 m)) (hti:In64 x.till) (hse:∀ s∈x.shifts,In64 s.sec) (_:In64 loc):
  Calls prog 3 #[.agg (tabCells x A c A2 c2),.int .i64 loc] w fun e w'=>e= .returned (.bool true)/\Below w.heap.size w w':=by
 have hA:=fun z (hb:Below w.heap.size w z)=>alive_any m z (cell_later hb hm);have hG:=fun z (hb:Below w.heap.size w z)=>great_any x A A2 c c2 z (h.below hb);have hO:=fun z (hb:Below w.heap.size w z)=>ok_any x A A2 c c2 loc z (h.below hb)
 have hRt:okT x loc=true->∀ z,Below w.heap.size w z->Rt x A A2 m z:=fun hok z hb=>⟨h.below hb,cell_later hb hm,hti,hse,by unfold okT at hok;simp only [Bool.and_eq_true] at hok;exact hok.1⟩
 have hTl:okT x loc=true->x.tail.length<=2:=fun hok=>by
  by_cases h0:x.tail.length=0
  ·omega
  ·exact (tailT_of (hRt hok w (Below.refl _ _)).right h0).len
 have hL:okT x loc=true->-9000000000000<=loc/\loc<=9000000000000:=fun hok=>by unfold okT at hok;simp only [Bool.and_eq_true,decide_eq_true_eq] at hok;exact hok.2
 have hP:=fun z (hb:Below w.heap.size w z)=>possible_any x A A2 c c2 m loc z (h.below hb) (cell_later hb hm) hti hse
 have hQ:=fun (hok:okT x loc=true) (hl:x.shifts.length<=250) z (hb:Below w.heap.size w z)=>refPossible_any x A A2 c c2 m loc z (hRt hok z hb) (hL hok).1 (hL hok).2 (by have:=hTl hok;omega)
 have hn:(possD x loc).length<=x.shifts.length+x.tail.length+2:=poss_len x loc;obtain ⟨b0,hbw,hsz⟩:=box1 w 27 (tabCells x A c A2 c2);simp only [tabCells] at*
 obtain ⟨W,hW⟩:∃ W,w.alloc (.cells #[.string x.name,.int .i64 x.first.off,.int .i64 x.first.save,.string x.first.abbr,.slice A x.shifts.length c,.int .i64 x.till,.slice A2 x.tail.length c2,.int .i64 x.off,.string x.format] 27)=W:=⟨_,rfl⟩
 rw [hW] at b0 hbw hsz;have k0:=b0.cell
 have HA:=hid hA;have HG:=hid (hG W hbw);have HO:=hid hO;have HP:=hid hP;have HQ:=hid hQ;have HK:Hid (Kp1 w w.heap.size 27 #[.string x.name,.int .i64 x.first.off,.int .i64 x.first.save,.string x.first.abbr,.slice A x.shifts.length c,.int .i64 x.till,.slice A2 x.tail.length c2,.int .i64 x.off,.string x.format] W):=⟨b0,hbw⟩
 clear h hm hti hse hA hG hO hP hQ hRt hL hbw b0
 cases hok:okT x loc with
 |false=>
  have hTL:toldL x loc=[]:=by unfold toldL;rw [hok];rfl
  rw [hTL] at HP;rw [hok] at HO;simp only [List.length_nil] at HP;clear HQ hTL hok hn hTl;go_enter func3,ntmps3
  go_wp2_with (first
   |(go_at_call 9;refine HG.out.mono ?_;rintro e w1 ⟨b,rfl,hbl,hb⟩;have HK1:=hid (HK.out.step hb);have k1:=HK1.out.b.cell;clear hb k0;cases b)
   |(go_at_call 11;refine (HP.out _ HK1.out.bel).mono ?_;rintro e w2 ⟨A',c',rfl,_,hb⟩;have HK2:=hid (HK1.out.step hb);have k2:=HK2.out.b.cell;clear hb k1)
   |(go_at_call 12;refine (HO.out _ HK2.out.bel).mono ?_;rintro e w3 ⟨rfl,hb⟩;have HK3:=hid (HK2.out.step hb);clear hb k2)
   |(go_at_call 10;refine (HA.out _ HK3.out.bel).mono ?_;rintro e w4 ⟨rfl,hb⟩;have HK4:=hid (HK3.out.step hb);clear hb)
   |(go_at_call 10;refine (HA.out _ HK1.out.bel).mono ?_;rintro e w4 ⟨rfl,hb⟩;have HK4:=hid (HK1.out.step hb);clear hb))
  all_goals go_ret
  all_goals exact ⟨rfl,HK4.out.bel⟩
 |true=>
  have hTL:toldL x loc=possD x loc:=by unfold toldL;rw [hok];simp
  rw [hTL] at HP;rw [hok] at HO;have hQ2:=HQ.out hok;have HQ2:=hid hQ2;have htl:=hTl hok;clear HQ hTL hok hQ2 hTl;have hSm:=fun (l:List Int) (B1 B2:Option Addr) (d1 d2:Nat) z (r1:Reads z z.heap.size 1 B1 l.length (ints l)) (r2:Reads z z.heap.size 1 B2 l.length (ints l)) (hn:l.length<=1000000)=>same_any l B1 B2 d1 d2 z r1 r2 hn;have HSm:=hid hSm;unfold SecsP at HQ2;clear hSm;generalize possD x loc=PL at*;go_enter func3,ntmps3
  go_wp2_with (first
   |(go_at_call 9;refine HG.out.mono ?_;rintro e w1 ⟨b,rfl,hbl,hb⟩;have HK1:=hid (HK.out.step hb);have k1:=HK1.out.b.cell;have Hbl:=hid hbl;clear hb k0 hbl;cases b)
   |(go_at_call 11;refine (HP.out _ HK1.out.bel).mono ?_;rintro e w2 ⟨A',c',rfl,ho,hb⟩;have HR2:=hid (Reads.of_own ho);have HK2:=hid (HK1.out.step hb);have k2:=HK2.out.b.cell;clear hb k1 ho)
   |(go_at_call 12;refine (HO.out _ HK2.out.bel).mono ?_;rintro e w3 ⟨rfl,hb⟩;have HR3:=hid ((HR2.out.below hb).more hb.size);have HK3:=hid (HK2.out.step hb);have k3:=HK3.out.b.cell;clear hb k2)
   |(go_at_call 10;refine (HA.out _ HK3.out.bel).mono ?_;rintro e w4 ⟨rfl,hb⟩;have HR4:=hid ((HR3.out.below hb).more hb.size);have HK4:=hid (HK3.out.step hb);have k4:=HK4.out.b.cell;clear hb k3)
   |(go_at_call 14;refine (HQ2.out (Hbl.out (by simp)) _ HK4.out.bel).mono ?_;rintro e w5 ⟨A5,c5,rfl,ho,hb⟩;have HR5:=hid ((HR4.out.below hb).more hb.size);have HS5:=hid (Reads.of_own ho);have HK5:=hid (HK4.out.step hb);clear hb k4 ho)
   |(go_at_call 13;refine (HSm.out PL _ _ _ _ _ HR5.out HS5.out (by have:=Hbl.out (by simp);omega)).mono ?_;rintro e w6 ⟨rfl,hb⟩;have HB7:=hid (HK5.out.step hb).bel;clear hb)
   |(go_at_call 10;refine (HA.out _ HK1.out.bel).mono ?_;rintro e w4 ⟨rfl,hb⟩;have HB7:=hid (HK1.out.step hb).bel;clear hb))
  all_goals go_ret
  all_goals exact ⟨rfl,HB7.out⟩
theorem chooses_law (x:Table) (A A2:Option Addr) (c c2:Nat) (loc how:Int) (m:Int) (w:World) (h:TabOk x A A2 w) (hm:w.cell? ⟨0,0,none⟩=some (.int .i64 m)) (hti:In64 x.till) (hse:∀ s∈x.shifts,In64 s.sec) (_:In64 loc) (_:In64 how):
  Calls prog 5 #[.agg (tabCells x A c A2 c2),.int .i64 loc,.int .i64 how] w fun e w'=>e= .returned (.bool true)/\Below w.heap.size w w':=by
 have hA:=fun z (hb:Below w.heap.size w z)=>alive_any m z (cell_later hb hm);have hG:=fun z (hb:Below w.heap.size w z)=>great_any x A A2 c c2 z (h.below hb);have hO:=fun z (hb:Below w.heap.size w z)=>ok_any x A A2 c c2 loc z (h.below hb)
 have hRt:okT x loc=true->∀ z,Below w.heap.size w z->Rt x A A2 m z:=fun hok z hb=>⟨h.below hb,cell_later hb hm,hti,hse,by unfold okT at hok;simp only [Bool.and_eq_true] at hok;exact hok.1⟩
 have hTl:okT x loc=true->x.tail.length<=2:=fun hok=>by
  by_cases h0:x.tail.length=0
  ·omega
  ·exact (tailT_of (hRt hok w (Below.refl _ _)).right h0).len
 have hL:okT x loc=true->-9000000000000<=loc/\loc<=9000000000000:=fun hok=>by unfold okT at hok;simp only [Bool.and_eq_true,decide_eq_true_eq] at hok;exact hok.2
 have hP:=fun z (hb:Below w.heap.size w z)=>choose_any x A A2 c c2 m loc how z (h.below hb) (cell_later hb hm) hti hse
 have hQ:=fun (hok:okT x loc=true) (hl:x.shifts.length<=250) z (hb:Below w.heap.size w z)=>refChoose_any x A A2 c c2 m loc how z (hRt hok z hb) (hL hok).1 (hL hok).2 (by omega)
 obtain ⟨b0,hbw,hsz⟩:=box1 w 27 (tabCells x A c A2 c2);simp only [tabCells] at*
 obtain ⟨W,hW⟩:∃ W,w.alloc (.cells #[.string x.name,.int .i64 x.first.off,.int .i64 x.first.save,.string x.first.abbr,.slice A x.shifts.length c,.int .i64 x.till,.slice A2 x.tail.length c2,.int .i64 x.off,.string x.format] 27)=W:=⟨_,rfl⟩
 rw [hW] at b0 hbw hsz;have k0:=b0.cell
 have HA:=hid hA;have HG:=hid (hG W hbw);have HO:=hid hO;have HP:=hid hP;have HQ:=hid hQ;have HK:Hid (Kp1 w w.heap.size 27 #[.string x.name,.int .i64 x.first.off,.int .i64 x.first.save,.string x.first.abbr,.slice A x.shifts.length c,.int .i64 x.till,.slice A2 x.tail.length c2,.int .i64 x.off,.string x.format] W):=⟨b0,hbw⟩
 clear h hm hti hse hA hG hO hP hQ hRt hL hbw b0 hTl
 cases hok:okT x loc with
 |false=>
  have hC:chooseP x loc how=(0,1):=by unfold chooseP;rw [hok];rfl
  rw [hC] at HP;rw [hok] at HO;clear HQ hC hok;go_enter func5,ntmps5
  go_wp2_with (first
   |(go_at_call 9;refine HG.out.mono ?_;rintro e w1 ⟨b,rfl,hbl,hb⟩;have HK1:=hid (HK.out.step hb);have k1:=HK1.out.b.cell;clear hb k0;cases b)
   |(go_at_call 17;refine (HP.out _ HK1.out.bel).mono ?_;rintro e w2 ⟨rfl,hb⟩;have HK2:=hid (HK1.out.step hb);have k2:=HK2.out.b.cell;clear hb k1)
   |(go_at_call 12;refine (HO.out _ HK2.out.bel).mono ?_;rintro e w3 ⟨rfl,hb⟩;have HK3:=hid (HK2.out.step hb);clear hb k2)
   |(go_at_call 10;refine (HA.out _ HK3.out.bel).mono ?_;rintro e w4 ⟨rfl,hb⟩;have HK4:=hid (HK3.out.step hb);clear hb)
   |(go_at_call 10;refine (HA.out _ HK1.out.bel).mono ?_;rintro e w4 ⟨rfl,hb⟩;have HK4:=hid (HK1.out.step hb);clear hb))
  all_goals go_ret
  all_goals exact ⟨rfl,HK4.out.bel⟩
 |true=>
  have hC:chooseP x loc how=chooseR x loc how:=by unfold chooseP chooseR;rw [hok];simp
  rw [hC] at HP;rw [hok] at HO;have HQ2:=hid (HQ.out hok);clear HQ hC hok;generalize chooseR x loc how=R at*;obtain ⟨r0,r1⟩:=R;simp only at HP HQ2;go_enter func5,ntmps5
  go_wp2_with (first
   |(go_at_call 9;refine HG.out.mono ?_;rintro e w1 ⟨b,rfl,hbl,hb⟩;have HK1:=hid (HK.out.step hb);have k1:=HK1.out.b.cell;have Hbl:=hid hbl;clear hb k0 hbl;cases b)
   |(go_at_call 17;refine (HP.out _ HK1.out.bel).mono ?_;rintro e w2 ⟨rfl,hb⟩;have HK2:=hid (HK1.out.step hb);have k2:=HK2.out.b.cell;clear hb k1)
   |(go_at_call 12;refine (HO.out _ HK2.out.bel).mono ?_;rintro e w3 ⟨rfl,hb⟩;have HK3:=hid (HK2.out.step hb);have k3:=HK3.out.b.cell;clear hb k2)
   |(go_at_call 18;refine (HQ2.out (Hbl.out (by simp)) _ HK3.out.bel).mono ?_;rintro e w5 ⟨rfl,hb⟩;have HK5:=hid (HK3.out.step hb);clear hb k3)
   |(go_at_call 10;refine (HA.out _ HK5.out.bel).mono ?_;rintro e w4 ⟨rfl,hb⟩;have HB7:=hid (HK5.out.step hb).bel;clear hb)
   |(go_at_call 10;refine (HA.out _ HK1.out.bel).mono ?_;rintro e w4 ⟨rfl,hb⟩;have HB7:=hid (HK1.out.step hb).bel;clear hb))
  all_goals go_ret
  all_goals exact ⟨by simp,HB7.out⟩
theorem shapes_law (x:Table) (A A2:Option Addr) (c c2:Nat) (loc:Int) (m:Int) (w:World) (h:TabOk x A A2 w) (hm:w.cell? ⟨0,0,none⟩=some (.int .i64 m)) (hti:In64 x.till) (hse:∀ s∈x.shifts,In64 s.sec) (_:In64 loc):
  Calls prog 4 #[.agg (tabCells x A c A2 c2),.int .i64 loc] w fun e w'=>e= .returned (.bool true)/\Below w.heap.size w w':=by
 have hA:=fun z (hb:Below w.heap.size w z)=>alive_any m z (cell_later hb hm);have hG:=fun z (hb:Below w.heap.size w z)=>great_any x A A2 c c2 z (h.below hb);have hO:=fun z (hb:Below w.heap.size w z)=>ok_any x A A2 c c2 loc z (h.below hb)
 have hRt:okT x loc=true->∀ z,Below w.heap.size w z->Rt x A A2 m z:=fun hok z hb=>⟨h.below hb,cell_later hb hm,hti,hse,by unfold okT at hok;simp only [Bool.and_eq_true] at hok;exact hok.1⟩
 have hTl:okT x loc=true->x.tail.length<=2:=fun hok=>by
  by_cases h0:x.tail.length=0
  ·omega
  ·exact (tailT_of (hRt hok w (Below.refl _ _)).right h0).len
 have hL:okT x loc=true->-9000000000000<=loc/\loc<=9000000000000:=fun hok=>by unfold okT at hok;simp only [Bool.and_eq_true,decide_eq_true_eq] at hok;exact hok.2
 have hP:=fun z (hb:Below w.heap.size w z)=>zaround_any x A A2 c c2 m loc z (h.below hb) (cell_later hb hm) hti hse
 have hQ:=fun (hok:okT x loc=true) (hl:x.shifts.length<=250) z (hb:Below w.heap.size w z)=>refAround_any x A A2 c c2 m loc z (hRt hok z hb) (hL hok).1 (hL hok).2 (by omega)
 obtain ⟨b0,hbw,hsz⟩:=box1 w 27 (tabCells x A c A2 c2);simp only [tabCells] at*
 obtain ⟨W,hW⟩:∃ W,w.alloc (.cells #[.string x.name,.int .i64 x.first.off,.int .i64 x.first.save,.string x.first.abbr,.slice A x.shifts.length c,.int .i64 x.till,.slice A2 x.tail.length c2,.int .i64 x.off,.string x.format] 27)=W:=⟨_,rfl⟩
 rw [hW] at b0 hbw hsz;have k0:=b0.cell
 have HA:=hid hA;have HG:=hid (hG W hbw);have HO:=hid hO;have HP:=hid hP;have HQ:=hid hQ;have HK:Hid (Kp1 w w.heap.size 27 #[.string x.name,.int .i64 x.first.off,.int .i64 x.first.save,.string x.first.abbr,.slice A x.shifts.length c,.int .i64 x.till,.slice A2 x.tail.length c2,.int .i64 x.off,.string x.format] W):=⟨b0,hbw⟩
 clear h hm hti hse hA hG hO hP hQ hRt hL hbw b0 hTl
 cases hok:okT x loc with
 |false=>
  have hC:toldS x loc=⟨0,0,0,0⟩:=by unfold toldS;rw [hok];rfl
  rw [hC,hok] at HP;rw [hok] at HO;have heq:=fun z=>eq_shape 0 0 0 0 0 0 0 0 z;rw [decide_eq_true rfl] at heq;clear HQ hC hok;go_enter func4,ntmps4
  go_wp2_with (first
   |(go_at_call 9;refine HG.out.mono ?_;rintro e w1 ⟨b,rfl,hbl,hb⟩;have HK1:=hid (HK.out.step hb);have k1:=HK1.out.b.cell;clear hb k0;cases b)
   |(go_at_call 15;refine (HP.out _ HK1.out.bel).mono ?_;rintro e w2 ⟨rfl,hb⟩;have HK2:=hid ((HK1.out.step hb).step ((Below.refl _ _).alloc (Nat.le_refl _) (.cells #[.int .i64 0,.int .i64 0,.int .i64 0,.int .i64 0] 35)));have k2:=HK2.out.b.cell;have HS2:=hid (Blk.new w2 35 #[.int .i64 0,.int .i64 0,.int .i64 0,.int .i64 0]);clear hb k1)
   |(go_at_call 12;refine (HO.out _ HK2.out.bel).mono ?_;rintro e w3 ⟨rfl,hb⟩;have HK3:=hid (HK2.out.step hb);have HS3:=hid (HS2.out.below hb HS2.out.lt);clear hb k2)
   |(go_at_call 10;refine (HA.out _ HK3.out.bel).mono ?_;rintro e w4 ⟨rfl,hb⟩;have HK4:=hid (HK3.out.step hb);have s4:=fun i=>(HS3.out.below hb HS3.out.lt).cell i;clear hb)
   |(go_at_call 10;refine (HA.out _ HK1.out.bel).mono ?_;rintro e w4 ⟨rfl,hb⟩;have HK4:=hid (HK1.out.step hb);clear hb))
  all_goals go_ret
  all_goals exact ⟨rfl,HK4.out.bel⟩
 |true=>
  have hC:toldS x loc=shapeD x loc:=by unfold toldS;rw [hok];simp
  rw [hC,hok] at HP;rw [hok] at HO;have HQ2:=hid (HQ.out hok);clear HQ hC hok;unfold ShpP at HQ2;generalize shapeD x loc=S at*;obtain ⟨g0,g1,g2,g3⟩:=S;simp only at HP HQ2;have heq:=fun z=>eq_shape g0 g1 g2 g3 g0 g1 g2 g3 z;rw [decide_eq_true rfl] at heq;go_enter func4,ntmps4
  go_wp2_with (first
   |(go_at_call 9;refine HG.out.mono ?_;rintro e w1 ⟨b,rfl,hbl,hb⟩;have HK1:=hid (HK.out.step hb);have k1:=HK1.out.b.cell;have Hbl:=hid hbl;clear hb k0 hbl;cases b)
   |(go_at_call 15;refine (HP.out _ HK1.out.bel).mono ?_;rintro e w2 ⟨rfl,hb⟩;have HK2:=hid ((HK1.out.step hb).step ((Below.refl _ _).alloc (Nat.le_refl _) (.cells #[.int .i64 g0,.int .i64 g1,.int .i64 g2,.int .i64 g3] 35)));have k2:=HK2.out.b.cell;have HS2:=hid (Blk.new w2 35 #[.int .i64 g0,.int .i64 g1,.int .i64 g2,.int .i64 g3]);clear hb k1)
   |(go_at_call 12;refine (HO.out _ HK2.out.bel).mono ?_;rintro e w3 ⟨rfl,hb⟩;have HK3:=hid (HK2.out.step hb);have HS3:=hid (HS2.out.below hb HS2.out.lt);clear hb k2)
   |(go_at_call 10;refine (HA.out _ HK1.out.bel).mono ?_;rintro e w4 ⟨rfl,hb⟩;have HB7:=hid (HK1.out.step hb).bel;clear hb))
  ·obtain ⟨Cls,hCls⟩:∃ C:World->Prop,C=fun z=>Below w3.heap.size w3 z:=⟨_,rfl⟩
   have hC:∀ z,Cls z->Below w3.heap.size w3 z:=fun z h=>by rw [hCls] at h;exact h
   have hst:Cls w3.drew:=by rw [hCls];exact (Below.refl _ _).drew
   have inst:Nonempty (Qt.In Cls):=⟨⟨_,hst⟩⟩
   have gx:∀ (z:Qt.In Cls) (i:Nat),z.w.cell? ⟨w.heap.size,i,none⟩=#[.string x.name,.int .i64 x.first.off,.int .i64 x.first.save,.string x.first.abbr,.slice A x.shifts.length c,.int .i64 x.till,.slice A2 x.tail.length c2,.int .i64 x.off,.string x.format][i]?:=fun z i=>(HK3.out.b.below (hC z.w z.h) HK3.out.b.lt).cell i
   have gs:∀ (z:Qt.In Cls) (i:Nat),z.w.cell? ⟨w2.heap.size,i,none⟩=#[.int .i64 g0,.int .i64 g1,.int .i64 g2,.int .i64 g3][i]?:=fun z i=>(HS3.out.below (hC z.w z.h) HS3.out.lt).cell i
   have hkp:∀ z z',Cls z->Below z.heap.size z z'->Cls z':=fun z z' h hb=>by rw [hCls];exact (hC z h).trans (hb.mono (hC z h).size)
   have hin:∀ z,Cls z->Below w.heap.size w z:=fun z h=>HK3.out.bel.trans ((hC z h).mono HK3.out.bel.size);have HAc:Hid (∀ z,Cls z->Calls prog 10 #[] z fun e z'=>e= .returned (.bool true)/\Cls z'):=fun z h=>(HA.out z (hin z h)).mono fun e z' ⟨he,hb⟩=>⟨he,hkp z z' h hb⟩
   have HRc:Hid (∀ z,Cls z->Calls prog 16 #[.agg #[.string x.name,.int .i64 x.first.off,.int .i64 x.first.save,.string x.first.abbr,.slice A x.shifts.length c,.int .i64 x.till,.slice A2 x.tail.length c2,.int .i64 x.off,.string x.format],.int .i64 loc] z fun e z'=>e= .returned (.agg #[.int .i64 g0,.int .i64 g1,.int .i64 g2,.int .i64 g3])/\Cls z'):=fun z h=>(HQ2.out (Hbl.out (by simp)) z (hin z h)).mono fun e z' ⟨he,hb⟩=>⟨he,hkp z z' h hb⟩
   have HSt:=hid hst;have HIn:=hid hin;clear hCls hst hkp hC hin HA HQ2 HG HO HP
   refine Qt.wp_region_cls Cls (by kernel_rfl) (by kernel_rfl) HSt.out ?_
   repeat (go_big_quiet_step (first|(go_at_call 10;exact Qt.quiet_cls (HAc.out _ (Qt.In.h _)))|(go_at_call 16;exact Qt.quiet_cls (HRc.out _ (Qt.In.h _)))))
   refine wpQuiet_nil ?_
   rintro wq ⟨⟨w9,hq⟩,e9⟩;obtain rfl:wq=w9:=e9;have HB7:=hid (HIn.out wq hq);clear hq gx gs inst HAc HRc HSt;go_wp2;go_ret;exact ⟨rfl,HB7.out⟩
  ·go_ret
   exact ⟨rfl,HB7.out⟩
end Zon
end
end Go.Proofs.YtmlejgdohcpmjaaGreatDoor
