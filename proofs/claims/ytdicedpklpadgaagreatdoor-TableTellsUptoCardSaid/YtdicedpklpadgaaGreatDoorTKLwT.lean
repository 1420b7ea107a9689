/-
  The walk of the law TableTells. Conditions: what the table's slices hold is read; the cell of bytealg.MaxLen holds a number.
-/
import Derived.Test.YtdicedpklpadgaaGreatDoorTJ5
import Derived.Test.YtdicedpklpadgaaGreatDoorTKAtD
import Derived.Test.YtdicedpklpadgaaGreatDoorTJ3
import Derived.Test.YtdicedpklpadgaaGreatDoorTKR14W
import Derived.Test.YtdicedpklpadgaaGreatDoorTKR11Pc
set_option linter.all false
namespace Go.Proofs.YtdicedpklpadgaaGreatDoor.Lw14
open Go.RowKit Mem Civ Mom Img Plc Rul Ahd Trn Src Snd Att Rgt Abr Cmq

theorem rise_of {ss : List Shift} (h : ∀ k, k < ss.length → secOk ss k = true) : ss.Pairwise fun x y => x.sec < y.sec := by
  rw [List.pairwise_iff_getElem]
  have hs : ∀ k (hk : k + 1 < ss.length), (ss[k]'(by omega)).sec < ss[k + 1].sec := fun k hk => by
    have h1 := h (k + 1) hk
    simp only [secOk, List.getElem?_eq_getElem hk, List.getElem?_eq_getElem (show k < ss.length by omega), Bool.not_eq_true', decide_eq_false_iff_not] at h1
    omega
  intro i j hi hj hij
  obtain ⟨d, rfl⟩ : ∃ d, j = i + 1 + d := ⟨j - i - 1, by omega⟩
  clear hij
  induction d with
  | zero => exact hs i hj
  | succ d ih =>
    have h2 := ih (by omega)
    have h3 := hs (i + 1 + d) (by omega)
    simp only [Nat.add_assoc] at h2 h3 ⊢
    omega
theorem at_doc (x : Table) (t : Int) : atP x t = (if rightB x (tailB x) = true then tellD x t else ⟨0, 0, ⟨#[]⟩⟩, rightB x (tailB x)) := by
  unfold atP
  by_cases hr : rightB x (tailB x) = true
  · rw [if_pos hr, if_pos hr, hr]
    have hsh : shiftP x t = tellL x.first x.shifts t := by
      refine shift_tell (rise_of fun k hk => ?_)
      unfold rightB shiftsB at hr
      rw [Bool.and_eq_true, List.all_eq_true] at hr
      have h1 := hr.2 k (List.mem_range.2 hk)
      unfold okAt at h1
      rw [List.getElem?_eq_getElem hk] at h1
      simp only [Bool.and_eq_true] at h1
      exact h1.2.2.2
    unfold tellD
    rw [hsh]
  · rw [if_neg hr, if_neg hr]
    simp only [Bool.not_eq_true] at hr
    rw [hr]
set_option maxHeartbeats 8000000 in
set_option maxRecDepth 100000 in
theorem tells (x : Table) (A A2 : Option Addr) (c c2 : Nat) (t : Int) (m : Int) (w : World) (h : TabOk x A A2 w) (hm : w.cell? ⟨0, 0, none⟩ = some (.int .i64 m)) (_ : In64 x.till) (_ : ∀ s ∈ x.shifts, In64 s.sec) (hti : In64 t) :
    Calls Tryz.prog 4 #[.agg (tabCells x A c A2 c2), .int .i64 t] w fun e w' => e = .returned (.bool true) ∧ Below w.heap.size w w' := by
  unfold In64 at hti
  have hA := fun z (hb : Below w.heap.size w z) => Cmq.alive_any m z (cell_later hb hm)
  have hY := fun z (hb : Below w.heap.size w z) => Yrs.years_any x A A2 c c2 z (h.below hb)
  have hT := fun z (hb : Below w.heap.size w z) => at_any x A A2 c c2 t m z (h.below hb) (cell_later hb hm) hti.1 hti.2
  have hR := fun z (hb : Below w.heap.size w z) => R14.right_any x A A2 c c2 z (h.below hb)
  have hP := fun z (hb : Below w.heap.size w z) => right_t x A A2 c c2 m z (h.below hb) (cell_later hb hm)
  have hD := fun (hr : rightB x (tailB x) = true) z (hb : Below w.heap.size w z) => refAt14_any x A A2 c c2 t z (h.below hb) hr hti.1 hti.2
  simp only [R14.right_is] at hR
  rw [at_doc] at hT
  obtain ⟨D, hDd⟩ : ∃ D, tellD x t = D := ⟨_, rfl⟩
  rw [hDd] at hT hD
  obtain ⟨q, hq⟩ : ∃ q, rightB x (tailB x) = q := ⟨_, rfl⟩
  rw [hq] at hT hR hP hD
  obtain ⟨f0, f1, f2⟩ := D
  have hone := Civ.One.new w 33 (tabCells x A c A2 c2)
  simp only [tabCells] at *
  obtain ⟨W, hW⟩ : ∃ W, w.alloc (.cells #[.string x.name, .int .i64 x.first.off, .int .i64 x.first.save, .string x.first.abbr, .slice A x.shifts.length c, .int .i64 x.till, .slice A2 x.tail.length c2, .int .i64 x.off, .string x.format] 33) = W := ⟨_, rfl⟩
  rw [hW] at hone
  have HO := Lib.hid hone
  have k0 := fun i => hone.1.cell i
  have HA := Lib.hid hA; have HY := Lib.hid hY; have HR := Lib.hid hR; have HP := Lib.hid hP
  clear h hm hDd hq hone hA hY hR hP
  cases q
  · simp only [Bool.false_eq_true, if_false] at hT
    have HT := Lib.hid hT
    clear hT hD
    have heq := fun z => Sam.eq_phase ⟨0, 0, ⟨#[]⟩⟩ ⟨0, 0, ⟨#[]⟩⟩ z
    rw [decide_eq_true rfl] at heq
    simp only [Phase.cells] at heq
    go_enter Tryz.func4, Tryz.ntmps4
    go_wp2_with (first
      | (go_at_call 14; refine (HY.out _ HO.out.2).mono ?_; rintro e w1 ⟨lb, rfl, _, hb⟩; have ho := HO.out.step hb; have k1 := fun i => ho.1.cell i; have HO1 := Lib.hid ho; clear hb ho k0; cases lb)
      | (go_at_call 15; refine (HT.out _ HO1.out.2).mono ?_; rintro e w2 ⟨rfl, hb⟩; have ho := (HO1.out.step hb).step ((Below.refl w2.heap.size w2).alloc (Nat.le_refl _) (.cells #[.int .i64 0, .int .i64 0, .string ⟨#[]⟩] 30)); have k2 := fun i => ho.1.cell i; have HO2 := Lib.hid ho; have HP2 := Lib.hid (Blk.new w2 30 #[.int .i64 0, .int .i64 0, .string ⟨#[]⟩]); clear hb ho k1)
      | (go_at_call 16; refine (HR.out _ HO2.out.2).mono ?_; rintro e w3 ⟨rfl, hb⟩; have ho := HO2.out.step hb; have k3 := fun i => ho.1.cell i; have HO3 := Lib.hid ho; have HP3 := Lib.hid (HP2.out.below hb HP2.out.lt); clear hb ho k2)
      | (go_at_call 10; refine (HA.out _ HO3.out.2).mono ?_; rintro e w4 ⟨rfl, hb⟩; have ho := HO3.out.step hb; have k4 := fun i => ho.1.cell i; have HO4 := Lib.hid ho; have HP4 := Lib.hid (HP3.out.below hb HP3.out.lt); clear hb ho k3)
      | (go_at_call 10; refine (HA.out _ HO1.out.2).mono ?_; rintro e w4 ⟨rfl, hb⟩; have HB5 := Lib.hid (HO1.out.step hb).2; clear hb)
      | (go_at_call 17; refine (HP.out _ HO4.out.2).mono ?_; rintro e w5 ⟨rfl, hb⟩; have hp5 := HP4.out.below hb HP4.out.lt; have k5 := fun i => hp5.cell i; have HB5 := Lib.hid (HO4.out.step hb).2; clear hb hp5 k4))
    all_goals go_ret
    all_goals exact ⟨rfl, HB5.out⟩
  · simp only [if_true] at hT
    have HT := Lib.hid hT; have HD := Lib.hid (hD rfl)
    clear hT hD
    have heq := fun z => Sam.eq_phase ⟨f0, f1, f2⟩ ⟨f0, f1, f2⟩ z
    rw [decide_eq_true rfl] at heq
    simp only [Phase.cells] at heq
    go_enter Tryz.func4, Tryz.ntmps4
    go_wp2_with (first
      | (go_at_call 14; refine (HY.out _ HO.out.2).mono ?_; rintro e w1 ⟨lb, rfl, _, hb⟩; have ho := HO.out.step hb; have k1 := fun i => ho.1.cell i; have HO1 := Lib.hid ho; clear hb ho k0; cases lb)
      | (go_at_call 15; refine (HT.out _ HO1.out.2).mono ?_; rintro e w2 ⟨rfl, hb⟩; have ho := (HO1.out.step hb).step ((Below.refl w2.heap.size w2).alloc (Nat.le_refl _) (.cells #[.int .i64 f0, .int .i64 f1, .string f2] 30)); have k2 := fun i => ho.1.cell i; have HO2 := Lib.hid ho; have HP2 := Lib.hid (Blk.new w2 30 #[.int .i64 f0, .int .i64 f1, .string f2]); clear hb ho k1)
      | (go_at_call 16; refine (HR.out _ HO2.out.2).mono ?_; rintro e w3 ⟨rfl, hb⟩; have ho := HO2.out.step hb; have k3 := fun i => ho.1.cell i; have HO3 := Lib.hid ho; have HP3 := Lib.hid (HP2.out.below hb HP2.out.lt); clear hb ho k2)
      | (go_at_call 10; refine (HA.out _ HO3.out.2).mono ?_; rintro e w4 ⟨rfl, hb⟩; have ho := HO3.out.step hb; have k4 := fun i => ho.1.cell i; have HO4 := Lib.hid ho; have HP4 := Lib.hid (HP3.out.below hb HP3.out.lt); clear hb ho k3)
      | (go_at_call 10; refine (HA.out _ HO1.out.2).mono ?_; rintro e w4 ⟨rfl, hb⟩; have HB5 := Lib.hid (HO1.out.step hb).2; clear hb)
      | (go_at_call 17; refine (HP.out _ HO4.out.2).mono ?_; rintro e w5 ⟨rfl, hb⟩; have ho5 := HO4.out.step hb; have hp5 := HP4.out.below hb HP4.out.lt; have k5 := fun i => hp5.cell i; have kx5 := fun i => ho5.1.cell i; have HO5 := Lib.hid ho5; have HP5 := Lib.hid hp5; clear hb hp5 ho5 k4))
    · go_ret
      exact ⟨rfl, HB5.out⟩
    obtain ⟨Cls, hCls⟩ : ∃ C : World → Prop, C = fun z => (Blk z w.heap.size 33 #[.string x.name, .int .i64 x.first.off, .int .i64 x.first.save, .string x.first.abbr, .slice A x.shifts.length c, .int .i64 x.till, .slice A2 x.tail.length c2, .int .i64 x.off, .string x.format] ∧ Blk z w2.heap.size 30 #[.int .i64 f0, .int .i64 f1, .string f2]) ∧ Below w.heap.size w z := ⟨_, rfl⟩
    have hC : ∀ z, Cls z → (Blk z w.heap.size 33 #[.string x.name, .int .i64 x.first.off, .int .i64 x.first.save, .string x.first.abbr, .slice A x.shifts.length c, .int .i64 x.till, .slice A2 x.tail.length c2, .int .i64 x.off, .string x.format] ∧ Blk z w2.heap.size 30 #[.int .i64 f0, .int .i64 f1, .string f2]) ∧ Below w.heap.size w z := fun z h => by rw [hCls] at h; exact h
    have hstart : Cls w5.drew := by rw [hCls]; exact ⟨⟨HO5.out.1.drew, HP5.out.drew⟩, HO5.out.2.drew⟩
    have inst : Nonempty (Qt.In Cls) := ⟨⟨_, hstart⟩⟩
    have gx : ∀ (z : Qt.In Cls) (i : Nat), z.w.cell? ⟨w.heap.size, i, none⟩ = #[.string x.name, .int .i64 x.first.off, .int .i64 x.first.save, .string x.first.abbr, .slice A x.shifts.length c, .int .i64 x.till, .slice A2 x.tail.length c2, .int .i64 x.off, .string x.format][i]? := fun z i => (hC z.w z.h).1.1.cell i
    have gp : ∀ (z : Qt.In Cls) (i : Nat), z.w.cell? ⟨w2.heap.size, i, none⟩ = #[.int .i64 f0, .int .i64 f1, .string f2][i]? := fun z i => (hC z.w z.h).1.2.cell i
    have HDc : Hid (∀ z, Cls z → Calls Tryz.prog 18 #[.agg #[.string x.name, .int .i64 x.first.off, .int .i64 x.first.save, .string x.first.abbr, .slice A x.shifts.length c, .int .i64 x.till, .slice A2 x.tail.length c2, .int .i64 x.off, .string x.format], .int .i64 t] z fun e z' => e = .returned (.agg #[.int .i64 f0, .int .i64 f1, .string f2]) ∧ Cls z') := fun z h => (HD.out z (hC z h).2).mono fun e z' ⟨he, hb⟩ => ⟨he, by rw [hCls]; exact ⟨⟨(hC z h).1.1.below hb (hC z h).1.1.lt, (hC z h).1.2.below hb (hC z h).1.2.lt⟩, (hC z h).2.trans (hb.mono (hC z h).2.size)⟩⟩
    have HCx := Lib.hid hC; have HSt := Lib.hid hstart
    clear hC hstart hCls HA HY HR HP HO HO1 HO2 HO3 HO4 HO5 HP2 HP3 HP4 HP5 HT HD k5 kx5
    refine Qt.wp_region_cls Cls (by kernel_rfl) (by kernel_rfl) HSt.out ?_
    repeat (go_big_quiet_step ((go_at_call 18; exact Qt.quiet_cls (HDc.out _ (Qt.In.h _)))))
    refine wpQuiet_nil ?_
    rintro wq ⟨⟨w9, hq⟩, e9⟩
    have HX := Lib.hid (HCx.out wq (by rw [e9]; exact hq))
    clear hq e9 gx gp inst HDc
    go_wp2
    go_ret
    exact ⟨rfl, HX.out.2⟩
end Go.Proofs.YtdicedpklpadgaaGreatDoor.Lw14
