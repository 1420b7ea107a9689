/-
  The contract of the document's Same at any two tables. Conditions: what the tables' slices hold is read.
-/
import Derived.Test.YtdicedpklpadgaaGreatDoorQSm14
namespace Go.Proofs.YtdicedpklpadgaaGreatDoor.Sam
open Go.RowKit Mem Img

set_option maxHeartbeats 8000000 in
set_option maxRecDepth 100000 in
theorem same14_any (x y : Table) (A A2 A' A2' : Option Addr) (c c2 c' c2' : Nat) (w : World) (hx : TabOk x A A2 w) (hy : TabOk y A' A2' w) :
    Calls Tryz.prog 13 #[.agg (tabCells x A c A2 c2), .agg (tabCells y A' c' A2' c2')] w fun e w' => e = .returned (.bool (decide (x = y))) ∧ Below w.heap.size w w' := by
  obtain ⟨Q, hQ⟩ : ∃ Q, decide (x = y) = Q := ⟨_, rfl⟩
  rw [hQ]
  simp only [tabCells]
  have hb2 := box2 w 33 33 #[.string x.name, .int .i64 x.first.off, .int .i64 x.first.save, .string x.first.abbr, .slice A x.shifts.length c, .int .i64 x.till, .slice A2 x.tail.length c2, .int .i64 x.off, .string x.format] #[.string y.name, .int .i64 y.first.off, .int .i64 y.first.save, .string y.first.abbr, .slice A' y.shifts.length c', .int .i64 y.till, .slice A2' y.tail.length c2', .int .i64 y.off, .string y.format]
  have HX := Lib.hid hx; have HY := Lib.hid hy; clear hx hy
  obtain ⟨W, hW⟩ : ∃ W, (w.alloc (.cells #[.string x.name, .int .i64 x.first.off, .int .i64 x.first.save, .string x.first.abbr, .slice A x.shifts.length c, .int .i64 x.till, .slice A2 x.tail.length c2, .int .i64 x.off, .string x.format] 33)).alloc (.cells #[.string y.name, .int .i64 y.first.off, .int .i64 y.first.save, .string y.first.abbr, .slice A' y.shifts.length c', .int .i64 y.till, .slice A2' y.tail.length c2', .int .i64 y.off, .string y.format] 33) = W := ⟨_, rfl⟩
  rw [hW] at hb2
  obtain ⟨bx, by_, hbw, hz⟩ := hb2
  have cx := fun i => bx.cell i
  have cy := fun i => by_.cell i
  have rsx := Lib.hid (HX.out.below hbw).rs
  have rtx := Lib.hid (HX.out.below hbw).rt
  have rsy := Lib.hid (HY.out.below hbw).rs
  have rty := Lib.hid (HY.out.below hbw).rt
  have HB := Lib.hid hbw
  have n1 := HX.out.ns
  have n2 := HX.out.nt
  have m1 := HY.out.ns
  have m2 := HY.out.nt
  have hno : (decide (x.name = y.name) && (decide (x.first = y.first) && (decide (x.till = y.till) && (decide (x.off = y.off) && (decide (x.format = y.format) && (decide (((x.shifts.length : Nat) : Int) = ((y.shifts.length : Nat) : Int)) && decide (((x.tail.length : Nat) : Int) = ((y.tail.length : Nat) : Int)))))))) = false → Q = false := fun h => by
    rw [← hQ]
    refine decide_eq_false fun e => ?_
    subst e
    simp at h
  have hyes : (decide (x.name = y.name) && (decide (x.first = y.first) && (decide (x.till = y.till) && (decide (x.off = y.off) && (decide (x.format = y.format) && (decide (((x.shifts.length : Nat) : Int) = ((y.shifts.length : Nat) : Int)) && decide (((x.tail.length : Nat) : Int) = ((y.tail.length : Nat) : Int)))))))) = true → (((x.shifts.length : Nat) : Int) = ((y.shifts.length : Nat) : Int) ∧ ((x.tail.length : Nat) : Int) = ((y.tail.length : Nat) : Int)) ∧ (x.shifts = y.shifts ∧ x.tail = y.tail → Q = true) ∧ (¬ (x.shifts = y.shifts ∧ x.tail = y.tail) → Q = false) := fun h => by
    simp only [Bool.and_eq_true, decide_eq_true_eq] at h
    obtain ⟨h1, h2, h3, h4, h5, h6, h7⟩ := h
    refine ⟨⟨h6, h7⟩, fun ⟨h8, h9⟩ => ?_, fun h => ?_⟩
    · rw [← hQ]
      refine decide_eq_true ?_
      cases x; cases y
      simp only at h1 h2 h3 h4 h5 h8 h9
      subst h1 h2 h3 h4 h5 h8 h9
      rfl
    · rw [← hQ]
      exact decide_eq_false fun e => h (by subst e; exact ⟨rfl, rfl⟩)
  have h1 := tl_beq x.name y.name
  have h2 := eq_phase x.first y.first
  simp only [Phase.cells] at h2
  have h3 := int_beq x.till y.till
  have h4 := int_beq x.off y.off
  have h5 := tl_beq x.format y.format
  have h6 := int_beq ((x.shifts.length : Nat) : Int) ((y.shifts.length : Nat) : Int)
  have h7 := int_beq ((x.tail.length : Nat) : Int) ((y.tail.length : Nat) : Int)
  have q3 : ∀ b, decide (x.till = y.till) = b → if b = true then x.till = y.till else ¬ x.till = y.till := fun b hb => by subst hb; by_cases e : x.till = y.till <;> simp [e]
  have q4 : ∀ b, decide (x.off = y.off) = b → if b = true then x.off = y.off else ¬ x.off = y.off := fun b hb => by subst hb; by_cases e : x.off = y.off <;> simp [e]
  have q3 := q3 _ rfl
  have q4 := q4 _ rfl
  clear bx by_ hbw hQ h3 h4
  generalize decide (x.name = y.name) = d1 at *
  generalize decide (x.first = y.first) = d2 at *
  generalize decide (x.till = y.till) = d3 at *
  generalize decide (x.off = y.off) = d4 at *
  generalize decide (x.format = y.format) = d5 at *
  generalize decide (((x.shifts.length : Nat) : Int) = ((y.shifts.length : Nat) : Int)) = d6 at *
  generalize decide (((x.tail.length : Nat) : Int) = ((y.tail.length : Nat) : Int)) = d7 at *
  rcases bools7 d1 d2 d3 d4 d5 d6 d7 with rfl | ⟨rfl, rfl⟩ | ⟨rfl, rfl, rfl⟩ | ⟨rfl, rfl, rfl, rfl⟩ | ⟨rfl, rfl, rfl, rfl, rfl⟩ | ⟨rfl, rfl, rfl, rfl, rfl, rfl⟩ | ⟨rfl, rfl, rfl, rfl, rfl, rfl, rfl⟩ | ⟨rfl, rfl, rfl, rfl, rfl, rfl, rfl⟩
  all_goals try simp only [if_true, Bool.false_eq_true, if_false] at q3 q4
  · have hq := hno rfl
    subst hq
    clear hno hyes hz hW
    try have p6 := eq_of_beq h6
    go_enter Tryz.func13, Tryz.ntmps13
    go_wp2_with fail
    go_ret
    exact ⟨rfl, ((Below.refl _ _).alloc (Nat.le_refl _) _).alloc (by simp) _⟩
  · have hq := hno rfl
    subst hq
    clear hno hyes hz hW
    try have p6 := eq_of_beq h6
    go_enter Tryz.func13, Tryz.ntmps13
    go_wp2_with fail
    go_ret
    exact ⟨rfl, ((Below.refl _ _).alloc (Nat.le_refl _) _).alloc (by simp) _⟩
  · have hq := hno rfl
    subst hq
    clear hno hyes hz hW
    try have p6 := eq_of_beq h6
    go_enter Tryz.func13, Tryz.ntmps13
    go_wp2_with fail
    go_ret
    exact ⟨rfl, ((Below.refl _ _).alloc (Nat.le_refl _) _).alloc (by simp) _⟩
  · have hq := hno rfl
    subst hq
    clear hno hyes hz hW
    try have p6 := eq_of_beq h6
    go_enter Tryz.func13, Tryz.ntmps13
    go_wp2_with fail
    go_ret
    exact ⟨rfl, ((Below.refl _ _).alloc (Nat.le_refl _) _).alloc (by simp) _⟩
  · have hq := hno rfl
    subst hq
    clear hno hyes hz hW
    try have p6 := eq_of_beq h6
    go_enter Tryz.func13, Tryz.ntmps13
    go_wp2_with fail
    go_ret
    exact ⟨rfl, ((Below.refl _ _).alloc (Nat.le_refl _) _).alloc (by simp) _⟩
  · have hq := hno rfl
    subst hq
    clear hno hyes hz hW
    try have p6 := eq_of_beq h6
    go_enter Tryz.func13, Tryz.ntmps13
    go_wp2_with fail
    go_ret
    exact ⟨rfl, ((Below.refl _ _).alloc (Nat.le_refl _) _).alloc (by simp) _⟩
  · have hq := hno rfl
    subst hq
    clear hno hyes hz hW
    try have p6 := eq_of_beq h6
    go_enter Tryz.func13, Tryz.ntmps13
    go_wp2_with fail
    go_ret
    exact ⟨rfl, ((Below.refl _ _).alloc (Nat.le_refl _) _).alloc (by simp) _⟩
  · obtain ⟨⟨e6, e7⟩, y1, y2⟩ := hyes rfl
    rw [q3, q4] at hW
    simp only [q3, q4] at cx
    rw [q3, q4]
    clear q3 q4
    have HY1 := Lib.hid y1; have HY2 := Lib.hid y2
    have E6 := Lib.hid e6; have E7 := Lib.hid e7
    clear y1 y2 hno hyes e6 e7
    go_enter Tryz.func13, Tryz.ntmps13
    go_wp2_with fail
    go_loopw [5] (fun i wr => ∃ k n : Nat, k ≤ x.shifts.length ∧ i = .int .i64 k ∧ x.shifts.take k = y.shifts.take k ∧ wr = W.drewN n) (fun i _ => x.shifts.length - (intOf i).toNat)
    case atStart => exact ⟨0, 0, Nat.zero_le _, rfl, rfl, rfl⟩
    case round =>
      obtain ⟨k, n, hk, rfl, htk, rfl⟩ := hrel
      have Htk := Lib.hid htk
      clear htk
      by_cases hkn : k < x.shifts.length
      · have hkm : k < y.shifts.length := by have := E6.out; omega
        obtain ⟨ad, hA, _, a0, a1, a2, a3⟩ := shift_at rsx.out hkn
        obtain ⟨ad', hA', _, b0, b1, b2, b3⟩ := shift_at rsy.out hkm
        subst hA hA'
        have heq := eq_shift x.shifts[k] y.shifts[k]
        have hst := fun e => take_eq hkn hkm Htk.out e
        have hno := fun e => ne_of_get hkn hkm e
        have HSt := Lib.hid hst; have HNo := Lib.hid hno
        clear hst hno
        simp only [Shift.cells] at heq
        generalize x.shifts[k] = s at *
        generalize y.shifts[k] = u at *
        by_cases e : s = u
        · rw [decide_eq_true e] at heq
          have Ht2 := Lib.hid (HSt.out e)
          clear e HSt HNo
          go_wp2_with fail
          go_quiet (fail)
          go_wp2_with fail
          exact ⟨⟨k + 1, n + nq, by omega, by go_num, Ht2.out, rfl⟩, by simp [intOf]; omega⟩
        · rw [decide_eq_false e] at heq
          have hq := HY2.out (fun h => HNo.out e h.1)
          have Hq := Lib.hid hq
          clear e HSt HNo hq
          go_wp2_with fail
          go_quiet (fail)
          go_wp2_with fail
          go_ret
          have hq := Hq.out
          subst hq
          exact ⟨rfl, below_drewN (below_drewN HB.out n) _⟩
      · obtain rfl : k = x.shifts.length := by omega
        obtain ⟨W2, hW2⟩ : ∃ W2, W2 = W.drewN n := ⟨_, rfl⟩
        have HB2 := Lib.hid (below_drewN HB.out n)
        have rtx2 := Lib.hid (rtx.out.drewN n)
        have rty2 := Lib.hid (rty.out.drewN n)
        have cx2 : ∀ i, (W.drewN n).cell? ⟨w.heap.size, i, none⟩ = _ := cx
        have cy2 : ∀ i, (W.drewN n).cell? ⟨w.heap.size + 1, i, none⟩ = _ := cy
        have hss : x.shifts = y.shifts := by
          have := Htk.out
          rw [List.take_of_length_le (Nat.le_refl _), List.take_of_length_le (by have := E6.out; omega)] at this
          exact this
        have HSs := Lib.hid hss
        rw [← hW2] at HB2 rtx2 rty2 cx2 cy2 ⊢
        clear hW2 rtx rty rsx rsy HX HY cx cy hss Htk
        go_wp2_with fail
        go_loopw [6] (fun i wr => ∃ k n : Nat, k ≤ x.tail.length ∧ i = .int .i64 k ∧ x.tail.take k = y.tail.take k ∧ wr = W2.drewN n) (fun i _ => x.tail.length - (intOf i).toNat)
        case atStart => exact ⟨0, 0, Nat.zero_le _, rfl, rfl, rfl⟩
        case round =>
          obtain ⟨k, n, hk, rfl, htk, rfl⟩ := hrel
          have Htk := Lib.hid htk
          clear htk
          by_cases hkn : k < x.tail.length
          · have hkm : k < y.tail.length := by have := E7.out; omega
            obtain ⟨ad, hA, _, a0, a1, a2, a3, a4, a5, a6, a7, a8, a9, a10⟩ := Rul.rule_cells rtx2.out hkn
            obtain ⟨ad', hA', _, b0, b1, b2, b3, b4, b5, b6, b7, b8, b9, b10⟩ := Rul.rule_cells rty2.out hkm
            subst hA hA'
            have heq := eq_rule x.tail[k] y.tail[k]
            have hst := fun e => take_eq hkn hkm Htk.out e
            have hno := fun e => ne_of_get hkn hkm e
            have HSt := Lib.hid hst; have HNo := Lib.hid hno
            clear hst hno
            simp only [Rule.cells] at heq
            generalize x.tail[k] = s at *
            generalize y.tail[k] = u at *
            by_cases e : s = u
            · rw [decide_eq_true e] at heq
              have Ht2 := Lib.hid (HSt.out e)
              clear e HSt HNo
              go_wp2_with fail
              go_quiet (fail)
              go_wp2_with fail
              exact ⟨⟨k + 1, n + nq, by omega, by go_num, Ht2.out, rfl⟩, by simp [intOf]; omega⟩
            · rw [decide_eq_false e] at heq
              have hq := HY2.out (fun h => HNo.out e h.2)
              have Hq := Lib.hid hq
              clear e HSt HNo hq
              go_wp2_with fail
              go_quiet (fail)
              go_wp2_with fail
              go_ret
              have hq := Hq.out
              subst hq
              exact ⟨rfl, below_drewN (below_drewN HB2.out n) _⟩
          · obtain rfl : k = x.tail.length := by omega
            have htt : x.tail = y.tail := by
              have := Htk.out
              rw [List.take_of_length_le (Nat.le_refl _), List.take_of_length_le (by have := E7.out; omega)] at this
              exact this
            have hq := HY1.out ⟨HSs.out, htt⟩
            have Hq := Lib.hid hq
            clear hq htt
            go_wp2_with fail
            go_ret
            have hq := Hq.out
            subst hq
            exact ⟨rfl, below_drewN HB2.out n⟩
end Go.Proofs.YtdicedpklpadgaaGreatDoor.Sam
