/-
  The contract of the document's Same at one table twice: it says yes. Conditions: what the tables' slices hold is read.
-/
import Derived.Test.YtdicedpklpadgaaGreatDoorZ27
import Derived.Test.YtdicedpklpadgaaGreatDoorZ05
namespace Go.Proofs.YtdicedpklpadgaaGreatDoor.Sam
open Go.RowKit Mem Img

set_option maxHeartbeats 4000000 in
set_option maxRecDepth 100000 in
theorem same14 (x : Table) (A A2 A' A2' : Option Addr) (c c2 c' c2' : Nat) (w : World) (hx : TabOk x A A2 w) (hy : TabOk x A' A2' w) :
    Calls Tryz.prog 13 #[.agg (tabCells x A c A2 c2), .agg (tabCells x A' c' A2' c2')] w fun e w' => e = .returned (.bool true) ∧ Below w.heap.size w w' := by
  simp only [tabCells]
  have hb2 := box2 w 33 33 #[.string x.name, .int .i64 x.first.off, .int .i64 x.first.save, .string x.first.abbr, .slice A x.shifts.length c, .int .i64 x.till, .slice A2 x.tail.length c2, .int .i64 x.off, .string x.format] #[.string x.name, .int .i64 x.first.off, .int .i64 x.first.save, .string x.first.abbr, .slice A' x.shifts.length c', .int .i64 x.till, .slice A2' x.tail.length c2', .int .i64 x.off, .string x.format]
  have HX := Lib.hid hx; have HY := Lib.hid hy; clear hx hy
  have h1 : (x.name.toList == x.name.toList) = true := by simp
  have h2 := eq_phase x.first x.first
  simp only [Phase.cells, decide_true] at h2
  have h5 : (x.format.toList == x.format.toList) = true := by simp
  obtain ⟨W, hW⟩ : ∃ W, (w.alloc (.cells #[.string x.name, .int .i64 x.first.off, .int .i64 x.first.save, .string x.first.abbr, .slice A x.shifts.length c, .int .i64 x.till, .slice A2 x.tail.length c2, .int .i64 x.off, .string x.format] 33)).alloc (.cells #[.string x.name, .int .i64 x.first.off, .int .i64 x.first.save, .string x.first.abbr, .slice A' x.shifts.length c', .int .i64 x.till, .slice A2' x.tail.length c2', .int .i64 x.off, .string x.format] 33) = W := ⟨_, rfl⟩
  rw [hW] at hb2
  obtain ⟨bx, by_, hbw, hz⟩ := hb2
  have cx := fun i => bx.cell i
  have cy := fun i => by_.cell i
  have rsx := Lib.hid (HX.out.below hbw).rs
  have rtx := Lib.hid (HX.out.below hbw).rt
  have rsy := Lib.hid (HY.out.below hbw).rs
  have rty := Lib.hid (HY.out.below hbw).rt
  have HB := Lib.hid hbw
  have n1 := HX.out.ns
  have n2 := HX.out.nt
  clear bx by_ hbw
  go_enter Tryz.func13, Tryz.ntmps13
  go_wp2_with fail
  go_loopw [5] (fun i wr => ∃ k n : Nat, k ≤ x.shifts.length ∧ i = .int .i64 k ∧ wr = W.drewN n) (fun i _ => x.shifts.length - (intOf i).toNat)
  case atStart => exact ⟨0, 0, Nat.zero_le _, rfl, rfl⟩
  case round =>
    obtain ⟨k, n, hk, rfl, rfl⟩ := hrel
    by_cases hkn : k < x.shifts.length
    · obtain ⟨ad, hA, _, a0, a1, a2, a3⟩ := shift_at rsx.out hkn
      obtain ⟨ad', hA', _, b0, b1, b2, b3⟩ := shift_at rsy.out hkn
      subst hA hA'
      have heq := eq_shift x.shifts[k] x.shifts[k]
      simp only [Shift.cells, decide_true] at heq
      generalize x.shifts[k] = s at *
      go_wp2_with fail
      go_quiet (fail)
      go_wp2_with fail
      exact ⟨⟨k + 1, n + nq, by omega, by go_num, rfl⟩, by simp [intOf]; omega⟩
    · obtain rfl : k = x.shifts.length := by omega
      obtain ⟨W2, hW2⟩ : ∃ W2, W2 = W.drewN n := ⟨_, rfl⟩
      have HB2 := Lib.hid (below_drewN HB.out n)
      have rtx2 := Lib.hid (rtx.out.drewN n)
      have rty2 := Lib.hid (rty.out.drewN n)
      have cx2 : ∀ i, (W.drewN n).cell? ⟨w.heap.size, i, none⟩ = _ := cx
      have cy2 : ∀ i, (W.drewN n).cell? ⟨w.heap.size + 1, i, none⟩ = _ := cy
      rw [← hW2] at HB2 rtx2 rty2 cx2 cy2 ⊢
      clear hW2 rtx rty rsx rsy HX HY cx cy
      go_wp2_with fail
      go_loopw [6] (fun i wr => ∃ k n : Nat, k ≤ x.tail.length ∧ i = .int .i64 k ∧ wr = W2.drewN n) (fun i _ => x.tail.length - (intOf i).toNat)
      case atStart => exact ⟨0, 0, Nat.zero_le _, rfl, rfl⟩
      case round =>
        obtain ⟨k, n, hk, rfl, rfl⟩ := hrel
        by_cases hkn : k < x.tail.length
        · obtain ⟨ad, hA, _, a0, a1, a2, a3, a4, a5, a6, a7, a8, a9, a10⟩ := Rul.rule_cells rtx2.out hkn
          obtain ⟨ad', hA', _, b0, b1, b2, b3, b4, b5, b6, b7, b8, b9, b10⟩ := Rul.rule_cells rty2.out hkn
          subst hA hA'
          have heq := eq_rule x.tail[k] x.tail[k]
          simp only [Rule.cells, decide_true] at heq
          generalize x.tail[k] = s at *
          go_wp2_with fail
          go_quiet (fail)
          go_wp2_with fail
          exact ⟨⟨k + 1, n + nq, by omega, by go_num, rfl⟩, by simp [intOf]; omega⟩
        · obtain rfl : k = x.tail.length := by omega
          go_wp2_with fail
          go_ret
          exact ⟨rfl, below_drewN HB2.out n⟩
end Go.Proofs.YtdicedpklpadgaaGreatDoor.Sam
