/-
  The contract of the document's Years: what it holds back. Conditions: what the table's slices hold is read.
-/
import Derived.Test.YtpbojebnghcndaaGreatDoorRul
import Derived.Test.YtpbojebnghcndaaGreatDoorSave
namespace Go.Proofs.YtpbojebnghcndaaGreatDoor.Yrs
open Go.RowKit Mem Img Civ Rul

set_option maxRecDepth 100000 in
theorem years_any (x : Table) (A A2 : Option Addr) (c c2 : Nat) (w : World) (h : TabOk x A A2 w) :
    Calls Tryz.prog 16 #[.agg (tabCells x A c A2 c2)] w fun e w' => ∃ b, e = .returned (.bool b) ∧ (b = true → x.shifts.length ≤ 2000 ∧ x.tail.length ≤ 10) ∧ Below w.heap.size w w' := by
  have hone := One.new w 27 (tabCells x A c A2 c2)
  have hrt := h.rt
  clear h
  simp only [tabCells] at hone ⊢
  obtain ⟨W, hW⟩ : ∃ W, w.alloc (.cells #[.string x.name, .int .i64 x.first.off, .int .i64 x.first.save, .string x.first.abbr, .slice A x.shifts.length c, .int .i64 x.till, .slice A2 x.tail.length c2, .int .i64 x.off, .string x.format] 27) = W := ⟨_, rfl⟩
  rw [hW] at hone
  have HO := Lib.hid hone
  have H := Lib.hid hrt
  have c0 := fun i => hone.1.cell i
  clear hone hrt
  go_enter Tryz.func16, Tryz.ntmps16
  by_cases h1 : x.shifts.length ≤ 2000
  rotate_left
  · have h1b : decide ((2000 : Int) < (x.shifts.length : Nat)) = true := decide_eq_true (by omega)
    go_wp2_with fail
    go_ret
    exact ⟨false, rfl, by simp, HO.out.2⟩
  · have h1b : decide ((2000 : Int) < (x.shifts.length : Nat)) = false := decide_eq_false (by omega)
    by_cases h2 : x.tail.length ≤ 10
    rotate_left
    · have h2b : decide ((10 : Int) < (x.tail.length : Nat)) = true := decide_eq_true (by omega)
      go_wp2_with fail
      go_ret
      exact ⟨false, rfl, by simp, HO.out.2⟩
    · have h2b : decide ((10 : Int) < (x.tail.length : Nat)) = false := decide_eq_false (by omega)
      go_wp2_with fail
      go_loopw [3, 4, 5] (fun l g i wr => ∃ (k : Nat) (lo hi : Int), k ≤ x.tail.length ∧ l = .int .i64 lo ∧ g = .int .i64 hi ∧ i = .int .i64 k ∧ wr = W) (fun _ _ i _ => x.tail.length - (intOf i).toNat)
      case atStart => exact ⟨0, 10000, 0, Nat.zero_le _, rfl, rfl, rfl, rfl⟩
      case round =>
        obtain ⟨k, lo, hi, hk, rfl, rfl, rfl, rfl⟩ := hrel
        by_cases hkn : k < x.tail.length
        · obtain ⟨ad, hA, hadb, a0, a1, a2, a3, a4, a5, a6, a7, a8, a9, a10⟩ := rule_cells (H.out.below HO.out.2) hkn
          subst hA
          go_wp2_with fail
          exact ⟨⟨k + 1, _, _, by omega, rfl, rfl, by go_num, trivial⟩, by simp [intOf]; omega⟩
        · obtain rfl : k = x.tail.length := by omega
          cases h3 : decide (hi < lo) <;> cases h4 : decide (1 ≤ lo)
          all_goals go_wp2_with fail
          all_goals go_ret
          all_goals exact ⟨_, rfl, fun _ => ⟨h1, h2⟩, HO.out.2⟩
end Go.Proofs.YtpbojebnghcndaaGreatDoor.Yrs
