/-
  Small contracts at known numbers, for the laws' own examples. Conditions: the numbers are of 64 bits.
-/
import Derived.Test.YtnjdbkgdinlhfaaChk
namespace Go.Proofs.Ytnjdbkgdinlhfaa.LawNum
open Go.RowKit Chk

theorem add_to (a b c : Int) (w : World) (ha : In64 a) (hb : In64 b) (h : a + b = c) (hc : In64 c) :
    Calls Try.prog 14 #[.int .i64 a, .int .i64 b] w fun e w' => e = .returned (.tuple #[.int .i64 c, .int .i64 0]) ∧ w = w' := by
  have := add_any a b w ha hb
  rw [h, fitV_yes hc, fitE_yes hc] at this
  exact this
theorem mul_to (a b c : Int) (w : World) (ha : In64 a) (hb : In64 b) (h : a * b = c) (hc : In64 c) :
    Calls Try.prog 10 #[.int .i64 a, .int .i64 b] w fun e w' => e = .returned (.tuple #[.int .i64 c, .int .i64 0]) ∧ w = w' := by
  have := mul_any a b w ha hb
  rw [h, fitV_yes hc, fitE_yes hc] at this
  exact this
theorem neg_to (a c : Int) (w : World) (ha : In64 a) (h : 0 - a = c) (hc : In64 c) :
    Calls Try.prog 18 #[.int .i64 a] w fun e w' => e = .returned (.tuple #[.int .i64 c, .int .i64 0]) ∧ w = w' := by
  have := neg_any a w ha
  rw [h, fitV_yes hc, fitE_yes hc] at this
  exact this
theorem div_to (a b q r : Int) (w : World) (ha : In64 a) (hb : In64 b) (hm : mayE a b = 0) (hq : a.fdiv b = q) (hr : a.fmod b = r) :
    Calls Try.prog 22 #[.int .i64 a, .int .i64 b] w fun e w' => e = .returned (.tuple #[.int .i64 q, .int .i64 r, .int .i64 0]) ∧ ∃ n, w' = w.drewN n := by
  have := div_any a b w ha hb
  rw [divV, divR, if_pos hm, if_pos hm, hm, hq, hr] at this
  exact this
theorem euc_to (a b q r : Int) (w : World) (ha : In64 a) (hb : In64 b) (hm : mayE a b = 0) (hq : a / b = q) (hr : a % b = r) :
    Calls Try.prog 24 #[.int .i64 a, .int .i64 b] w fun e w' => e = .returned (.tuple #[.int .i64 q, .int .i64 r, .int .i64 0]) ∧ ∃ n, w' = w.drewN n := by
  have := euclid_any a b w ha hb
  rw [eucV, eucR, if_pos hm, if_pos hm, hm, hq, hr] at this
  exact this
theorem in64_m1 : In64 (-1) := by unfold In64; omega
theorem in64_m2 : In64 (-2) := by unfold In64; omega
theorem in64_m7 : In64 (-7) := by unfold In64; omega
theorem in64_1 : In64 1 := by unfold In64; omega
theorem in64_2 : In64 2 := by unfold In64; omega
theorem in64_3 : In64 3 := by unfold In64; omega
theorem in64_6 : In64 6 := by unfold In64; omega
end Go.Proofs.Ytnjdbkgdinlhfaa.LawNum
