/-
  CheckDivs, CheckEuclid: the laws' walks out of the contracts of package check and of the reference. Conditions: the arguments are numbers of 64 bits.
-/
import Derived.Test.YtnjdbkgdinlhfaaRefZ8
import Derived.Test.YtnjdbkgdinlhfaaLawNum
namespace Go.Proofs.Ytnjdbkgdinlhfaa.LawDivs
open Go.RowKit Mem Dig Chk RefZ LawNum

theorem drew_below {w w' : World} (h : ∃ n, w' = w.drewN n) : Below w.heap.size w w' := by obtain ⟨n, rfl⟩ := h; exact Post.below_drewN (Below.refl _ _) _
theorem may_of (a b : Int) (h : b ≠ 0) (h2 : b ≠ -1) : mayE a b = 0 := by unfold mayE; rw [if_neg h, if_neg (by omega)]

set_option maxRecDepth 100000 in
set_option maxHeartbeats 1600000 in
theorem divs_walk (a b : Int) (ha : In64 a) (hb : In64 b) (w : World) :
    Calls Try.prog 6 #[.int .i64 a, .int .i64 b] w fun e w' => e = .returned (.bool true) ∧ Below w.heap.size w w' := by
  go_enter Try.func6, Try.ntmps6
  go_wp2_with fail
  refine (Chk.div_any a b w ha hb).mono ?_
  rintro e w1 ⟨rfl, h1⟩
  have L1 := drew_below h1
  clear h1
  go_wp2_with fail
  refine (quotient_any a b w1 ha hb).mono ?_
  rintro e w2 ⟨rfl, h2⟩
  have L2 := L1.trans (h2.mono L1.size)
  clear h2
  go_wp2_with fail
  refine (div_to (-7) 2 (-4) 1 w2 in64_m7 in64_2 (may_of _ _ (by decide) (by decide)) (by decide) (by decide)).mono ?_
  rintro e w3 ⟨rfl, h3⟩
  have L3 := L2.trans ((drew_below h3).mono L2.size)
  clear h3
  go_wp2
  go_ret
  exact ⟨rfl, L3⟩

set_option maxRecDepth 100000 in
set_option maxHeartbeats 1600000 in
theorem euclid_walk (a b : Int) (ha : In64 a) (hb : In64 b) (w : World) :
    Calls Try.prog 7 #[.int .i64 a, .int .i64 b] w fun e w' => e = .returned (.bool true) ∧ Below w.heap.size w w' := by
  go_enter Try.func7, Try.ntmps7
  go_wp2_with fail
  refine (Chk.euclid_any a b w ha hb).mono ?_
  rintro e w1 ⟨rfl, h1⟩
  have L1 := drew_below h1
  clear h1
  go_wp2_with fail
  refine (euclidz_any a b w1 ha hb).mono ?_
  rintro e w2 ⟨rfl, h2⟩
  have L2 := L1.trans (h2.mono L1.size)
  clear h2
  go_wp2_with fail
  refine (euc_to (-7) (-2) 4 1 w2 in64_m7 in64_m2 (may_of _ _ (by decide) (by decide)) (by decide) (by decide)).mono ?_
  rintro e w3 ⟨rfl, h3⟩
  have L3 := L2.trans ((drew_below h3).mono L2.size)
  clear h3
  go_wp2
  go_ret
  exact ⟨rfl, L3⟩
end Go.Proofs.Ytnjdbkgdinlhfaa.LawDivs
