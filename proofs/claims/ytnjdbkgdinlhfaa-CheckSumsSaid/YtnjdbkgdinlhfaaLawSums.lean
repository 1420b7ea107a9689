/-
  CheckSums, CheckProducts, CheckSigns: the laws' walks out of the contracts of package check and of the reference. Conditions: the arguments are numbers of 64 bits.
-/
import Derived.Test.YtnjdbkgdinlhfaaRefZ4
import Derived.Test.YtnjdbkgdinlhfaaRefZ5
import Derived.Test.YtnjdbkgdinlhfaaLawNum
namespace Go.Proofs.Ytnjdbkgdinlhfaa.LawSums
open Go.RowKit Mem Dig Chk RefZ LawNum
set_option linter.unusedVariables false

set_option maxRecDepth 100000 in
set_option maxHeartbeats 1600000 in
theorem checkSums_walk (a b : Int) (ha : In64 a) (hb : In64 b) (w : World) :
    Calls Try.prog 4 #[.int .i64 a, .int .i64 b] w fun e w' => e = .returned (.bool true) ∧ Below w.heap.size w w' := by
  have h0 := ha.1
  have h1 := ha.2
  have h2 := hb.1
  have h3 := hb.2
  go_enter Try.func4, Try.ntmps4
  go_wp2_with fail
  refine (Chk.add_any a b w ha hb).mono ?_
  rintro e w' ⟨rfl, rfl⟩
  go_wp2_with fail
  refine (of_any a w h0 h1).mono ?_
  rintro e w1a ⟨v, rfl, ⟨ga1, Aa1, ka1, ca1, da1, rfl, hza1⟩, hba1⟩
  have L1a := (Below.refl w.heap.size w).trans (hba1.mono (Nat.le_refl _))
  go_wp2_with fail
  refine (of_any b w1a h2 h3).mono ?_
  rintro e w1b ⟨v, rfl, ⟨gb1, Ab1, kb1, cb1, db1, rfl, hzb1⟩, hbb1⟩
  have L1b := L1a.trans (hbb1.mono L1a.size)
  have hza1' := hza1.below hbb1
  go_wp2_with fail
  refine (RefZ.add_any _ _ _ _ _ _ _ _ _ _ _ _ _ _ w1b hza1' hzb1 (by omega) (by omega)).mono ?_
  rintro e w1c ⟨v, rfl, ⟨gc1, Ac1, kc1, cc1, dc1, rfl, hzc1⟩, hbc1⟩
  have L1c := L1b.trans (hbc1.mono L1b.size)
  go_wp2_with fail
  refine (told_any _ _ _ _ _ _ _ w1c hzc1 (by omega)).mono ?_
  rintro e w1d ⟨rfl, hbd1⟩
  have L1d := L1c.trans (hbd1.mono L1c.size)
  go_wp2_with fail
  refine (Chk.sub_any a b w1d ha hb).mono ?_
  rintro e w' ⟨rfl, rfl⟩
  go_wp2_with fail
  refine (of_any a w1d h0 h1).mono ?_
  rintro e w2a ⟨v, rfl, ⟨ga2, Aa2, ka2, ca2, da2, rfl, hza2⟩, hba2⟩
  have L2a := (L1d).trans (hba2.mono L1d.size)
  go_wp2_with fail
  refine (of_any b w2a h2 h3).mono ?_
  rintro e w2b ⟨v, rfl, ⟨gb2, Ab2, kb2, cb2, db2, rfl, hzb2⟩, hbb2⟩
  have L2b := L2a.trans (hbb2.mono L2a.size)
  have hza2' := hza2.below hbb2
  go_wp2_with fail
  refine (RefZ.sub_any _ _ _ _ _ _ _ _ _ _ _ _ _ _ w2b hza2' hzb2 (by omega) (by omega)).mono ?_
  rintro e w2c ⟨v, rfl, ⟨gc2, Ac2, kc2, cc2, dc2, rfl, hzc2⟩, hbc2⟩
  have L2c := L2b.trans (hbc2.mono L2b.size)
  go_wp2_with fail
  refine (told_any _ _ _ _ _ _ _ w2c hzc2 (by omega)).mono ?_
  rintro e w2d ⟨rfl, hbd2⟩
  have L2d := L2c.trans (hbd2.mono L2c.size)
  go_wp2_with fail
  refine (add_to 1 2 3 w2d in64_1 in64_2 rfl in64_3).mono ?_
  rintro e w' ⟨rfl, rfl⟩
  go_wp2
  go_ret
  exact ⟨rfl, L2d⟩

set_option maxRecDepth 100000 in
set_option maxHeartbeats 1600000 in
theorem checkProducts_walk (a b : Int) (ha : In64 a) (hb : In64 b) (w : World) :
    Calls Try.prog 3 #[.int .i64 a, .int .i64 b] w fun e w' => e = .returned (.bool true) ∧ Below w.heap.size w w' := by
  have h0 := ha.1
  have h1 := ha.2
  have h2 := hb.1
  have h3 := hb.2
  go_enter Try.func3, Try.ntmps3
  go_wp2_with fail
  refine (Chk.mul_any a b w ha hb).mono ?_
  rintro e w' ⟨rfl, rfl⟩
  go_wp2_with fail
  refine (of_any a w h0 h1).mono ?_
  rintro e w1a ⟨v, rfl, ⟨ga1, Aa1, ka1, ca1, da1, rfl, hza1⟩, hba1⟩
  have L1a := (Below.refl w.heap.size w).trans (hba1.mono (Nat.le_refl _))
  go_wp2_with fail
  refine (of_any b w1a h2 h3).mono ?_
  rintro e w1b ⟨v, rfl, ⟨gb1, Ab1, kb1, cb1, db1, rfl, hzb1⟩, hbb1⟩
  have L1b := L1a.trans (hbb1.mono L1a.size)
  have hza1' := hza1.below hbb1
  go_wp2_with fail
  refine (RefZ.mul_any _ _ _ _ _ _ _ _ _ _ _ _ _ _ w1b hza1' hzb1 (by omega) (by omega)).mono ?_
  rintro e w1c ⟨v, rfl, ⟨gc1, Ac1, kc1, cc1, dc1, rfl, hzc1⟩, hbc1⟩
  have L1c := L1b.trans (hbc1.mono L1b.size)
  go_wp2_with fail
  refine (told_any _ _ _ _ _ _ _ w1c hzc1 (by omega)).mono ?_
  rintro e w1d ⟨rfl, hbd1⟩
  have L1d := L1c.trans (hbd1.mono L1c.size)
  go_wp2_with fail
  refine (mul_to 2 3 6 w1d in64_2 in64_3 rfl in64_6).mono ?_
  rintro e w' ⟨rfl, rfl⟩
  go_wp2
  go_ret
  exact ⟨rfl, L1d⟩

theorem abs_val {w : World} {neg : Bool} {A : Option Addr} {n c : Nat} {ds : List Int} {z : Int} {L : Nat} (h : ZD w neg A n c ds z L) : dval ds = absV z := by
  have h0 := dval_nonneg h.canon.1
  have h1 := h.val
  unfold absV
  cases neg
  · rw [sg_false] at h1
    rw [if_neg (by omega), h1]
  · rw [sg_true] at h1
    split <;> omega
set_option maxRecDepth 100000 in
set_option maxHeartbeats 1600000 in
theorem checkSigns_walk (a : Int) (ha : In64 a) (w : World) :
    Calls Try.prog 5 #[.int .i64 a] w fun e w' => e = .returned (.bool true) ∧ Below w.heap.size w w' := by
  have h0 := ha.1
  have h1 := ha.2
  go_enter Try.func5, Try.ntmps5
  go_wp2_with fail
  refine (Chk.neg_any a w ha).mono ?_
  rintro e w' ⟨rfl, rfl⟩
  go_wp2_with fail
  refine (of_any a w h0 h1).mono ?_
  rintro e w1a ⟨v, rfl, ⟨ga1, Aa1, ka1, ca1, da1, rfl, hza1⟩, hba1⟩
  have L1a := (Below.refl w.heap.size w).trans (hba1.mono (Nat.le_refl _))
  go_wp2_with fail
  refine (RefZ.neg_any _ _ _ _ _ _ _ w1a hza1).mono ?_
  rintro e w1c ⟨v, rfl, ⟨gc1, Ac1, kc1, cc1, dc1, rfl, hzc1⟩, hbc1⟩
  have L1c := L1a.trans (hbc1.mono L1a.size)
  go_wp2_with fail
  refine (told_any _ _ _ _ _ _ _ w1c hzc1 (by omega)).mono ?_
  rintro e w1d ⟨rfl, hbd1⟩
  have L1d := L1c.trans (hbd1.mono L1c.size)
  go_wp2_with fail
  refine (Chk.abs_any a w1d ha).mono ?_
  rintro e w' ⟨rfl, rfl⟩
  go_wp2_with fail
  refine (of_any a w1d h0 h1).mono ?_
  rintro e w2a ⟨v, rfl, ⟨ga2, Aa2, ka2, ca2, da2, rfl, hza2⟩, hba2⟩
  have L2a := (L1d).trans (hba2.mono L1d.size)
  go_wp2_with fail
  refine (RefZ.abs_any _ _ _ _ _ _ _ w2a hza2).mono ?_
  rintro e w2c ⟨v, rfl, ⟨gc2, Ac2, kc2, cc2, dc2, rfl, hzc2⟩, hbc2⟩
  have L2c := L2a.trans (hbc2.mono L2a.size)
  go_wp2_with fail
  rw [abs_val hza2] at hzc2
  refine (told_any _ _ _ _ _ _ _ w2c hzc2 (by omega)).mono ?_
  rintro e w2d ⟨rfl, hbd2⟩
  have L2d := L2c.trans (hbd2.mono L2c.size)
  go_wp2_with fail
  refine (neg_to (-1) 1 w2d in64_m1 rfl in64_1).mono ?_
  rintro e w' ⟨rfl, rfl⟩
  go_wp2
  go_ret
  exact ⟨rfl, L2d⟩
end Go.Proofs.Ytnjdbkgdinlhfaa.LawSums
