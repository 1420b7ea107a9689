/-
  CheckBack and CheckRests: the laws' walks out of the contracts of package check. Conditions: the arguments are numbers of 64 bits.
-/
import Derived.Test.YtnjdbkgdinlhfaaChk
import Derived.Test.YtnjdbkgdinlhfaaPost
namespace Go.Proofs.Ytnjdbkgdinlhfaa.LawBack
open Go.RowKit Chk
set_option linter.unusedVariables false

theorem add_to (a b c : Int) (w : World) (ha : In64 a) (hb : In64 b) (h : a + b = c) (hc : In64 c) :
    Calls Try.prog 14 #[.int .i64 a, .int .i64 b] w fun e w' => e = .returned (.tuple #[.int .i64 c, .int .i64 0]) ∧ w = w' := by
  have := add_any a b w ha hb
  rw [h, fitV_yes hc, fitE_yes hc] at this
  exact this
theorem add_no (a b : Int) (w : World) (ha : In64 a) (hb : In64 b) (hc : ¬ In64 (a + b)) :
    Calls Try.prog 14 #[.int .i64 a, .int .i64 b] w fun e w' => e = .returned (.tuple #[.int .i64 0, .int .i64 2]) ∧ w = w' := by
  have := add_any a b w ha hb
  rw [fitV_no hc, fitE_no hc] at this
  exact this
theorem sub_to (a b c : Int) (w : World) (ha : In64 a) (hb : In64 b) (h : a - b = c) (hc : In64 c) :
    Calls Try.prog 16 #[.int .i64 a, .int .i64 b] w fun e w' => e = .returned (.tuple #[.int .i64 c, .int .i64 0]) ∧ w = w' := by
  have := sub_any a b w ha hb
  rw [h, fitV_yes hc, fitE_yes hc] at this
  exact this
theorem mul_to (a b c : Int) (w : World) (ha : In64 a) (hb : In64 b) (h : a * b = c) (hc : In64 c) :
    Calls Try.prog 10 #[.int .i64 a, .int .i64 b] w fun e w' => e = .returned (.tuple #[.int .i64 c, .int .i64 0]) ∧ w = w' := by
  have := mul_any a b w ha hb
  rw [h, fitV_yes hc, fitE_yes hc] at this
  exact this
theorem mul_no (a b : Int) (w : World) (ha : In64 a) (hb : In64 b) (hc : ¬ In64 (a * b)) :
    Calls Try.prog 10 #[.int .i64 a, .int .i64 b] w fun e w' => e = .returned (.tuple #[.int .i64 0, .int .i64 2]) ∧ w = w' := by
  have := mul_any a b w ha hb
  rw [fitV_no hc, fitE_no hc] at this
  exact this
theorem div_to (a b q r : Int) (w : World) (ha : In64 a) (hb : In64 b) (hm : mayE a b = 0) (hq : a.fdiv b = q) (hr : a.fmod b = r) :
    Calls Try.prog 22 #[.int .i64 a, .int .i64 b] w fun e w' => e = .returned (.tuple #[.int .i64 q, .int .i64 r, .int .i64 0]) ∧ ∃ n, w' = w.drewN n := by
  have := div_any a b w ha hb
  rw [divV, divR, if_pos hm, if_pos hm, hm, hq, hr] at this
  exact this
theorem in64_1 : In64 1 := by unfold In64; omega
theorem in64_2 : In64 2 := by unfold In64; omega
theorem in64_3 : In64 3 := by unfold In64; omega
theorem in64_9 : In64 9 := by unfold In64; omega
theorem may_2 (t : Int) : mayE t 2 = 0 := by simp [mayE]
theorem may_3 (t : Int) : mayE t 3 = 0 := by simp [mayE]
theorem fdiv_dbl (a : Int) : (a * 2).fdiv 2 = a := (fdiv_of (a * 2) 2 a 0 (by omega) (by omega)).1
theorem fmod_dbl (a : Int) : (a * 2).fmod 2 = 0 := (fdiv_of (a * 2) 2 a 0 (by omega) (by omega)).2

theorem back_walk (a b : Int) (ha : In64 a) (hb : In64 b) (w : World) :
    Calls Try.prog 8 #[.int .i64 a, .int .i64 b] w fun e w' => e = .returned (.bool true) ∧ Below w.heap.size w w' := by
  obtain ⟨t, ht⟩ : ∃ t, a * 2 = t := ⟨_, rfl⟩
  have g0 := fdiv_dbl a
  have g1 := fmod_dbl a
  rw [ht] at g0 g1
  have G0 := Lib.hid g0; have G1 := Lib.hid g1; have Ht := Lib.hid ht
  clear g0 g1 ht
  obtain ⟨s, hs⟩ : ∃ s, a + b = s := ⟨_, rfl⟩
  have Hs := Lib.hid hs; clear hs
  by_cases h1 : In64 s <;> by_cases h2 : In64 t
  · go_enter Try.func8, Try.ntmps8
    go_wp2_with fail
    refine (add_to a b s _ ha hb Hs.out h1).mono ?_
    rintro e w' ⟨rfl, rfl⟩
    go_wp2_with fail
    refine (sub_to s b a _ h1 hb (by have := Hs.out; omega) ha).mono ?_
    rintro e w' ⟨rfl, rfl⟩
    go_wp2_with fail
    refine (sub_to s a b _ h1 ha (by have := Hs.out; omega) hb).mono ?_
    rintro e w' ⟨rfl, rfl⟩
    go_wp2_with fail
    refine (mul_to a 2 t _ ha in64_2 Ht.out h2).mono ?_
    rintro e w' ⟨rfl, rfl⟩
    go_wp2_with fail
    refine (div_to t 2 a 0 _ h2 in64_2 (may_2 _) G0.out G1.out).mono ?_
    rintro e w' ⟨rfl, n, rfl⟩
    go_wp2_with fail
    refine (add_to 0 1 1 _ in64_zero in64_1 rfl in64_1).mono ?_
    rintro e w' ⟨rfl, rfl⟩
    go_wp2_with fail
    go_wp2
    go_ret
    exact ⟨rfl, Post.below_drewN (Below.refl _ _) _⟩
  · go_enter Try.func8, Try.ntmps8
    go_wp2_with fail
    refine (add_to a b s _ ha hb Hs.out h1).mono ?_
    rintro e w' ⟨rfl, rfl⟩
    go_wp2_with fail
    refine (sub_to s b a _ h1 hb (by have := Hs.out; omega) ha).mono ?_
    rintro e w' ⟨rfl, rfl⟩
    go_wp2_with fail
    refine (sub_to s a b _ h1 ha (by have := Hs.out; omega) hb).mono ?_
    rintro e w' ⟨rfl, rfl⟩
    go_wp2_with fail
    refine (mul_no a 2 _ ha in64_2 (by rw [Ht.out]; exact h2)).mono ?_
    rintro e w' ⟨rfl, rfl⟩
    go_wp2_with fail
    refine (add_to 0 1 1 _ in64_zero in64_1 rfl in64_1).mono ?_
    rintro e w' ⟨rfl, rfl⟩
    go_wp2_with fail
    go_wp2
    go_ret
    exact ⟨rfl, Below.refl _ _⟩
  · go_enter Try.func8, Try.ntmps8
    go_wp2_with fail
    refine (add_no a b _ ha hb (by rw [Hs.out]; exact h1)).mono ?_
    rintro e w' ⟨rfl, rfl⟩
    go_wp2_with fail
    refine (mul_to a 2 t _ ha in64_2 Ht.out h2).mono ?_
    rintro e w' ⟨rfl, rfl⟩
    go_wp2_with fail
    refine (div_to t 2 a 0 _ h2 in64_2 (may_2 _) G0.out G1.out).mono ?_
    rintro e w' ⟨rfl, n, rfl⟩
    go_wp2_with fail
    refine (add_to 0 1 1 _ in64_zero in64_1 rfl in64_1).mono ?_
    rintro e w' ⟨rfl, rfl⟩
    go_wp2_with fail
    go_wp2
    go_ret
    exact ⟨rfl, Post.below_drewN (Below.refl _ _) _⟩
  · go_enter Try.func8, Try.ntmps8
    go_wp2_with fail
    refine (add_no a b _ ha hb (by rw [Hs.out]; exact h1)).mono ?_
    rintro e w' ⟨rfl, rfl⟩
    go_wp2_with fail
    refine (mul_no a 2 _ ha in64_2 (by rw [Ht.out]; exact h2)).mono ?_
    rintro e w' ⟨rfl, rfl⟩
    go_wp2_with fail
    refine (add_to 0 1 1 _ in64_zero in64_1 rfl in64_1).mono ?_
    rintro e w' ⟨rfl, rfl⟩
    go_wp2_with fail
    go_wp2
    go_ret
    exact ⟨rfl, Below.refl _ _⟩

/-! ### CheckRests -/
theorem div_no (a b m : Int) (w : World) (ha : In64 a) (hb : In64 b) (hm : mayE a b = m) (h0 : m ≠ 0) :
    Calls Try.prog 22 #[.int .i64 a, .int .i64 b] w fun e w' => e = .returned (.tuple #[.int .i64 0, .int .i64 0, .int .i64 m]) ∧ ∃ n, w' = w.drewN n := by
  have := div_any a b w ha hb
  rw [divV, divR, hm, if_neg h0, if_neg h0] at this
  exact this
theorem euc_no (a b m : Int) (w : World) (ha : In64 a) (hb : In64 b) (hm : mayE a b = m) (h0 : m ≠ 0) :
    Calls Try.prog 24 #[.int .i64 a, .int .i64 b] w fun e w' => e = .returned (.tuple #[.int .i64 0, .int .i64 0, .int .i64 m]) ∧ ∃ n, w' = w.drewN n := by
  have := euclid_any a b w ha hb
  rw [eucV, eucR, hm, if_neg h0, if_neg h0] at this
  exact this
theorem euc_to (a b q r : Int) (w : World) (ha : In64 a) (hb : In64 b) (hm : mayE a b = 0) (hq : a / b = q) (hr : a % b = r) :
    Calls Try.prog 24 #[.int .i64 a, .int .i64 b] w fun e w' => e = .returned (.tuple #[.int .i64 q, .int .i64 r, .int .i64 0]) ∧ ∃ n, w' = w.drewN n := by
  have := euclid_any a b w ha hb
  rw [eucV, eucR, if_pos hm, if_pos hm, hm, hq, hr] at this
  exact this
theorem may_cases (a b : Int) : (b = 0 ∧ mayE a b = 3) ∨ (b ≠ 0 ∧ mayE a b = 2) ∨ (b ≠ 0 ∧ mayE a b = 0 ∧ ¬ (a = -9223372036854775808 ∧ b = -1)) := by
  unfold mayE
  by_cases hb : b = 0
  · exact .inl ⟨hb, if_pos hb⟩
  · by_cases h : a = -9223372036854775808 ∧ b = -1
    · exact .inr (.inl ⟨hb, by rw [if_neg hb, if_pos h]⟩)
    · exact .inr (.inr ⟨hb, by rw [if_neg hb, if_neg h], h⟩)
theorem fmod_bd (a b : Int) : (0 < b → 0 ≤ a.fmod b ∧ a.fmod b < b) ∧ (b < 0 → b < a.fmod b ∧ a.fmod b ≤ 0) := by
  refine ⟨fun h => ⟨Int.fmod_nonneg_of_pos a h, Int.fmod_lt_of_pos a h⟩, fun h => ?_⟩
  have g1 := Int.fmod_nonneg_of_pos (-a) (show 0 < -b by omega)
  have g2 := Int.fmod_lt_of_pos (-a) (show 0 < -b by omega)
  have e : a.fmod b = -((-a).fmod (-b)) := by rw [Int.neg_fmod_neg]; omega
  omega
theorem quo_in (a b q r : Int) (ha : In64 a) (hs : ¬ (a = -9223372036854775808 ∧ b = -1)) (h : b * q + r = a) (hr : r.natAbs < b.natAbs) : In64 q := by
  unfold In64 at ha ⊢
  rcases Int.lt_trichotomy b 0 with h0 | h0 | h0
  · by_cases h1 : b = -1
    · subst h1; omega
    · refine ⟨Int.not_lt.mp fun h2 => ?_, Int.not_lt.mp fun h2 => ?_⟩
      · have h3 := Int.mul_le_mul_of_nonpos_left (Int.le_of_lt h0) (show q ≤ -9223372036854775809 by omega)
        omega
      · have h3 := Int.mul_le_mul_of_nonpos_left (Int.le_of_lt h0) (show 9223372036854775808 ≤ q by omega)
        omega
  · omega
  · refine ⟨Int.not_lt.mp fun h2 => ?_, Int.not_lt.mp fun h2 => ?_⟩
    · have h3 := Int.mul_le_mul_of_nonneg_left (show q ≤ -9223372036854775809 by omega) (Int.le_of_lt h0)
      omega
    · have h3 := Int.mul_le_mul_of_nonneg_left (show 9223372036854775808 ≤ q by omega) (Int.le_of_lt h0)
      omega

theorem in64_lt {r b : Int} (hb : In64 b) (h : r.natAbs < b.natAbs) : In64 r := by unfold In64 at *; omega
set_option maxRecDepth 100000 in
theorem rests_no (a b : Int) (ha : In64 a) (hb : In64 b) (w : World) (hm : mayE a b ≠ 0) :
    Calls Try.prog 9 #[.int .i64 a, .int .i64 b] w fun e w' => e = .returned (.bool true) ∧ Below w.heap.size w w' := by
  rcases may_cases a b with ⟨h0, hm⟩ | ⟨h0, hm⟩ | ⟨h0, hm', hs⟩
  · have g0 : (b != 0) = false := by simpa using h0
    have Hm := Lib.hid hm; clear hm h0
    go_enter Try.func9, Try.ntmps9
    go_wp2_with fail
    refine (div_no a b 3 _ ha hb Hm.out (by omega)).mono ?_
    rintro e w' ⟨rfl, n1, rfl⟩
    go_wp2_with fail
    refine (euc_no a b 3 _ ha hb Hm.out (by omega)).mono ?_
    rintro e w' ⟨rfl, n2, rfl⟩
    go_wp2_with fail
    refine (div_to 9 3 3 0 _ in64_9 in64_3 (may_3 _) (by decide) (by decide)).mono ?_
    rintro e w' ⟨rfl, n3, rfl⟩
    go_wp2
    go_ret
    exact ⟨rfl, Post.below_drewN (Below.refl _ _) _⟩
  · have g0 : (b != 0) = true := by simpa using h0
    have Hm := Lib.hid hm; clear hm h0
    go_enter Try.func9, Try.ntmps9
    go_wp2_with fail
    refine (div_no a b 2 _ ha hb Hm.out (by omega)).mono ?_
    rintro e w' ⟨rfl, n1, rfl⟩
    go_wp2_with fail
    refine (euc_no a b 2 _ ha hb Hm.out (by omega)).mono ?_
    rintro e w' ⟨rfl, n2, rfl⟩
    go_wp2_with fail
    refine (div_to 9 3 3 0 _ in64_9 in64_3 (may_3 _) (by decide) (by decide)).mono ?_
    rintro e w' ⟨rfl, n3, rfl⟩
    go_wp2
    go_ret
    exact ⟨rfl, Post.below_drewN (Below.refl _ _) _⟩
  · exact absurd hm' hm

/-- Where a number's rests lie: what the law's tests ask. -/
def Sides (b r y : Int) : Prop := (b < 0 ∧ (r != 0) = false ∧ 0 ≤ y ∧ ¬ -y ≤ b) ∨ (b < 0 ∧ (r != 0) = true ∧ r < 0 ∧ b < r ∧ 0 ≤ y ∧ ¬ -y ≤ b) ∨ (0 < b ∧ (r != 0) = false ∧ 0 ≤ y ∧ y < b) ∨ (0 < b ∧ (r != 0) = true ∧ 0 < r ∧ r < b ∧ 0 ≤ y ∧ y < b)
theorem r_lt {b r : Int} (h : 0 < b) (hr : (r != 0) = false) : ¬ b ≤ r := by have : r = 0 := by simpa using hr
                                                                             omega
theorem r_gt {b r : Int} (h : b < 0) (hr : (r != 0) = false) : ¬ r ≤ b := by have : r = 0 := by simpa using hr
                                                                             omega
set_option maxRecDepth 100000 in
set_option maxHeartbeats 1600000 in
theorem rests_yy (a b q r x y p u : Int) (ha : In64 a) (hb : In64 b) (w : World) (g0 : (b != 0) = true) (hsg : Sides b r y) (hq64 : In64 q) (hx64 : In64 x) (hr64 : In64 r) (hy64 : In64 y)
    (Hm : Hid (mayE a b = 0)) (Hq : Hid (a.fdiv b = q)) (Hr : Hid (a.fmod b = r)) (Hx : Hid (a / b = x)) (Hy : Hid (a % b = y)) (Hqr : Hid (b * q + r = a)) (Hxy : Hid (b * x + y = a)) (Hp : Hid (q * b = p)) (Hu : Hid (x * b = u)) (h1 : In64 p) (h2 : In64 u) :
    Calls Try.prog 9 #[.int .i64 a, .int .i64 b] w fun e w' => e = .returned (.bool true) ∧ Below w.heap.size w w' := by
  have hy6 : -9223372036854775808 ≤ y ∧ y ≤ 9223372036854775807 := hy64
  rcases hsg with ⟨s1, s2, s3, s4⟩ | ⟨s1, s2, s3, s4, s5, s6⟩ | ⟨s1, s2, s3, s4⟩ | ⟨s1, s2, s3, s4, s5, s6⟩
  · have s5 := r_gt s1 s2
    go_enter Try.func9, Try.ntmps9
    go_wp2_with fail
    refine (div_to a b q r _ ha hb Hm.out Hq.out Hr.out).mono ?_
    rintro e w' ⟨rfl, n1, rfl⟩
    go_wp2_with fail
    refine (euc_to a b x y _ ha hb Hm.out Hx.out Hy.out).mono ?_
    rintro e w' ⟨rfl, n2, rfl⟩
    go_wp2_with fail
    refine (mul_to q b p _ hq64 hb Hp.out h1).mono ?_
    rintro e w' ⟨rfl, rfl⟩
    go_wp2_with fail
    refine (add_to p r a _ h1 hr64 (by have := Hqr.out; have := Hp.out; rw [Int.mul_comm] at this; omega) ha).mono ?_
    rintro e w' ⟨rfl, rfl⟩
    go_wp2_with fail
    refine (mul_to x b u _ hx64 hb Hu.out h2).mono ?_
    rintro e w' ⟨rfl, rfl⟩
    go_wp2_with fail
    refine (add_to u y a _ h2 hy64 (by have := Hxy.out; have := Hu.out; rw [Int.mul_comm] at this; omega) ha).mono ?_
    rintro e w' ⟨rfl, rfl⟩
    go_wp2_with fail
    refine (div_to 9 3 3 0 _ in64_9 in64_3 (may_3 _) (by decide) (by decide)).mono ?_
    rintro e w' ⟨rfl, n3, rfl⟩
    go_wp2
    go_ret
    exact ⟨rfl, Post.below_drewN (Below.refl _ _) _⟩
  · go_enter Try.func9, Try.ntmps9
    go_wp2_with fail
    refine (div_to a b q r _ ha hb Hm.out Hq.out Hr.out).mono ?_
    rintro e w' ⟨rfl, n1, rfl⟩
    go_wp2_with fail
    refine (euc_to a b x y _ ha hb Hm.out Hx.out Hy.out).mono ?_
    rintro e w' ⟨rfl, n2, rfl⟩
    go_wp2_with fail
    refine (mul_to q b p _ hq64 hb Hp.out h1).mono ?_
    rintro e w' ⟨rfl, rfl⟩
    go_wp2_with fail
    refine (add_to p r a _ h1 hr64 (by have := Hqr.out; have := Hp.out; rw [Int.mul_comm] at this; omega) ha).mono ?_
    rintro e w' ⟨rfl, rfl⟩
    go_wp2_with fail
    refine (mul_to x b u _ hx64 hb Hu.out h2).mono ?_
    rintro e w' ⟨rfl, rfl⟩
    go_wp2_with fail
    refine (add_to u y a _ h2 hy64 (by have := Hxy.out; have := Hu.out; rw [Int.mul_comm] at this; omega) ha).mono ?_
    rintro e w' ⟨rfl, rfl⟩
    go_wp2_with fail
    refine (div_to 9 3 3 0 _ in64_9 in64_3 (may_3 _) (by decide) (by decide)).mono ?_
    rintro e w' ⟨rfl, n3, rfl⟩
    go_wp2
    go_ret
    exact ⟨rfl, Post.below_drewN (Below.refl _ _) _⟩
  · have s5 := r_lt s1 s2
    go_enter Try.func9, Try.ntmps9
    go_wp2_with fail
    refine (div_to a b q r _ ha hb Hm.out Hq.out Hr.out).mono ?_
    rintro e w' ⟨rfl, n1, rfl⟩
    go_wp2_with fail
    refine (euc_to a b x y _ ha hb Hm.out Hx.out Hy.out).mono ?_
    rintro e w' ⟨rfl, n2, rfl⟩
    go_wp2_with fail
    refine (mul_to q b p _ hq64 hb Hp.out h1).mono ?_
    rintro e w' ⟨rfl, rfl⟩
    go_wp2_with fail
    refine (add_to p r a _ h1 hr64 (by have := Hqr.out; have := Hp.out; rw [Int.mul_comm] at this; omega) ha).mono ?_
    rintro e w' ⟨rfl, rfl⟩
    go_wp2_with fail
    refine (mul_to x b u _ hx64 hb Hu.out h2).mono ?_
    rintro e w' ⟨rfl, rfl⟩
    go_wp2_with fail
    refine (add_to u y a _ h2 hy64 (by have := Hxy.out; have := Hu.out; rw [Int.mul_comm] at this; omega) ha).mono ?_
    rintro e w' ⟨rfl, rfl⟩
    go_wp2_with fail
    refine (div_to 9 3 3 0 _ in64_9 in64_3 (may_3 _) (by decide) (by decide)).mono ?_
    rintro e w' ⟨rfl, n3, rfl⟩
    go_wp2
    go_ret
    exact ⟨rfl, Post.below_drewN (Below.refl _ _) _⟩
  · go_enter Try.func9, Try.ntmps9
    go_wp2_with fail
    refine (div_to a b q r _ ha hb Hm.out Hq.out Hr.out).mono ?_
    rintro e w' ⟨rfl, n1, rfl⟩
    go_wp2_with fail
    refine (euc_to a b x y _ ha hb Hm.out Hx.out Hy.out).mono ?_
    rintro e w' ⟨rfl, n2, rfl⟩
    go_wp2_with fail
    refine (mul_to q b p _ hq64 hb Hp.out h1).mono ?_
    rintro e w' ⟨rfl, rfl⟩
    go_wp2_with fail
    refine (add_to p r a _ h1 hr64 (by have := Hqr.out; have := Hp.out; rw [Int.mul_comm] at this; omega) ha).mono ?_
    rintro e w' ⟨rfl, rfl⟩
    go_wp2_with fail
    refine (mul_to x b u _ hx64 hb Hu.out h2).mono ?_
    rintro e w' ⟨rfl, rfl⟩
    go_wp2_with fail
    refine (add_to u y a _ h2 hy64 (by have := Hxy.out; have := Hu.out; rw [Int.mul_comm] at this; omega) ha).mono ?_
    rintro e w' ⟨rfl, rfl⟩
    go_wp2_with fail
    refine (div_to 9 3 3 0 _ in64_9 in64_3 (may_3 _) (by decide) (by decide)).mono ?_
    rintro e w' ⟨rfl, n3, rfl⟩
    go_wp2
    go_ret
    exact ⟨rfl, Post.below_drewN (Below.refl _ _) _⟩
set_option maxRecDepth 100000 in
set_option maxHeartbeats 1600000 in
theorem rests_yn (a b q r x y p u : Int) (ha : In64 a) (hb : In64 b) (w : World) (g0 : (b != 0) = true) (hsg : Sides b r y) (hq64 : In64 q) (hx64 : In64 x) (hr64 : In64 r) (hy64 : In64 y)
    (Hm : Hid (mayE a b = 0)) (Hq : Hid (a.fdiv b = q)) (Hr : Hid (a.fmod b = r)) (Hx : Hid (a / b = x)) (Hy : Hid (a % b = y)) (Hqr : Hid (b * q + r = a)) (Hxy : Hid (b * x + y = a)) (Hp : Hid (q * b = p)) (Hu : Hid (x * b = u)) (h1 : In64 p) (h2 : ¬ In64 u) :
    Calls Try.prog 9 #[.int .i64 a, .int .i64 b] w fun e w' => e = .returned (.bool true) ∧ Below w.heap.size w w' := by
  have hy6 : -9223372036854775808 ≤ y ∧ y ≤ 9223372036854775807 := hy64
  rcases hsg with ⟨s1, s2, s3, s4⟩ | ⟨s1, s2, s3, s4, s5, s6⟩ | ⟨s1, s2, s3, s4⟩ | ⟨s1, s2, s3, s4, s5, s6⟩
  · have s5 := r_gt s1 s2
    go_enter Try.func9, Try.ntmps9
    go_wp2_with fail
    refine (div_to a b q r _ ha hb Hm.out Hq.out Hr.out).mono ?_
    rintro e w' ⟨rfl, n1, rfl⟩
    go_wp2_with fail
    refine (euc_to a b x y _ ha hb Hm.out Hx.out Hy.out).mono ?_
    rintro e w' ⟨rfl, n2, rfl⟩
    go_wp2_with fail
    refine (mul_to q b p _ hq64 hb Hp.out h1).mono ?_
    rintro e w' ⟨rfl, rfl⟩
    go_wp2_with fail
    refine (add_to p r a _ h1 hr64 (by have := Hqr.out; have := Hp.out; rw [Int.mul_comm] at this; omega) ha).mono ?_
    rintro e w' ⟨rfl, rfl⟩
    go_wp2_with fail
    refine (mul_no x b _ hx64 hb (by rw [Hu.out]; exact h2)).mono ?_
    rintro e w' ⟨rfl, rfl⟩
    go_wp2_with fail
    refine (add_to 0 y y _ in64_zero hy64 (by omega) hy64).mono ?_
    rintro e w' ⟨rfl, rfl⟩
    go_wp2_with fail
    refine (div_to 9 3 3 0 _ in64_9 in64_3 (may_3 _) (by decide) (by decide)).mono ?_
    rintro e w' ⟨rfl, n3, rfl⟩
    go_wp2
    go_ret
    exact ⟨rfl, Post.below_drewN (Below.refl _ _) _⟩
  · go_enter Try.func9, Try.ntmps9
    go_wp2_with fail
    refine (div_to a b q r _ ha hb Hm.out Hq.out Hr.out).mono ?_
    rintro e w' ⟨rfl, n1, rfl⟩
    go_wp2_with fail
    refine (euc_to a b x y _ ha hb Hm.out Hx.out Hy.out).mono ?_
    rintro e w' ⟨rfl, n2, rfl⟩
    go_wp2_with fail
    refine (mul_to q b p _ hq64 hb Hp.out h1).mono ?_
    rintro e w' ⟨rfl, rfl⟩
    go_wp2_with fail
    refine (add_to p r a _ h1 hr64 (by have := Hqr.out; have := Hp.out; rw [Int.mul_comm] at this; omega) ha).mono ?_
    rintro e w' ⟨rfl, rfl⟩
    go_wp2_with fail
    refine (mul_no x b _ hx64 hb (by rw [Hu.out]; exact h2)).mono ?_
    rintro e w' ⟨rfl, rfl⟩
    go_wp2_with fail
    refine (add_to 0 y y _ in64_zero hy64 (by omega) hy64).mono ?_
    rintro e w' ⟨rfl, rfl⟩
    go_wp2_with fail
    refine (div_to 9 3 3 0 _ in64_9 in64_3 (may_3 _) (by decide) (by decide)).mono ?_
    rintro e w' ⟨rfl, n3, rfl⟩
    go_wp2
    go_ret
    exact ⟨rfl, Post.below_drewN (Below.refl _ _) _⟩
  · have s5 := r_lt s1 s2
    go_enter Try.func9, Try.ntmps9
    go_wp2_with fail
    refine (div_to a b q r _ ha hb Hm.out Hq.out Hr.out).mono ?_
    rintro e w' ⟨rfl, n1, rfl⟩
    go_wp2_with fail
    refine (euc_to a b x y _ ha hb Hm.out Hx.out Hy.out).mono ?_
    rintro e w' ⟨rfl, n2, rfl⟩
    go_wp2_with fail
    refine (mul_to q b p _ hq64 hb Hp.out h1).mono ?_
    rintro e w' ⟨rfl, rfl⟩
    go_wp2_with fail
    refine (add_to p r a _ h1 hr64 (by have := Hqr.out; have := Hp.out; rw [Int.mul_comm] at this; omega) ha).mono ?_
    rintro e w' ⟨rfl, rfl⟩
    go_wp2_with fail
    refine (mul_no x b _ hx64 hb (by rw [Hu.out]; exact h2)).mono ?_
    rintro e w' ⟨rfl, rfl⟩
    go_wp2_with fail
    refine (add_to 0 y y _ in64_zero hy64 (by omega) hy64).mono ?_
    rintro e w' ⟨rfl, rfl⟩
    go_wp2_with fail
    refine (div_to 9 3 3 0 _ in64_9 in64_3 (may_3 _) (by decide) (by decide)).mono ?_
    rintro e w' ⟨rfl, n3, rfl⟩
    go_wp2
    go_ret
    exact ⟨rfl, Post.below_drewN (Below.refl _ _) _⟩
  · go_enter Try.func9, Try.ntmps9
    go_wp2_with fail
    refine (div_to a b q r _ ha hb Hm.out Hq.out Hr.out).mono ?_
    rintro e w' ⟨rfl, n1, rfl⟩
    go_wp2_with fail
    refine (euc_to a b x y _ ha hb Hm.out Hx.out Hy.out).mono ?_
    rintro e w' ⟨rfl, n2, rfl⟩
    go_wp2_with fail
    refine (mul_to q b p _ hq64 hb Hp.out h1).mono ?_
    rintro e w' ⟨rfl, rfl⟩
    go_wp2_with fail
    refine (add_to p r a _ h1 hr64 (by have := Hqr.out; have := Hp.out; rw [Int.mul_comm] at this; omega) ha).mono ?_
    rintro e w' ⟨rfl, rfl⟩
    go_wp2_with fail
    refine (mul_no x b _ hx64 hb (by rw [Hu.out]; exact h2)).mono ?_
    rintro e w' ⟨rfl, rfl⟩
    go_wp2_with fail
    refine (add_to 0 y y _ in64_zero hy64 (by omega) hy64).mono ?_
    rintro e w' ⟨rfl, rfl⟩
    go_wp2_with fail
    refine (div_to 9 3 3 0 _ in64_9 in64_3 (may_3 _) (by decide) (by decide)).mono ?_
    rintro e w' ⟨rfl, n3, rfl⟩
    go_wp2
    go_ret
    exact ⟨rfl, Post.below_drewN (Below.refl _ _) _⟩
set_option maxRecDepth 100000 in
set_option maxHeartbeats 1600000 in
theorem rests_ny (a b q r x y p u : Int) (ha : In64 a) (hb : In64 b) (w : World) (g0 : (b != 0) = true) (hsg : Sides b r y) (hq64 : In64 q) (hx64 : In64 x) (hr64 : In64 r) (hy64 : In64 y)
    (Hm : Hid (mayE a b = 0)) (Hq : Hid (a.fdiv b = q)) (Hr : Hid (a.fmod b = r)) (Hx : Hid (a / b = x)) (Hy : Hid (a % b = y)) (Hqr : Hid (b * q + r = a)) (Hxy : Hid (b * x + y = a)) (Hp : Hid (q * b = p)) (Hu : Hid (x * b = u)) (h1 : ¬ In64 p) (h2 : In64 u) :
    Calls Try.prog 9 #[.int .i64 a, .int .i64 b] w fun e w' => e = .returned (.bool true) ∧ Below w.heap.size w w' := by
  have hy6 : -9223372036854775808 ≤ y ∧ y ≤ 9223372036854775807 := hy64
  rcases hsg with ⟨s1, s2, s3, s4⟩ | ⟨s1, s2, s3, s4, s5, s6⟩ | ⟨s1, s2, s3, s4⟩ | ⟨s1, s2, s3, s4, s5, s6⟩
  · have s5 := r_gt s1 s2
    go_enter Try.func9, Try.ntmps9
    go_wp2_with fail
    refine (div_to a b q r _ ha hb Hm.out Hq.out Hr.out).mono ?_
    rintro e w' ⟨rfl, n1, rfl⟩
    go_wp2_with fail
    refine (euc_to a b x y _ ha hb Hm.out Hx.out Hy.out).mono ?_
    rintro e w' ⟨rfl, n2, rfl⟩
    go_wp2_with fail
    refine (mul_no q b _ hq64 hb (by rw [Hp.out]; exact h1)).mono ?_
    rintro e w' ⟨rfl, rfl⟩
    go_wp2_with fail
    refine (add_to 0 r r _ in64_zero hr64 (by omega) hr64).mono ?_
    rintro e w' ⟨rfl, rfl⟩
    go_wp2_with fail
    refine (mul_to x b u _ hx64 hb Hu.out h2).mono ?_
    rintro e w' ⟨rfl, rfl⟩
    go_wp2_with fail
    refine (add_to u y a _ h2 hy64 (by have := Hxy.out; have := Hu.out; rw [Int.mul_comm] at this; omega) ha).mono ?_
    rintro e w' ⟨rfl, rfl⟩
    go_wp2_with fail
    refine (div_to 9 3 3 0 _ in64_9 in64_3 (may_3 _) (by decide) (by decide)).mono ?_
    rintro e w' ⟨rfl, n3, rfl⟩
    go_wp2
    go_ret
    exact ⟨rfl, Post.below_drewN (Below.refl _ _) _⟩
  · go_enter Try.func9, Try.ntmps9
    go_wp2_with fail
    refine (div_to a b q r _ ha hb Hm.out Hq.out Hr.out).mono ?_
    rintro e w' ⟨rfl, n1, rfl⟩
    go_wp2_with fail
    refine (euc_to a b x y _ ha hb Hm.out Hx.out Hy.out).mono ?_
    rintro e w' ⟨rfl, n2, rfl⟩
    go_wp2_with fail
    refine (mul_no q b _ hq64 hb (by rw [Hp.out]; exact h1)).mono ?_
    rintro e w' ⟨rfl, rfl⟩
    go_wp2_with fail
    refine (add_to 0 r r _ in64_zero hr64 (by omega) hr64).mono ?_
    rintro e w' ⟨rfl, rfl⟩
    go_wp2_with fail
    refine (mul_to x b u _ hx64 hb Hu.out h2).mono ?_
    rintro e w' ⟨rfl, rfl⟩
    go_wp2_with fail
    refine (add_to u y a _ h2 hy64 (by have := Hxy.out; have := Hu.out; rw [Int.mul_comm] at this; omega) ha).mono ?_
    rintro e w' ⟨rfl, rfl⟩
    go_wp2_with fail
    refine (div_to 9 3 3 0 _ in64_9 in64_3 (may_3 _) (by decide) (by decide)).mono ?_
    rintro e w' ⟨rfl, n3, rfl⟩
    go_wp2
    go_ret
    exact ⟨rfl, Post.below_drewN (Below.refl _ _) _⟩
  · have s5 := r_lt s1 s2
    go_enter Try.func9, Try.ntmps9
    go_wp2_with fail
    refine (div_to a b q r _ ha hb Hm.out Hq.out Hr.out).mono ?_
    rintro e w' ⟨rfl, n1, rfl⟩
    go_wp2_with fail
    refine (euc_to a b x y _ ha hb Hm.out Hx.out Hy.out).mono ?_
    rintro e w' ⟨rfl, n2, rfl⟩
    go_wp2_with fail
    refine (mul_no q b _ hq64 hb (by rw [Hp.out]; exact h1)).mono ?_
    rintro e w' ⟨rfl, rfl⟩
    go_wp2_with fail
    refine (add_to 0 r r _ in64_zero hr64 (by omega) hr64).mono ?_
    rintro e w' ⟨rfl, rfl⟩
    go_wp2_with fail
    refine (mul_to x b u _ hx64 hb Hu.out h2).mono ?_
    rintro e w' ⟨rfl, rfl⟩
    go_wp2_with fail
    refine (add_to u y a _ h2 hy64 (by have := Hxy.out; have := Hu.out; rw [Int.mul_comm] at this; omega) ha).mono ?_
    rintro e w' ⟨rfl, rfl⟩
    go_wp2_with fail
    refine (div_to 9 3 3 0 _ in64_9 in64_3 (may_3 _) (by decide) (by decide)).mono ?_
    rintro e w' ⟨rfl, n3, rfl⟩
    go_wp2
    go_ret
    exact ⟨rfl, Post.below_drewN (Below.refl _ _) _⟩
  · go_enter Try.func9, Try.ntmps9
    go_wp2_with fail
    refine (div_to a b q r _ ha hb Hm.out Hq.out Hr.out).mono ?_
    rintro e w' ⟨rfl, n1, rfl⟩
    go_wp2_with fail
    refine (euc_to a b x y _ ha hb Hm.out Hx.out Hy.out).mono ?_
    rintro e w' ⟨rfl, n2, rfl⟩
    go_wp2_with fail
    refine (mul_no q b _ hq64 hb (by rw [Hp.out]; exact h1)).mono ?_
    rintro e w' ⟨rfl, rfl⟩
    go_wp2_with fail
    refine (add_to 0 r r _ in64_zero hr64 (by omega) hr64).mono ?_
    rintro e w' ⟨rfl, rfl⟩
    go_wp2_with fail
    refine (mul_to x b u _ hx64 hb Hu.out h2).mono ?_
    rintro e w' ⟨rfl, rfl⟩
    go_wp2_with fail
    refine (add_to u y a _ h2 hy64 (by have := Hxy.out; have := Hu.out; rw [Int.mul_comm] at this; omega) ha).mono ?_
    rintro e w' ⟨rfl, rfl⟩
    go_wp2_with fail
    refine (div_to 9 3 3 0 _ in64_9 in64_3 (may_3 _) (by decide) (by decide)).mono ?_
    rintro e w' ⟨rfl, n3, rfl⟩
    go_wp2
    go_ret
    exact ⟨rfl, Post.below_drewN (Below.refl _ _) _⟩
set_option maxRecDepth 100000 in
set_option maxHeartbeats 1600000 in
theorem rests_nn (a b q r x y p u : Int) (ha : In64 a) (hb : In64 b) (w : World) (g0 : (b != 0) = true) (hsg : Sides b r y) (hq64 : In64 q) (hx64 : In64 x) (hr64 : In64 r) (hy64 : In64 y)
    (Hm : Hid (mayE a b = 0)) (Hq : Hid (a.fdiv b = q)) (Hr : Hid (a.fmod b = r)) (Hx : Hid (a / b = x)) (Hy : Hid (a % b = y)) (Hqr : Hid (b * q + r = a)) (Hxy : Hid (b * x + y = a)) (Hp : Hid (q * b = p)) (Hu : Hid (x * b = u)) (h1 : ¬ In64 p) (h2 : ¬ In64 u) :
    Calls Try.prog 9 #[.int .i64 a, .int .i64 b] w fun e w' => e = .returned (.bool true) ∧ Below w.heap.size w w' := by
  have hy6 : -9223372036854775808 ≤ y ∧ y ≤ 9223372036854775807 := hy64
  rcases hsg with ⟨s1, s2, s3, s4⟩ | ⟨s1, s2, s3, s4, s5, s6⟩ | ⟨s1, s2, s3, s4⟩ | ⟨s1, s2, s3, s4, s5, s6⟩
  · have s5 := r_gt s1 s2
    go_enter Try.func9, Try.ntmps9
    go_wp2_with fail
    refine (div_to a b q r _ ha hb Hm.out Hq.out Hr.out).mono ?_
    rintro e w' ⟨rfl, n1, rfl⟩
    go_wp2_with fail
    refine (euc_to a b x y _ ha hb Hm.out Hx.out Hy.out).mono ?_
    rintro e w' ⟨rfl, n2, rfl⟩
    go_wp2_with fail
    refine (mul_no q b _ hq64 hb (by rw [Hp.out]; exact h1)).mono ?_
    rintro e w' ⟨rfl, rfl⟩
    go_wp2_with fail
    refine (add_to 0 r r _ in64_zero hr64 (by omega) hr64).mono ?_
    rintro e w' ⟨rfl, rfl⟩
    go_wp2_with fail
    refine (mul_no x b _ hx64 hb (by rw [Hu.out]; exact h2)).mono ?_
    rintro e w' ⟨rfl, rfl⟩
    go_wp2_with fail
    refine (add_to 0 y y _ in64_zero hy64 (by omega) hy64).mono ?_
    rintro e w' ⟨rfl, rfl⟩
    go_wp2_with fail
    refine (div_to 9 3 3 0 _ in64_9 in64_3 (may_3 _) (by decide) (by decide)).mono ?_
    rintro e w' ⟨rfl, n3, rfl⟩
    go_wp2
    go_ret
    exact ⟨rfl, Post.below_drewN (Below.refl _ _) _⟩
  · go_enter Try.func9, Try.ntmps9
    go_wp2_with fail
    refine (div_to a b q r _ ha hb Hm.out Hq.out Hr.out).mono ?_
    rintro e w' ⟨rfl, n1, rfl⟩
    go_wp2_with fail
    refine (euc_to a b x y _ ha hb Hm.out Hx.out Hy.out).mono ?_
    rintro e w' ⟨rfl, n2, rfl⟩
    go_wp2_with fail
    refine (mul_no q b _ hq64 hb (by rw [Hp.out]; exact h1)).mono ?_
    rintro e w' ⟨rfl, rfl⟩
    go_wp2_with fail
    refine (add_to 0 r r _ in64_zero hr64 (by omega) hr64).mono ?_
    rintro e w' ⟨rfl, rfl⟩
    go_wp2_with fail
    refine (mul_no x b _ hx64 hb (by rw [Hu.out]; exact h2)).mono ?_
    rintro e w' ⟨rfl, rfl⟩
    go_wp2_with fail
    refine (add_to 0 y y _ in64_zero hy64 (by omega) hy64).mono ?_
    rintro e w' ⟨rfl, rfl⟩
    go_wp2_with fail
    refine (div_to 9 3 3 0 _ in64_9 in64_3 (may_3 _) (by decide) (by decide)).mono ?_
    rintro e w' ⟨rfl, n3, rfl⟩
    go_wp2
    go_ret
    exact ⟨rfl, Post.below_drewN (Below.refl _ _) _⟩
  · have s5 := r_lt s1 s2
    go_enter Try.func9, Try.ntmps9
    go_wp2_with fail
    refine (div_to a b q r _ ha hb Hm.out Hq.out Hr.out).mono ?_
    rintro e w' ⟨rfl, n1, rfl⟩
    go_wp2_with fail
    refine (euc_to a b x y _ ha hb Hm.out Hx.out Hy.out).mono ?_
    rintro e w' ⟨rfl, n2, rfl⟩
    go_wp2_with fail
    refine (mul_no q b _ hq64 hb (by rw [Hp.out]; exact h1)).mono ?_
    rintro e w' ⟨rfl, rfl⟩
    go_wp2_with fail
    refine (add_to 0 r r _ in64_zero hr64 (by omega) hr64).mono ?_
    rintro e w' ⟨rfl, rfl⟩
    go_wp2_with fail
    refine (mul_no x b _ hx64 hb (by rw [Hu.out]; exact h2)).mono ?_
    rintro e w' ⟨rfl, rfl⟩
    go_wp2_with fail
    refine (add_to 0 y y _ in64_zero hy64 (by omega) hy64).mono ?_
    rintro e w' ⟨rfl, rfl⟩
    go_wp2_with fail
    refine (div_to 9 3 3 0 _ in64_9 in64_3 (may_3 _) (by decide) (by decide)).mono ?_
    rintro e w' ⟨rfl, n3, rfl⟩
    go_wp2
    go_ret
    exact ⟨rfl, Post.below_drewN (Below.refl _ _) _⟩
  · go_enter Try.func9, Try.ntmps9
    go_wp2_with fail
    refine (div_to a b q r _ ha hb Hm.out Hq.out Hr.out).mono ?_
    rintro e w' ⟨rfl, n1, rfl⟩
    go_wp2_with fail
    refine (euc_to a b x y _ ha hb Hm.out Hx.out Hy.out).mono ?_
    rintro e w' ⟨rfl, n2, rfl⟩
    go_wp2_with fail
    refine (mul_no q b _ hq64 hb (by rw [Hp.out]; exact h1)).mono ?_
    rintro e w' ⟨rfl, rfl⟩
    go_wp2_with fail
    refine (add_to 0 r r _ in64_zero hr64 (by omega) hr64).mono ?_
    rintro e w' ⟨rfl, rfl⟩
    go_wp2_with fail
    refine (mul_no x b _ hx64 hb (by rw [Hu.out]; exact h2)).mono ?_
    rintro e w' ⟨rfl, rfl⟩
    go_wp2_with fail
    refine (add_to 0 y y _ in64_zero hy64 (by omega) hy64).mono ?_
    rintro e w' ⟨rfl, rfl⟩
    go_wp2_with fail
    refine (div_to 9 3 3 0 _ in64_9 in64_3 (may_3 _) (by decide) (by decide)).mono ?_
    rintro e w' ⟨rfl, n3, rfl⟩
    go_wp2
    go_ret
    exact ⟨rfl, Post.below_drewN (Below.refl _ _) _⟩

theorem sides_of (a b : Int) (hb0 : b ≠ 0) : Sides b (a.fmod b) (a % b) ∧ (a.fmod b).natAbs < b.natAbs ∧ (a % b).natAbs < b.natAbs := by
  have h := fmod_bd a b
  have hy := Int.emod_nonneg a hb0
  have hy2 : a % b < b.natAbs := Int.emod_lt a hb0
  refine ⟨?_, by omega, by omega⟩
  unfold Sides
  rcases (show b < 0 ∨ 0 < b by omega) with h0 | h0 <;> by_cases h2 : a.fmod b = 0
  · exact .inl ⟨h0, by simpa using h2, hy, by omega⟩
  · exact .inr (.inl ⟨h0, by simpa using h2, by omega, by omega, hy, by omega⟩)
  · exact .inr (.inr (.inl ⟨h0, by simpa using h2, hy, by omega⟩))
  · exact .inr (.inr (.inr ⟨h0, by simpa using h2, by omega, by omega, hy, by omega⟩))

theorem rests_yes (a b : Int) (ha : In64 a) (hb : In64 b) (w : World) (hb0 : b ≠ 0) (hm : mayE a b = 0) (hs : ¬ (a = -9223372036854775808 ∧ b = -1)) :
    Calls Try.prog 9 #[.int .i64 a, .int .i64 b] w fun e w' => e = .returned (.bool true) ∧ Below w.heap.size w w' := by
  have g0 : (b != 0) = true := by simpa using hb0
  obtain ⟨hsd, f4, hy3⟩ := sides_of a b hb0
  have hqr := Int.mul_fdiv_add_fmod a b
  have hxy := Int.mul_ediv_add_emod a b
  have hq64 := quo_in a b _ _ ha hs hqr f4
  have hx64 := quo_in a b _ _ ha hs hxy hy3
  have hr64 := in64_lt hb f4
  have hy64 := in64_lt hb hy3
  by_cases h1 : In64 (a.fdiv b * b) <;> by_cases h2 : In64 (a / b * b)
  · exact rests_yy a b _ _ _ _ _ _ ha hb w g0 hsd hq64 hx64 hr64 hy64 hm rfl rfl rfl rfl hqr hxy rfl rfl h1 h2
  · exact rests_yn a b _ _ _ _ _ _ ha hb w g0 hsd hq64 hx64 hr64 hy64 hm rfl rfl rfl rfl hqr hxy rfl rfl h1 h2
  · exact rests_ny a b _ _ _ _ _ _ ha hb w g0 hsd hq64 hx64 hr64 hy64 hm rfl rfl rfl rfl hqr hxy rfl rfl h1 h2
  · exact rests_nn a b _ _ _ _ _ _ ha hb w g0 hsd hq64 hx64 hr64 hy64 hm rfl rfl rfl rfl hqr hxy rfl rfl h1 h2

theorem rests_walk (a b : Int) (ha : In64 a) (hb : In64 b) (w : World) :
    Calls Try.prog 9 #[.int .i64 a, .int .i64 b] w fun e w' => e = .returned (.bool true) ∧ Below w.heap.size w w' := by
  rcases may_cases a b with ⟨h0, hm⟩ | ⟨h0, hm⟩ | ⟨h0, hm', hs⟩
  · exact rests_no a b ha hb w (by omega)
  · exact rests_no a b ha hb w (by omega)
  · exact rests_yes a b ha hb w h0 hm' hs
end Go.Proofs.Ytnjdbkgdinlhfaa.LawBack
