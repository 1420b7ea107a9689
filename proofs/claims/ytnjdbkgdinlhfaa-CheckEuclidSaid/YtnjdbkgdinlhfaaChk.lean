/-
  The contracts of package check (layer 1), each over the loaded program: what Add, Sub, Mul, Neg, Abs, Div, Euclid return at any two numbers of 64 bits. Conditions: the arguments are numbers of 64 bits.
-/
import Derived.Test.YtnjdbkgdinlhfaaChecked
import Derived.WalkKit
import Derived.ProofKit
import Derived.OpenShut
import Derived.Handy
import Derived.Lib.Hide
import Derived.BigQuiet
import Derived.Deep.QuietTactic
namespace Go.Proofs.Ytnjdbkgdinlhfaa.Chk
open Go.RowKit

def In64 (x : Int) : Prop := -9223372036854775808 ≤ x ∧ x ≤ 9223372036854775807
instance (x : Int) : Decidable (In64 x) := by unfold In64; infer_instance
theorem in64_of_wf {a : Int} (h : (Lit.int .i64 a).wf = true) : In64 a := by
  unfold In64; simpa [Lit.wf, IntKind.min, IntKind.max, IntKind.signed, IntKind.bits] using h

def unlB (a b : Int) : Bool := decide (a < 0 ∧ b > 0 ∨ a > 0 ∧ b < 0)

theorem unlike_any (a b : Int) (w : World) :
    Calls Try.prog 30 #[.int .i64 a, .int .i64 b] w fun e w' => e = .returned (.bool (unlB a b)) ∧ w = w' := by
  have fin : ∀ (x : Bool) (e : Ending) (w' : World), x = unlB a b → e = .returned (.bool x) ∧ w = w' → e = .returned (.bool (unlB a b)) ∧ w = w' := fun x e w' h => by subst h; exact id
  by_cases h1 : a < 0 <;> by_cases h2 : b > 0 <;> by_cases h3 : a > 0 <;> by_cases h4 : b < 0 <;> first
    | (exfalso; omega)
    | (go_enter Try.func30, Try.ntmps30
       go_wp2
       go_ret
       exact ⟨by congr 2; unfold unlB; simp; omega, rfl⟩)

theorem ret1 {k : IntKind} {a c : Int} (h : a = c) : Ending.returned (.int k a) = .returned (.int k c) := by rw [h]
theorem ret2 {k l : IntKind} {a b c d : Int} (h : a = c) (h' : b = d) : Ending.returned (.tuple #[.int k a, .int l b]) = .returned (.tuple #[.int k c, .int l d]) := by rw [h, h']
theorem ret3 {k l m : IntKind} {a b c d x y : Int} (h : a = c) (h' : b = d) (h2 : x = y) : Ending.returned (.tuple #[.int k a, .int l b, .int m x]) = .returned (.tuple #[.int k c, .int l d, .int m y]) := by rw [h, h', h2]

/-- What a result of 64 bits is: the number where it fits, else 0; and the error. -/
def fitV (x : Int) : Int := if In64 x then x else 0
def fitE (x : Int) : Int := if In64 x then 0 else 2
theorem fitV_yes {x : Int} (h : In64 x) : fitV x = x := if_pos h
theorem fitE_yes {x : Int} (h : In64 x) : fitE x = 0 := if_pos h
theorem fitV_no {x : Int} (h : ¬ In64 x) : fitV x = 0 := if_neg h
theorem fitE_no {x : Int} (h : ¬ In64 x) : fitE x = 2 := if_neg h
theorem in64_zero : In64 0 := by unfold In64; omega
theorem fitV_in (x : Int) : In64 (fitV x) := by
  unfold fitV; split
  · assumption
  · exact in64_zero

theorem wrap_lo {x : Int} (h0 : -18446744073709551616 ≤ x) (h : x < -9223372036854775808) : wrap64 x = x + 18446744073709551616 := by unfold wrap64; omega
theorem wrap_hi {x : Int} (h0 : x ≤ 18446744073709551615) (h : 9223372036854775807 < x) : wrap64 x = x - 18446744073709551616 := by unfold wrap64; omega

theorem unlB_yes {a b : Int} (h : a < 0 ∧ 0 < b ∨ 0 < a ∧ b < 0) : unlB a b = true := by unfold unlB; simpa using h
theorem unlB_no {a b : Int} (h : ¬ (a < 0 ∧ 0 < b ∨ 0 < a ∧ b < 0)) : unlB a b = false := by unfold unlB; simpa using h

/-! Add: the tests in Bool form -/
theorem add_test_yes (a b : Int) (h : In64 (a + b)) : (unlB a b = true) ∨ (unlB a b = false ∧ (b == 0) = true) ∨ (unlB a b = false ∧ (b == 0) = false ∧ (decide (a < wrap64 (a + b)) == decide (0 < b)) = true) := by
  rw [IntWalk.wrap64_in _ h]
  unfold unlB
  by_cases h1 : 0 < b <;> by_cases h2 : b = 0 <;> by_cases h3 : b < 0 <;> by_cases h4 : a < 0 <;> by_cases h5 : 0 < a <;> simp [h1, h2, h3, h4, h5] <;> omega
theorem add_test_no (a b : Int) (ha : In64 a) (hb : In64 b) (h : ¬ In64 (a + b)) : unlB a b = false ∧ (b == 0) = false ∧ (decide (a < wrap64 (a + b)) == decide (0 < b)) = false := by
  unfold In64 at ha hb h
  refine ⟨unlB_no (by omega), by simp; omega, ?_⟩
  rcases (show a + b < -9223372036854775808 ∨ 9223372036854775807 < a + b by omega) with h' | h'
  · rw [wrap_lo (by omega) h']
    have e1 : a < a + b + 18446744073709551616 := by omega
    have e2 : ¬ 0 < b := by omega
    simp [e1, e2]
  · rw [wrap_hi (by omega) h']
    have e1 : ¬ a < a + b - 18446744073709551616 := by omega
    have e2 : 0 < b := by omega
    simp [e1, e2]

theorem add_any (a b : Int) (w : World) (ha : In64 a) (hb : In64 b) :
    Calls Try.prog 14 #[.int .i64 a, .int .i64 b] w fun e w' => e = .returned (.tuple #[.int .i64 (fitV (a + b)), .int .i64 (fitE (a + b))]) ∧ w = w' := by
  obtain ⟨s, hs⟩ : ∃ s, wrap64 (a + b) = s := ⟨_, rfl⟩
  by_cases h : In64 (a + b)
  · have hv := fitV_yes h
    have he := fitE_yes h
    have hsv : s = a + b := by rw [← hs]; exact IntWalk.wrap64_in _ h
    have ht := add_test_yes a b h
    rw [hs] at ht
    have Hv := Lib.hid hv; have He := Lib.hid he; have Hs := Lib.hid hsv
    clear hv he hsv ha hb h
    rcases ht with h1 | ⟨h1, h2⟩ | ⟨h1, h2, h3⟩
    all_goals
      go_enter Try.func14, Try.ntmps14
      go_wp2_with (go_at_call 30; refine (unlike_any _ _ _).mono ?_; rintro e w' ⟨rfl, rfl⟩)
      go_ret2
      exact ⟨ret2 (by first | rw [Hv.out, Hs.out] | rw [Hv.out, hs, Hs.out]) He.out.symm, rfl⟩
  · have hv := fitV_no h
    have he := fitE_no h
    obtain ⟨h1, h2, h3⟩ := add_test_no a b ha hb h
    rw [hs] at h3
    have Hv := Lib.hid hv; have He := Lib.hid he
    clear hv he ha hb h
    go_enter Try.func14, Try.ntmps14
    go_wp2_with (go_at_call 30; refine (unlike_any _ _ _).mono ?_; rintro e w' ⟨rfl, rfl⟩)
    go_ret2
    exact ⟨ret2 Hv.out.symm He.out.symm, rfl⟩

/-! Sub -/
theorem sub_test_yes (a b : Int) (h : In64 (a - b)) : (b == 0) = true ∨ ((b == 0) = false ∧ (decide (wrap64 (a - b) < a) == decide (0 < b)) = true) := by
  rw [IntWalk.wrap64_in _ h]
  by_cases h1 : 0 < b <;> by_cases h2 : b = 0 <;> simp [h1, h2] <;> omega
theorem sub_test_no (a b : Int) (ha : In64 a) (hb : In64 b) (h : ¬ In64 (a - b)) : (b == 0) = false ∧ (decide (wrap64 (a - b) < a) == decide (0 < b)) = false := by
  unfold In64 at ha hb h
  refine ⟨by simp; omega, ?_⟩
  rcases (show a - b < -9223372036854775808 ∨ 9223372036854775807 < a - b by omega) with h' | h'
  · rw [wrap_lo (by omega) h']
    have e1 : ¬ (a - b + 18446744073709551616 < a) := by omega
    have e2 : 0 < b := by omega
    simp [e1, e2]
  · rw [wrap_hi (by omega) h']
    have e1 : a - b - 18446744073709551616 < a := by omega
    have e2 : ¬ 0 < b := by omega
    simp [e1, e2]
theorem sub_any (a b : Int) (w : World) (ha : In64 a) (hb : In64 b) :
    Calls Try.prog 16 #[.int .i64 a, .int .i64 b] w fun e w' => e = .returned (.tuple #[.int .i64 (fitV (a - b)), .int .i64 (fitE (a - b))]) ∧ w = w' := by
  obtain ⟨s, hs⟩ : ∃ s, wrap64 (a - b) = s := ⟨_, rfl⟩
  by_cases h : In64 (a - b)
  · have hv := fitV_yes h
    have he := fitE_yes h
    have hsv : s = a - b := by rw [← hs]; exact IntWalk.wrap64_in _ h
    have ht := sub_test_yes a b h
    rw [hs] at ht
    have Hv := Lib.hid hv; have He := Lib.hid he; have Hs := Lib.hid hsv
    clear hv he hsv ha hb h
    rcases ht with h2 | ⟨h2, h3⟩
    all_goals
      go_enter Try.func16, Try.ntmps16
      go_wp2
      go_ret2
      exact ⟨ret2 (by first | rw [Hv.out, Hs.out] | rw [Hv.out, hs, Hs.out]) He.out.symm, rfl⟩
  · have hv := fitV_no h
    have he := fitE_no h
    obtain ⟨h2, h3⟩ := sub_test_no a b ha hb h
    rw [hs] at h3
    have Hv := Lib.hid hv; have He := Lib.hid he
    clear hv he ha hb h
    go_enter Try.func16, Try.ntmps16
    go_wp2
    go_ret2
    exact ⟨ret2 Hv.out.symm He.out.symm, rfl⟩

/-! Neg, Abs -/
theorem neg_any (a : Int) (w : World) (ha : In64 a) :
    Calls Try.prog 18 #[.int .i64 a] w fun e w' => e = .returned (.tuple #[.int .i64 (fitV (0 - a)), .int .i64 (fitE (0 - a))]) ∧ w = w' := by
  go_enter Try.func18, Try.ntmps18
  go_wp2_with (go_at_call 16; refine (sub_any 0 a _ in64_zero ha).mono ?_; rintro e w' ⟨rfl, rfl⟩)
  go_ret2
  exact ⟨ret2 (by simp) (by simp), rfl⟩

def absV (a : Int) : Int := if a < 0 then 0 - a else a
theorem abs_any (a : Int) (w : World) (ha : In64 a) :
    Calls Try.prog 20 #[.int .i64 a] w fun e w' => e = .returned (.tuple #[.int .i64 (fitV (absV a)), .int .i64 (fitE (absV a))]) ∧ w = w' := by
  by_cases h : a < 0
  · go_enter Try.func20, Try.ntmps20
    go_wp2_with (go_at_call 18; refine (neg_any a _ ha).mono ?_; rintro e w' ⟨rfl, rfl⟩)
    go_ret2
    exact ⟨ret2 (by unfold absV; rw [if_pos h]; simp) (by unfold absV; rw [if_pos h]; simp), rfl⟩
  · have e0 : absV a = a := by unfold absV; rw [if_neg h]
    go_enter Try.func20, Try.ntmps20
    have E0 := Lib.hid e0; clear e0
    go_wp2
    go_ret2
    exact ⟨ret2 (by rw [E0.out, fitV_yes ha]) (by rw [E0.out, fitE_yes ha]), rfl⟩

/-! Mul: the plain law of its test -/
theorem tdiv_mul_lt (p b : Int) (hb : b ≠ 0) : (p - b * p.tdiv b).natAbs < b.natAbs := by
  have h := Int.mul_tdiv_add_tmod p b
  have e : p - b * p.tdiv b = p.tmod b := by omega
  rw [e]
  have := Int.tmod_lt_of_pos p (b := b.natAbs) (by omega)
  rw [Int.natAbs_tmod]
  exact Nat.mod_lt _ (by omega)
theorem wrap_mod (x : Int) : ∃ k : Int, wrap64 x = x + k * 18446744073709551616 := by
  refine ⟨-((x + 9223372036854775808) / 18446744073709551616), ?_⟩
  unfold wrap64; omega
theorem wrap_in (x : Int) : In64 (wrap64 x) := by unfold wrap64 In64; omega
theorem mul_test_no (a b : Int) (ha : In64 a) (hb : In64 b) (hb0 : b ≠ 0) (h : ¬ In64 (a * b)) (h1 : ¬ (a = -1 ∧ b = -9223372036854775808)) (h2 : ¬ (b = -1 ∧ a = -9223372036854775808)) :
    wrap64 ((wrap64 (a * b)).tdiv b) ≠ a := by
  intro hq
  obtain ⟨k, hk⟩ := wrap_mod (a * b)
  have hp := wrap_in (a * b)
  have hk0 : k ≠ 0 := by rintro rfl; rw [hk] at hp; exact h (by simpa using hp)
  have hlt := tdiv_mul_lt (wrap64 (a * b)) b hb0
  by_cases hs : b = -1
  · subst hs
    have ea : a * -1 = -a := by omega
    rw [ea] at h
    unfold In64 at ha h
    omega
  · have hq2 : (wrap64 (a * b)).tdiv b = a := by
      have h2 := Int.natAbs_tdiv_le_natAbs (wrap64 (a * b)) b
      have h3 : (wrap64 (a * b)).natAbs ≤ 9223372036854775808 := by unfold In64 at hp; omega
      have h4 : (wrap64 (a * b)).tdiv b ≤ 9223372036854775807 := by
        refine Int.not_lt.mp (fun h4 => ?_)
        · exfalso
          have h5 : ((wrap64 (a * b)).tdiv b) = 9223372036854775808 := by omega
          have h6 : (wrap64 (a * b)).natAbs = 9223372036854775808 := by omega
          rw [h5] at hlt
          unfold In64 at hb hp
          generalize wrap64 (a * b) = q at *
          omega
      have h7 := IntWalk.wrap64_in ((wrap64 (a * b)).tdiv b) ⟨by omega, h4⟩
      omega
    rw [hq2] at hlt
    have e2 : b * a = a * b := Int.mul_comm _ _
    rw [e2, hk] at hlt
    unfold In64 at hb
    generalize a * b = x at *
    omega
theorem mul_test_yes (a b : Int) (ha : In64 a) (hb0 : b ≠ 0) (h : In64 (a * b)) :
    ¬ (a = -1 ∧ b = -9223372036854775808) ∧ ¬ (b = -1 ∧ a = -9223372036854775808) ∧ wrap64 ((wrap64 (a * b)).tdiv b) = a := by
  refine ⟨?_, ?_, ?_⟩
  · rintro ⟨rfl, rfl⟩; unfold In64 at h; omega
  · rintro ⟨rfl, rfl⟩; unfold In64 at h; omega
  · rw [IntWalk.wrap64_in _ h, Int.mul_tdiv_cancel _ hb0, IntWalk.wrap64_in _ ha]

theorem mul_any (a b : Int) (w : World) (ha : In64 a) (hb : In64 b) :
    Calls Try.prog 10 #[.int .i64 a, .int .i64 b] w fun e w' => e = .returned (.tuple #[.int .i64 (fitV (a * b)), .int .i64 (fitE (a * b))]) ∧ w = w' := by
  by_cases ha0 : a = 0
  · have hx : a * b = 0 := by rw [ha0]; simp
    have hv : fitV (a * b) = 0 := by rw [hx]; exact fitV_yes in64_zero
    have he : fitE (a * b) = 0 := by rw [hx]; exact fitE_yes in64_zero
    have Hv := Lib.hid hv; have He := Lib.hid he
    have h0 : (a == 0) = true := by simpa using ha0
    clear hv he hx ha0
    go_enter Try.func10, Try.ntmps10
    go_wp2
    go_ret2
    exact ⟨ret2 Hv.out.symm He.out.symm, rfl⟩
  have h0 : (a == 0) = false := by simpa using ha0
  by_cases hb0 : b = 0
  · have hx : a * b = 0 := by rw [hb0]; simp
    have hv : fitV (a * b) = 0 := by rw [hx]; exact fitV_yes in64_zero
    have he : fitE (a * b) = 0 := by rw [hx]; exact fitE_yes in64_zero
    have Hv := Lib.hid hv; have He := Lib.hid he
    have h1 : (b == 0) = true := by simpa using hb0
    clear hv he hx hb0 ha0
    go_enter Try.func10, Try.ntmps10
    go_wp2
    go_ret2
    exact ⟨ret2 Hv.out.symm He.out.symm, rfl⟩
  have h1 : (b == 0) = false := by simpa using hb0
  obtain ⟨p, hp⟩ : ∃ p, wrap64 (a * b) = p := ⟨_, rfl⟩
  obtain ⟨q, hq⟩ : ∃ q, wrap64 (p.tdiv b) = q := ⟨_, rfl⟩
  by_cases h : In64 (a * b)
  · have hv := fitV_yes h
    have he := fitE_yes h
    obtain ⟨t1, t2, t3⟩ := mul_test_yes a b ha hb0 h
    have hpv : p = a * b := by rw [← hp]; exact IntWalk.wrap64_in _ h
    have g3 : (q != a) = false := by rw [hp, hq] at t3; simpa using t3
    have Hv := Lib.hid hv; have He := Lib.hid he; have Hp := Lib.hid hpv
    have g1 : (a == -1) = false ∨ ((a == -1) = true ∧ (b == -9223372036854775808) = false) := by
      by_cases e : a = -1
      · exact .inr ⟨by simpa using e, by simp; intro e2; exact t1 ⟨e, e2⟩⟩
      · exact .inl (by simpa using e)
    have g2 : (b == -1) = false ∨ ((b == -1) = true ∧ (a == -9223372036854775808) = false) := by
      by_cases e : b = -1
      · exact .inr ⟨by simpa using e, by simp; intro e2; exact t2 ⟨e, e2⟩⟩
      · exact .inl (by simpa using e)
    clear hv he hpv t1 t2 t3 ha hb ha0 h
    rcases g1 with g1 | ⟨g1, g1'⟩ <;> rcases g2 with g2 | ⟨g2, g2'⟩
    all_goals
      go_enter Try.func10, Try.ntmps10
      go_wp2
      go_ret2
      exact ⟨ret2 (by first | rw [Hv.out, Hp.out] | rw [Hv.out, hp, Hp.out]) He.out.symm, rfl⟩
  · have hv := fitV_no h
    have he := fitE_no h
    have Hv := Lib.hid hv; have He := Lib.hid he
    by_cases s1 : a = -1 ∧ b = -9223372036854775808
    · obtain ⟨rfl, rfl⟩ := s1
      clear hv he ha hb ha0 hb0 h
      go_enter Try.func10, Try.ntmps10
      go_wp2
      go_ret2
      exact ⟨ret2 Hv.out.symm He.out.symm, rfl⟩
    by_cases s2 : b = -1 ∧ a = -9223372036854775808
    · obtain ⟨rfl, rfl⟩ := s2
      clear hv he ha hb ha0 hb0 h
      go_enter Try.func10, Try.ntmps10
      go_wp2
      go_ret2
      exact ⟨ret2 Hv.out.symm He.out.symm, rfl⟩
    have t3 := mul_test_no a b ha hb hb0 h s1 s2
    have g3 : (q != a) = true := by rw [hp, hq] at t3; simpa using t3
    have g1 : (a == -1) = false ∨ ((a == -1) = true ∧ (b == -9223372036854775808) = false) := by
      by_cases e : a = -1
      · exact .inr ⟨by simpa using e, by simp; intro e2; exact s1 ⟨e, e2⟩⟩
      · exact .inl (by simpa using e)
    have g2 : (b == -1) = false ∨ ((b == -1) = true ∧ (a == -9223372036854775808) = false) := by
      by_cases e : b = -1
      · exact .inr ⟨by simpa using e, by simp; intro e2; exact s2 ⟨e, e2⟩⟩
      · exact .inl (by simpa using e)
    clear hv he t3 ha hb ha0 h s1 s2
    rcases g1 with g1 | ⟨g1, g1'⟩ <;> rcases g2 with g2 | ⟨g2, g2'⟩
    all_goals
      go_enter Try.func10, Try.ntmps10
      go_wp2
      go_ret2
      exact ⟨ret2 Hv.out.symm He.out.symm, rfl⟩

/-! may -/
def mayE (a b : Int) : Int := if b = 0 then 3 else if a = -9223372036854775808 ∧ b = -1 then 2 else 0
theorem may_any (a b : Int) (w : World) :
    Calls Try.prog 34 #[.int .i64 a, .int .i64 b] w fun e w' => e = .returned (.int .i64 (mayE a b)) ∧ w = w' := by
  by_cases hb : b = 0
  · have he : mayE a b = 3 := by unfold mayE; rw [if_pos hb]
    have He := Lib.hid he
    have h1 : (b == 0) = true := by simpa using hb
    clear he hb
    go_enter Try.func34, Try.ntmps34
    go_wp2
    go_ret
    exact ⟨ret1 He.out.symm, rfl⟩
  have h1 : (b == 0) = false := by simpa using hb
  by_cases h2 : a = -9223372036854775808 ∧ b = -1
  · have he : mayE a b = 2 := by unfold mayE; rw [if_neg hb, if_pos h2]
    have He := Lib.hid he
    have g1 : (a == -9223372036854775808) = true := by simpa using h2.1
    have g2 : (b == -1) = true := by simpa using h2.2
    clear he hb h2
    go_enter Try.func34, Try.ntmps34
    go_wp2
    go_ret
    exact ⟨ret1 He.out.symm, rfl⟩
  · have he : mayE a b = 0 := by unfold mayE; rw [if_neg hb, if_neg h2]
    have He := Lib.hid he
    have g2 : (a == -9223372036854775808) = false ∨ ((a == -9223372036854775808) = true ∧ (b == -1) = false) := by
      by_cases e : a = -9223372036854775808
      · exact .inr ⟨by simpa using e, by simp; intro e2; exact h2 ⟨e, e2⟩⟩
      · exact .inl (by simpa using e)
    clear he hb h2
    rcases g2 with g1 | ⟨g1, g1'⟩
    all_goals
      go_enter Try.func34, Try.ntmps34
      go_wp2
      go_ret
      exact ⟨ret1 He.out.symm, rfl⟩

/-! Div, Euclid -/
def divV (a b : Int) : Int := if mayE a b = 0 then a.fdiv b else 0
def divR (a b : Int) : Int := if mayE a b = 0 then a.fmod b else 0
def eucV (a b : Int) : Int := if mayE a b = 0 then a / b else 0
def eucR (a b : Int) : Int := if mayE a b = 0 then a % b else 0

theorem tmod_bd (a b : Int) (hb0 : b ≠ 0) : (a.tmod b).natAbs < b.natAbs ∧ (0 ≤ a → 0 ≤ a.tmod b) ∧ (a ≤ 0 → a.tmod b ≤ 0) := by
  refine ⟨by rw [Int.natAbs_tmod]; exact Nat.mod_lt _ (by omega), fun h => Int.tmod_nonneg _ h, fun h => ?_⟩
  have := Int.tmod_nonneg (a := -a) b (by omega)
  rw [Int.neg_tmod] at this
  omega
theorem fdiv_of (a b q r : Int) (h : a = b * q + r) (hr : (0 < b ∧ 0 ≤ r ∧ r < b) ∨ (b < 0 ∧ b < r ∧ r ≤ 0)) : a.fdiv b = q ∧ a.fmod b = r := by
  have h1 := Int.mul_fdiv_add_fmod a b
  have hq : a.fdiv b = q := by
    rcases hr with ⟨hb, h2, h3⟩ | ⟨hb, h2, h3⟩
    · have g1 := Int.fmod_nonneg_of_pos a hb
      have g2 := Int.fmod_lt_of_pos a hb
      have : b * (a.fdiv b - q) = r - a.fmod b := by rw [Int.mul_sub]; omega
      rcases Int.lt_trichotomy (a.fdiv b - q) 0 with h4 | h4 | h4
      · have := Int.mul_le_mul_of_nonneg_left (show a.fdiv b - q ≤ -1 by omega) (Int.le_of_lt hb)
        omega
      · omega
      · have := Int.mul_le_mul_of_nonneg_left (show 1 ≤ a.fdiv b - q by omega) (Int.le_of_lt hb)
        omega
    · have e : a.fmod b = -((-a).fmod (-b)) := by rw [Int.neg_fmod_neg]; omega
      have g1 := Int.fmod_nonneg_of_pos (-a) (show 0 < -b by omega)
      have g2 := Int.fmod_lt_of_pos (-a) (show 0 < -b by omega)
      have : b * (a.fdiv b - q) = r - a.fmod b := by rw [Int.mul_sub]; omega
      rcases Int.lt_trichotomy (a.fdiv b - q) 0 with h4 | h4 | h4
      · have := Int.mul_le_mul_of_nonpos_left (show b ≤ 0 by omega) (show a.fdiv b - q ≤ -1 by omega)
        omega
      · omega
      · have := Int.mul_le_mul_of_nonpos_left (show b ≤ 0 by omega) (show 1 ≤ a.fdiv b - q by omega)
        omega
  exact ⟨hq, by rw [hq] at h1; omega⟩
theorem ediv_of (a b q r : Int) (h : a = b * q + r) (hr : 0 ≤ r ∧ r < b.natAbs) : a / b = q ∧ a % b = r := by
  have hb : b ≠ 0 := by omega
  have h1 : a % b = r := by
    rw [h, Int.mul_add_emod_self_left]
    rcases Int.lt_or_lt_of_ne hb with hb | hb
    · rw [← Int.emod_neg]; exact Int.emod_eq_of_lt hr.1 (by omega)
    · exact Int.emod_eq_of_lt hr.1 (by omega)
  have h2 := Int.mul_ediv_add_emod a b
  exact ⟨Int.eq_of_mul_eq_mul_left hb (by omega), h1⟩
theorem tdiv_in (a b : Int) (ha : In64 a) (hb0 : b ≠ 0) (h : ¬ (a = -9223372036854775808 ∧ b = -1)) : In64 (a.tdiv b) := by
  have h2 := Int.natAbs_tdiv_le_natAbs a b
  unfold In64 at ha ⊢
  refine ⟨by omega, ?_⟩
  refine Int.not_lt.mp fun h4 => ?_
  have h5 : a = -9223372036854775808 := by omega
  subst h5
  have h1 := Int.mul_tdiv_add_tmod (-9223372036854775808) b
  have h6 : (Int.tdiv (-9223372036854775808) b) = 9223372036854775808 := by omega
  rw [h6] at h1
  have := tmod_bd (-9223372036854775808) b hb0
  omega

theorem div_any (a b : Int) (w : World) (ha : In64 a) (hb : In64 b) :
    Calls Try.prog 22 #[.int .i64 a, .int .i64 b] w fun e w' => e = .returned (.tuple #[.int .i64 (divV a b), .int .i64 (divR a b), .int .i64 (mayE a b)]) ∧ ∃ n, w' = w.drewN n := by
  cases h0 : (mayE a b != 0)
  · have hm : mayE a b = 0 := by simpa using h0
    have hb0 : b ≠ 0 := by rintro rfl; simp [mayE] at hm
    have hs : ¬ (a = -9223372036854775808 ∧ b = -1) := by intro e; simp [mayE, e] at hm
    have hv : divV a b = a.fdiv b := if_pos hm
    have hr : divR a b = a.fmod b := if_pos hm
    have hq := tdiv_in a b ha hb0 hs
    have ht := tmod_bd a b hb0
    have hqr := Int.mul_tdiv_add_tmod a b
    obtain ⟨q, eq⟩ : ∃ q, a.tdiv b = q := ⟨_, rfl⟩
    obtain ⟨r, er⟩ : ∃ r, a.tmod b = r := ⟨_, rfl⟩
    rw [eq, er] at hqr
    rw [er] at ht
    rw [eq] at hq
    unfold In64 at hq ha hb
    have Hm := Lib.hid hm; have Hv := Lib.hid hv; have Hr := Lib.hid hr; have Hqr := Lib.hid hqr; have Ht := Lib.hid ht
    have ht1 := ht.1
    clear hm hv hr hqr hs ht
    cases hu : unlB r b
    · go_enter Try.func22, Try.ntmps22
      go_wp2_with (first | (go_at_call 34; refine (may_any _ _ _).mono ?_; rintro e w' ⟨rfl, rfl⟩))
      go_quiet (fail)
      go_wp2_with (first | (go_at_call 30; refine (unlike_any _ _ _).mono ?_; rintro e w' ⟨rfl, rfl⟩))
      go_ret3
      have hf := fdiv_of a b q r (by have := Hqr.out; omega) (by
        have := Ht.out
        unfold unlB at hu
        simp at hu
        omega)
      exact ⟨ret3 (by rw [Hv.out, hf.1]) (by rw [Hr.out, hf.2]) Hm.out.symm, _, rfl⟩
    · have hu1 : -9223372036854775808 ≤ q - 1 ∧ -9223372036854775808 ≤ r + b ∧ r + b ≤ 9223372036854775807 := by
        have := Hqr.out
        unfold unlB at hu
        simp at hu
        have h3 := Ht.out
        refine ⟨?_, by omega, by omega⟩
        refine Int.not_lt.mp fun h4 => ?_
        obtain rfl : q = -9223372036854775808 := by omega
        omega
      go_enter Try.func22, Try.ntmps22
      go_wp2_with (first | (go_at_call 34; refine (may_any _ _ _).mono ?_; rintro e w' ⟨rfl, rfl⟩))
      go_quiet (fail)
      go_wp2_with (first | (go_at_call 30; refine (unlike_any _ _ _).mono ?_; rintro e w' ⟨rfl, rfl⟩))
      go_ret3
      have hf := fdiv_of a b (q - 1) (r + b) (by have := Hqr.out; rw [Int.mul_sub]; omega) (by
        have := Ht.out
        unfold unlB at hu
        simp at hu
        omega)
      exact ⟨ret3 (by rw [Hv.out, hf.1]) (by rw [Hr.out, hf.2]) Hm.out.symm, _, rfl⟩
  · have hm : mayE a b ≠ 0 := by simpa using h0
    have hv : divV a b = 0 := if_neg hm
    have hr : divR a b = 0 := if_neg hm
    have Hv := Lib.hid hv; have Hr := Lib.hid hr
    clear hm hv hr ha hb
    go_enter Try.func22, Try.ntmps22
    go_wp2_with (first | (go_at_call 34; refine (may_any _ _ _).mono ?_; rintro e w' ⟨rfl, rfl⟩))
    go_ret3
    exact ⟨ret3 Hv.out.symm Hr.out.symm rfl, 0, rfl⟩

theorem euclid_any (a b : Int) (w : World) (ha : In64 a) (hb : In64 b) :
    Calls Try.prog 24 #[.int .i64 a, .int .i64 b] w fun e w' => e = .returned (.tuple #[.int .i64 (eucV a b), .int .i64 (eucR a b), .int .i64 (mayE a b)]) ∧ ∃ n, w' = w.drewN n := by
  cases h0 : (mayE a b != 0)
  · have hm : mayE a b = 0 := by simpa using h0
    have hb0 : b ≠ 0 := by rintro rfl; simp [mayE] at hm
    have hs : ¬ (a = -9223372036854775808 ∧ b = -1) := by intro e; simp [mayE, e] at hm
    have hv : eucV a b = a / b := if_pos hm
    have hr : eucR a b = a % b := if_pos hm
    have hq := tdiv_in a b ha hb0 hs
    have ht := tmod_bd a b hb0
    have hqr := Int.mul_tdiv_add_tmod a b
    obtain ⟨q, eq⟩ : ∃ q, a.tdiv b = q := ⟨_, rfl⟩
    obtain ⟨r, er⟩ : ∃ r, a.tmod b = r := ⟨_, rfl⟩
    rw [eq, er] at hqr
    rw [er] at ht
    rw [eq] at hq
    unfold In64 at hq ha hb
    have Hm := Lib.hid hm; have Hv := Lib.hid hv; have Hr := Lib.hid hr; have Hqr := Lib.hid hqr; have Ht := Lib.hid ht
    have ht1 := ht.1
    clear hm hv hr hqr hs ht
    by_cases hr0 : r < 0
    · by_cases hbp : 0 < b
      · have hu1 : -9223372036854775808 ≤ q - 1 ∧ 0 ≤ r + b ∧ r + b ≤ 9223372036854775807 := by
          have := Hqr.out
          refine ⟨?_, by omega, by omega⟩
          refine Int.not_lt.mp fun h4 => ?_
          obtain rfl : q = -9223372036854775808 := by omega
          omega
        go_enter Try.func24, Try.ntmps24
        go_wp2_with (first | (go_at_call 34; refine (may_any _ _ _).mono ?_; rintro e w' ⟨rfl, rfl⟩))
        go_quiet (fail)
        go_wp2
        go_ret3
        have hf := ediv_of a b (q - 1) (r + b) (by have := Hqr.out; rw [Int.mul_sub]; omega) (by omega)
        exact ⟨ret3 (by rw [Hv.out, hf.1]) (by rw [Hr.out, hf.2]) Hm.out.symm, _, rfl⟩
      · have hu1 : q + 1 ≤ 9223372036854775807 ∧ 0 ≤ r - b ∧ r - b ≤ 9223372036854775807 := by
          have := Hqr.out
          refine ⟨?_, by omega, by omega⟩
          refine Int.not_lt.mp fun h4 => ?_
          obtain rfl : q = 9223372036854775807 := by omega
          omega
        go_enter Try.func24, Try.ntmps24
        go_wp2_with (first | (go_at_call 34; refine (may_any _ _ _).mono ?_; rintro e w' ⟨rfl, rfl⟩))
        go_quiet (fail)
        go_wp2
        go_ret3
        have hf := ediv_of a b (q + 1) (r - b) (by have := Hqr.out; rw [Int.mul_add]; omega) (by omega)
        exact ⟨ret3 (by rw [Hv.out, hf.1]) (by rw [Hr.out, hf.2]) Hm.out.symm, _, rfl⟩
    · go_enter Try.func24, Try.ntmps24
      go_wp2_with (first | (go_at_call 34; refine (may_any _ _ _).mono ?_; rintro e w' ⟨rfl, rfl⟩))
      go_quiet (fail)
      go_wp2
      go_ret3
      have hf := ediv_of a b q r (by have := Hqr.out; omega) (by omega)
      exact ⟨ret3 (by rw [Hv.out, hf.1]) (by rw [Hr.out, hf.2]) Hm.out.symm, _, rfl⟩
  · have hm : mayE a b ≠ 0 := by simpa using h0
    have hv : eucV a b = 0 := if_neg hm
    have hr : eucR a b = 0 := if_neg hm
    have Hv := Lib.hid hv; have Hr := Lib.hid hr
    clear hm hv hr ha hb
    go_enter Try.func24, Try.ntmps24
    go_wp2_with (first | (go_at_call 34; refine (may_any _ _ _).mono ?_; rintro e w' ⟨rfl, rfl⟩))
    go_ret3
    exact ⟨ret3 Hv.out.symm Hr.out.symm rfl, 0, rfl⟩
end Go.Proofs.Ytnjdbkgdinlhfaa.Chk
