/-
  The document's calendar (analemmaref05): the contracts of Leap, Month, Year, Down, January, Days: they tell what the program's own tell. Conditions: numbers that aren't too far.
-/
import Derived.Test.YtdicedpklpadgaaGreatDoorY02
set_option linter.all false
namespace Go.Proofs.YtdicedpklpadgaaGreatDoor.R05
open Go.RowKit Mem Civ

theorem leap_any (y : Int) (w : World) : Calls Tryz.prog 135 #[.int .i64 y] w fun e w' => e = .returned (.bool (leapB y)) ∧ w = w' := by
  have h1 := tz y 4
  have h2 := tz y 100
  have h3 := tz y 400
  have h4 : (y % 400 == 0) = true → (y % 4 == 0) = true := by simp; omega
  unfold leapB
  generalize (y % 4 == 0) = c1 at *
  generalize (y % 100 == 0) = c2 at *
  generalize (y % 400 == 0) = c3 at *
  have H4 := Lib.hid h4
  clear h4
  go_enter Tryz.func135, Tryz.ntmps135
  cases c1 <;> cases c2 <;> cases c3
  all_goals
    go_wp2
    go_ret
    refine ⟨?_, rfl⟩
    first
      | rfl
      | exact absurd (H4.out (by trivial)) (by simp)
theorem month_any (y m : Int) (w : World) : Calls Tryz.prog 83 #[.int .i64 y, .int .i64 m] w fun e w' => e = .returned (.int .i64 (mlen y m)) ∧ w = w' := by
  by_cases h0 : m = 2
  · subst h0
    obtain ⟨q, hq⟩ : ∃ q, leapB y = q := ⟨_, rfl⟩
    have e : mlen y 2 = if q = true then 29 else 28 := by rw [← hq]; rfl
    have Hl := Lib.hid (leap_any y)
    rw [hq] at Hl
    rw [e]; clear e hq
    go_enter Tryz.func83, Tryz.ntmps83
    cases q
    all_goals
      go_wp2_with (go_at_call 135; refine (Hl.out _).mono ?_; rintro e w1 ⟨rfl, rfl⟩)
      go_ret
      exact ⟨rfl, rfl⟩
  · by_cases h1 : m < 1 ∨ 12 < m
    · have e : mlen y m = 0 := if_pos h1
      rw [e]; clear e
      have hn : (m == 1) = false ∧ (m == 2) = false ∧ (m == 3) = false ∧ (m == 4) = false ∧ (m == 5) = false ∧ (m == 6) = false ∧ (m == 7) = false ∧ (m == 8) = false ∧ (m == 9) = false ∧ (m == 10) = false ∧ (m == 11) = false ∧ (m == 12) = false := by
        simp only [beq_eq_false_iff_ne]
        omega
      obtain ⟨n1, n2, n3, n4, n5, n6, n7, n8, n9, n10, n11, n12⟩ := hn
      clear h0 h1
      go_enter Tryz.func83, Tryz.ntmps83
      go_wp2
      go_ret
      exact ⟨rfl, rfl⟩
    · have hm : m = 1 ∨ m = 3 ∨ m = 4 ∨ m = 5 ∨ m = 6 ∨ m = 7 ∨ m = 8 ∨ m = 9 ∨ m = 10 ∨ m = 11 ∨ m = 12 := by omega
      rcases hm with rfl | rfl | rfl | rfl | rfl | rfl | rfl | rfl | rfl | rfl | rfl
      all_goals
        go_enter Tryz.func83, Tryz.ntmps83
        go_wp2
        go_ret
        exact ⟨rfl, rfl⟩
def ylen (y : Int) : Int := if leapB y = true then 366 else 365
theorem year_any (y : Int) (w : World) : Calls Tryz.prog 137 #[.int .i64 y] w fun e w' => e = .returned (.int .i64 (ylen y)) ∧ w = w' := by
  unfold ylen
  have Hl := Lib.hid (leap_any y)
  generalize leapB y = q at *
  go_enter Tryz.func137, Tryz.ntmps137
  cases q
  all_goals
    go_wp2_with (go_at_call 135; refine (Hl.out _).mono ?_; rintro e w1 ⟨rfl, rfl⟩)
    go_ret
    exact ⟨rfl, rfl⟩
theorem down_fact (a b : Int) (hf : Fl a b) (ha : -1000000000000000 ≤ a ∧ a ≤ 1000000000000000) (hb : a.tdiv b * b + a.tmod b = a) : wrap64 (a.tdiv b * b) = a.tdiv b * b ∧ ((a.tdiv b * b ≤ a ∧ a.tdiv b = a / b) ∨ (a < a.tdiv b * b ∧ a.tdiv b - 1 = a / b)) := by
  obtain ⟨h1, h2, ⟨h3, h4⟩, h5, h6, h7⟩ := hf
  refine ⟨by unfold wrap64; omega, ?_⟩
  by_cases h : 0 ≤ a.tmod b
  · exact .inl ⟨by omega, (h1 h).1⟩
  · exact .inr ⟨by omega, (h2 (by omega)).1⟩
theorem down_any (a b : Int) (w : World) (hf : Fl a b) (ha : -1000000000000000 ≤ a ∧ a ≤ 1000000000000000) :
    Calls Tryz.prog 136 #[.int .i64 a, .int .i64 b] w fun e w' => e = .returned (.int .i64 (a / b)) ∧ w = w' := by
  have hb : a.tdiv b * b + a.tmod b = a := by rw [Int.mul_comm]; exact Int.mul_tdiv_add_tmod a b
  obtain ⟨e1, e2⟩ := down_fact a b hf ha hb
  obtain ⟨_, _, _, hq, hb0, _⟩ := hf
  have hbn : ¬ b = 0 := by omega
  have hw1 : wrap64 (a.tdiv b) = a.tdiv b := by unfold wrap64; omega
  obtain ⟨q, hq1⟩ : ∃ q, a.tdiv b = q := ⟨_, rfl⟩
  have hw2 : wrap64 (q - 1) = q - 1 := by unfold wrap64; omega
  obtain ⟨r, hr⟩ : ∃ r, a / b = r := ⟨_, rfl⟩
  rw [hq1] at e1 e2 hw1
  rw [hr] at e2 ⊢
  have HE := Lib.hid e2
  clear hb e2
  go_enter Tryz.func136, Tryz.ntmps136
  by_cases hc : a < q * b
  · have hcb : decide (a < q * b) = true := decide_eq_true hc
    obtain rfl : q - 1 = r := by have := HE.out; omega
    clear hc HE hr
    go_wp2
    go_ret
    exact ⟨rfl, rfl⟩
  · have hcb : decide (a < q * b) = false := decide_eq_false hc
    obtain rfl : q = r := by have := HE.out; omega
    clear hc HE
    go_wp2
    go_ret
    exact ⟨rfl, rfl⟩

/-! ### January -/
theorem leap_iff (y : Int) : leapB y = true ↔ (y % 4 = 0 ∧ (¬ y % 100 = 0 ∨ y % 400 = 0)) := by
  simp [leapB]
theorem jan_era (c : Int) : countI (400 * c) 1 1 = c * 146097 - 719528 := by
  unfold countI
  simp only [show (1 : Int) < 3 from by decide, if_true]
  omega
theorem jan_step (y : Int) : countI (y + 1) 1 1 = countI y 1 1 + ylen y := by
  unfold countI ylen
  simp only [show (1 : Int) < 3 from by decide, if_true]
  have h := leap_iff y
  by_cases hl : leapB y = true
  · rw [if_pos hl]
    have := h.1 hl
    omega
  · rw [if_neg hl]
    have h2 : ¬ (y % 4 = 0 ∧ (¬ y % 100 = 0 ∨ y % 400 = 0)) := fun e => hl (h.2 e)
    omega
theorem count_bd {y m d : Int} (hy : -300000 ≤ y ∧ y ≤ 300000) (hm : 1 ≤ m ∧ m ≤ 12) (hd : 0 ≤ d ∧ d ≤ 31) : -200000000 ≤ countI y m d ∧ countI y m d ≤ 200000000 := by
  unfold countI
  simp only
  split <;> omega
theorem month_step {y m : Int} (hm : 1 ≤ m ∧ m ≤ 11) : countI y (m + 1) 1 = countI y m 1 + mlen y m := by
  have h := leap_iff y
  have hc : m = 1 ∨ m = 2 ∨ m = 3 ∨ m = 4 ∨ m = 5 ∨ m = 6 ∨ m = 7 ∨ m = 8 ∨ m = 9 ∨ m = 10 ∨ m = 11 := by omega
  rcases hc with rfl | rfl | rfl | rfl | rfl | rfl | rfl | rfl | rfl | rfl | rfl
  case inr.inl =>
    by_cases hl : leapB y = true
    · have := h.1 hl
      simp [countI, mlen, hl]
      omega
    · have h2 : ¬ (y % 4 = 0 ∧ (¬ y % 100 = 0 ∨ y % 400 = 0)) := fun e => hl (h.2 e)
      simp [countI, mlen, hl]
      omega
  all_goals
    simp [countI, mlen]
    omega
theorem january_any (y : Int) (w : World) (hy : -290000 ≤ y ∧ y ≤ 290000) : Calls Tryz.prog 84 #[.int .i64 y] w fun e w' => e = .returned (.int .i64 (countI y 1 1)) ∧ w = w' := by
  have HD := Lib.hid (down_any y 400 w (fl_400 y (by omega)) (by omega))
  have hc : 400 * (y / 400) ≤ y ∧ y < 400 * (y / 400) + 400 := by omega
  have hw0 : ∀ z : Int, -1000000000 ≤ z ∧ z ≤ 1000000000 → wrap64 z = z := fun z hz => by unfold wrap64; omega
  generalize y / 400 = c at *
  have hw1 := hw0 (c * 146097) (by omega)
  have hw2 := hw0 (c * 146097 - 719528) (by omega)
  have hw3 := hw0 (400 * c) (by omega)
  have HC := Lib.hid hc
  have HY := Lib.hid hy
  clear hc hy hw0
  go_enter Tryz.func84, Tryz.ntmps84
  go_wp2_with (go_at_call 136; refine HD.out.mono ?_; rintro e w1 ⟨rfl, rfl⟩)
  go_loopw [4, 5] (fun n k wr => ∃ j : Nat, 400 * c + j ≤ y ∧ k = .int .i64 (400 * c + j) ∧ n = .int .i64 (countI (400 * c + j) 1 1) ∧ wr = w) (fun _ k _ => (y - intOf k).toNat)
  case atStart => exact ⟨0, by have := HC.out; omega, by rw [hw3]; simp, by rw [hw2, show (400 * c + ((0 : Nat) : Int)) = 400 * c by omega, jan_era], rfl⟩
  case round =>
    clear hw1 hw2 hw3
    obtain ⟨j, hj, rfl, rfl, rfl⟩ := hrel
    by_cases hlt : 400 * c + (j : Int) < y
    · have hb := count_bd (y := 400 * c + j) (m := 1) (d := 1) (by have := HC.out; have := HY.out; omega) (by omega) (by omega)
      have hst := jan_step (400 * c + j)
      have HB := Lib.hid hb
      have HS := Lib.hid hst
      have hyl : ylen (400 * c + j) = 365 ∨ ylen (400 * c + j) = 366 := by unfold ylen; split <;> simp
      have HYr := Lib.hid (year_any (400 * c + j) wr)
      clear hb hst
      generalize countI (400 * c + (j : Int)) 1 1 = n at *
      generalize ylen (400 * c + (j : Int)) = yl at *
      have hw4 : wrap64 (n + yl) = n + yl := by have := HB.out; unfold wrap64; omega
      have hw5 : wrap64 (400 * c + j + 1) = 400 * c + j + 1 := by have := HC.out; have := HY.out; unfold wrap64; omega
      go_wp2_with (go_at_call 137; refine HYr.out.mono ?_; rintro e w1 ⟨rfl, rfl⟩)
      have hend : ∃ j' : Nat, 400 * c + j' ≤ y ∧ Value.int .i64 (wrap64 (400 * c + j + 1)) = .int .i64 (400 * c + j') ∧ Value.int .i64 (wrap64 (n + yl)) = .int .i64 (countI (400 * c + j') 1 1) ∧ True :=
        ⟨j + 1, by omega, by rw [hw5, show (400 * c + ((j + 1 : Nat) : Int)) = 400 * c + j + 1 by omega], by rw [hw4, show (400 * c + ((j + 1 : Nat) : Int)) = 400 * c + j + 1 by omega, HS.out], trivial⟩
      exact ⟨hend, by simp [intOf]; omega⟩
    · obtain rfl : 400 * c + (j : Int) = y := by omega
      go_wp2
      go_ret
      exact ⟨rfl, rfl⟩

/-! ### Days -/
theorem days_no {y m d : Int} (h : y < -280000 ∨ 280000 < y ∨ m < 1 ∨ 12 < m ∨ d < 1 ∨ mlen y m < d) : daysO y m d = none := by
  unfold daysO
  have := @mlen_m y m d
  by_cases h2 : y < -271821 ∨ 275760 < y ∨ d < 1 ∨ mlen y m < d
  · rw [if_pos h2]
  · have := this (by omega) (by omega)
    omega
theorem days_yes {y m d : Int} (h : ¬ (y < -280000 ∨ 280000 < y ∨ m < 1 ∨ 12 < m ∨ d < 1 ∨ mlen y m < d)) : daysO y m d = if countI y m d < -100000001 ∨ 100000000 < countI y m d then none else some (countI y m d) := by
  unfold daysO
  have hl := mlen_bd y m
  by_cases h2 : y < -271821 ∨ 275760 < y ∨ d < 1 ∨ mlen y m < d
  · rw [if_pos h2, if_pos]
    unfold countI
    simp only
    split <;> omega
  · rw [if_neg h2]
theorem count_day (y m d : Int) : countI y m d = countI y m 1 + d - 1 := by
  unfold countI
  simp only
  split <;> omega
set_option maxHeartbeats 2000000 in
set_option maxRecDepth 100000 in
theorem days_any (y m d : Int) (w : World) :
    Calls Tryz.prog 34 #[.agg #[.int .i64 y, .int .i64 m, .int .i64 d]] w fun e w' => e = .returned (dayV (daysO y m d)) ∧ Below w.heap.size w w' := by
  have hone := One.new w 65 #[.int .i64 y, .int .i64 m, .int .i64 d]
  obtain ⟨W, hW⟩ : ∃ W, w.alloc (.cells #[.int .i64 y, .int .i64 m, .int .i64 d] 65) = W := ⟨_, rfl⟩
  rw [hW] at hone
  obtain ⟨Cls, hCls⟩ : ∃ C : World → Prop, C = One w w.heap.size 65 #[.int .i64 y, .int .i64 m, .int .i64 d] := ⟨_, rfl⟩
  have hC : ∀ z, Cls z → One w w.heap.size 65 #[.int .i64 y, .int .i64 m, .int .i64 d] z := fun z h => by rw [hCls] at h; exact h
  have hstart : Cls W.drew := by rw [hCls]; exact hone.drew
  have inst : Nonempty (Qt.In Cls) := ⟨⟨_, hstart⟩⟩
  have z0 : ∀ z : Qt.In Cls, z.w.cell? ⟨w.heap.size, 0, none⟩ = some (.int .i64 y) := fun z => (hC z.w z.h).1.cell 0
  have z1 : ∀ z : Qt.In Cls, z.w.cell? ⟨w.heap.size, 1, none⟩ = some (.int .i64 m) := fun z => (hC z.w z.h).1.cell 1
  have z2 : ∀ z : Qt.In Cls, z.w.cell? ⟨w.heap.size, 2, none⟩ = some (.int .i64 d) := fun z => (hC z.w z.h).1.cell 2
  have HM : Hid (∀ z, Cls z → Calls Tryz.prog 83 #[.int .i64 y, .int .i64 m] z fun e z' => e = .returned (.int .i64 (mlen y m)) ∧ Cls z') := fun z h => (month_any y m z).mono fun e z' ⟨he, hb⟩ => ⟨he, by subst hb; exact h⟩
  have HC := Lib.hid hC
  have HS := Lib.hid hstart
  clear hone hCls hC hstart
  have hn0 := @days_no y m d
  have hn1 := @days_yes y m d
  have hcd := count_day y m d
  have hb31 := mlen_bd y m
  obtain ⟨R, hR⟩ : ∃ R, daysO y m d = R := ⟨_, rfl⟩
  rw [hR]
  rw [hR] at hn0 hn1
  clear hR
  go_enter Tryz.func34, Tryz.ntmps34
  go_wp2
  cases h1 : decide (y < -280000); rotate_left
  · have hno : y < -280000 ∨ 280000 < y ∨ m < 1 ∨ 12 < m ∨ d < 1 ∨ mlen y m < d := by simp at h1; omega
    have hr := hn0 hno
    clear hno hn0 hn1
    subst hr
    refine Qt.wp_region_cls Cls (by kernel_rfl) (by kernel_rfl) HS.out ?_
    repeat (go_big_quiet_step (exact Qt.quiet_cls (HM.out _ (Qt.In.h _))))
    refine wpQuiet_nil ?_
    rintro wq ⟨⟨w9, hq⟩, e9⟩
    have HQ := Lib.hid (HC.out wq (by rw [e9]; exact hq))
    clear hq e9
    go_wp2
    go_ret2
    exact ⟨rfl, HQ.out.2⟩
  cases h2 : decide (280000 < y); rotate_left
  · have hno : y < -280000 ∨ 280000 < y ∨ m < 1 ∨ 12 < m ∨ d < 1 ∨ mlen y m < d := by simp at h2; omega
    have hr := hn0 hno
    clear hno hn0 hn1
    subst hr
    refine Qt.wp_region_cls Cls (by kernel_rfl) (by kernel_rfl) HS.out ?_
    repeat (go_big_quiet_step (exact Qt.quiet_cls (HM.out _ (Qt.In.h _))))
    refine wpQuiet_nil ?_
    rintro wq ⟨⟨w9, hq⟩, e9⟩
    have HQ := Lib.hid (HC.out wq (by rw [e9]; exact hq))
    clear hq e9
    go_wp2
    go_ret2
    exact ⟨rfl, HQ.out.2⟩
  cases h3 : decide (m < 1); rotate_left
  · have hno : y < -280000 ∨ 280000 < y ∨ m < 1 ∨ 12 < m ∨ d < 1 ∨ mlen y m < d := by simp at h3; omega
    have hr := hn0 hno
    clear hno hn0 hn1
    subst hr
    refine Qt.wp_region_cls Cls (by kernel_rfl) (by kernel_rfl) HS.out ?_
    repeat (go_big_quiet_step (exact Qt.quiet_cls (HM.out _ (Qt.In.h _))))
    refine wpQuiet_nil ?_
    rintro wq ⟨⟨w9, hq⟩, e9⟩
    have HQ := Lib.hid (HC.out wq (by rw [e9]; exact hq))
    clear hq e9
    go_wp2
    go_ret2
    exact ⟨rfl, HQ.out.2⟩
  cases h4 : decide (12 < m); rotate_left
  · have hno : y < -280000 ∨ 280000 < y ∨ m < 1 ∨ 12 < m ∨ d < 1 ∨ mlen y m < d := by simp at h4; omega
    have hr := hn0 hno
    clear hno hn0 hn1
    subst hr
    refine Qt.wp_region_cls Cls (by kernel_rfl) (by kernel_rfl) HS.out ?_
    repeat (go_big_quiet_step (exact Qt.quiet_cls (HM.out _ (Qt.In.h _))))
    refine wpQuiet_nil ?_
    rintro wq ⟨⟨w9, hq⟩, e9⟩
    have HQ := Lib.hid (HC.out wq (by rw [e9]; exact hq))
    clear hq e9
    go_wp2
    go_ret2
    exact ⟨rfl, HQ.out.2⟩
  cases h5 : decide (d < 1); rotate_left
  · have hno : y < -280000 ∨ 280000 < y ∨ m < 1 ∨ 12 < m ∨ d < 1 ∨ mlen y m < d := by simp at h5; omega
    have hr := hn0 hno
    clear hno hn0 hn1
    subst hr
    refine Qt.wp_region_cls Cls (by kernel_rfl) (by kernel_rfl) HS.out ?_
    repeat (go_big_quiet_step (exact Qt.quiet_cls (HM.out _ (Qt.In.h _))))
    refine wpQuiet_nil ?_
    rintro wq ⟨⟨w9, hq⟩, e9⟩
    have HQ := Lib.hid (HC.out wq (by rw [e9]; exact hq))
    clear hq e9
    go_wp2
    go_ret2
    exact ⟨rfl, HQ.out.2⟩
  cases h6 : decide (mlen y m < d); rotate_left
  · have hno : y < -280000 ∨ 280000 < y ∨ m < 1 ∨ 12 < m ∨ d < 1 ∨ mlen y m < d := by simp at h6; omega
    have hr := hn0 hno
    clear hno hn0 hn1
    subst hr
    refine Qt.wp_region_cls Cls (by kernel_rfl) (by kernel_rfl) HS.out ?_
    repeat (go_big_quiet_step (exact Qt.quiet_cls (HM.out _ (Qt.In.h _))))
    refine wpQuiet_nil ?_
    rintro wq ⟨⟨w9, hq⟩, e9⟩
    have HQ := Lib.hid (HC.out wq (by rw [e9]; exact hq))
    clear hq e9
    go_wp2
    go_ret2
    exact ⟨rfl, HQ.out.2⟩
  have hno : ¬ (y < -280000 ∨ 280000 < y ∨ m < 1 ∨ 12 < m ∨ d < 1 ∨ mlen y m < d) := by simp at h1 h2 h3 h4 h5 h6; omega
  have HR := Lib.hid (hn1 hno)
  have HJ := Lib.hid (fun z => january_any y z (by omega))
  have HV := Lib.hid hno
  clear hn0 hn1 hno
  refine Qt.wp_region_cls Cls (by kernel_rfl) (by kernel_rfl) HS.out ?_
  repeat (go_big_quiet_step (exact Qt.quiet_cls (HM.out _ (Qt.In.h _))))
  refine wpQuiet_nil ?_
  rintro wq ⟨⟨w9, hq⟩, e9⟩
  have hq2 := HC.out wq (by rw [e9]; exact hq)
  clear hq e9
  have cq := fun i => hq2.1.cell i
  have HQ := Lib.hid hq2
  clear hq2 h1 h2 h3 h4 h5 h6
  go_wp2_with (go_at_call 84; refine (HJ.out _).mono ?_; rintro e w1 ⟨rfl, rfl⟩)
  go_loopw [4, 5] (fun n k wr => ∃ j : Int, 1 ≤ j ∧ j ≤ m ∧ k = .int .i64 j ∧ n = .int .i64 (countI y j 1) ∧ wr = wq) (fun _ k _ => (m - intOf k).toNat)
  case atStart => exact ⟨1, by omega, by have := HV.out; omega, rfl, rfl, rfl⟩
  case round =>
    obtain ⟨j, hj1, hj2, rfl, rfl, rfl⟩ := hrel
    by_cases hlt : j < m
    · have hb := count_bd (y := y) (m := j) (d := 1) (by have := HV.out; omega) (by have := HV.out; omega) (by omega)
      have hst := month_step (y := y) (m := j) (by have := HV.out; omega)
      have hl := mlen_bd y j
      have HB := Lib.hid hb
      have HS := Lib.hid hst
      have HMj := Lib.hid (month_any y j wr)
      have hv := HV.out
      clear hb hst hcd
      generalize countI y j 1 = n at *
      generalize mlen y j = l at *
      have hw4 : wrap64 (n + l) = n + l := by have := HB.out; unfold wrap64; omega
      have hw5 : wrap64 (j + 1) = j + 1 := by unfold wrap64; omega
      clear hv
      go_wp2_with (go_at_call 83; refine HMj.out.mono ?_; rintro e w1 ⟨rfl, rfl⟩)
      exact ⟨⟨j + 1, by omega, by omega, by rw [hw5], by rw [hw4, HS.out], trivial⟩, by simp [intOf]; omega⟩
    · obtain rfl : j = m := by omega
      have hb := count_bd (y := y) (m := j) (d := 1) (by have := HV.out; omega) (by have := HV.out; omega) (by omega)
      have hv := HV.out
      have hr := HR.out
      rw [hcd] at hr
      have HR := Lib.hid hr
      clear hr
      generalize countI y j 1 = n at *
      have hw4 : wrap64 (n + d) = n + d := by unfold wrap64; omega
      have hw5 : wrap64 (n + d - 1) = n + d - 1 := by unfold wrap64; omega
      clear hb hv hcd hj1 hj2 hb31
      cases h1 : decide (n + d - 1 < -100000001)
      · cases h2 : decide (100000000 < n + d - 1)
        · have hr := HR.out
          rw [if_neg (by simp at h1 h2; omega)] at hr
          subst hr
          clear HR
          go_wp2
          go_ret2
          exact ⟨rfl, HQ.out.2⟩
        · have hr := HR.out
          rw [if_pos (by simp at h2; omega)] at hr
          subst hr
          clear HR
          go_wp2
          go_ret2
          exact ⟨rfl, HQ.out.2⟩
      · have hr := HR.out
        rw [if_pos (by simp at h1; omega)] at hr
        subst hr
        clear HR
        go_wp2
        go_ret2
        exact ⟨rfl, HQ.out.2⟩
end Go.Proofs.YtdicedpklpadgaaGreatDoor.R05
