/-
  Package civil: plain words and contracts of floor, Leap, MonthLen, count, Days. Conditions: bounded numbers where it is said.
  Package civil: plain words and contracts of count and Days. Conditions: bounded numbers where it is said.
-/
import Derived.Test.YtdicedpklpadgaaGreatDoorY00
import Derived.Test.YtdicedpklpadgaaGreatDoorProg
import Derived.Test.YtdicedpklpadgaaGreatDoorY01
import Derived.WalkLawsBesides
import Derived.Handy
import Derived.Lib.Hide
set_option linter.all false
namespace Go.Proofs.YtdicedpklpadgaaGreatDoor.Civ
open Go.RowKit Mem

/-- What is known of a quotient by b, and its rest. -/
def Fl (a b : Int) : Prop := (0 ≤ a.tmod b → a.tdiv b = a / b ∧ a.tmod b = a % b) ∧ (a.tmod b < 0 → a.tdiv b - 1 = a / b ∧ a.tmod b + b = a % b) ∧ (-b < a.tmod b ∧ a.tmod b < b) ∧ (-1000000000000000 ≤ a.tdiv b ∧ a.tdiv b ≤ 1000000000000000) ∧ 0 < b ∧ b ≤ 1000000000000
theorem tneg (a b : Int) : a.tdiv b = -((-a).tdiv b) ∧ a.tmod b = -((-a).tmod b) := by
  rw [Int.neg_tdiv, Int.neg_tmod]; omega
theorem fl_400 (a : Int) (ha : -1000000000000000 ≤ a ∧ a ≤ 1000000000000000) : Fl a 400 := by
  unfold Fl
  rcases Int.le_total 0 a with h | h
  · rw [Int.tdiv_eq_ediv_of_nonneg h, Int.tmod_eq_emod_of_nonneg h]; omega
  · rw [(tneg a 400).1, (tneg a 400).2, Int.tdiv_eq_ediv_of_nonneg (by omega), Int.tmod_eq_emod_of_nonneg (by omega)]; omega
theorem fl_era (a : Int) (ha : -1000000000000000 ≤ a ∧ a ≤ 1000000000000000) : Fl a 146097 := by
  unfold Fl
  rcases Int.le_total 0 a with h | h
  · rw [Int.tdiv_eq_ediv_of_nonneg h, Int.tmod_eq_emod_of_nonneg h]; omega
  · rw [(tneg a 146097).1, (tneg a 146097).2, Int.tdiv_eq_ediv_of_nonneg (by omega), Int.tmod_eq_emod_of_nonneg (by omega)]; omega
theorem fl_7 (a : Int) (ha : -1000000000000000 ≤ a ∧ a ≤ 1000000000000000) : Fl a 7 := by
  unfold Fl
  rcases Int.le_total 0 a with h | h
  · rw [Int.tdiv_eq_ediv_of_nonneg h, Int.tmod_eq_emod_of_nonneg h]; omega
  · rw [(tneg a 7).1, (tneg a 7).2, Int.tdiv_eq_ediv_of_nonneg (by omega), Int.tmod_eq_emod_of_nonneg (by omega)]; omega

set_option maxRecDepth 100000 in
theorem floor_any (a b : Int) (w : World) (hf : Fl a b) :
    Calls Tryz.prog 112 #[.int .i64 a, .int .i64 b] w fun e w' => e = .returned (.tuple #[.int .i64 (a / b), .int .i64 (a % b)]) ∧ ∃ n, w' = w.drewN n := by
  obtain ⟨h1, h2, ⟨h6, h7⟩, ⟨h8, h9⟩, hb, hb2⟩ := hf
  have hne : ¬ b = 0 := by omega
  rcases Int.lt_or_le (a.tmod b) 0 with h3 | h3
  · obtain ⟨e1, e2⟩ := h2 h3
    have E1 := Lib.hid e1
    have E2 := Lib.hid e2
    clear h1 h2 e1 e2
    go_enter Tryz.func112, Tryz.ntmps112
    go_wp2
    go_quiet (fail)
    go_wp2
    go_ret2
    exact ⟨by rw [← E1.out, ← E2.out]; rfl, nq, rfl⟩
  · obtain ⟨e1, e2⟩ := h1 h3
    have E1 := Lib.hid e1
    have E2 := Lib.hid e2
    clear h1 h2 e1 e2
    go_enter Tryz.func112, Tryz.ntmps112
    go_wp2
    go_quiet (fail)
    go_wp2
    go_ret2
    exact ⟨by rw [← E1.out, ← E2.out]; rfl, nq, rfl⟩
def leapB (y : Int) : Bool := y % 4 == 0 && (!(y % 100 == 0) || y % 400 == 0)
theorem tz (y k : Int) : (y.tmod k == 0) = (y % k == 0) := by
  rw [Bool.eq_iff_iff, beq_iff_eq, beq_iff_eq, ← Int.dvd_iff_tmod_eq_zero, ← Int.dvd_iff_emod_eq_zero]
set_option maxRecDepth 100000 in
theorem leap_any (y : Int) (w : World) : Calls Tryz.prog 111 #[.int .i64 y] w fun e w' => e = .returned (.bool (leapB y)) ∧ w = w' := by
  have h1 := tz y 4
  have h2 := tz y 100
  have h3 := tz y 400
  have h4 : (y.tmod 100 != 0) = !(y % 100 == 0) := by rw [← h2]; rfl
  unfold leapB
  generalize (y % 4 == 0) = c1 at *
  generalize (y % 100 == 0) = c2 at *
  generalize (y % 400 == 0) = c3 at *
  go_enter Tryz.func111, Tryz.ntmps111
  cases c1 <;> cases c2 <;> cases c3
  all_goals
    go_wp2
    go_ret
    exact ⟨rfl, rfl⟩
/-- How long a month is. -/
def mlen (y m : Int) : Int := if m < 1 ∨ 12 < m then 0 else if m = 2 then (if leapB y = true then 29 else 28) else if m = 4 ∨ m = 6 ∨ m = 9 ∨ m = 11 then 30 else 31
theorem mlen_bd (y m : Int) : 0 ≤ mlen y m ∧ mlen y m ≤ 31 := by
  unfold mlen
  split
  · omega
  · split
    · split <;> omega
    · split <;> omega
set_option maxHeartbeats 2000000 in
set_option maxRecDepth 100000 in
theorem monthLen_any (y m : Int) (w : World) : Calls Tryz.prog 61 #[.int .i64 y, .int .i64 m] w fun e w' => e = .returned (.int .i64 (mlen y m)) ∧ Below w.heap.size w w' := by
  have hb : Below w.heap.size w (w.alloc (.cells #[.int .i64 0, .int .i64 31, .int .i64 28, .int .i64 31, .int .i64 30, .int .i64 31, .int .i64 30, .int .i64 31, .int .i64 31, .int .i64 30, .int .i64 31, .int .i64 30, .int .i64 31] 147)) := (Below.refl _ _).alloc (Nat.le_refl _) _
  by_cases h1 : m < 1
  · have e : mlen y m = 0 := if_pos (.inl h1)
    rw [e]; clear e
    go_enter Tryz.func61, Tryz.ntmps61
    go_wp2
    go_ret
    exact ⟨rfl, hb⟩
  · by_cases h2 : 12 < m
    · have e : mlen y m = 0 := if_pos (.inr h2)
      rw [e]; clear e
      go_enter Tryz.func61, Tryz.ntmps61
      go_wp2
      go_ret
      exact ⟨rfl, hb⟩
    · by_cases h3 : m = 2
      · subst h3
        obtain ⟨q, hq⟩ : ∃ q, leapB y = q := ⟨_, rfl⟩
        have e : mlen y 2 = if q = true then 29 else 28 := by rw [← hq]; rfl
        have Hl := Lib.hid (leap_any y)
        rw [hq] at Hl
        rw [e]; clear e hq
        go_enter Tryz.func61, Tryz.ntmps61
        cases q
        all_goals
          go_wp2_with (go_at_call 111; refine (Hl.out _).mono ?_; rintro e w1 ⟨rfl, rfl⟩)
          go_ret
          exact ⟨rfl, hb⟩
      · have hm : m = 1 ∨ m = 3 ∨ m = 4 ∨ m = 5 ∨ m = 6 ∨ m = 7 ∨ m = 8 ∨ m = 9 ∨ m = 10 ∨ m = 11 ∨ m = 12 := by omega
        have hm2 : (m == 2) = false := by simpa using h3
        rcases hm with rfl | rfl | rfl | rfl | rfl | rfl | rfl | rfl | rfl | rfl | rfl
        all_goals
          go_enter Tryz.func61, Tryz.ntmps61
          go_wp2
          go_ret
          exact ⟨rfl, hb⟩
end Go.Proofs.YtdicedpklpadgaaGreatDoor.Civ
namespace Go.Proofs.YtdicedpklpadgaaGreatDoor.Civ
open Go.RowKit Mem

/-- One block of ours beside what was. -/
def One (w : World) (b : Nat) (t : TypeId) (cs : Array Value) (w1 : World) : Prop := Blk w1 b t cs ∧ Below w.heap.size w w1
theorem One.step {w w1 w2 : World} {b : Nat} {t : TypeId} {cs : Array Value} (h : One w b t cs w1) (hb : Below w1.heap.size w1 w2) : One w b t cs w2 := ⟨h.1.below hb h.1.lt, h.2.trans (hb.mono h.2.size)⟩
theorem One.drew {w w1 : World} {b : Nat} {t : TypeId} {cs : Array Value} (h : One w b t cs w1) : One w b t cs w1.drew := ⟨h.1.drew, h.2.drew⟩
theorem One.new (w : World) (t : TypeId) (cs : Array Value) : One w w.heap.size t cs (w.alloc (.cells cs t)) := ⟨Blk.new w t cs, (Below.refl _ _).alloc (Nat.le_refl _) _⟩
theorem below_dr {B : Nat} {a w : World} {n : Nat} (h : Below B a w) : Below B a (w.drewN n) := ⟨h.os, h.tape, h.output, h.size, h.block⟩
theorem below_same {w w' : World} (h : w = w') : Below w.heap.size w w' := by subst h; exact Below.refl _ _
theorem below_drs {w w' : World} (h : ∃ n, w' = w.drewN n) : Below w.heap.size w w' := by obtain ⟨n, rfl⟩ := h; exact below_dr (Below.refl _ _)

/-- A date's number, where its year isn't too far. -/
def countI (y m d : Int) : Int :=
  let a := if m < 3 then y - 1 else y
  let k := if m < 3 then m + 9 else m - 3
  a / 400 * 146097 + a % 400 * 365 + a % 400 / 4 - a % 400 / 100 + (153 * k + 2) / 5 + d - 1 - 719468
set_option maxHeartbeats 1000000 in
set_option maxRecDepth 100000 in
theorem count_any (y m d : Int) (w : World) (hy : -300000 ≤ y ∧ y ≤ 300000) (hm : 1 ≤ m ∧ m ≤ 12) (hd : -1000 ≤ d ∧ d ≤ 1000) :
    Calls Tryz.prog 62 #[.agg #[.int .i64 y, .int .i64 m, .int .i64 d]] w fun e w' => e = .returned (.int .i64 (countI y m d)) ∧ Below w.heap.size w w' := by
  have hone := One.new w 65 #[.int .i64 y, .int .i64 m, .int .i64 d]
  obtain ⟨W, hW⟩ : ∃ W, w.alloc (.cells #[.int .i64 y, .int .i64 m, .int .i64 d] 65) = W := ⟨_, rfl⟩
  rw [hW] at hone
  have HO := Lib.hid hone
  have cc := fun i => hone.1.cell i
  obtain ⟨hy1, hy2⟩ := hy
  obtain ⟨hm1, hm2⟩ := hm
  obtain ⟨hd1, hd2⟩ := hd
  clear hone
  unfold countI
  by_cases h : m < 3
  · simp only [if_pos h]
    have r1 : 0 ≤ (y - 1) % 400 := by omega
    have r2 : (y - 1) % 400 < 400 := by omega
    have r3 : -1000 ≤ (y - 1) / 400 := by omega
    have r4 : (y - 1) / 400 ≤ 1000 := by omega
    have Hf := Lib.hid (fun w1 => floor_any (y - 1) 400 w1 (fl_400 _ (by omega)))
    generalize (y - 1) % 400 = r at *
    generalize (y - 1) / 400 = c at *
    go_enter Tryz.func62, Tryz.ntmps62
    go_wp2
    go_quiet (fail)
    go_wp2_with (go_at_call 112; refine (Hf.out _).mono ?_; rintro e w1 ⟨rfl, n, rfl⟩)
    go_ret
    refine ⟨?_, below_dr HO.out.2⟩
    rw [show m + 9 = m - 3 + 12 from by omega]
    rfl
  · simp only [if_neg h]
    have h' : ¬ m - 3 < 0 := by omega
    have r1 : 0 ≤ y % 400 := by omega
    have r2 : y % 400 < 400 := by omega
    have r3 : -1000 ≤ y / 400 := by omega
    have r4 : y / 400 ≤ 1000 := by omega
    have Hf := Lib.hid (fun w1 => floor_any y 400 w1 (fl_400 _ (by omega)))
    generalize y % 400 = r at *
    generalize y / 400 = c at *
    go_enter Tryz.func62, Tryz.ntmps62
    go_wp2
    go_quiet (fail)
    go_wp2_with (go_at_call 112; refine (Hf.out _).mono ?_; rintro e w1 ⟨rfl, n, rfl⟩)
    go_ret
    exact ⟨rfl, below_dr HO.out.2⟩
/-- A date's number, if there is such a date. -/
def daysO (y m d : Int) : Option Int :=
  if y < -271821 ∨ 275760 < y ∨ d < 1 ∨ mlen y m < d then none
  else if countI y m d < -100000001 ∨ 100000000 < countI y m d then none else some (countI y m d)
theorem mlen_m {y m d : Int} (h1 : 1 ≤ d) (h2 : d ≤ mlen y m) : 1 ≤ m ∧ m ≤ 12 := by
  unfold mlen at h2
  split at h2 <;> omega
def dayV (r : Option Int) : Value := match r with
  | some n => .tuple #[.int .i64 n, .bool true]
  | none => .tuple #[.int .i64 0, .bool false]
set_option maxHeartbeats 2000000 in
set_option maxRecDepth 100000 in
theorem days_any (y m d : Int) (w : World) :
    Calls Tryz.prog 25 #[.agg #[.int .i64 y, .int .i64 m, .int .i64 d]] w fun e w' => e = .returned (dayV (daysO y m d)) ∧ Below w.heap.size w w' := by
  have hone := One.new w 65 #[.int .i64 y, .int .i64 m, .int .i64 d]
  obtain ⟨W, hW⟩ : ∃ W, w.alloc (.cells #[.int .i64 y, .int .i64 m, .int .i64 d] 65) = W := ⟨_, rfl⟩
  rw [hW] at hone
  obtain ⟨Cls, hCls⟩ : ∃ C : World → Prop, C = One w w.heap.size 65 #[.int .i64 y, .int .i64 m, .int .i64 d] := ⟨_, rfl⟩
  have hC : ∀ z, Cls z → One w w.heap.size 65 #[.int .i64 y, .int .i64 m, .int .i64 d] z := fun z h => by rw [hCls] at h; exact h
  have hstart : Cls W.drew := by rw [hCls]; exact hone.drew
  have hnext : ∀ z z' : World, Cls z → Below z.heap.size z z' → Cls z' := fun z z' h hb => by rw [hCls] at h ⊢; exact h.step hb
  have inst : Nonempty (Qt.In Cls) := ⟨⟨_, hstart⟩⟩
  have z0 : ∀ z : Qt.In Cls, z.w.cell? ⟨w.heap.size, 0, none⟩ = some (.int .i64 y) := fun z => (hC z.w z.h).1.cell 0
  have z1 : ∀ z : Qt.In Cls, z.w.cell? ⟨w.heap.size, 1, none⟩ = some (.int .i64 m) := fun z => (hC z.w z.h).1.cell 1
  have z2 : ∀ z : Qt.In Cls, z.w.cell? ⟨w.heap.size, 2, none⟩ = some (.int .i64 d) := fun z => (hC z.w z.h).1.cell 2
  have HM : Hid (∀ z, Cls z → Calls Tryz.prog 61 #[.int .i64 y, .int .i64 m] z fun e z' => e = .returned (.int .i64 (mlen y m)) ∧ Cls z') := fun z h => (monthLen_any y m z).mono fun e z' ⟨he, hb⟩ => ⟨he, hnext z z' h hb⟩
  have HC := Lib.hid hC
  have HS := Lib.hid hstart
  have HN := Lib.hid hnext
  clear hone hCls hC hstart hnext
  obtain ⟨R, hR⟩ : ∃ R, daysO y m d = R := ⟨_, rfl⟩
  rw [hR]
  have hb31 := mlen_bd y m
  unfold daysO at hR
  go_enter Tryz.func25, Tryz.ntmps25
  go_wp2
  cases h1 : decide (y < -271821)
  · cases h2 : decide (275760 < y)
    · cases h3 : decide (d < 1)
      · cases h4 : decide (mlen y m < d)
        · have hno : ¬ (y < -271821 ∨ 275760 < y ∨ d < 1 ∨ mlen y m < d) := by simp at h1 h2 h3 h4; omega
          rw [if_neg hno] at hR
          have hmm := mlen_m (y := y) (m := m) (d := d) (by omega) (by omega)
          have HCo := Lib.hid (fun z => count_any y m d z (by omega) hmm (by omega))
          have HR := Lib.hid hR
          clear hR hno hmm
          refine Qt.wp_region_cls Cls (by kernel_rfl) (by kernel_rfl) HS.out ?_
          repeat (go_big_quiet_step (exact Qt.quiet_cls (HM.out _ (Qt.In.h _))))
          refine wpQuiet_nil ?_
          rintro wq ⟨⟨w9, hq⟩, e9⟩
          have hq2 := HC.out wq (by rw [e9]; exact hq)
          clear hq e9
          have cq := fun i => hq2.1.cell i
          have HQ := Lib.hid hq2
          clear hq2
          generalize countI y m d = n at *
          cases h5 : decide (n < -100000001)
          · cases h6 : decide (100000000 < n)
            · have hn : ¬ (n < -100000001 ∨ 100000000 < n) := by simp at h5 h6; omega
              have hR := HR.out
              rw [if_neg hn] at hR
              subst hR
              clear HR hn
              go_wp2_with (go_at_call 62; refine (HCo.out _).mono ?_; rintro e w1 ⟨rfl, hb⟩; have HB := Lib.hid (HQ.out.step hb); clear hb)
              go_ret2
              exact ⟨rfl, HB.out.2⟩
            · have hn : n < -100000001 ∨ 100000000 < n := by simp at h6; omega
              have hR := HR.out
              rw [if_pos hn] at hR
              subst hR
              clear HR hn
              go_wp2_with (go_at_call 62; refine (HCo.out _).mono ?_; rintro e w1 ⟨rfl, hb⟩; have HB := Lib.hid (HQ.out.step hb); clear hb)
              go_ret2
              exact ⟨rfl, HB.out.2⟩
          · have hn : n < -100000001 ∨ 100000000 < n := by simp at h5; omega
            have hR := HR.out
            rw [if_pos hn] at hR
            subst hR
            clear HR hn
            go_wp2_with (go_at_call 62; refine (HCo.out _).mono ?_; rintro e w1 ⟨rfl, hb⟩; have HB := Lib.hid (HQ.out.step hb); clear hb)
            go_ret2
            exact ⟨rfl, HB.out.2⟩
        · have hno : y < -271821 ∨ 275760 < y ∨ d < 1 ∨ mlen y m < d := by simp at h4; omega
          rw [if_pos hno] at hR
          subst hR
          clear hno
          refine Qt.wp_region_cls Cls (by kernel_rfl) (by kernel_rfl) HS.out ?_
          repeat (go_big_quiet_step (exact Qt.quiet_cls (HM.out _ (Qt.In.h _))))
          refine wpQuiet_nil ?_
          rintro wq ⟨⟨w9, hq⟩, e9⟩
          have HQ := Lib.hid (HC.out wq (by rw [e9]; exact hq))
          clear hq e9
          go_wp2
          go_ret2
          exact ⟨rfl, HQ.out.2⟩
      · have hno : y < -271821 ∨ 275760 < y ∨ d < 1 ∨ mlen y m < d := by simp at h3; omega
        rw [if_pos hno] at hR
        subst hR
        clear hno
        refine Qt.wp_region_cls Cls (by kernel_rfl) (by kernel_rfl) HS.out ?_
        repeat (go_big_quiet_step (exact Qt.quiet_cls (HM.out _ (Qt.In.h _))))
        refine wpQuiet_nil ?_
        rintro wq ⟨⟨w9, hq⟩, e9⟩
        have HQ := Lib.hid (HC.out wq (by rw [e9]; exact hq))
        clear hq e9
        go_wp2
        go_ret2
        exact ⟨rfl, HQ.out.2⟩
    · have hno : y < -271821 ∨ 275760 < y ∨ d < 1 ∨ mlen y m < d := by simp at h2; omega
      rw [if_pos hno] at hR
      subst hR
      clear hno
      refine Qt.wp_region_cls Cls (by kernel_rfl) (by kernel_rfl) HS.out ?_
      repeat (go_big_quiet_step (exact Qt.quiet_cls (HM.out _ (Qt.In.h _))))
      refine wpQuiet_nil ?_
      rintro wq ⟨⟨w9, hq⟩, e9⟩
      have HQ := Lib.hid (HC.out wq (by rw [e9]; exact hq))
      clear hq e9
      go_wp2
      go_ret2
      exact ⟨rfl, HQ.out.2⟩
  · have hno : y < -271821 ∨ 275760 < y ∨ d < 1 ∨ mlen y m < d := by simp at h1; omega
    rw [if_pos hno] at hR
    subst hR
    clear hno
    refine Qt.wp_region_cls Cls (by kernel_rfl) (by kernel_rfl) HS.out ?_
    repeat (go_big_quiet_step (exact Qt.quiet_cls (HM.out _ (Qt.In.h _))))
    refine wpQuiet_nil ?_
    rintro wq ⟨⟨w9, hq⟩, e9⟩
    have HQ := Lib.hid (HC.out wq (by rw [e9]; exact hq))
    clear hq e9
    go_wp2
    go_ret2
    exact ⟨rfl, HQ.out.2⟩
end Go.Proofs.YtdicedpklpadgaaGreatDoor.Civ
