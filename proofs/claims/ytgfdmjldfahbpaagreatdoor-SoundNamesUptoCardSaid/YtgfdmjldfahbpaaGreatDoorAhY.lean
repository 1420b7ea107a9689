/-
  Packages civil, rules: plain words and contracts of Of and year. Conditions: the number is a day's; the second is an int64.
-/
import Derived.Test.YtgfdmjldfahbpaaGreatDoorMom
import Derived.Test.YtgfdmjldfahbpaaGreatDoorPln
namespace Go.Proofs.YtgfdmjldfahbpaaGreatDoor.Ahd
open Go.RowKit Mem Civ Mom

def dayOf (n : Int) : Int := (n + 719468) % 146097
def yOf (n : Int) : Int := (dayOf n - dayOf n / 1460 + dayOf n / 36524 - dayOf n / 146096) / 365
def restOf (n : Int) : Int := dayOf n - (365 * yOf n + yOf n / 4 - yOf n / 100)
def mOf (n : Int) : Int := (5 * restOf n + 2) / 153
theorem rest_bd (n : Int) : 0 ≤ restOf n ∧ restOf n ≤ 365 := by
  have e5 : restOf n = dayOf n - (365 * yOf n + yOf n / 4 - yOf n / 100) := rfl
  have e6 : yOf n = (dayOf n - dayOf n / 1460 + dayOf n / 36524 - dayOf n / 146096) / 365 := rfl
  have e7 : dayOf n = (n + 719468) % 146097 := rfl
  have r1 : 0 ≤ dayOf n := by omega
  have r2 : dayOf n < 146097 := by omega
  generalize restOf n = r at *
  generalize yOf n = y at *
  generalize dayOf n = d at *
  clear e7
  rcases (by omega : d / 36524 = 0 ∨ d / 36524 = 1 ∨ d / 36524 = 2 ∨ d / 36524 = 3 ∨ d / 36524 = 4) with h | h | h | h | h <;>
    rcases (by omega : y / 100 = 0 ∨ y / 100 = 1 ∨ y / 100 = 2 ∨ y / 100 = 3) with k | k | k | k <;>
    rcases (by omega : d / 146096 = 0 ∨ d / 146096 = 1) with g | g <;>
    rcases (by omega : d / 1460 = y / 4 ∨ d / 1460 = y / 4 + 1 ∨ d / 1460 = y / 4 + 2 ∨ d / 1460 = y / 4 - 1) with q | q | q | q <;>
    omega
/-- The date of a day's number. -/
def yearD (n : Int) : Int := if 12 < mOf n + 3 then yOf n + 400 * ((n + 719468) / 146097) + 1 else yOf n + 400 * ((n + 719468) / 146097)
def monthD (n : Int) : Int := if 12 < mOf n + 3 then mOf n + 3 - 12 else mOf n + 3
def dayD (n : Int) : Int := restOf n - (153 * mOf n + 2) / 5 + 1
theorem of_results {w : World} {R0 : Nat} {b : Bool} {a0 a1 a2 : Value} (h : Blk w R0 133 #[a0, a1, a2]) (tmps : Array Value) (ht : tmps[2]? = some (.pointer (some ⟨R0, 0, none⟩))) (h3 : tmps[3]? = some (.bool b)) : (results Tryz.f162 tmps).run Tryz.prog w = .ok (.tuple #[.agg #[a0, a1, a2], .bool b]) w := by
  have hc := fun i => h.cell i
  simp [results, Tryz.results162, go_sem, hc, ht, h3]
set_option maxHeartbeats 2000000 in
set_option maxRecDepth 100000 in
theorem of_any (n : Int) (w : World) (h1 : -100000001 ≤ n) (h2 : n ≤ 100000000) :
    Calls Tryz.prog 162 #[.int .i64 n] w fun e w' => e = .returned (.tuple #[.agg #[.int .i64 (yearD n), .int .i64 (monthD n), .int .i64 (dayD n)], .bool true]) ∧ Below w.heap.size w w' := by
  have hone := One.new w 133 #[.int .i64 0, .int .i64 0, .int .i64 0]
  obtain ⟨W, hW⟩ : ∃ W, w.alloc (.cells #[.int .i64 0, .int .i64 0, .int .i64 0] 133) = W := ⟨_, rfl⟩
  rw [hW] at hone
  have HO := Lib.hid hone
  have cc := fun i => hone.1.cell i
  have ff := fun i => hone.1.frozen i
  have Hf := Lib.hid (fun w1 => floor_any (n + 719468) 146097 w1 (fl_era _ (by omega)))
  have e1 : yearD n = if 12 < mOf n + 3 then yOf n + 400 * ((n + 719468) / 146097) + 1 else yOf n + 400 * ((n + 719468) / 146097) := rfl
  have e2 : monthD n = if 12 < mOf n + 3 then mOf n + 3 - 12 else mOf n + 3 := rfl
  have e3 : dayD n = restOf n - (153 * mOf n + 2) / 5 + 1 := rfl
  have e4 : mOf n = (5 * restOf n + 2) / 153 := rfl
  have e5 : restOf n = dayOf n - (365 * yOf n + yOf n / 4 - yOf n / 100) := rfl
  have e6 : yOf n = (dayOf n - dayOf n / 1460 + dayOf n / 36524 - dayOf n / 146096) / 365 := rfl
  have e7 : dayOf n = (n + 719468) % 146097 := rfl
  rw [← e7] at Hf
  have r1 : 0 ≤ dayOf n := by omega
  have r2 : dayOf n < 146097 := by omega
  have r3 : -1000 ≤ (n + 719468) / 146097 := by omega
  have r4 : (n + 719468) / 146097 ≤ 1000 := by omega
  have r5 : 0 ≤ yOf n := by omega
  have r6 : yOf n ≤ 399 := by omega
  have r7 := (rest_bd n).1
  have r8 := (rest_bd n).2
  have r9 : 0 ≤ mOf n := by omega
  have r10 : mOf n ≤ 11 := by omega
  have E4 := Lib.hid e4; have E5 := Lib.hid e5; have E6 := Lib.hid e6
  generalize yearD n = Y at *
  generalize monthD n = M at *
  generalize dayD n = D at *
  generalize mOf n = mm at *
  generalize restOf n = rr at *
  generalize yOf n = yy at *
  generalize dayOf n = dd at *
  generalize (n + 719468) / 146097 = cq at *
  have E1 := Lib.hid e1; have E2 := Lib.hid e2; have E3 := Lib.hid e3
  clear e1 e2 e3 e4 e5 e6 e7 hone
  go_enter Tryz.func162, Tryz.ntmps162
  go_upto_region 5 with (go_at_call 163; refine (Hf.out _).mono ?_; rintro e w1 ⟨rfl, hd⟩; have hb := HO.out.step (below_drs hd); have c2 := fun i => hb.1.cell i; have f2 := fun i => hb.1.frozen i; have HB := Lib.hid hb; clear hd hb cc ff)
  rw [← E6.out]
  clear E6
  go_upto_region 6 with fail
  rw [← E5.out]
  clear E5
  go_upto_region 7 with fail
  rw [← E4.out]
  clear E4
  by_cases h12 : 12 < mm + 3
  · have h12b : decide (12 < mm + 3) = true := decide_eq_true h12
    have hY := E1.out; have hM := E2.out; have hD := E3.out
    rw [if_pos h12] at hY hM
    subst hY hM hD
    have c3 := fun o i => (HB.out.1.alloc o).cell i
    have f3 := fun o i => (HB.out.1.alloc o).frozen i
    have HB3 := Lib.hid (fun o => And.intro (HB.out.1.alloc o) (HB.out.2.alloc HB.out.2.size o))
    clear h12 E1 E2 E3
    go_wp2_with fail
    refine bodyPost_ret (of_results (((((HB3.out _).1.set_ 0 _).set_ 1 _).set_ 2 _)) _ rfl rfl) rfl ?_
    exact ⟨rfl, ((((HB3.out _).2.setCell (by simp) _).setCell (by simp) _).setCell (by simp) _)⟩
  · have h12b : decide (12 < mm + 3) = false := decide_eq_false h12
    have hY := E1.out; have hM := E2.out; have hD := E3.out
    rw [if_neg h12] at hY hM
    subst hY hM hD
    have c3 := fun o i => (HB.out.1.alloc o).cell i
    have f3 := fun o i => (HB.out.1.alloc o).frozen i
    have HB3 := Lib.hid (fun o => And.intro (HB.out.1.alloc o) (HB.out.2.alloc HB.out.2.size o))
    clear h12 E1 E2 E3
    go_wp2_with fail
    refine bodyPost_ret (of_results (((((HB3.out _).1.set_ 0 _).set_ 1 _).set_ 2 _)) _ rfl rfl) rfl ?_
    exact ⟨rfl, ((((HB3.out _).2.setCell (by simp) _).setCell (by simp) _).setCell (by simp) _)⟩
/-- The year in which a second lies, as the program has it. -/
def yearI (t : Int) : Int := if t / 86400 < -100000001 then 0 else if 100000000 < t / 86400 then yearD 100000000 else yearD (t / 86400)
theorem fl_day (a : Int) (ha : -9223372036854775808 ≤ a ∧ a ≤ 9223372036854775807) : Fl a 86400 := by
  unfold Fl
  rcases Int.le_total 0 a with h | h
  · rw [Int.tdiv_eq_ediv_of_nonneg h, Int.tmod_eq_emod_of_nonneg h]; omega
  · rw [(tneg a 86400).1, (tneg a 86400).2, Int.tdiv_eq_ediv_of_nonneg (by omega), Int.tmod_eq_emod_of_nonneg (by omega)]; omega
set_option maxHeartbeats 2000000 in
set_option maxRecDepth 100000 in
theorem year_any (t : Int) (w : World) (h1 : -9223372036854775808 ≤ t) (h2 : t ≤ 9223372036854775807) :
    Calls Tryz.prog 154 #[.int .i64 t] w fun e w' => e = .returned (.int .i64 (yearI t)) ∧ Below w.heap.size w w' := by
  have HOf := Lib.hid (fun n z h1 h2 => of_any n z h1 h2)
  obtain ⟨g1, g2, ⟨g3, g4⟩, ⟨g5, g6⟩, _, _⟩ := fl_day t ⟨h1, h2⟩
  obtain ⟨Q, hQ⟩ : ∃ Q, yearI t = Q := ⟨_, rfl⟩
  rw [hQ]
  unfold yearI at hQ
  have key : ∀ d, d = t / 86400 → (d < -100000001 ∧ Q = 0) ∨ (¬ d < -100000001 ∧ 100000000 < d ∧ Q = yearD 100000000) ∨ (¬ d < -100000001 ∧ ¬ 100000000 < d ∧ Q = yearD d) := by
    rintro d rfl
    by_cases e1 : t / 86400 < -100000001
    · rw [if_pos e1] at hQ; exact .inl ⟨e1, hQ.symm⟩
    · rw [if_neg e1] at hQ
      by_cases e2 : 100000000 < t / 86400
      · rw [if_pos e2] at hQ; exact .inr (.inl ⟨e1, e2, hQ.symm⟩)
      · rw [if_neg e2] at hQ; exact .inr (.inr ⟨e1, e2, hQ.symm⟩)
  clear hQ
  rcases Int.lt_or_le (t.tmod 86400) 0 with h3 | h3
  · obtain ⟨e1, e2⟩ := g2 h3
    have h3b : decide (t.tmod 86400 < 0) = true := decide_eq_true h3
    have hk := key _ e1
    clear key e1 e2 g1 g2 h3
    rcases hk with ⟨k1, rfl⟩ | ⟨k1, k2, rfl⟩ | ⟨k1, k2, rfl⟩
    · have k1b : decide (t.tdiv 86400 - 1 < -100000001) = true := decide_eq_true k1
      go_enter Tryz.func154, Tryz.ntmps154
      go_wp2_with fail
      go_ret
      exact ⟨rfl, Below.refl _ _⟩
    · have k1b : decide (t.tdiv 86400 - 1 < -100000001) = false := decide_eq_false k1
      have k2b : decide (100000000 < t.tdiv 86400 - 1) = true := decide_eq_true k2
      go_enter Tryz.func154, Tryz.ntmps154
      go_wp2_with (go_at_call 162; refine (HOf.out _ _ (by omega) (by omega)).mono ?_; rintro e w1 ⟨rfl, hb⟩; have HB := Lib.hid hb; clear hb)
      go_ret
      exact ⟨rfl, HB.out.alloc HB.out.size _⟩
    · have k1b : decide (t.tdiv 86400 - 1 < -100000001) = false := decide_eq_false k1
      have k2b : decide (100000000 < t.tdiv 86400 - 1) = false := decide_eq_false k2
      go_enter Tryz.func154, Tryz.ntmps154
      go_wp2_with (go_at_call 162; refine (HOf.out _ _ (by omega) (by omega)).mono ?_; rintro e w1 ⟨rfl, hb⟩; have HB := Lib.hid hb; clear hb)
      go_ret
      exact ⟨rfl, HB.out.alloc HB.out.size _⟩
  · obtain ⟨e1, e2⟩ := g1 h3
    have h3b : decide (t.tmod 86400 < 0) = false := decide_eq_false (by omega)
    have hk := key _ e1
    clear key e1 e2 g1 g2 h3
    rcases hk with ⟨k1, rfl⟩ | ⟨k1, k2, rfl⟩ | ⟨k1, k2, rfl⟩
    · have k1b : decide (t.tdiv 86400 < -100000001) = true := decide_eq_true k1
      go_enter Tryz.func154, Tryz.ntmps154
      go_wp2_with fail
      go_ret
      exact ⟨rfl, Below.refl _ _⟩
    · have k1b : decide (t.tdiv 86400 < -100000001) = false := decide_eq_false k1
      have k2b : decide (100000000 < t.tdiv 86400) = true := decide_eq_true k2
      go_enter Tryz.func154, Tryz.ntmps154
      go_wp2_with (go_at_call 162; refine (HOf.out _ _ (by omega) (by omega)).mono ?_; rintro e w1 ⟨rfl, hb⟩; have HB := Lib.hid hb; clear hb)
      go_ret
      exact ⟨rfl, HB.out.alloc HB.out.size _⟩
    · have k1b : decide (t.tdiv 86400 < -100000001) = false := decide_eq_false k1
      have k2b : decide (100000000 < t.tdiv 86400) = false := decide_eq_false k2
      go_enter Tryz.func154, Tryz.ntmps154
      go_wp2_with (go_at_call 162; refine (HOf.out _ _ (by omega) (by omega)).mono ?_; rintro e w1 ⟨rfl, hb⟩; have HB := Lib.hid hb; clear hb)
      go_ret
      exact ⟨rfl, HB.out.alloc HB.out.size _⟩
end Go.Proofs.YtgfdmjldfahbpaaGreatDoor.Ahd
