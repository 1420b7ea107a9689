/-
  Packages civil, rules: plain words and contracts of Of and year. Conditions: the number is a day's; the second is an int64.
  Package rules: the contracts of back and of its closure: a rule's turns of four years at most, the latest first. Conditions: bounded years.
  Package rules: the contract of latest. Conditions: bounded years; what the set's slice holds is read; the test answers.
  Package rules: the contract of Ahead. Conditions: what the set's slice holds is read; the time is an int64.
-/
import Derived.Test.YtdicedpklpadgaaGreatDoorY03
import Derived.Test.YtdicedpklpadgaaGreatDoorY04
import Derived.RangeFuncNested
import Derived.RangeFuncBound
import Derived.RangeFuncCalls
import Derived.RangeFuncLeaves
import Derived.Shelf.Abstract
import Derived.Shelf.RegionOpen
import Derived.WalkKit
import Derived.OwnWalkIn
import Derived.TacticsInMore
import Derived.LoopNIn
import Derived.LoopIn
import Derived.Test.YtdicedpklpadgaaGreatDoorY06
set_option linter.all false
namespace Go.Proofs.YtdicedpklpadgaaGreatDoor.Ahd
open Go.RowKit Mem Civ Mom

def dayOf (n : Int) : Int := (n + 719468) % 146097
def yOf (n : Int) : Int := (dayOf n - dayOf n / 1460 + dayOf n / 36524 - dayOf n / 146096) / 365
def restOf (n : Int) : Int := dayOf n - (365 * yOf n + yOf n / 4 - yOf n / 100)
def mOf (n : Int) : Int := (5 * restOf n + 2) / 153
theorem rest_bd (n : Int) : 0 ≤ restOf n ∧ restOf n ≤ 365 := by
  have e5 : restOf n = dayOf n - (365 * yOf n + yOf n / 4 - yOf n / 100) := rfl
  have e6 : yOf n = (dayOf n - dayOf n / 1460 + dayOf n / 36524 - dayOf n / 146096) / 365 := rfl
  have e7 : dayOf n = (n + 719468) % 146097 := rfl
  have r1 : 0 ≤ dayOf n := by omega
  have r2 : dayOf n < 146097 := by omega
  generalize restOf n = r at *
  generalize yOf n = y at *
  generalize dayOf n = d at *
  clear e7
  rcases (by omega : d / 36524 = 0 ∨ d / 36524 = 1 ∨ d / 36524 = 2 ∨ d / 36524 = 3 ∨ d / 36524 = 4) with h | h | h | h | h <;>
    rcases (by omega : y / 100 = 0 ∨ y / 100 = 1 ∨ y / 100 = 2 ∨ y / 100 = 3) with k | k | k | k <;>
    rcases (by omega : d / 146096 = 0 ∨ d / 146096 = 1) with g | g <;>
    rcases (by omega : d / 1460 = y / 4 ∨ d / 1460 = y / 4 + 1 ∨ d / 1460 = y / 4 + 2 ∨ d / 1460 = y / 4 - 1) with q | q | q | q <;>
    omega
/-- The date of a day's number. -/
def yearD (n : Int) : Int := if 12 < mOf n + 3 then yOf n + 400 * ((n + 719468) / 146097) + 1 else yOf n + 400 * ((n + 719468) / 146097)
def monthD (n : Int) : Int := if 12 < mOf n + 3 then mOf n + 3 - 12 else mOf n + 3
def dayD (n : Int) : Int := restOf n - (153 * mOf n + 2) / 5 + 1
theorem of_results {w : World} {R0 : Nat} {b : Bool} {a0 a1 a2 : Value} (h : Blk w R0 65 #[a0, a1, a2]) (tmps : Array Value) (ht : tmps[2]? = some (.pointer (some ⟨R0, 0, none⟩))) (h3 : tmps[3]? = some (.bool b)) : (results Tryz.f143 tmps).run Tryz.prog w = .ok (.tuple #[.agg #[a0, a1, a2], .bool b]) w := by
  have hc := fun i => h.cell i
  simp [results, Tryz.results143, go_sem, hc, ht, h3]
set_option maxHeartbeats 2000000 in
set_option maxRecDepth 100000 in
theorem of_any (n : Int) (w : World) (h1 : -100000001 ≤ n) (h2 : n ≤ 100000000) :
    Calls Tryz.prog 143 #[.int .i64 n] w fun e w' => e = .returned (.tuple #[.agg #[.int .i64 (yearD n), .int .i64 (monthD n), .int .i64 (dayD n)], .bool true]) ∧ Below w.heap.size w w' := by
  have hone := One.new w 65 #[.int .i64 0, .int .i64 0, .int .i64 0]
  obtain ⟨W, hW⟩ : ∃ W, w.alloc (.cells #[.int .i64 0, .int .i64 0, .int .i64 0] 65) = W := ⟨_, rfl⟩
  rw [hW] at hone
  have HO := Lib.hid hone
  have cc := fun i => hone.1.cell i
  have ff := fun i => hone.1.frozen i
  have Hf := Lib.hid (fun w1 => floor_any (n + 719468) 146097 w1 (fl_era _ (by omega)))
  have e1 : yearD n = if 12 < mOf n + 3 then yOf n + 400 * ((n + 719468) / 146097) + 1 else yOf n + 400 * ((n + 719468) / 146097) := rfl
  have e2 : monthD n = if 12 < mOf n + 3 then mOf n + 3 - 12 else mOf n + 3 := rfl
  have e3 : dayD n = restOf n - (153 * mOf n + 2) / 5 + 1 := rfl
  have e4 : mOf n = (5 * restOf n + 2) / 153 := rfl
  have e5 : restOf n = dayOf n - (365 * yOf n + yOf n / 4 - yOf n / 100) := rfl
  have e6 : yOf n = (dayOf n - dayOf n / 1460 + dayOf n / 36524 - dayOf n / 146096) / 365 := rfl
  have e7 : dayOf n = (n + 719468) % 146097 := rfl
  rw [← e7] at Hf
  have r1 : 0 ≤ dayOf n := by omega
  have r2 : dayOf n < 146097 := by omega
  have r3 : -1000 ≤ (n + 719468) / 146097 := by omega
  have r4 : (n + 719468) / 146097 ≤ 1000 := by omega
  have r5 : 0 ≤ yOf n := by omega
  have r6 : yOf n ≤ 399 := by omega
  have r7 := (rest_bd n).1
  have r8 := (rest_bd n).2
  have r9 : 0 ≤ mOf n := by omega
  have r10 : mOf n ≤ 11 := by omega
  have E4 := Lib.hid e4; have E5 := Lib.hid e5; have E6 := Lib.hid e6
  generalize yearD n = Y at *
  generalize monthD n = M at *
  generalize dayD n = D at *
  generalize mOf n = mm at *
  generalize restOf n = rr at *
  generalize yOf n = yy at *
  generalize dayOf n = dd at *
  generalize (n + 719468) / 146097 = cq at *
  have E1 := Lib.hid e1; have E2 := Lib.hid e2; have E3 := Lib.hid e3
  clear e1 e2 e3 e4 e5 e6 e7 hone
  go_enter Tryz.func143, Tryz.ntmps143
  go_upto_region 5 with (go_at_call 112; refine (Hf.out _).mono ?_; rintro e w1 ⟨rfl, hd⟩; have hb := HO.out.step (below_drs hd); have c2 := fun i => hb.1.cell i; have f2 := fun i => hb.1.frozen i; have HB := Lib.hid hb; clear hd hb cc ff)
  rw [← E6.out]
  clear E6
  go_upto_region 6 with fail
  rw [← E5.out]
  clear E5
  go_upto_region 7 with fail
  rw [← E4.out]
  clear E4
  by_cases h12 : 12 < mm + 3
  · have h12b : decide (12 < mm + 3) = true := decide_eq_true h12
    have hY := E1.out; have hM := E2.out; have hD := E3.out
    rw [if_pos h12] at hY hM
    subst hY hM hD
    have c3 := fun o i => (HB.out.1.alloc o).cell i
    have f3 := fun o i => (HB.out.1.alloc o).frozen i
    have HB3 := Lib.hid (fun o => And.intro (HB.out.1.alloc o) (HB.out.2.alloc HB.out.2.size o))
    clear h12 E1 E2 E3
    go_wp2_with fail
    refine bodyPost_ret (of_results (((((HB3.out _).1.set_ 0 _).set_ 1 _).set_ 2 _)) _ rfl rfl) rfl ?_
    exact ⟨rfl, ((((HB3.out _).2.setCell (by simp) _).setCell (by simp) _).setCell (by simp) _)⟩
  · have h12b : decide (12 < mm + 3) = false := decide_eq_false h12
    have hY := E1.out; have hM := E2.out; have hD := E3.out
    rw [if_neg h12] at hY hM
    subst hY hM hD
    have c3 := fun o i => (HB.out.1.alloc o).cell i
    have f3 := fun o i => (HB.out.1.alloc o).frozen i
    have HB3 := Lib.hid (fun o => And.intro (HB.out.1.alloc o) (HB.out.2.alloc HB.out.2.size o))
    clear h12 E1 E2 E3
    go_wp2_with fail
    refine bodyPost_ret (of_results (((((HB3.out _).1.set_ 0 _).set_ 1 _).set_ 2 _)) _ rfl rfl) rfl ?_
    exact ⟨rfl, ((((HB3.out _).2.setCell (by simp) _).setCell (by simp) _).setCell (by simp) _)⟩
/-- The year in which a second lies, as the program has it. -/
def yearI (t : Int) : Int := if t / 86400 < -100000001 then 0 else if 100000000 < t / 86400 then yearD 100000000 else yearD (t / 86400)
theorem fl_day (a : Int) (ha : -9223372036854775808 ≤ a ∧ a ≤ 9223372036854775807) : Fl a 86400 := by
  unfold Fl
  rcases Int.le_total 0 a with h | h
  · rw [Int.tdiv_eq_ediv_of_nonneg h, Int.tmod_eq_emod_of_nonneg h]; omega
  · rw [(tneg a 86400).1, (tneg a 86400).2, Int.tdiv_eq_ediv_of_nonneg (by omega), Int.tmod_eq_emod_of_nonneg (by omega)]; omega
set_option maxHeartbeats 2000000 in
set_option maxRecDepth 100000 in
theorem year_any (t : Int) (w : World) (h1 : -9223372036854775808 ≤ t) (h2 : t ≤ 9223372036854775807) :
    Calls Tryz.prog 90 #[.int .i64 t] w fun e w' => e = .returned (.int .i64 (yearI t)) ∧ Below w.heap.size w w' := by
  have HOf := Lib.hid (fun n z h1 h2 => of_any n z h1 h2)
  obtain ⟨g1, g2, ⟨g3, g4⟩, ⟨g5, g6⟩, _, _⟩ := fl_day t ⟨h1, h2⟩
  obtain ⟨Q, hQ⟩ : ∃ Q, yearI t = Q := ⟨_, rfl⟩
  rw [hQ]
  unfold yearI at hQ
  have key : ∀ d, d = t / 86400 → (d < -100000001 ∧ Q = 0) ∨ (¬ d < -100000001 ∧ 100000000 < d ∧ Q = yearD 100000000) ∨ (¬ d < -100000001 ∧ ¬ 100000000 < d ∧ Q = yearD d) := by
    rintro d rfl
    by_cases e1 : t / 86400 < -100000001
    · rw [if_pos e1] at hQ; exact .inl ⟨e1, hQ.symm⟩
    · rw [if_neg e1] at hQ
      by_cases e2 : 100000000 < t / 86400
      · rw [if_pos e2] at hQ; exact .inr (.inl ⟨e1, e2, hQ.symm⟩)
      · rw [if_neg e2] at hQ; exact .inr (.inr ⟨e1, e2, hQ.symm⟩)
  clear hQ
  rcases Int.lt_or_le (t.tmod 86400) 0 with h3 | h3
  · obtain ⟨e1, e2⟩ := g2 h3
    have h3b : decide (t.tmod 86400 < 0) = true := decide_eq_true h3
    have hk := key _ e1
    clear key e1 e2 g1 g2 h3
    rcases hk with ⟨k1, rfl⟩ | ⟨k1, k2, rfl⟩ | ⟨k1, k2, rfl⟩
    · have k1b : decide (t.tdiv 86400 - 1 < -100000001) = true := decide_eq_true k1
      go_enter Tryz.func90, Tryz.ntmps90
      go_wp2_with fail
      go_ret
      exact ⟨rfl, Below.refl _ _⟩
    · have k1b : decide (t.tdiv 86400 - 1 < -100000001) = false := decide_eq_false k1
      have k2b : decide (100000000 < t.tdiv 86400 - 1) = true := decide_eq_true k2
      go_enter Tryz.func90, Tryz.ntmps90
      go_wp2_with (go_at_call 143; refine (HOf.out _ _ (by omega) (by omega)).mono ?_; rintro e w1 ⟨rfl, hb⟩; have HB := Lib.hid hb; clear hb)
      go_ret
      exact ⟨rfl, HB.out.alloc HB.out.size _⟩
    · have k1b : decide (t.tdiv 86400 - 1 < -100000001) = false := decide_eq_false k1
      have k2b : decide (100000000 < t.tdiv 86400 - 1) = false := decide_eq_false k2
      go_enter Tryz.func90, Tryz.ntmps90
      go_wp2_with (go_at_call 143; refine (HOf.out _ _ (by omega) (by omega)).mono ?_; rintro e w1 ⟨rfl, hb⟩; have HB := Lib.hid hb; clear hb)
      go_ret
      exact ⟨rfl, HB.out.alloc HB.out.size _⟩
  · obtain ⟨e1, e2⟩ := g1 h3
    have h3b : decide (t.tmod 86400 < 0) = false := decide_eq_false (by omega)
    have hk := key _ e1
    clear key e1 e2 g1 g2 h3
    rcases hk with ⟨k1, rfl⟩ | ⟨k1, k2, rfl⟩ | ⟨k1, k2, rfl⟩
    · have k1b : decide (t.tdiv 86400 < -100000001) = true := decide_eq_true k1
      go_enter Tryz.func90, Tryz.ntmps90
      go_wp2_with fail
      go_ret
      exact ⟨rfl, Below.refl _ _⟩
    · have k1b : decide (t.tdiv 86400 < -100000001) = false := decide_eq_false k1
      have k2b : decide (100000000 < t.tdiv 86400) = true := decide_eq_true k2
      go_enter Tryz.func90, Tryz.ntmps90
      go_wp2_with (go_at_call 143; refine (HOf.out _ _ (by omega) (by omega)).mono ?_; rintro e w1 ⟨rfl, hb⟩; have HB := Lib.hid hb; clear hb)
      go_ret
      exact ⟨rfl, HB.out.alloc HB.out.size _⟩
    · have k1b : decide (t.tdiv 86400 < -100000001) = false := decide_eq_false k1
      have k2b : decide (100000000 < t.tdiv 86400) = false := decide_eq_false k2
      go_enter Tryz.func90, Tryz.ntmps90
      go_wp2_with (go_at_call 143; refine (HOf.out _ _ (by omega) (by omega)).mono ?_; rintro e w1 ⟨rfl, hb⟩; have HB := Lib.hid hb; clear hb)
      go_ret
      exact ⟨rfl, HB.out.alloc HB.out.size _⟩
end Go.Proofs.YtdicedpklpadgaaGreatDoor.Ahd
namespace Go.Proofs.YtdicedpklpadgaaGreatDoor.Ahd
open Go.RowKit Mem Civ Mom Img Rul
attribute [local go_sem] Oper.semAt_some

def lastY (r : Rule) (y : Int) : Int := min r.hi (y + 1)
/-- A rule's turns from a year's next one on back: of four years. -/
def partL (r : Rule) (y : Int) (k : Nat) : List Turn := (List.range k).filterMap fun i => turnL (lastY r y - (i : Nat)) r
def backL (r : Rule) (y : Int) : List Turn := partL r y 4
theorem partL_succ (r : Rule) (y : Int) (k : Nat) : partL r y (k + 1) = partL r y k ++ (turnL (lastY r y - (k : Nat)) r).toList := by
  unfold partL
  rw [List.range_succ, List.filterMap_append]
  cases h : turnL (lastY r y - (k : Nat)) r <;> simp [h]
theorem partL_pre (r : Rule) (y : Int) {j k : Nat} (h : j ≤ k) : partL r y j <+: partL r y k := by
  obtain ⟨d, rfl⟩ : ∃ d, k = j + d := ⟨k - j, by omega⟩
  clear h
  induction d with
  | zero => exact List.prefix_refl _
  | succ d ih =>
    rw [← Nat.add_assoc, partL_succ]
    exact ih.trans (List.prefix_append _ _)
theorem partL_len (r : Rule) (y : Int) (k : Nat) : (partL r y k).length ≤ k := by
  have := List.length_filterMap_le (fun i : Nat => turnL (lastY r y - (i : Nat)) r) (List.range k)
  simpa [partL] using this
theorem turnL_low {r : Rule} {y : Int} (h : y < r.lo) : turnL y r = none := by
  unfold turnL turnO
  have : decide (r.lo ≤ y ∧ y ≤ r.hi) = false := decide_eq_false (by omega)
  simp only [this, Bool.and_false]
  rfl
theorem partL_stop {r : Rule} {y : Int} {j : Nat} (h : lastY r y - (j : Nat) < r.lo) : ∀ d, partL r y (j + d) = partL r y j
  | 0 => rfl
  | d + 1 => by
    rw [← Nat.add_assoc, partL_succ, partL_stop h d, turnL_low (by omega)]
    simp
theorem partL_end {r : Rule} {y : Int} {j : Nat} (h : lastY r y - (j : Nat) < r.lo) (hj : j ≤ 4) : partL r y j = backL r y := by
  have := partL_stop h (4 - j)
  rw [show j + (4 - j) = 4 from by omega] at this
  exact this.symm
theorem _root_.Go.AbidesFrom.from {β : Type} {B B' : Nat} {J : β → World → Prop} (h : AbidesFrom B J) (hb : B ≤ B') : AbidesFrom B' J := fun s A C row hs hg hr => h s A C row hs hg fun r e => ⟨Nat.le_trans hb (hr r e).1, (hr r e).2⟩
/-- What a round keeps: the rule's box and the year's. -/
structure Keep (Br By : Nat) (W W' : World) : Prop where
  size : W.heap.size ≤ W'.heap.size
  r : W'.heap[Br]? = W.heap[Br]?
  y : W'.heap[By]? = W.heap[By]?
theorem Keep.refl (Br By : Nat) (W : World) : Keep Br By W W := ⟨Nat.le_refl _, rfl, rfl⟩
theorem Keep.trans {Br By : Nat} {A B C : World} (h : Keep Br By A B) (k : Keep Br By B C) : Keep Br By A C := ⟨Nat.le_trans h.size k.size, k.r.trans h.r, k.y.trans h.y⟩
theorem Keep.of {Br By : Nat} {A B : World} (h : Below A.heap.size A B) (h1 : Br < A.heap.size) (h2 : By < A.heap.size) : Keep Br By A B := ⟨h.size, h.block _ h1, h.block _ h2⟩
def encT (t : Turn) : Array Value := #[.agg #[.int .i64 t.at_, .int .i64 t.ref, .int .i64 t.save, .string t.letter]]
/-- What one round of the closure's loop is handed. -/
theorem part_none {r : Rule} {y : Int} {k : Nat} (h : (turnO r (lastY r y - (k : Nat))).2 = false) : partL r y (k + 1) = partL r y k := by
  rw [partL_succ, turnL, h]
  simp
theorem part_some {r : Rule} {y : Int} {k : Nat} (h : (turnO r (lastY r y - (k : Nat))).2 = true) : partL r y (k + 1) = partL r y k ++ [(turnO r (lastY r y - (k : Nat))).1] := by
  rw [partL_succ, turnL, h]
  simp
set_option maxRecDepth 100000 in
set_option maxHeartbeats 2000000 in
theorem back1_in (r : Rule) (y : Int) (n l Br By : Nat) (hlo : 1 ≤ r.lo) (hlo2 : r.lo ≤ 9999) (hhi : 1 ≤ r.hi) (hhi2 : r.hi ≤ 1000000) (hy1 : -1000000 ≤ y) (hy2 : y ≤ 1000000) (J Jx : List Turn → World → Prop) (W : World)
    (hJ : AbidesFrom W.heap.size J)
    (hY : ∀ pre x W1, J pre W1 → pre.length < 4 → YieldAt Fence.wide (n - 1) Tryz.prog l (encT x) W1 fun e W' =>
      (e = .returned (.bool true) ∧ J (pre ++ [x]) W' ∧ Keep Br By W1 W') ∨ (e = .returned (.bool false) ∧ Jx (pre ++ [x]) W'))
    (hr : Blk W Br 59 r.cells.toArray) (hy : Blk W By 3 #[.int .i64 y]) (h0 : J [] W) :
    CallsIn Fence.wide n Tryz.prog 183 #[.func (.yield l) #[] #[], .pointer (some ⟨Br, 0, none⟩), .pointer (some ⟨By, 0, none⟩)] W fun e W' => (∃ v, e = .returned v) ∧
      ((∃ ys, ys = backL r y ∧ J ys W') ∨ (∃ pre, pre <+: backL r y ∧ Jx pre W')) := by
  have hT := fun i z => turn_any r (lastY r y - (i : Nat)) z
  have hL : lastY r y = min r.hi (y + 1) := rfl
  have hStop := fun (k : Nat) h hk => partL_end (r := r) (y := y) (j := k) h hk
  have hNone := fun (k : Nat) => part_none (r := r) (y := y) (k := k)
  have hSome := fun (k : Nat) => part_some (r := r) (y := y) (k := k)
  have hlen := partL_len r y
  have hpre := fun (k : Nat) (hk : k ≤ 4) => partL_pre r y hk
  have hb4 : partL r y 4 = backL r y := rfl
  have h00 : partL r y 0 = [] := rfl
  obtain ⟨T, hTT⟩ : ∃ T : Nat → Turn, T = fun k => (turnO r (lastY r y - (k : Nat))).1 := ⟨_, rfl⟩
  obtain ⟨q, hqq⟩ : ∃ q : Nat → Bool, q = fun k => (turnO r (lastY r y - (k : Nat))).2 := ⟨_, rfl⟩
  have hT2 : ∀ (i : Nat) z, Calls Tryz.prog 117 #[.agg r.cells.toArray, .int .i64 (lastY r y - (i : Nat))] z fun e w' => e = .returned (.tuple #[.agg #[.int .i64 (T i).at_, .int .i64 (T i).ref, .int .i64 (T i).save, .string (T i).letter], .bool (q i)]) ∧ Below z.heap.size z w' := by
    intro i z
    rw [hTT, hqq]
    exact hT i z
  have hNone2 : ∀ k, q k = false → partL r y (k + 1) = partL r y k := fun k h => hNone k (by rw [hqq] at h; exact h)
  have hSome2 : ∀ k, q k = true → partL r y (k + 1) = partL r y k ++ [T k] := fun k h => by rw [hTT]; exact hSome k (by rw [hqq] at h; exact h)
  obtain ⟨PL, hPL⟩ : ∃ PL, PL = partL r y := ⟨_, rfl⟩
  rw [← hPL] at hStop hlen hpre hb4 h00 hNone2 hSome2
  rw [← hb4] at hStop ⊢
  obtain ⟨r0, r1, r2, r3, r4, r5, r6, r7, r8, r9, r10⟩ := r
  simp only [Rule.cells] at hr hT2 hlo hlo2 hhi hhi2 hL hStop
  obtain ⟨L, hLL⟩ : ∃ L, L = lastY ⟨r0, r1, r2, r3, r4, r5, r6, r7, r8, r9, r10⟩ y := ⟨_, rfl⟩
  rw [← hLL] at hL hT2 hStop
  have hLb : -1000000 ≤ L ∧ L ≤ 1000000 := by omega
  obtain ⟨hLb1, hLb2⟩ := hLb
  have HT := Lib.hid hT2; have HStop := Lib.hid hStop; have HNone := Lib.hid hNone2; have HSome := Lib.hid hSome2; have HLen := Lib.hid hlen; have HPre := Lib.hid hpre; have HJ := Lib.hid hJ; have HY := Lib.hid hY; have HR := Lib.hid hr; have H00 := Lib.hid h00; have HL := Lib.hid hL; have Hy := Lib.hid hy
  have hBr := hr.lt; have hBy := hy.lt; have cy := hy.cell 0
  simp only [List.getElem?_toArray, List.getElem?_cons_zero] at cy
  have c0 := fun i => hr.cell i
  clear hT hStop hNone hSome hlen hpre hb4 h00 hTT hqq hT2 hNone2 hSome2 hPL hLL hJ hY hL
  refine callsIn_of_wp Tryz.func183 rfl trivial ?_ rfl
  simp only [Tryz.ntmps183, List.size_toArray, List.length_cons, List.length_nil, Nat.reduceAdd, Nat.reduceSub, Array.replicate_succ, Array.replicate_zero, List.push_toArray, List.append_toArray, List.nil_append, List.cons_append]
  gi_wp2
  all_goals
    first
      | (rw [show y + 1 = L from by have := HL.out; omega])
      | (rw [show Value.int .i64 r2 = .int .i64 L from by have := HL.out; congr 1; omega])
    gi_loopw [5] (fun v wr => ∃ k : Nat, k ≤ 4 ∧ v = .int .i64 (L - (k : Nat)) ∧ J (PL k) wr ∧ Keep Br By W wr) (fun v _ => (intOf v - L + 5).toNat)
    case atStart => exact ⟨0, Nat.zero_le _, by simp, by rw [H00.out]; exact h0, Keep.refl _ _ _⟩
    case round =>
      obtain ⟨k, hk, rfl, hJs, hnx⟩ := hrel
      have hsz := hnx.size
      have hr2 : Blk wr Br 59 #[.string r0, .int .i64 r1, .int .i64 r2, .int .i64 r3, .int .i64 r4, .int .i64 r5, .int .i64 r6, .int .i64 r7, .int .i64 r8, .int .i64 r9, .string r10] := hnx.r.trans HR.out
      have hy2 : Blk wr By 3 #[.int .i64 y] := hnx.y.trans Hy.out
      have c1 := fun i => hr2.cell i
      have hyz := hy2.cell 0
      have hB1 := hr2.lt; have hB2 := hy2.lt
      clear c0 cy
      by_cases hlow : L - (k : Nat) < r1
      · have hd : decide (r1 ≤ L - (k : Nat)) = false := decide_eq_false (by omega)
        have he := HStop.out k hlow hk
        have HE := Lib.hid he
        clear he hlow
        gi_wp2
        go_end0
        exact ⟨⟨_, rfl⟩, .inl ⟨_, HE.out, hJs⟩⟩
      · have hd : decide (r1 ≤ L - (k : Nat)) = true := decide_eq_true (by omega)
        by_cases hk4 : k = 4
        · subst hk4
          have hd2 : decide (L - 4 < L - ((4 : Nat) : Int)) = false := decide_eq_false (by omega)
          gi_wp2
          go_end0
          exact ⟨⟨_, rfl⟩, .inl hJs⟩
        · have hd2 : decide (L - 4 < L - (k : Nat)) = true := decide_eq_true (by omega)
          cases hq : q k
          · have hN := HNone.out k hq
            have hTk := HT.out k
            rw [hq] at hTk
            have HTk := Lib.hid hTk
            have HN := Lib.hid hN
            clear hN hTk hq
            gi_wp2_with (refine ⟨trivial, fun h => (by cases h), ?_⟩; refine (callsIn_wide.2 (HTk.out _)).mono ?_; rintro e w1 ⟨rfl, hb⟩; have HB := Lib.hid hb; clear hb)
            refine ⟨fun _ h => (by cases h), ?_⟩
            gi_wp2
            go_roundw
            case rel =>
              refine ⟨k + 1, by omega, by go_num, ?_, ?_⟩
              · rw [HN.out]
                exact (HJ.out.from hsz) _ _ _ none ((HJ.out.from hsz) _ _ _ none hJs (gr_of_below HB.out) (fun r e => by cases e)) (World.grownBy_alloc _ _ none) (fun r e => by cases e)
              · exact hnx.trans (Keep.of (HB.out.alloc HB.out.size _) hB1 hB2)
            case measure => simp [intOf]; omega
          · have hN := HSome.out k hq
            have hTk := HT.out k
            rw [hq] at hTk
            have HTk := Lib.hid hTk
            have HN := Lib.hid hN
            clear hN hTk hq
            gi_wp2_with (refine ⟨trivial, fun h => (by cases h), ?_⟩; refine (callsIn_wide.2 (HTk.out _)).mono ?_; rintro e w1 ⟨rfl, hb⟩; have HB := Lib.hid hb; obtain ⟨fn, tmps, assign, body, hy, hRr⟩ := HY.out (PL k) (T k) (w1.alloc (.cells #[.int .i64 (T k).at_, .int .i64 (T k).ref, .int .i64 (T k).save, .string (T k).letter] 113)) ((HJ.out.from hsz) _ _ _ none ((HJ.out.from hsz) _ _ _ none hJs (gr_of_below hb) (fun r e => by cases e)) (World.grownBy_alloc _ _ none) (fun r e => by cases e)) (by have := HLen.out k; omega); simp only [encT] at hy; have HRr := Lib.hid hRr; clear hb hRr)
            refine ⟨fun h => (by cases h), HRr.out.mono ?_⟩
            rintro e W3 (⟨rfl, hJ3, hk3⟩ | ⟨rfl, hJx3⟩)
            · gi_wp2
              go_roundw
              case rel =>
                refine ⟨k + 1, by omega, by go_num, ?_, ?_⟩
                · rw [HN.out]
                  exact hJ3
                · exact (hnx.trans (Keep.of (HB.out.alloc HB.out.size _) hB1 hB2)).trans hk3
              case measure => simp [intOf]; omega
            · gi_wp2
              refine bodyPost_ret (results_none rfl _ _ _) rfl ?_
              exact ⟨⟨_, rfl⟩, .inr ⟨_, by rw [← HN.out]; exact HPre.out (k + 1) (by omega), hJx3⟩⟩
theorem back_any (r : Rule) (y : Int) (w : World) :
    Calls Tryz.prog 142 #[.agg r.cells.toArray, .int .i64 y] w fun e w' => e = .returned (.func (.func 183) #[] #[.pointer (some ⟨w.heap.size, 0, none⟩), .pointer (some ⟨w.heap.size + 1, 0, none⟩)]) ∧
      w' = (w.alloc (.cells r.cells.toArray 59)).alloc (.cells #[.int .i64 y] 3) := by
  go_enter Tryz.func142, Tryz.ntmps142
  go_wp2_with fail
  go_ret
  exact ⟨rfl, rfl⟩
theorem back_stops (r : Rule) (y : Int) (n Br By : Nat) (w : World) (hlo : 1 ≤ r.lo) (hlo2 : r.lo ≤ 9999) (hhi : 1 ≤ r.hi) (hhi2 : r.hi ≤ 1000000) (hy1 : -1000000 ≤ y) (hy2 : y ≤ 1000000)
    (hr : Blk w Br 59 r.cells.toArray) (hy : Blk w By 3 #[.int .i64 y]) :
    SeqStopsK Fence.wide n Tryz.prog 183 #[.pointer (some ⟨Br, 0, none⟩), .pointer (some ⟨By, 0, none⟩)] encT (Keep Br By) (fun ys => ys = backL r y) (fun pre => pre <+: backL r y) 4 w := fun l J Jx W hW hJ _ hY h0 =>
  back1_in r y n l Br By hlo hlo2 hhi hhi2 hy1 hy2 J Jx W hJ hY (hr.below hW hr.lt) (hy.below hW hy.lt) h0
end Go.Proofs.YtdicedpklpadgaaGreatDoor.Ahd
namespace Go.Proofs.YtdicedpklpadgaaGreatDoor.Ahd
open Go.RowKit Mem Civ Mom Img Rul
attribute [local go_sem] Oper.semAt_some

/-- One rule's latest turn that is so, beside the best one till then. -/
def stepT (so : Turn → Bool) (best : Option Turn) (l : List Turn) : Option Turn := match l.find? so with
  | none => best
  | some t => match best with
    | none => some t
    | some b => if b.at_ ≤ t.at_ then some t else some b
def latestL (so : Turn → Bool) (y : Int) (rs : List Rule) : Option Turn := rs.foldl (fun b x => stepT so b (backL x y)) none
def noTurn : Turn := ⟨0, 0, 0, ⟨#[]⟩⟩
/-- The test answers so, in whatever later world. -/
def SoAt (g : Nat) (lb : Array Value) (so : Turn → Bool) (w : World) : Prop :=
  ∀ t z, Below w.heap.size w z → Calls Tryz.prog g (encT t ++ lb) z fun e w' => e = .returned (.bool (so t)) ∧ Below z.heap.size z w'
/-- What latest's frame holds in memory: the test's box, the result's, the best turn, and whether there is one. -/
structure La (w : World) (g : Nat) (lb : Array Value) (best : Option Turn) (W : World) : Prop where
  so : Blk W w.heap.size 130 #[.func (.func g) #[] lb]
  res : Blk W (w.heap.size + 1) 113 #[.int .i64 0, .int .i64 0, .int .i64 0, .string ⟨#[]⟩]
  bst : Blk W (w.heap.size + 1 + 1) 113 (best.getD noTurn).cells.toArray
  fnd : Blk W (w.heap.size + 1 + 1 + 1) 4 #[.bool best.isSome]
  bel : Below w.heap.size w W
theorem La.grown {w W W' : World} {g : Nat} {lb : Array Value} {best : Option Turn} {r : Option Nat} (h : La w g lb best W) (hg : W.grownBy W' r) (hr : ∀ k, r = some k → w.heap.size + 4 ≤ k) : La w g lb best W' :=
  ⟨h.so.grown hg (fun e => by have := hr _ e.symm; omega), h.res.grown hg (fun e => by have := hr _ e.symm; omega), h.bst.grown hg (fun e => by have := hr _ e.symm; omega), h.fnd.grown hg (fun e => by have := hr _ e.symm; omega), h.bel.grown hg h.bel.size (fun k e => by have := hr _ e; omega)⟩
theorem La.alloc {w W : World} {g : Nat} {lb : Array Value} {best : Option Turn} (h : La w g lb best W) (o : Obj) : La w g lb best (W.alloc o) := h.grown (World.grownBy_alloc W o none) (fun k e => by cases e)
theorem La.step {w W W' : World} {g : Nat} {lb : Array Value} {best : Option Turn} (h : La w g lb best W) (hb : Below W.heap.size W W') : La w g lb best W' := h.grown (gr_of_below hb) (fun k e => by cases e)
theorem La.set {w W : World} {g : Nat} {lb : Array Value} {best : Option Turn} (h : La w g lb best W) (t : Turn) :
    La w g lb (some t) (((((W.setCell ⟨w.heap.size + 1 + 1, 0, none⟩ (.int .i64 t.at_)).setCell ⟨w.heap.size + 1 + 1, 1, none⟩ (.int .i64 t.ref)).setCell ⟨w.heap.size + 1 + 1, 2, none⟩ (.int .i64 t.save)).setCell ⟨w.heap.size + 1 + 1, 3, none⟩ (.string t.letter)).setCell ⟨w.heap.size + 1 + 1 + 1, 0, none⟩ (.bool true)) := by
  have hb := ((((h.bst.set_ 0 (.int .i64 t.at_)).set_ 1 (.int .i64 t.ref)).set_ 2 (.int .i64 t.save)).set_ 3 (.string t.letter)).far (p := ⟨w.heap.size + 1 + 1 + 1, 0, none⟩) (by simp) (.bool true)
  have hf := ((((h.fnd.far (p := ⟨w.heap.size + 1 + 1, 0, none⟩) (by simp) (.int .i64 t.at_)).far (p := ⟨w.heap.size + 1 + 1, 1, none⟩) (by simp) (.int .i64 t.ref)).far (p := ⟨w.heap.size + 1 + 1, 2, none⟩) (by simp) (.int .i64 t.save)).far (p := ⟨w.heap.size + 1 + 1, 3, none⟩) (by simp) (.string t.letter)).set_ 0 (.bool true)
  simp only [Turn.cells, List.setIfInBounds_toArray, List.set_cons_succ, List.set_cons_zero] at hb hf
  refine ⟨?_, ?_, hb, hf, ?_⟩
  · exact ((((h.so.far (by simp <;> omega) _).far (by simp <;> omega) _).far (by simp <;> omega) _).far (by simp <;> omega) _).far (by simp <;> omega) _
  · exact ((((h.res.far (by simp) _).far (by simp) _).far (by simp) _).far (by simp) _).far (by simp <;> omega) _
  · exact ((((h.bel.setCell (by simp <;> omega) _).setCell (by simp <;> omega) _).setCell (by simp <;> omega) _).setCell (by simp <;> omega) _).setCell (by simp <;> omega) _
theorem La.start (w : World) (g : Nat) (lb : Array Value) : La w g lb none ((((w.alloc (.cells #[.func (.func g) #[] lb] 130)).alloc (.cells #[.int .i64 0, .int .i64 0, .int .i64 0, .string ⟨#[]⟩] 113)).alloc (.cells #[.int .i64 0, .int .i64 0, .int .i64 0, .string ⟨#[]⟩] 113)).alloc (.cells #[.bool false] 4)) := by
  have h1 := Blk.new w 130 #[.func (.func g) #[] lb]
  have h2 := Blk.new (w.alloc (.cells #[.func (.func g) #[] lb] 130)) 113 #[.int .i64 0, .int .i64 0, .int .i64 0, .string ⟨#[]⟩]
  have h3 := Blk.new ((w.alloc (.cells #[.func (.func g) #[] lb] 130)).alloc (.cells #[.int .i64 0, .int .i64 0, .int .i64 0, .string ⟨#[]⟩] 113)) 113 #[.int .i64 0, .int .i64 0, .int .i64 0, .string ⟨#[]⟩]
  have h4 := Blk.new (((w.alloc (.cells #[.func (.func g) #[] lb] 130)).alloc (.cells #[.int .i64 0, .int .i64 0, .int .i64 0, .string ⟨#[]⟩] 113)).alloc (.cells #[.int .i64 0, .int .i64 0, .int .i64 0, .string ⟨#[]⟩] 113)) 4 #[.bool false]
  simp only [World.size_alloc] at h2 h3 h4
  exact ⟨((h1.alloc _).alloc _).alloc _, (h2.alloc _).alloc _, h3.alloc _, h4, ((((Below.refl _ _).alloc (Nat.le_refl _) _).alloc (by simp) _).alloc (by simp <;> omega) _).alloc (by simp <;> omega) _⟩
/-- All blocks lie as they lay, but the best turn's and the flag's. -/
structure Kd (B : Nat) (W W' : World) : Prop where
  size : W.heap.size ≤ W'.heap.size
  same : ∀ k, k < W.heap.size → k ≠ B + 1 + 1 → k ≠ B + 1 + 1 + 1 → W'.heap[k]? = W.heap[k]?
theorem Kd.refl (B : Nat) (W : World) : Kd B W W := ⟨Nat.le_refl _, fun _ _ _ _ => rfl⟩
theorem Kd.trans {B : Nat} {X Y Z : World} (h : Kd B X Y) (k : Kd B Y Z) : Kd B X Z := ⟨Nat.le_trans h.size k.size, fun i h1 h2 h3 => (k.same i (Nat.lt_of_lt_of_le h1 h.size) h2 h3).trans (h.same i h1 h2 h3)⟩
theorem Kd.of {B : Nat} {X Y : World} (h : Below X.heap.size X Y) : Kd B X Y := ⟨h.size, fun i h1 _ _ => h.block i h1⟩
theorem Kd.set {B : Nat} {X : World} {p : Addr} (h : p.block = B + 1 + 1 ∨ p.block = B + 1 + 1 + 1) (u : Value) : Kd B X (X.setCell p u) := ⟨by simp, fun i _ h2 h3 => Below.heap_setCell X p u i (by omega)⟩
/-- The marks of the loops that are over. -/
structure Mk (B : Nat) (Ds : List Nat) (W : World) : Prop where
  nod : Ds.Nodup
  at_ : ∀ D ∈ Ds, B + 4 ≤ D ∧ W.heap[D]? = some (.deferred (some []))
theorem Mk.kd {B : Nat} {Ds : List Nat} {W W' : World} (h : Mk B Ds W) (k : Kd B W W') : Mk B Ds W' := ⟨h.nod, fun D hD => by
  obtain ⟨h1, h2⟩ := h.at_ D hD
  exact ⟨h1, (k.same D (Array.getElem?_eq_some_iff.1 h2).1 (by omega) (by omega)).trans h2⟩⟩
theorem Mk.push {B : Nat} {Ds : List Nat} {W W' : World} {D : Nat} (h : Mk B Ds W) (k : Kd B W W') (hB : B + 4 ≤ D) (hD : W.heap.size ≤ D) (hh : W'.heap[D]? = some (.deferred (some []))) : Mk B (D :: Ds) W' := by
  refine ⟨List.nodup_cons.2 ⟨fun hm => ?_, h.nod⟩, fun D' hD' => ?_⟩
  · have := (Array.getElem?_eq_some_iff.1 (h.at_ D hm).2).1
    omega
  · rcases List.mem_cons.1 hD' with rfl | hD'
    · exact ⟨hB, hh⟩
    · exact (h.kd k).at_ D' hD'
theorem Kd.own {B : Nat} {w1 A C : World} {row : Option Nat} (h : Kd B w1 A) (hg : A.grownBy C row) (hr : ∀ r, row = some r → w1.heap.size ≤ r) : Kd B w1 C :=
  ⟨Nat.le_trans h.size hg.size, fun k h1 h2 h3 => (hg.block k (Nat.lt_of_lt_of_le h1 h.size) (fun e => by have := hr k e.symm; omega)).trans (h.same k h1 h2 h3)⟩
theorem step_none {so : Turn → Bool} {best : Option Turn} {pre : List Turn} (h : ∀ t ∈ pre, so t = false) : stepT so best pre = best := by
  unfold stepT
  rw [List.find?_eq_none.2 (fun t ht => by rw [h t ht]; decide)]
theorem step_first {so : Turn → Bool} {pre : List Turn} {t : Turn} (h : pre.find? so = some t) : stepT so none pre = some t := by
  unfold stepT
  rw [h]
theorem step_le {so : Turn → Bool} {pre : List Turn} {t b : Turn} (h : pre.find? so = some t) (hle : b.at_ ≤ t.at_) : stepT so (some b) pre = some t := by
  unfold stepT
  rw [h]
  simp only [if_pos hle]
theorem step_gt {so : Turn → Bool} {pre : List Turn} {t b : Turn} (h : pre.find? so = some t) (hle : ¬ b.at_ ≤ t.at_) : stepT so (some b) pre = some b := by
  unfold stepT
  rw [h]
  simp only [if_neg hle]
theorem find_snoc {so : Turn → Bool} {pre : List Turn} {x : Turn} (h : ∀ t ∈ pre, so t = false) (hx : so x = true) : (pre ++ [x]).find? so = some x := by
  rw [List.find?_append, List.find?_eq_none.2 (fun t ht => by rw [h t ht]; decide)]
  simp [hx]
theorem find_pre {so : Turn → Bool} {pre l : List Turn} {t : Turn} (h : pre <+: l) (ht : pre.find? so = some t) : l.find? so = some t := by
  obtain ⟨r, rfl⟩ := h
  rw [List.find?_append, ht]
  rfl
theorem Mk.set {B : Nat} {Ds : List Nat} {W : World} (h : Mk B Ds W) {p : Addr} (hp : p.block < B + 4) (u : Value) : Mk B Ds (W.setCell p u) := ⟨h.nod, fun D hD => by
  obtain ⟨h1, h2⟩ := h.at_ D hD
  exact ⟨h1, (Below.heap_setCell W p u D (by omega)).trans h2⟩⟩
theorem Mk.drew {B : Nat} {Ds : List Nat} {W : World} (h : Mk B Ds W) : Mk B Ds W.drew := ⟨h.nod, h.at_⟩
theorem latest_results {w : World} {R0 : Nat} {b : Bool} {a0 a1 a2 a3 : Value} (h : Blk w R0 113 #[a0, a1, a2, a3]) (tmps : Array Value) (ht : tmps[6]? = some (.pointer (some ⟨R0, 0, none⟩))) (h7 : tmps[7]? = some (.bool b)) : (results Tryz.f89 tmps).run Tryz.prog w = .ok (.tuple #[.agg #[a0, a1, a2, a3], .bool b]) w := by
  have hc := fun i => h.cell i
  simp [results, Tryz.results89, go_sem, hc, ht, h7]
def markD (D : Nat) : Deferred := { target := .collected D, args := #[] }
theorem leaves_marks {F : Fence} {n : Nat} {fn : Func} {tmps : Array Value} {R : Ending → World → Prop} {B : Nat} {P : World → Prop} (hP : ∀ W D o, P W → B + 4 ≤ D → P (W.putObj D o)) (hE : ∀ W, P W → LeavesInM F n Tryz.prog fn tmps R [] .returning W) :
    ∀ (Ds : List Nat) (W : World), Mk B Ds W → P W → LeavesInM F n Tryz.prog fn tmps R (Ds.map markD) .returning W
  | [], W, _, h => hE W h
  | D :: Ds, W, hm, h => by
    obtain ⟨h1, h2⟩ := hm.at_ D (by simp)
    refine ⟨by simp, .inl ⟨D, _, rfl, run_takeDeferred h2, ?_⟩⟩
    refine leaves_marks hP hE Ds _ ⟨(List.nodup_cons.1 hm.nod).2, fun D' hD' => ?_⟩ (hP W D _ h h1)
    obtain ⟨g1, g2⟩ := hm.at_ D' (by simp [hD'])
    refine ⟨g1, ?_⟩
    rw [← g2]
    exact World.putObj_heap_other (fun e => (List.nodup_cons.1 hm.nod).1 (by rw [← e]; exact hD'))
set_option maxRecDepth 100000 in
set_option maxHeartbeats 2000000 in
theorem latest_any (rs : List Rule) (A : Option Addr) (c g : Nat) (lb : Array Value) (so : Turn → Bool) (y : Int) (w : World) (h : Reads w w.heap.size 11 A rs.length (rs.flatMap Rule.cells)) (hn : rs.length ≤ 1000000) (hr : rulesB rs = true) (hy1 : -1000000 ≤ y) (hy2 : y ≤ 1000000) (hso : SoAt g lb so w) (hent : ∀ args z, (callFunc g args).run Tryz.prog z = .ok (.enter g args) z) :
    Calls Tryz.prog 89 #[.slice A rs.length c, .int .i64 y, .func (.func g) #[] lb] w fun e w' => e = .returned (.tuple #[.agg ((latestL so y rs).getD noTurn).cells.toArray, .bool (latestL so y rs).isSome]) ∧ Below w.heap.size w w' := by
  have HS := Lib.hid hso; have HR := Lib.hid h
  have hQ : latestL so y rs = (rs.foldl (fun b x => stepT so b (backL x y)) none) := rfl
  obtain ⟨Q, hQQ⟩ : ∃ Q, latestL so y rs = Q := ⟨_, rfl⟩
  rw [hQQ] at hQ ⊢
  have HQ := Lib.hid hQ
  have hru := fun (k : Nat) (hk : k < rs.length) => of_decide_eq_true (List.all_eq_true.1 hr _ (List.getElem_mem hk))
  have HRu := Lib.hid hru
  have HL0 := Lib.hid (La.start w g lb)
  clear h hso hr hQ hQQ hru
  refine (callsIn_wide (n := 3)).1 ?_
  refine callsIn_of_wp_marks Tryz.func89 rfl trivial ?_ rfl
  simp only [Tryz.ntmps89, List.size_toArray, List.length_cons, List.length_nil, Nat.reduceAdd, Nat.reduceSub, Array.replicate_succ, Array.replicate_zero, List.push_toArray, List.append_toArray, List.nil_append, List.cons_append]
  gi_wp2
  obtain ⟨W0, hW0⟩ : ∃ W0, ((((w.alloc (.cells #[.func (.func g) #[] lb] 130)).alloc (.cells #[.int .i64 0, .int .i64 0, .int .i64 0, .string ⟨#[]⟩] 113)).alloc (.cells #[.int .i64 0, .int .i64 0, .int .i64 0, .string ⟨#[]⟩] 113)).alloc (.cells #[.bool false] 4)) = W0 := ⟨_, rfl⟩
  rw [hW0] at HL0 ⊢
  refine wpIn_loop (fun a' W => ∃ (k : Nat) (best : Option Turn) (Ds : List Nat) (u11 u16 u17 u18 u19 u20 u21 u37 : Value), k ≤ rs.length ∧ (rs.drop k).foldl (fun b x => stepT so b (backL x y)) best = Q ∧ La w g lb best W ∧ Mk w.heap.size Ds W ∧
      a' = { tmps := #[.slice A rs.length c, .int .i64 y, .func (.func g) #[] lb, undef, undef, .pointer (some ⟨w.heap.size, 0, none⟩), .pointer (some ⟨w.heap.size + 1, 0, none⟩), .bool false, .pointer (some ⟨w.heap.size + 1 + 1, 0, none⟩), .pointer (some ⟨w.heap.size + 1 + 1 + 1, 0, none⟩), undef, u11, undef, .slice A rs.length c, .int .i64 rs.length, .int .i64 k, u16, u17, u18, u19, u20, u21, undef, undef, undef, undef, undef, undef, undef, undef, undef, undef, undef, undef, undef, undef, undef, u37, undef, undef], defers := Ds.map markD })
    (fun a' _ => rs.length - (intOf (a'.tmps.getD 15 undef)).toNat) ?start ?round
  case start =>
    exact ⟨0, none, [], _, _, _, _, _, _, _, _, Nat.zero_le _, by rw [List.drop_zero]; exact HQ.out.symm, HL0.out, ⟨List.nodup_nil, by simp⟩, rfl⟩
  case round =>
    rintro _ wr ⟨k, best, Ds, u11, u16, u17, u18, u19, u20, u21, u37, hk, hq, hla, hmk, rfl⟩
    clear HL0 HQ hW0
    have HLa := Lib.hid hla; have HMk := Lib.hid hmk; have Hq := Lib.hid hq
    clear hla hmk hq
    by_cases hkn : k < rs.length
    · obtain ⟨ad, hA, hadb, a0, a1, a2, a3, a4, a5, a6, a7, a8, a9, a10⟩ := rule_cells (HR.out.below HLa.out.bel) hkn
      subst hA
      have hru := HRu.out k hkn
      have hq := Hq.out
      rw [List.drop_eq_getElem_cons hkn, List.foldl_cons] at hq
      have Hq2 := Lib.hid hq
      obtain ⟨x, hx⟩ : ∃ x, x = rs[k] := ⟨_, rfl⟩
      simp only [← hx] at a0 a1 a2 a3 a4 a5 a6 a7 a8 a9 a10 hru Hq2
      have hback := fun z => back_any x y z
      have hst := fun n Br By w => back_stops x y n Br By w hru.1.1 hru.1.2 (by rcases hru.2.1 with h | h <;> (try have := h.1) <;> omega) (by rcases hru.2.1 with h | h <;> (try have := h.2) <;> omega) hy1 hy2
      obtain ⟨BL, hBL⟩ : ∃ BL, BL = backL x y := ⟨_, rfl⟩
      rw [← hBL] at hst Hq2
      clear hq hx hru Hq hBL
      obtain ⟨x0, x1, x2, x3, x4, x5, x6, x7, x8, x9, x10⟩ := x
      simp only [Rule.cells] at a0 a1 a2 a3 a4 a5 a6 a7 a8 a9 a10 hback hst
      have HBk := Lib.hid hback; have HSt := Lib.hid hst
      clear hback hst
      gi_wp2_with (refine ⟨trivial, ?_⟩; refine (callsIn_wide.2 (HBk.out _)).mono ?_; rintro e w1 ⟨rfl, hw⟩; have HW := Lib.hid hw; clear hw)
      have hsz : w1.heap.size = wr.heap.size + 3 := by rw [HW.out]; simp
      have hwr : w.heap.size + 4 ≤ wr.heap.size := HLa.out.fnd.lt
      have hla1 : La w g lb best w1 := by rw [HW.out]; exact ((HLa.out.alloc _).alloc _).alloc _
      have hkd1 : Kd w.heap.size wr w1 := by rw [HW.out]; exact Kd.of ((((Below.refl _ _).alloc (Nat.le_refl _) _).alloc (by simp) _).alloc (by simp; omega) _)
      have hBr : Blk w1 (wr.heap.size + 1) 59 #[.string x0, .int .i64 x1, .int .i64 x2, .int .i64 x3, .int .i64 x4, .int .i64 x5, .int .i64 x6, .int .i64 x7, .int .i64 x8, .int .i64 x9, .string x10] := by
        rw [HW.out]
        have h1 := Blk.new (wr.alloc (.cells #[.string x0, .int .i64 x1, .int .i64 x2, .int .i64 x3, .int .i64 x4, .int .i64 x5, .int .i64 x6, .int .i64 x7, .int .i64 x8, .int .i64 x9, .string x10] 59)) 59 #[.string x0, .int .i64 x1, .int .i64 x2, .int .i64 x3, .int .i64 x4, .int .i64 x5, .int .i64 x6, .int .i64 x7, .int .i64 x8, .int .i64 x9, .string x10]
        rw [World.size_alloc] at h1
        exact h1.alloc _
      have hBy : Blk w1 (wr.heap.size + 1 + 1) 3 #[.int .i64 y] := by
        rw [HW.out]
        have h1 := Blk.new ((wr.alloc (.cells #[.string x0, .int .i64 x1, .int .i64 x2, .int .i64 x3, .int .i64 x4, .int .i64 x5, .int .i64 x6, .int .i64 x7, .int .i64 x8, .int .i64 x9, .string x10] 59)).alloc (.cells #[.string x0, .int .i64 x1, .int .i64 x2, .int .i64 x3, .int .i64 x4, .int .i64 x5, .int .i64 x6, .int .i64 x7, .int .i64 x8, .int .i64 x9, .string x10] 59)) 3 #[.int .i64 y]
        rw [World.size_alloc, World.size_alloc] at h1
        exact h1
      have HBr := Lib.hid hBr; have HBy := Lib.hid hBy; have HLa1 := Lib.hid hla1; have HKd1 := Lib.hid hkd1
      have Hsz := Lib.hid hsz
      clear hBr hBy hla1 hkd1 hsz a0 a1 a2 a3 a4 a5 a6 a7 a8 a9 a10 HBk
      refine wpIn_rangeFunc_ownH (F := Fence.wide) (n := 3) (α := Turn) rfl (by decide) (gf := 183) (lb := #[.pointer (some ⟨wr.heap.size + 1, 0, none⟩), .pointer (some ⟨wr.heap.size + 1 + 1, 0, none⟩)]) rfl trivial (enters_of Tryz.func183 (by kernel_rfl) rfl)
        (HSt.out (3 - 1) _ _ w1 HBr.out HBy.out) (fun h k => h.trans k) (fun W l o o' hl _ _ _ => ⟨by simp, World.putObj_heap_other (by have := Hsz.out; omega), World.putObj_heap_other (by have := Hsz.out; omega)⟩) (Below.refl _ _) (fun _ => rfl)
        (fun pre W => (La w g lb best W ∧ ∀ t ∈ pre, so t = false) ∧ Kd w.heap.size w1 W)
        (fun c pre W => c = .exit 2 ∧ (∃ t, pre.find? so = some t) ∧ La w g lb (stepT so best pre) W ∧ Kd w.heap.size w1 W)
        (fun s X Y row hs hg hr => ⟨⟨hs.1.1.grown hg (fun k e => by have := (hr k e).1; have := Hsz.out; omega), hs.1.2⟩, hs.2.own hg (fun k e => (hr k e).1)⟩)
        (fun c s X Y row hs hg hr => ⟨hs.1, hs.2.1, hs.2.2.1.grown hg (fun k e => by have := (hr k e).1; have := Hsz.out; omega), hs.2.2.2.own hg (fun k e => (hr k e).1)⟩)
        ⟨⟨HLa1.out, by simp⟩, Kd.refl _ _⟩
        (fun x a' W => ∃ Bx, w1.heap.size ≤ Bx ∧ Blk W Bx 113 #[.int .i64 x.at_, .int .i64 x.ref, .int .i64 x.save, .string x.letter] ∧ a' = { tmps := #[.slice (some ad) rs.length c, .int .i64 y, .func (.func g) #[] lb, undef, undef, .pointer (some ⟨w.heap.size, 0, none⟩), .pointer (some ⟨w.heap.size + 1, 0, none⟩), .bool false, .pointer (some ⟨w.heap.size + 1 + 1, 0, none⟩), .pointer (some ⟨w.heap.size + 1 + 1 + 1, 0, none⟩), undef, .pointer (some ⟨wr.heap.size, 0, none⟩), .pointer (some ⟨Bx, 0, none⟩), .slice (some ad) rs.length c, .int .i64 rs.length, .int .i64 k, .bool true, .pointer (some (ad.add (k * 11))), .agg #[.string x0, .int .i64 x1, .int .i64 x2, .int .i64 x3, .int .i64 x4, .int .i64 x5, .int .i64 x6, .int .i64 x7, .int .i64 x8, .int .i64 x9, .string x10], .agg #[.string x0, .int .i64 x1, .int .i64 x2, .int .i64 x3, .int .i64 x4, .int .i64 x5, .int .i64 x6, .int .i64 x7, .int .i64 x8, .int .i64 x9, .string x10], .int .i64 y, .func (.func 183) #[] #[.pointer (some ⟨wr.heap.size + 1, 0, none⟩), .pointer (some ⟨wr.heap.size + 1 + 1, 0, none⟩)], .agg #[.int .i64 x.at_, .int .i64 x.ref, .int .i64 x.save, .string x.letter], undef, undef, undef, undef, undef, undef, undef, undef, undef, undef, undef, undef, undef, undef, u37, undef, undef], defers := [] })
        (fun x a' _ X Y row hs hg hr => by
          obtain ⟨Bx, h1, h2, h3⟩ := hs
          refine ⟨Bx, h1, h2.grown hg (fun e => ?_), h3⟩
          obtain ⟨_, o, ho, hc⟩ := hr Bx e.symm
          rw [show X.heap[Bx]? = _ from h2] at ho
          cases ho
          cases hc) ?assign ?body ?done ?stop
      case assign =>
        rintro l pre ⟨t0, t1, t2, t3⟩ W K ⟨⟨hla, hno⟩, hkd⟩ hK
        simp only [encT]
        gi_wp2
        have hb1 := (HBr.out : w1.heap[wr.heap.size + 1]? = _)
        have hs1 := hkd.size
        refine hK _ _ ((KeepsOthers.alloc _ _).from _) (Keep.of ((Below.refl _ _).alloc (Nat.le_refl _) _) (by have := Hsz.out; omega) (by have := Hsz.out; omega)) ⟨⟨hla.alloc _, hno⟩, hkd.trans (Kd.of ((Below.refl _ _).alloc (Nat.le_refl _) _))⟩ ⟨W.heap.size, hs1, Blk.new _ _ _, rfl⟩
      case body =>
        rintro l pre ⟨t0, t1, t2, t3⟩ a' W hl ⟨rr, hrr⟩ ⟨⟨hla, hno⟩, hkd⟩ ⟨Bx, hBx, hbx, rfl⟩ hlen
        have hS := HS.out ⟨t0, t1, t2, t3⟩
        simp only [encT] at hS hbx ⊢
        have hs1 := hkd.size
        have hlt1 := (HBr.out : w1.heap[wr.heap.size + 1]? = _)
        have cso := hla.so.cell 0
        have cb := fun i => hbx.cell i
        simp only [List.getElem?_toArray, List.getElem?_cons_zero] at cso
        have hkeep : ∀ W', Below W.heap.size W W' → Keep (wr.heap.size + 1) (wr.heap.size + 1 + 1) W W' := fun W' hb => Keep.of hb (by have := Hsz.out; omega) (by have := Hsz.out; omega)
        have HKp := Lib.hid hkeep
        have HNo := Lib.hid hno; have HLa2 := Lib.hid hla; have HKd2 := Lib.hid hkd; have HBx := Lib.hid hbx
        have Hs1 := Lib.hid hs1
        clear hla hno hkd hbx hlt1 hkeep hs1 hl hrr
        cases hsx : so ⟨t0, t1, t2, t3⟩
        · rw [hsx] at hS
          have HSx := Lib.hid hS
          have Hsx := Lib.hid hsx
          clear hS hsx
          gi_wp2_with (refine ⟨trivial, ?_⟩; refine (CallsIn.inRound l (callsIn_wide.2 (HSx.out _ HLa2.out.bel))).mono ?_; rintro e w2 ⟨rfl, hb⟩; have HB := Lib.hid hb; clear hb)
          refine ⟨KeepsFrom.of_grownBy (gr_of_below HB.out) (fun j e => by cases e), HKp.out _ HB.out, ⟨HLa2.out.step HB.out, ?_⟩, HKd2.out.trans (Kd.of HB.out)⟩
          intro t ht
          rcases List.mem_append.1 ht with ht | ht
          · exact HNo.out t ht
          · rw [List.mem_singleton.1 ht]; exact Hsx.out
        · rw [hsx] at hS
          have HSx := Lib.hid hS
          have hfi := find_snoc HNo.out hsx
          have Hfi := Lib.hid hfi
          clear hS hsx hfi
          cases best with
          | none =>
            have Hst2 := Lib.hid (step_first Hfi.out)
            gi_wp2_with (refine ⟨trivial, ?_⟩; refine (CallsIn.inRound l (callsIn_wide.2 (HSx.out _ HLa2.out.bel))).mono ?_; rintro e w2 ⟨rfl, hb⟩; have HB := Lib.hid hb; have hl2 := HLa2.out.step hb; have cf := hl2.fnd.cell 0; have ff := hl2.fnd.frozen 0; have cbs := fun i => hl2.bst.cell i; have fbs := fun i => hl2.bst.frozen i; have cbx := fun i => (HBx.out.below hb HBx.out.lt).cell i; simp only [Turn.cells, noTurn, Option.getD_none, Option.isSome_none, List.getElem?_toArray, List.getElem?_cons_zero] at cf cbs; have HL2 := Lib.hid hl2; clear hb hl2 cso cb)
            refine ⟨?_, rfl, ⟨_, Hfi.out⟩, ?_, ?_⟩
            · exact (KeepsFrom.of_grownBy (gr_of_below HB.out) (fun j e => by cases e)).trans ((((((KeepsOthers.setCell _ _ _).from _).trans ((KeepsOthers.setCell _ _ _).from _)).trans ((KeepsOthers.setCell _ _ _).from _)).trans ((KeepsOthers.setCell _ _ _).from _)).trans ((KeepsOthers.setCell _ _ _).from _))
            · rw [Hst2.out]
              exact HL2.out.set ⟨t0, t1, t2, t3⟩
            · exact (HKd2.out.trans (Kd.of HB.out)).trans (((((Kd.set (.inl rfl) _).trans (Kd.set (.inl rfl) _)).trans (Kd.set (.inl rfl) _)).trans (Kd.set (.inl rfl) _)).trans (Kd.set (.inr rfl) _))
          | some b =>
            obtain ⟨b0, b1, b2, b3⟩ := b
            by_cases hle : b0 ≤ t0
            · have Hst2 := Lib.hid (step_le (b := ⟨b0, b1, b2, b3⟩) Hfi.out hle)
              have hleb : decide (b0 ≤ t0) = true := decide_eq_true hle
              clear hle
              gi_wp2_with (refine ⟨trivial, ?_⟩; refine (CallsIn.inRound l (callsIn_wide.2 (HSx.out _ HLa2.out.bel))).mono ?_; rintro e w2 ⟨rfl, hb⟩; have HB := Lib.hid hb; have hl2 := HLa2.out.step hb; have cf := hl2.fnd.cell 0; have ff := hl2.fnd.frozen 0; have cbs := fun i => hl2.bst.cell i; have fbs := fun i => hl2.bst.frozen i; have cbx := fun i => (HBx.out.below hb HBx.out.lt).cell i; simp only [Turn.cells, Option.getD_some, Option.isSome_some, List.getElem?_toArray, List.getElem?_cons_zero] at cf cbs; have HL2 := Lib.hid hl2; clear hb hl2 cso cb)
              refine ⟨?_, rfl, ⟨_, Hfi.out⟩, ?_, ?_⟩
              · exact (KeepsFrom.of_grownBy (gr_of_below HB.out) (fun j e => by cases e)).trans ((((((KeepsOthers.setCell _ _ _).from _).trans ((KeepsOthers.setCell _ _ _).from _)).trans ((KeepsOthers.setCell _ _ _).from _)).trans ((KeepsOthers.setCell _ _ _).from _)).trans ((KeepsOthers.setCell _ _ _).from _))
              · rw [Hst2.out]
                exact HL2.out.set ⟨t0, t1, t2, t3⟩
              · exact (HKd2.out.trans (Kd.of HB.out)).trans (((((Kd.set (.inl rfl) _).trans (Kd.set (.inl rfl) _)).trans (Kd.set (.inl rfl) _)).trans (Kd.set (.inl rfl) _)).trans (Kd.set (.inr rfl) _))
            · have Hst2 := Lib.hid (step_gt (b := ⟨b0, b1, b2, b3⟩) Hfi.out hle)
              have hleb : decide (b0 ≤ t0) = false := decide_eq_false hle
              clear hle
              gi_wp2_with (refine ⟨trivial, ?_⟩; refine (CallsIn.inRound l (callsIn_wide.2 (HSx.out _ HLa2.out.bel))).mono ?_; rintro e w2 ⟨rfl, hb⟩; have HB := Lib.hid hb; have hl2 := HLa2.out.step hb; have cf := hl2.fnd.cell 0; have ff := hl2.fnd.frozen 0; have cbs := fun i => hl2.bst.cell i; have fbs := fun i => hl2.bst.frozen i; have cbx := fun i => (HBx.out.below hb HBx.out.lt).cell i; simp only [Turn.cells, Option.getD_some, Option.isSome_some, List.getElem?_toArray, List.getElem?_cons_zero] at cf cbs; have HL2 := Lib.hid hl2; clear hb hl2 cso cb)
              refine ⟨?_, rfl, ⟨_, Hfi.out⟩, ?_, ?_⟩
              · exact KeepsFrom.of_grownBy (gr_of_below HB.out) (fun j e => by cases e)
              · rw [Hst2.out]
                exact HL2.out
              · exact HKd2.out.trans (Kd.of HB.out)
      case done =>
        rintro D ys W hD rfl ⟨⟨hla, hno⟩, hkd⟩ hK
        have hq := Hq2.out
        rw [step_none hno] at hq
        have HMk2 : Hid (Mk w.heap.size (D :: Ds) W) := HMk.out.push (HKd1.out.trans hkd) (by have := Hsz.out; omega) (by have := Hsz.out; omega) hK
        have HLa2 := Lib.hid hla; have Hq3 := Lib.hid hq
        clear hla hno hkd hq hK
        gi_wp2
        exact ⟨⟨k + 1, best, D :: Ds, _, _, _, _, _, _, _, _, by omega, Hq3.out, HLa2.out, HMk2.out, rfl⟩, by simp [intOf]; omega⟩
      case stop =>
        rintro D c0 pre W hD hpre ⟨rfl, ⟨t, ht⟩, hla, hkd⟩ hK
        have hq := Hq2.out
        have hs2 : stepT so best BL = stepT so best pre := by
          unfold stepT
          rw [ht, find_pre hpre ht]
        rw [hs2] at hq
        have HMk2 : Hid (Mk w.heap.size (D :: Ds) W) := HMk.out.push (HKd1.out.trans hkd) (by have := Hsz.out; omega) (by have := Hsz.out; omega) hK
        have HLa2 := Lib.hid hla; have Hq3 := Lib.hid hq
        clear hla hkd hq hK hs2
        gi_wp2
        exact ⟨⟨k + 1, stepT so best pre, D :: Ds, _, _, _, _, _, _, _, _, by omega, Hq3.out, HLa2.out, HMk2.out, rfl⟩, by simp [intOf]; omega⟩
    · obtain rfl : k = rs.length := by omega
      have hq := Hq.out
      rw [List.drop_length, List.foldl_nil] at hq
      subst hq
      have cbs := fun i => HLa.out.bst.cell i
      have cf := HLa.out.fnd.cell 0
      simp only [List.getElem?_toArray, List.getElem?_cons_zero] at cf
      have cr := fun i => HLa.out.res.cell i
      have fr := fun i => HLa.out.res.frozen i
      clear Hq
      obtain ⟨B, hB⟩ : ∃ B : Turn, B = best.getD noTurn := ⟨_, rfl⟩
      rw [← hB] at cbs
      obtain ⟨b0, b1, b2, b3⟩ := B
      simp only [Turn.cells] at cbs
      have HB := Lib.hid hB
      clear hB
      gi_wp2
      refine wpIn_wide.2 ?_
      go_region
      have hf := ((((HLa.out.res.set_ 0 (.int .i64 b0)).set_ 1 (.int .i64 b1)).set_ 2 (.int .i64 b2)).set_ 3 (.string b3)).drew
      simp only [List.setIfInBounds_toArray, List.set_cons_succ, List.set_cons_zero] at hf
      have hbe := ((((HLa.out.bel.setCell (p := ⟨w.heap.size + 1, 0, none⟩) (by simp) (.int .i64 b0)).setCell (p := ⟨w.heap.size + 1, 1, none⟩) (by simp) (.int .i64 b1)).setCell (p := ⟨w.heap.size + 1, 2, none⟩) (by simp) (.int .i64 b2)).setCell (p := ⟨w.heap.size + 1, 3, none⟩) (by simp) (.string b3)).drew
      have hm := ((((HMk.out.set (p := ⟨w.heap.size + 1, 0, none⟩) (by simp) (.int .i64 b0)).set (p := ⟨w.heap.size + 1, 1, none⟩) (by simp) (.int .i64 b1)).set (p := ⟨w.heap.size + 1, 2, none⟩) (by simp) (.int .i64 b2)).set (p := ⟨w.heap.size + 1, 3, none⟩) (by simp) (.string b3)).drew
      have HF := Lib.hid hf; have HBe := Lib.hid hbe; have HM := Lib.hid hm
      clear hf hbe hm cbs cf cr fr HMk HLa
      generalize World.drew _ = W9 at *
      gi_wp2
      refine leaves_marks (B := w.heap.size) (P := fun W => Blk W (w.heap.size + 1) 113 #[.int .i64 b0, .int .i64 b1, .int .i64 b2, .string b3] ∧ Below w.heap.size w W) (fun W D o h hD => ⟨h.1.grown (grownBy_putObj' W D o) (fun e => by injection e with e; omega), h.2.grown (grownBy_putObj' W D o) h.2.size (fun k e => by injection e with e; omega)⟩) (fun W h => ?_) Ds W9 HM.out ⟨HF.out, HBe.out⟩
      refine ⟨_, latest_results h.1 _ rfl rfl, ?_, h.2⟩
      rw [← HB.out]
      rfl
end Go.Proofs.YtdicedpklpadgaaGreatDoor.Ahd
namespace Go.Proofs.YtdicedpklpadgaaGreatDoor.Ahd
open Go.RowKit Mem Civ Mom Img Rul

theorem year_bd (t : Int) : -1000000 ≤ yearI t ∧ yearI t ≤ 1000000 := by
  have key : ∀ n, -100000001 ≤ n → n ≤ 100000000 → -1000000 ≤ yearD n ∧ yearD n ≤ 1000000 := by
    intro n h1 h2
    have e6 : yOf n = (dayOf n - dayOf n / 1460 + dayOf n / 36524 - dayOf n / 146096) / 365 := rfl
    have e7 : dayOf n = (n + 719468) % 146097 := rfl
    unfold yearD
    split <;> omega
  unfold yearI
  split
  · omega
  · split
    · exact key _ (by omega) (by omega)
    · exact key _ (by omega) (by omega)
/-- The turn ahead of a local time. -/
def aheadO (rs : List Rule) (at_ : Int) : Option Turn := if rulesB rs = true then latestL (fun t => decide (t.at_ < at_)) (yearI at_) rs else none
theorem ahead1_any (t : Turn) (at_ : Int) (b : Nat) (w : World) (hc : w.cell? ⟨b, 0, none⟩ = some (.int .i64 at_)) :
    Calls Tryz.prog 144 #[.agg #[.int .i64 t.at_, .int .i64 t.ref, .int .i64 t.save, .string t.letter], .pointer (some ⟨b, 0, none⟩)] w fun e w' => e = .returned (.bool (decide (t.at_ < at_))) ∧ Below w.heap.size w w' := by
  have hone := One.new w 113 #[.int .i64 t.at_, .int .i64 t.ref, .int .i64 t.save, .string t.letter]
  obtain ⟨W, hW⟩ : ∃ W, w.alloc (.cells #[.int .i64 t.at_, .int .i64 t.ref, .int .i64 t.save, .string t.letter] 113) = W := ⟨_, rfl⟩
  rw [hW] at hone
  have c2 : W.cell? ⟨b, 0, none⟩ = some (.int .i64 at_) := cell_later hone.2 hc
  have HO := Lib.hid hone
  have c0 := fun i => hone.1.cell i
  clear hone hc
  go_enter Tryz.func144, Tryz.ntmps144
  go_wp2
  go_ret
  exact ⟨rfl, HO.out.2⟩
theorem ahead_results {w : World} {R0 : Nat} {b : Bool} {a0 a1 a2 a3 : Value} (h : Blk w R0 113 #[a0, a1, a2, a3]) (tmps : Array Value) (ht : tmps[4]? = some (.pointer (some ⟨R0, 0, none⟩))) (h7 : tmps[5]? = some (.bool b)) : (results Tryz.f92 tmps).run Tryz.prog w = .ok (.tuple #[.agg #[a0, a1, a2, a3], .bool b]) w := by
  have hc := fun i => h.cell i
  simp [results, Tryz.results92, go_sem, hc, ht, h7]
set_option maxHeartbeats 2000000 in
set_option maxRecDepth 100000 in
theorem ahead_any (rs : List Rule) (A : Option Addr) (c : Nat) (at_ : Int) (w : World) (h : Reads w w.heap.size 11 A rs.length (rs.flatMap Rule.cells)) (hn : rs.length ≤ 1000000) (h1 : -9223372036854775808 ≤ at_) (h2 : at_ ≤ 9223372036854775807) :
    Calls Tryz.prog 92 #[.slice A rs.length c, .int .i64 at_] w fun e w' => e = .returned (.tuple #[.agg ((aheadO rs at_).getD noTurn).cells.toArray, .bool (aheadO rs at_).isSome]) ∧ Below w.heap.size w w' := by
  have hR := fun z (hb : Below w.heap.size w z) => rulesRight_any rs A c z ((h.below hb).more hb.size) hn
  have hY := fun z => year_any at_ z h1 h2
  have hL := fun (b : Nat) z (hr : rulesB rs = true) (hb : Below w.heap.size w z) (hc : z.cell? ⟨b, 0, none⟩ = some (.int .i64 at_)) =>
    latest_any rs A c 144 #[.pointer (some ⟨b, 0, none⟩)] (fun t => decide (t.at_ < at_)) (yearI at_) z ((h.below hb).more hb.size) hn hr (year_bd at_).1 (year_bd at_).2
      (fun t z2 hb2 => ahead1_any t at_ b z2 (cell_later hb2 hc)) (enters_of Tryz.func144 (by kernel_rfl) rfl)
  have HR := Lib.hid hR; have HY := Lib.hid hY
  obtain ⟨Q, hQ⟩ : ∃ Q, aheadO rs at_ = Q := ⟨_, rfl⟩
  rw [hQ]
  unfold aheadO at hQ
  have hb2 := box2 w 2 113 #[.int .i64 at_] #[.int .i64 0, .int .i64 0, .int .i64 0, .string ⟨#[]⟩]
  obtain ⟨W, hW⟩ : ∃ W, (w.alloc (.cells #[.int .i64 at_] 2)).alloc (.cells #[.int .i64 0, .int .i64 0, .int .i64 0, .string ⟨#[]⟩] 113) = W := ⟨_, rfl⟩
  rw [hW] at hb2
  obtain ⟨b0, b1, hbw, hsz⟩ := hb2
  have HB0 := Lib.hid b0; have HB1 := Lib.hid b1; have HBw := Lib.hid hbw
  have c0 := b0.cell 0
  simp only [List.getElem?_toArray, List.getElem?_cons_zero] at c0
  generalize yearI at_ = y at *
  generalize hq : rulesB rs = q at *
  cases q
  · rw [if_neg (by decide)] at hQ
    subst hQ
    clear hL h hR hY b0 b1 hbw hq
    go_enter Tryz.func92, Tryz.ntmps92
    go_wp2_with (go_at_call 88; refine (HR.out _ HBw.out).mono ?_; rintro e w1 ⟨rfl, hb⟩; have hx1 := HB1.out.below hb HB1.out.lt; have f1 := fun i => hx1.frozen i; have c1 := fun i => hx1.cell i; have HX1 := Lib.hid hx1; have HBx := Lib.hid (HBw.out.trans (hb.mono HBw.out.size)); clear hb hx1)
    refine bodyPost_ret (ahead_results ((((HX1.out.set_ 0 (.int .i64 0)).set_ 1 (.int .i64 0)).set_ 2 (.int .i64 0)).set_ 3 (.string ⟨#[]⟩)) _ rfl rfl) rfl ?_
    exact ⟨rfl, ((((HBx.out.setCell (by simp) _).setCell (by simp) _).setCell (by simp) _).setCell (by simp) _)⟩
  · rw [if_pos rfl] at hQ
    rw [hQ] at hL
    have HL := Lib.hid (fun b z => hL b z rfl)
    clear hL h hR hY b0 b1 hbw hq hQ
    obtain ⟨B, hB⟩ : ∃ B : Turn, B = Q.getD noTurn := ⟨_, rfl⟩
    rw [← hB] at HL ⊢
    clear hB
    obtain ⟨t0, t1, t2, t3⟩ := B
    generalize Q.isSome = qs at *
    simp only [Turn.cells] at HL ⊢
    go_enter Tryz.func92, Tryz.ntmps92
    go_wp2_with (first
      | (go_at_call 88; refine (HR.out _ HBw.out).mono ?_; rintro e w1 ⟨rfl, hb⟩; have hx0 := HB0.out.below hb HB0.out.lt; have hx1 := HB1.out.below hb HB1.out.lt; have c1 := hx0.cell 0; simp only [List.getElem?_toArray, List.getElem?_cons_zero] at c1; have HX0 := Lib.hid hx0; have HX1 := Lib.hid hx1; have HBx := Lib.hid (HBw.out.trans (hb.mono HBw.out.size)); clear hb hx0 hx1)
      | (go_at_call 90; refine (HY.out _).mono ?_; rintro e w2 ⟨rfl, hb⟩; have hx0 := HX0.out.below hb HX0.out.lt; have hx1 := HX1.out.below hb HX1.out.lt; have HY0 := Lib.hid hx0; have HY1 := Lib.hid hx1; have HBy := Lib.hid (HBx.out.trans (hb.mono HBx.out.size)); clear hb hx0 hx1)
      | (go_at_call 89; refine (HL.out _ _ HBy.out (HY0.out.cell 0)).mono ?_; rintro e w3 ⟨rfl, hb⟩; have hx1 := HY1.out.below hb HY1.out.lt; have f3 := fun i => hx1.frozen i; have c3 := fun i => hx1.cell i; have HZ1 := Lib.hid hx1; have HBz := Lib.hid (HBy.out.trans (hb.mono HBy.out.size)); clear hb hx1))
    refine bodyPost_ret (ahead_results ((((HZ1.out.set_ 0 (.int .i64 t0)).set_ 1 (.int .i64 t1)).set_ 2 (.int .i64 t2)).set_ 3 (.string t3)) _ rfl rfl) rfl ?_
    exact ⟨rfl, ((((HBz.out.setCell (by simp) _).setCell (by simp) _).setCell (by simp) _).setCell (by simp) _)⟩
end Go.Proofs.YtdicedpklpadgaaGreatDoor.Ahd
