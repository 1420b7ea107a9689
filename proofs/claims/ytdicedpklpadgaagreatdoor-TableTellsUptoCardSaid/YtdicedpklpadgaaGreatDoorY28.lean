/-
  table.Same: the contract; slices.Equal at shifts and at rules. Conditions: what the tables' slices hold is read, their lengths are bounded.
-/
import Derived.Test.YtdicedpklpadgaaGreatDoorY20
import Derived.Test.YtdicedpklpadgaaGreatDoorY01
import Derived.WalkLawsBesides
set_option linter.all false
namespace Go.Proofs.YtdicedpklpadgaaGreatDoor.Sam
open Go.RowKit Mem Img

theorem tl_inj (a b : ByteArray) : a.toList = b.toList ↔ a = b := by
  constructor
  · intro e
    by_cases h : a = b
    · exact h
    · rw [ByteArray.toList_eq, ByteArray.toList_eq] at e
      exact absurd (by obtain ⟨x⟩ := a; obtain ⟨y⟩ := b; simp at e; rw [e]) h
  · rintro rfl; rfl
theorem eq_shift (a b : Shift) (w : World) : (Op.equalIn 10000 83 (.agg a.cells.toArray) (.agg b.cells.toArray)).run Tryz.prog w = .ok (decide (a = b)) w := by
  obtain ⟨a1, a2, a3, a4⟩ := a
  obtain ⟨b1, b2, b3, b4⟩ := b
  simp [Shift.cells, go_sem, tl_inj]
  repeat (split; skip)
  all_goals simp_all
theorem eq_rule (a b : Rule) (w : World) : (Op.equalIn 10000 59 (.agg a.cells.toArray) (.agg b.cells.toArray)).run Tryz.prog w = .ok (decide (a = b)) w := by
  cases a
  cases b
  simp [Rule.cells, go_sem, tl_inj]
  repeat (split; skip)
  all_goals simp_all
theorem take_eq {α : Type} {l m : List α} {k : Nat} (hl : k < l.length) (hm : k < m.length) (h : l.take k = m.take k) (e : l[k] = m[k]) : l.take (k + 1) = m.take (k + 1) := by
  rw [List.take_succ_eq_append_getElem hl, List.take_succ_eq_append_getElem hm, h, e]
theorem ne_of_get {α : Type} {l m : List α} {k : Nat} (hl : k < l.length) (hm : k < m.length) (e : l[k] ≠ m[k]) : l ≠ m := by
  rintro rfl; exact e rfl

set_option maxHeartbeats 1000000 in
set_option maxRecDepth 100000 in
theorem equal_shifts (ss ts : List Shift) (A A' : Option Addr) (B B' c c' : Nat) (w : World) (h : Reads w B 4 A ss.length (ss.flatMap Shift.cells)) (h' : Reads w B' 4 A' ts.length (ts.flatMap Shift.cells)) (hn : ss.length ≤ 1000000) :
    Calls Tryz.prog 52 #[.slice A ss.length c, .slice A' ts.length c'] w fun e w' => e = .returned (.bool (decide (ss = ts))) ∧ ∃ n, w' = w.drewN n := by
  have H := Lib.hid h; have H' := Lib.hid h'; clear h h'
  obtain ⟨q, hq⟩ : ∃ q, decide (ss = ts) = q := ⟨_, rfl⟩
  rw [hq]
  have Hq := Lib.hid hq; clear hq
  go_enter Tryz.func52, Tryz.ntmps52
  by_cases hlen : ss.length = ts.length
  · have Hl := Lib.hid hlen
    rw [← hlen]
    clear hlen
    go_wp2
    go_loopw [13] (fun i wr => ∃ k n : Nat, k ≤ ss.length ∧ i = .int .i64 k ∧ ss.take k = ts.take k ∧ wr = w.drewN n) (fun i _ => ss.length - (intOf i).toNat)
    case atStart => exact ⟨0, 0, Nat.zero_le _, rfl, rfl, rfl⟩
    case round =>
      obtain ⟨k, n, hk, rfl, htk, rfl⟩ := hrel
      have Htk := Lib.hid htk; clear htk
      by_cases hkn : k < ss.length
      · have hkt : k < ts.length := by rw [← Hl.out]; exact hkn
        obtain ⟨ad, rfl, _, a0, a1, a2, a3⟩ := shift_at H.out hkn
        obtain ⟨ad', rfl, _, b0, b1, b2, b3⟩ := shift_at H'.out hkt
        cases hd : decide (ss[k] = ts[k])
        · have hne := ne_of_get hkn hkt (by simpa using hd)
          have hnd : decide (ss = ts) = false := by simpa using hne
          have Hnd := Lib.hid hnd
          clear hne hnd
          have heq := eq_shift ss[k] ts[k]
          rw [hd] at heq
          clear hd
          simp only [Shift.cells] at heq
          generalize ss[k] = s at *
          generalize ts[k] = t at *
          go_wp2_with fail
          go_quiet (fail)
          go_wp2_with fail
          go_ret
          exact ⟨by rw [← Hq.out, Hnd.out]; rfl, n + nq, by rw [World.drewN_drewN]⟩
        · have Hst := Lib.hid (take_eq hkn hkt Htk.out (by simpa using hd))
          have heq := eq_shift ss[k] ts[k]
          rw [hd] at heq
          clear hd
          simp only [Shift.cells] at heq
          generalize ss[k] = s at *
          generalize ts[k] = t at *
          go_wp2_with fail
          go_quiet (fail)
          go_wp2_with fail
          exact ⟨⟨k + 1, n + nq, by omega, by go_num, Hst.out, rfl⟩, by simp [intOf]; omega⟩
      · obtain rfl : k = ss.length := by omega
        have e := Htk.out
        rw [List.take_length, List.take_of_length_le (by rw [Hl.out]; exact Nat.le_refl _)] at e
        have hnd : decide (ss = ts) = true := by simpa using e
        have Hnd := Lib.hid hnd
        clear hnd e Htk
        go_wp2
        go_ret
        exact ⟨by rw [← Hq.out, Hnd.out]; rfl, n, rfl⟩
  · have hnd : decide (ss = ts) = false := by simpa using fun e : ss = ts => hlen (congrArg List.length e)
    have Hnd := Lib.hid hnd
    have hne : (((ss.length : Nat) : Int) == ts.length) = false := by simpa using fun e : ((ss.length : Nat) : Int) = ts.length => hlen (by omega)
    clear hnd
    go_wp2
    go_ret
    exact ⟨by rw [← Hq.out, Hnd.out]; rfl, 0, rfl⟩
set_option maxHeartbeats 1000000 in
set_option maxRecDepth 100000 in
theorem equal_rules (ss ts : List Rule) (A A' : Option Addr) (B B' c c' : Nat) (w : World) (h : Reads w B 11 A ss.length (ss.flatMap Rule.cells)) (h' : Reads w B' 11 A' ts.length (ts.flatMap Rule.cells)) (hn : ss.length ≤ 1000000) :
    Calls Tryz.prog 53 #[.slice A ss.length c, .slice A' ts.length c'] w fun e w' => e = .returned (.bool (decide (ss = ts))) ∧ ∃ n, w' = w.drewN n := by
  have H := Lib.hid h; have H' := Lib.hid h'; clear h h'
  obtain ⟨q, hq⟩ : ∃ q, decide (ss = ts) = q := ⟨_, rfl⟩
  rw [hq]
  have Hq := Lib.hid hq; clear hq
  go_enter Tryz.func53, Tryz.ntmps53
  by_cases hlen : ss.length = ts.length
  · have Hl := Lib.hid hlen
    rw [← hlen]
    clear hlen
    go_wp2
    go_loopw [13] (fun i wr => ∃ k n : Nat, k ≤ ss.length ∧ i = .int .i64 k ∧ ss.take k = ts.take k ∧ wr = w.drewN n) (fun i _ => ss.length - (intOf i).toNat)
    case atStart => exact ⟨0, 0, Nat.zero_le _, rfl, rfl, rfl⟩
    case round =>
      obtain ⟨k, n, hk, rfl, htk, rfl⟩ := hrel
      have Htk := Lib.hid htk; clear htk
      by_cases hkn : k < ss.length
      · have hkt : k < ts.length := by rw [← Hl.out]; exact hkn
        obtain ⟨ad, rfl, _, a0, ac⟩ := rule_at H.out hkn
        obtain ⟨ad', rfl, _, b0, bc⟩ := rule_at H'.out hkt
        cases hd : decide (ss[k] = ts[k])
        · have hne := ne_of_get hkn hkt (by simpa using hd)
          have hnd : decide (ss = ts) = false := by simpa using hne
          have Hnd := Lib.hid hnd
          clear hne hnd
          have heq := eq_rule ss[k] ts[k]
          rw [hd] at heq
          clear hd
          simp only [Rule.cells] at heq
          generalize ss[k] = s at *
          generalize ts[k] = t at *
          obtain ⟨s0, s1, s2, s3, s4, s5, s6, s7, s8, s9, s10⟩ := s
          obtain ⟨t0, t1, t2, t3, t4, t5, t6, t7, t8, t9, t10⟩ := t
          have a1 : w.cell? ⟨(ad.add (k * 11)).block, (ad.add (k * 11)).off + 1, none⟩ = some (.int .i64 s1) := ac 1 (by omega) (by omega)
          have a2 : w.cell? ⟨(ad.add (k * 11)).block, (ad.add (k * 11)).off + 2, none⟩ = some (.int .i64 s2) := ac 2 (by omega) (by omega)
          have a3 : w.cell? ⟨(ad.add (k * 11)).block, (ad.add (k * 11)).off + 3, none⟩ = some (.int .i64 s3) := ac 3 (by omega) (by omega)
          have a4 : w.cell? ⟨(ad.add (k * 11)).block, (ad.add (k * 11)).off + 4, none⟩ = some (.int .i64 s4) := ac 4 (by omega) (by omega)
          have a5 : w.cell? ⟨(ad.add (k * 11)).block, (ad.add (k * 11)).off + 5, none⟩ = some (.int .i64 s5) := ac 5 (by omega) (by omega)
          have a6 : w.cell? ⟨(ad.add (k * 11)).block, (ad.add (k * 11)).off + 6, none⟩ = some (.int .i64 s6) := ac 6 (by omega) (by omega)
          have a7 : w.cell? ⟨(ad.add (k * 11)).block, (ad.add (k * 11)).off + 7, none⟩ = some (.int .i64 s7) := ac 7 (by omega) (by omega)
          have a8 : w.cell? ⟨(ad.add (k * 11)).block, (ad.add (k * 11)).off + 8, none⟩ = some (.int .i64 s8) := ac 8 (by omega) (by omega)
          have a9 : w.cell? ⟨(ad.add (k * 11)).block, (ad.add (k * 11)).off + 9, none⟩ = some (.int .i64 s9) := ac 9 (by omega) (by omega)
          have a10 : w.cell? ⟨(ad.add (k * 11)).block, (ad.add (k * 11)).off + 10, none⟩ = some (.string s10) := ac 10 (by omega) (by omega)
          have b1 : w.cell? ⟨(ad'.add (k * 11)).block, (ad'.add (k * 11)).off + 1, none⟩ = some (.int .i64 t1) := bc 1 (by omega) (by omega)
          have b2 : w.cell? ⟨(ad'.add (k * 11)).block, (ad'.add (k * 11)).off + 2, none⟩ = some (.int .i64 t2) := bc 2 (by omega) (by omega)
          have b3 : w.cell? ⟨(ad'.add (k * 11)).block, (ad'.add (k * 11)).off + 3, none⟩ = some (.int .i64 t3) := bc 3 (by omega) (by omega)
          have b4 : w.cell? ⟨(ad'.add (k * 11)).block, (ad'.add (k * 11)).off + 4, none⟩ = some (.int .i64 t4) := bc 4 (by omega) (by omega)
          have b5 : w.cell? ⟨(ad'.add (k * 11)).block, (ad'.add (k * 11)).off + 5, none⟩ = some (.int .i64 t5) := bc 5 (by omega) (by omega)
          have b6 : w.cell? ⟨(ad'.add (k * 11)).block, (ad'.add (k * 11)).off + 6, none⟩ = some (.int .i64 t6) := bc 6 (by omega) (by omega)
          have b7 : w.cell? ⟨(ad'.add (k * 11)).block, (ad'.add (k * 11)).off + 7, none⟩ = some (.int .i64 t7) := bc 7 (by omega) (by omega)
          have b8 : w.cell? ⟨(ad'.add (k * 11)).block, (ad'.add (k * 11)).off + 8, none⟩ = some (.int .i64 t8) := bc 8 (by omega) (by omega)
          have b9 : w.cell? ⟨(ad'.add (k * 11)).block, (ad'.add (k * 11)).off + 9, none⟩ = some (.int .i64 t9) := bc 9 (by omega) (by omega)
          have b10 : w.cell? ⟨(ad'.add (k * 11)).block, (ad'.add (k * 11)).off + 10, none⟩ = some (.string t10) := bc 10 (by omega) (by omega)
          clear ac bc
          go_wp2_with fail
          go_quiet (fail)
          go_wp2_with fail
          go_ret
          exact ⟨by rw [← Hq.out, Hnd.out]; rfl, n + nq, by rw [World.drewN_drewN]⟩
        · have Hst := Lib.hid (take_eq hkn hkt Htk.out (by simpa using hd))
          have heq := eq_rule ss[k] ts[k]
          rw [hd] at heq
          clear hd
          simp only [Rule.cells] at heq
          generalize ss[k] = s at *
          generalize ts[k] = t at *
          obtain ⟨s0, s1, s2, s3, s4, s5, s6, s7, s8, s9, s10⟩ := s
          obtain ⟨t0, t1, t2, t3, t4, t5, t6, t7, t8, t9, t10⟩ := t
          have a1 : w.cell? ⟨(ad.add (k * 11)).block, (ad.add (k * 11)).off + 1, none⟩ = some (.int .i64 s1) := ac 1 (by omega) (by omega)
          have a2 : w.cell? ⟨(ad.add (k * 11)).block, (ad.add (k * 11)).off + 2, none⟩ = some (.int .i64 s2) := ac 2 (by omega) (by omega)
          have a3 : w.cell? ⟨(ad.add (k * 11)).block, (ad.add (k * 11)).off + 3, none⟩ = some (.int .i64 s3) := ac 3 (by omega) (by omega)
          have a4 : w.cell? ⟨(ad.add (k * 11)).block, (ad.add (k * 11)).off + 4, none⟩ = some (.int .i64 s4) := ac 4 (by omega) (by omega)
          have a5 : w.cell? ⟨(ad.add (k * 11)).block, (ad.add (k * 11)).off + 5, none⟩ = some (.int .i64 s5) := ac 5 (by omega) (by omega)
          have a6 : w.cell? ⟨(ad.add (k * 11)).block, (ad.add (k * 11)).off + 6, none⟩ = some (.int .i64 s6) := ac 6 (by omega) (by omega)
          have a7 : w.cell? ⟨(ad.add (k * 11)).block, (ad.add (k * 11)).off + 7, none⟩ = some (.int .i64 s7) := ac 7 (by omega) (by omega)
          have a8 : w.cell? ⟨(ad.add (k * 11)).block, (ad.add (k * 11)).off + 8, none⟩ = some (.int .i64 s8) := ac 8 (by omega) (by omega)
          have a9 : w.cell? ⟨(ad.add (k * 11)).block, (ad.add (k * 11)).off + 9, none⟩ = some (.int .i64 s9) := ac 9 (by omega) (by omega)
          have a10 : w.cell? ⟨(ad.add (k * 11)).block, (ad.add (k * 11)).off + 10, none⟩ = some (.string s10) := ac 10 (by omega) (by omega)
          have b1 : w.cell? ⟨(ad'.add (k * 11)).block, (ad'.add (k * 11)).off + 1, none⟩ = some (.int .i64 t1) := bc 1 (by omega) (by omega)
          have b2 : w.cell? ⟨(ad'.add (k * 11)).block, (ad'.add (k * 11)).off + 2, none⟩ = some (.int .i64 t2) := bc 2 (by omega) (by omega)
          have b3 : w.cell? ⟨(ad'.add (k * 11)).block, (ad'.add (k * 11)).off + 3, none⟩ = some (.int .i64 t3) := bc 3 (by omega) (by omega)
          have b4 : w.cell? ⟨(ad'.add (k * 11)).block, (ad'.add (k * 11)).off + 4, none⟩ = some (.int .i64 t4) := bc 4 (by omega) (by omega)
          have b5 : w.cell? ⟨(ad'.add (k * 11)).block, (ad'.add (k * 11)).off + 5, none⟩ = some (.int .i64 t5) := bc 5 (by omega) (by omega)
          have b6 : w.cell? ⟨(ad'.add (k * 11)).block, (ad'.add (k * 11)).off + 6, none⟩ = some (.int .i64 t6) := bc 6 (by omega) (by omega)
          have b7 : w.cell? ⟨(ad'.add (k * 11)).block, (ad'.add (k * 11)).off + 7, none⟩ = some (.int .i64 t7) := bc 7 (by omega) (by omega)
          have b8 : w.cell? ⟨(ad'.add (k * 11)).block, (ad'.add (k * 11)).off + 8, none⟩ = some (.int .i64 t8) := bc 8 (by omega) (by omega)
          have b9 : w.cell? ⟨(ad'.add (k * 11)).block, (ad'.add (k * 11)).off + 9, none⟩ = some (.int .i64 t9) := bc 9 (by omega) (by omega)
          have b10 : w.cell? ⟨(ad'.add (k * 11)).block, (ad'.add (k * 11)).off + 10, none⟩ = some (.string t10) := bc 10 (by omega) (by omega)
          clear ac bc
          go_wp2_with fail
          go_quiet (fail)
          go_wp2_with fail
          exact ⟨⟨k + 1, n + nq, by omega, by go_num, Hst.out, rfl⟩, by simp [intOf]; omega⟩
      · obtain rfl : k = ss.length := by omega
        have e := Htk.out
        rw [List.take_length, List.take_of_length_le (by rw [Hl.out]; exact Nat.le_refl _)] at e
        have hnd : decide (ss = ts) = true := by simpa using e
        have Hnd := Lib.hid hnd
        clear hnd e Htk
        go_wp2
        go_ret
        exact ⟨by rw [← Hq.out, Hnd.out]; rfl, n, rfl⟩
  · have hnd : decide (ss = ts) = false := by simpa using fun e : ss = ts => hlen (congrArg List.length e)
    have Hnd := Lib.hid hnd
    have hne : (((ss.length : Nat) : Int) == ts.length) = false := by simpa using fun e : ((ss.length : Nat) : Int) = ts.length => hlen (by omega)
    clear hnd
    go_wp2
    go_ret
    exact ⟨by rw [← Hq.out, Hnd.out]; rfl, 0, rfl⟩

theorem below_dr {B : Nat} {a w : World} {n : Nat} (h : Below B a w) : Below B a (w.drewN n) := ⟨h.os, h.tape, h.output, h.size, h.block⟩
theorem bools7 (a b c d e f g : Bool) : a = false ∨ (a = true ∧ b = false) ∨ (a = true ∧ b = true ∧ c = false) ∨ (a = true ∧ b = true ∧ c = true ∧ d = false) ∨ (a = true ∧ b = true ∧ c = true ∧ d = true ∧ e = false) ∨ (a = true ∧ b = true ∧ c = true ∧ d = true ∧ e = true ∧ f = false) ∨
    (a = true ∧ b = true ∧ c = true ∧ d = true ∧ e = true ∧ f = true ∧ g = false) ∨ (a = true ∧ b = true ∧ c = true ∧ d = true ∧ e = true ∧ f = true ∧ g = true) := by
  cases a <;> cases b <;> cases c <;> cases d <;> cases e <;> cases f <;> cases g <;> simp
theorem eq_phase (a b : Phase) (w : World) : (Op.equalIn 10000 30 (.agg a.cells.toArray) (.agg b.cells.toArray)).run Tryz.prog w = .ok (decide (a = b)) w := by
  obtain ⟨a1, a2, a3⟩ := a
  obtain ⟨b1, b2, b3⟩ := b
  simp [Phase.cells, go_sem, tl_inj]
  repeat (split; skip)
  all_goals simp_all
theorem tab_eq (x y : Table) : decide (x = y) = (decide (x.name = y.name) && decide (x.first = y.first) && decide (x.till = y.till) && decide (x.off = y.off) && decide (x.format = y.format) && decide (x.shifts = y.shifts) && decide (x.tail = y.tail)) := by
  obtain ⟨a1, a2, a3, a4, a5, a6, a7⟩ := x
  obtain ⟨b1, b2, b3, b4, b5, b6, b7⟩ := y
  rw [← Bool.decide_and, ← Bool.decide_and, ← Bool.decide_and, ← Bool.decide_and, ← Bool.decide_and, ← Bool.decide_and]
  congr 1
  simp only [Table.mk.injEq, eq_iff_iff]
  constructor
  · rintro ⟨h1, h2, h3, h4, h5, h6, h7⟩; exact ⟨⟨⟨⟨⟨⟨h1, h2⟩, h4⟩, h6⟩, h7⟩, h3⟩, h5⟩
  · rintro ⟨⟨⟨⟨⟨⟨h1, h2⟩, h4⟩, h6⟩, h7⟩, h3⟩, h5⟩; exact ⟨h1, h2, h3, h4, h5, h6, h7⟩
theorem tl_beq (a b : ByteArray) : (a.toList == b.toList) = decide (a = b) := by
  rw [Bool.eq_iff_iff]
  simp [tl_inj]
theorem int_beq (a b : Int) : (a == b) = decide (a = b) := by
  rw [Bool.eq_iff_iff]
  simp

set_option maxHeartbeats 4000000 in
set_option maxRecDepth 100000 in
theorem same_any (x y : Table) (A A2 A' A2' : Option Addr) (c c2 c' c2' : Nat) (w : World) (hx : TabOk x A A2 w) (hy : TabOk y A' A2' w) :
    Calls Tryz.prog 19 #[.agg (tabCells x A c A2 c2), .agg (tabCells y A' c' A2' c2')] w fun e w' => e = .returned (.bool (decide (x = y))) ∧ Below w.heap.size w w' := by
  rw [tab_eq]
  simp only [tabCells]
  have hb2 := box2 w 33 33 #[.string x.name, .int .i64 x.first.off, .int .i64 x.first.save, .string x.first.abbr, .slice A x.shifts.length c, .int .i64 x.till, .slice A2 x.tail.length c2, .int .i64 x.off, .string x.format] #[.string y.name, .int .i64 y.first.off, .int .i64 y.first.save, .string y.first.abbr, .slice A' y.shifts.length c', .int .i64 y.till, .slice A2' y.tail.length c2', .int .i64 y.off, .string y.format]
  have HX := Lib.hid hx; have HY := Lib.hid hy; clear hx hy
  have h1 := tl_beq x.name y.name
  have h2 := eq_phase x.first y.first
  simp only [Phase.cells] at h2
  have h3 := int_beq x.till y.till
  have h4 := int_beq x.off y.off
  have h5 := tl_beq x.format y.format
  obtain ⟨W, hW⟩ : ∃ W, (w.alloc (.cells #[.string x.name, .int .i64 x.first.off, .int .i64 x.first.save, .string x.first.abbr, .slice A x.shifts.length c, .int .i64 x.till, .slice A2 x.tail.length c2, .int .i64 x.off, .string x.format] 33)).alloc (.cells #[.string y.name, .int .i64 y.first.off, .int .i64 y.first.save, .string y.first.abbr, .slice A' y.shifts.length c', .int .i64 y.till, .slice A2' y.tail.length c2', .int .i64 y.off, .string y.format] 33) = W := ⟨_, rfl⟩
  rw [hW] at hb2
  obtain ⟨bx, by_, hbw, hz⟩ := hb2
  have cx := fun i => bx.cell i
  have cy := fun i => by_.cell i
  have rsx := Lib.hid (HX.out.below hbw).rs
  have rtx := Lib.hid (HX.out.below hbw).rt
  have rsy := Lib.hid (HY.out.below hbw).rs
  have rty := Lib.hid (HY.out.below hbw).rt
  have HB := Lib.hid hbw
  clear bx by_ hbw
  have n1 := HX.out.ns
  have n2 := HX.out.nt
  have E6 : Hid (∃ d, d = decide (x.shifts = y.shifts)) := ⟨_, rfl⟩
  have E7 : Hid (∃ d, d = decide (x.tail = y.tail)) := ⟨_, rfl⟩
  obtain ⟨d6, e6⟩ := E6.out
  obtain ⟨d7, e7⟩ := E7.out
  rw [← e6, ← e7]
  have F6 := Lib.hid e6
  have F7 := Lib.hid e7
  clear e6 e7 E6 E7
  go_enter Tryz.func19, Tryz.ntmps19
  generalize decide (x.name = y.name) = d1 at *
  generalize decide (x.first = y.first) = d2 at *
  generalize decide (x.till = y.till) = d3 at *
  generalize decide (x.off = y.off) = d4 at *
  generalize decide (x.format = y.format) = d5 at *
  rcases bools7 d1 d2 d3 d4 d5 d6 d7 with rfl | ⟨rfl, rfl⟩ | ⟨rfl, rfl, rfl⟩ | ⟨rfl, rfl, rfl, rfl⟩ | ⟨rfl, rfl, rfl, rfl, rfl⟩ | ⟨rfl, rfl, rfl, rfl, rfl, rfl⟩ | ⟨rfl, rfl, rfl, rfl, rfl, rfl, rfl⟩ | ⟨rfl, rfl, rfl, rfl, rfl, rfl, rfl⟩
  all_goals
    go_wp2_with (first
      | (go_at_call 52; refine (equal_shifts x.shifts y.shifts A A' _ _ c c' _ rsx.out rsy.out n1).mono ?_; rintro e w1 ⟨he, n, rfl⟩; rw [← F6.out] at he; obtain rfl := he)
      | (go_at_call 53; refine (equal_rules x.tail y.tail A2 A2' _ _ c2 c2' _ (rtx.out.drewN _) (rty.out.drewN _) n2).mono ?_; rintro e w1 ⟨he, n', rfl⟩; rw [← F7.out] at he; obtain rfl := he))
    go_ret
    first
      | exact ⟨rfl, HB.out⟩
      | exact ⟨rfl, below_dr HB.out⟩
      | exact ⟨rfl, below_dr (below_dr HB.out)⟩
end Go.Proofs.YtdicedpklpadgaaGreatDoor.Sam
