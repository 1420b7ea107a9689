/-
  A table that came in as an argument, opened. Conditions: the bound of the second form.
-/
import Derived.Test.YtdicedpklpadgaaGreatDoorY39
import Derived.Test.YtdicedpklpadgaaGreatDoorY20
import Derived.Test.YtdicedpklpadgaaGreatDoorTKR11Pc
set_option linter.all false
namespace Go.Proofs.YtdicedpklpadgaaGreatDoor.Opn
open Go.RowKit Go.WideShapes Go.ChangeShapes Mem Img

theorem phase_kinds : kinds Tryz.prog 4 30 = some [some (some .i64), some (some .i64), none] := by kernel_rfl
theorem shift_kinds : kinds Tryz.prog 4 83 = some [some (some .i64), some (some .i64), some (some .i64), none] := by kernel_rfl
theorem shift_of {r : List Value} {M : Nat} (h : fits [some (some .i64), some (some .i64), some (some .i64), none] r) (hM : letters r ≤ M) (hM2 : M ≤ 1048576) : ∃ s : Shift, r = s.cells ∧ PW s.ph ∧ In64 s.sec := by
  obtain ⟨_, _, rfl, ⟨a, rfl, wa⟩, _, _, rfl, ⟨b, rfl, wb⟩, _, _, rfl, ⟨c, rfl, wc⟩, _, _, rfl, ⟨s, rfl⟩, h⟩ := h
  simp only [fits] at h
  subst h
  simp only [letters] at hM
  exact ⟨⟨a, b, c, s⟩, rfl, ⟨in64_of wb, in64_of wc, by show s.size ≤ _; omega⟩, in64_of wa⟩
theorem cells_table : Tryz.prog.cellsOf 33 = 9 := by kernel_rfl
theorem cells_shift : Tryz.prog.cellsOf 83 = 4 := by kernel_rfl
theorem cells_phase : Tryz.prog.cellsOf 30 = 3 := by kernel_rfl
theorem cells_i64 : Tryz.prog.cellsOf 2 = 1 := by kernel_rfl
theorem cells_shifts : Tryz.prog.cellsOf 31 = 1 := by kernel_rfl
theorem list9 {l : List Value} (h : l.length = 9) : ∃ a b c d e f g i j, l = [a, b, c, d, e, f, g, i, j] := by
  match l, h with
  | [a, b, c, d, e, f, g, i, j], _ => exact ⟨a, b, c, d, e, f, g, i, j, rfl⟩
theorem sz_tl {H : Type} (s : ByteArray) : Rows.uptoBulk (DataW.lit (H := H) (.string s.data.toList)) = s.size + 1 := by simp [Rows.uptoBulk]
set_option maxRecDepth 100000 in
theorem open_tableI {H : Type} {enc : TypeId × Value → H} {W : World} {r : Reach} {b0 : Nat} {v : Value} {d : DataW H} {p : List MemPlace} (hval : Value.okWide Tryz.prog W r b0 33 v)
    (h : DataW.Trod enc Tryz.prog W 0 (fun _ => true) true 33 v d p) (hlt : ∀ q ∈ p, q.block < W.heap.size) (hb : Rows.uptoBulk d ≤ 1048576) :
    ∃ (x : Table) (A A2 : Option Addr) (c c2 : Nat), v = .agg (tabCells x A c A2 c2) ∧ TabOk x A A2 W ∧ In64 x.till ∧ ∀ s ∈ x.shifts, In64 s.sec := by
  obtain ⟨cs, rfl, hsz⟩ := okWide_struct Tryz.underlying33 hval
  obtain ⟨fuel, h⟩ := h
  obtain ⟨l⟩ := cs
  rw [cells_table] at hsz
  obtain ⟨v0, v1, v2, v3, v4, v5, v6, v7, v8, rfl⟩ := list9 hsz
  obtain ⟨xs, n, _, hx, _, hlen, hf⟩ := DataW.trod_struct Tryz.underlying33 h
  match xs, hlen with
  | [y0, y1, y2, y3, y4, y5, y6], _ =>
    simp only [Prod.mk.injEq, List.map_cons, List.map_nil, List.flatMap_cons, List.flatMap_nil] at hx
    obtain ⟨rfl, rfl⟩ := hx
    simp only [Rows.uptoBulk, Rows.uptoBulkAll] at hb
    have f0 : DataW.trod enc Tryz.prog W 0 (fun _ => true) true n 9 [v0] = some y0 := by
      have h1 := hf 0 _ rfl
      change DataW.trod enc Tryz.prog W 0 (fun _ => true) true n 9 ((List.drop 0 [v0, v1, v2, v3, v4, v5, v6, v7, v8]).take (Tryz.prog.cellsOf 9)) = some y0 at h1
      rw [cells_string] at h1
      exact h1
    have f1 : DataW.trod enc Tryz.prog W 0 (fun _ => true) true n 30 [v1, v2, v3] = some y1 := by
      have h1 := hf 1 _ rfl
      change DataW.trod enc Tryz.prog W 0 (fun _ => true) true n 30 ((List.drop 1 [v0, v1, v2, v3, v4, v5, v6, v7, v8]).take (Tryz.prog.cellsOf 30)) = some y1 at h1
      rw [cells_phase] at h1
      exact h1
    have f2 : DataW.trod enc Tryz.prog W 0 (fun _ => true) true n 31 [v4] = some y2 := by
      have h1 := hf 2 _ rfl
      change DataW.trod enc Tryz.prog W 0 (fun _ => true) true n 31 ((List.drop 4 [v0, v1, v2, v3, v4, v5, v6, v7, v8]).take (Tryz.prog.cellsOf 31)) = some y2 at h1
      rw [cells_shifts] at h1
      exact h1
    have f3 : DataW.trod enc Tryz.prog W 0 (fun _ => true) true n 2 [v5] = some y3 := by
      have h1 := hf 3 _ rfl
      change DataW.trod enc Tryz.prog W 0 (fun _ => true) true n 2 ((List.drop 5 [v0, v1, v2, v3, v4, v5, v6, v7, v8]).take (Tryz.prog.cellsOf 2)) = some y3 at h1
      rw [cells_i64] at h1
      exact h1
    have f4 : DataW.trod enc Tryz.prog W 0 (fun _ => true) true n 22 [v6] = some y4 := by
      have h1 := hf 4 _ rfl
      change DataW.trod enc Tryz.prog W 0 (fun _ => true) true n 22 ((List.drop 6 [v0, v1, v2, v3, v4, v5, v6, v7, v8]).take (Tryz.prog.cellsOf 22)) = some y4 at h1
      rw [cells_rules] at h1
      exact h1
    have f5 : DataW.trod enc Tryz.prog W 0 (fun _ => true) true n 3 [v7] = some y5 := by
      have h1 := hf 5 _ rfl
      change DataW.trod enc Tryz.prog W 0 (fun _ => true) true n 3 ((List.drop 7 [v0, v1, v2, v3, v4, v5, v6, v7, v8]).take (Tryz.prog.cellsOf 3)) = some y5 at h1
      rw [cells_int] at h1
      exact h1
    have f6 : DataW.trod enc Tryz.prog W 0 (fun _ => true) true n 9 [v8] = some y6 := by
      have h1 := hf 6 _ rfl
      change DataW.trod enc Tryz.prog W 0 (fun _ => true) true n 9 ((List.drop 8 [v0, v1, v2, v3, v4, v5, v6, v7, v8]).take (Tryz.prog.cellsOf 9)) = some y6 at h1
      rw [cells_string] at h1
      exact h1
    clear hf
    obtain ⟨name, e0, rfl, _⟩ := DataW.trod_string Tryz.underlying9 f0
    obtain ⟨k1, l1, _⟩ := kinds_trod 4 _ _ _ _ _ phase_kinds f1
    obtain ⟨_, _, e1, ⟨fo, rfl, w1⟩, _, _, rfl, ⟨fs, rfl, w2⟩, _, _, rfl, ⟨fa, rfl⟩, k1⟩ := k1
    simp only [fits] at k1
    subst k1
    simp only [List.cons.injEq, and_true] at e1
    obtain ⟨rfl, rfl, rfl⟩ := e1
    simp only [letters] at l1
    obtain ⟨A, c, rows, rfl, n2, r2, q2⟩ := open_flat 4 Tryz.underlying31 shift_kinds cells_shift (by decide) f2 (B := W.heap.size) fun q hq => hlt q (by simp [hq])
    obtain ⟨ss, g1, g2, g3⟩ := rows_of Shift.cells (fun s => PW s.ph ∧ In64 s.sec) rows fun r hr => shift_of (q2 r hr).1 (q2 r hr).2 (by omega)
    obtain ⟨till, e3, rfl, w3⟩ := DataW.trod_int Tryz.underlying2 f3
    obtain ⟨A2, c2, rows2, rfl, n4, r4, q4⟩ := open_flat 4 Tryz.underlying22 rule_kinds cells_rule (by decide) f4 (B := W.heap.size) fun q hq => hlt q (by simp [hq])
    obtain ⟨rs, g4, g5, g6⟩ := rows_of Rule.cells (fun s => s.name.size ≤ 2097152 ∧ s.letter.size ≤ 2097152) rows2 fun r hr => rule_of (q4 r hr).1 (q4 r hr).2 (by omega)
    obtain ⟨off, e5, rfl, _⟩ := DataW.trod_int Tryz.underlying3 f5
    obtain ⟨format, e6, rfl, _⟩ := DataW.trod_string Tryz.underlying9 f6
    simp only [List.cons.injEq, and_true] at e0 e3 e5 e6
    subst e0 e3 e5 e6
    rw [g1, g2] at r2
    rw [g4, g5] at r4
    simp only [sz_tl] at hb
    simp only [List.length_cons, List.length_nil, g2, g5] at n2 n4
    exact ⟨⟨name, ⟨fo, fs, fa⟩, ss, till, rs, off, format⟩, A, A2, c, c2, by rw [g2, g5]; rfl, ⟨r2, r4, by show ss.length ≤ _; omega, by show rs.length ≤ _; omega, by show name.size ≤ _; omega, by show format.size ≤ _; omega,
      ⟨in64_of w1, in64_of w2, by show fa.size ≤ _; omega⟩, fun s hs => (g3 s hs).1, g6⟩, in64_of w3, fun s hs => (g3 s hs).2⟩
set_option maxRecDepth 100000 in
theorem open_table {H : Type} {enc : TypeId × Value → H} {W : World} {r : Reach} {b0 : Nat} {v : Value} {d : DataW H} {p : List MemPlace} (hval : Value.okWide Tryz.prog W r b0 33 v)
    (h : DataW.Trod enc Tryz.prog W 0 (fun _ => true) true 33 v d p) (hlt : ∀ q ∈ p, q.block < W.heap.size) (hb : Rows.uptoBulk d ≤ 1048576) :
    ∃ (x : Table) (A A2 : Option Addr) (c c2 : Nat), v = .agg (tabCells x A c A2 c2) ∧ TabOk x A A2 W := by
  obtain ⟨x, A, A2, c, c2, h1, h2, _⟩ := open_tableI hval h hlt hb
  exact ⟨x, A, A2, c, c2, h1, h2⟩
end Go.Proofs.YtdicedpklpadgaaGreatDoor.Opn
