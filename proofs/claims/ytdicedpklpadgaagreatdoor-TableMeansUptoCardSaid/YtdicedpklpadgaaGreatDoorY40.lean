/-
  A source that came in as an argument, opened. Conditions: the bound of the second form.
-/
import Derived.Test.YtdicedpklpadgaaGreatDoorY39
import Derived.Test.YtdicedpklpadgaaGreatDoorY12
set_option linter.all false
namespace Go.Proofs.YtdicedpklpadgaaGreatDoor.Opn
open Go.RowKit Go.WideShapes Go.ChangeShapes Mem Img Mom Rul Src

theorem size_tl {H : Type} (s : ByteArray) : Rows.uptoBulk (DataW.lit (H := H) (.string s.data.toList)) = s.size + 1 := by simp [Rows.uptoBulk]
theorem era_kinds : kinds Tryz.prog 4 57 = some [some (some .i64), some (some .i64), some (some .i64), none, none, some none, some (some .i64), some (some .i64), some (some .i64), some (some .i64), some (some .i64), some (some .i64), some (some .i64)] := by kernel_rfl
theorem era_of {r : List Value} {M : Nat} (h : fits [some (some .i64), some (some .i64), some (some .i64), none, none, some none, some (some .i64), some (some .i64), some (some .i64), some (some .i64), some (some .i64), some (some .i64), some (some .i64)] r) (hM : letters r ≤ M) (hM2 : M ≤ 1048576) :
    ∃ s : Era, r = s.cells ∧ s.rules.size ≤ 2097152 ∧ s.format.size ≤ 2097152 := by
  obtain ⟨_, _, rfl, ⟨a0, rfl, w0⟩, _, _, rfl, ⟨a1, rfl, w1⟩, _, _, rfl, ⟨a2, rfl, w2⟩, _, _, rfl, ⟨s3, rfl⟩, _, _, rfl, ⟨s4, rfl⟩, _, _, rfl, ⟨b5, rfl⟩, h⟩ := h
  obtain ⟨_, _, rfl, ⟨a6, rfl, w6⟩, _, _, rfl, ⟨a7, rfl, w7⟩, _, _, rfl, ⟨a8, rfl, w8⟩, _, _, rfl, ⟨a9, rfl, w9⟩, _, _, rfl, ⟨a10, rfl, w10⟩, _, _, rfl, ⟨a11, rfl, w11⟩, _, _, rfl, ⟨a12, rfl, w12⟩, h⟩ := h
  simp only [fits] at h
  subst h
  simp only [letters] at hM
  exact ⟨⟨a0, a1, a2, s3, s4, b5, a6, ⟨a7, a8, a9, a10, a11, a12⟩⟩, rfl, by show s3.size ≤ _; omega, by show s4.size ≤ _; omega⟩
theorem link_kinds : kinds Tryz.prog 4 142 = some [none, none] := by kernel_rfl
theorem link_of {r : List Value} {M : Nat} (h : fits [none, none] r) (hM : letters r ≤ M) (hM2 : M ≤ 1048576) : ∃ s : Link, r = s.cells ∧ s.target.size ≤ 2097152 ∧ s.name.size ≤ 2097152 := by
  obtain ⟨_, _, rfl, ⟨a, rfl⟩, _, _, rfl, ⟨b, rfl⟩, h⟩ := h
  simp only [fits] at h
  subst h
  simp only [letters] at hM
  exact ⟨⟨a, b⟩, rfl, by show a.size ≤ _; omega, by show b.size ≤ _; omega⟩
theorem cells_source : Tryz.prog.cellsOf 26 = 3 := by kernel_rfl
theorem cells_zone : Tryz.prog.cellsOf 49 = 2 := by kernel_rfl
theorem cells_era : Tryz.prog.cellsOf 57 = 13 := by kernel_rfl
theorem cells_link : Tryz.prog.cellsOf 142 = 2 := by kernel_rfl
theorem cells_zones : Tryz.prog.cellsOf 23 = 1 := by kernel_rfl
theorem cells_links : Tryz.prog.cellsOf 24 = 1 := by kernel_rfl
theorem cells_eras : Tryz.prog.cellsOf 47 = 1 := by kernel_rfl
theorem list3 {l : List Value} (h : l.length = 3) : ∃ a b c, l = [a, b, c] := by
  match l, h with
  | [a, b, c], _ => exact ⟨a, b, c, rfl⟩
theorem list2 {l : List Value} (h : l.length = 2) : ∃ a b, l = [a, b] := by
  match l, h with
  | [a, b], _ => exact ⟨a, b, rfl⟩
section
variable {H : Type} {enc : TypeId × Value → H} {W : World}
theorem zone_bulk {r : List Value} {n : Nat} {y : DataW H × List MemPlace} (h : DataW.trod enc Tryz.prog W 0 (fun _ => true) true n 49 r = some y) : 2 ≤ Rows.uptoBulk y.1 := by
  obtain ⟨xs, n, _, hx, _, hlen, hf⟩ := DataW.trod_struct Tryz.underlying49 h
  match xs, hlen with
  | [y0, y1], _ =>
    obtain ⟨y1', y2'⟩ := y
    simp only [Prod.mk.injEq, List.map_cons, List.map_nil, List.flatMap_cons, List.flatMap_nil] at hx
    obtain ⟨rfl, rfl⟩ := hx
    have := one_le y0.1
    simp only [Rows.uptoBulk, Rows.uptoBulkAll]
    omega
/-- A zone's row of cells, opened. -/
theorem zone_of {r : List Value} {n : Nat} {y : DataW H × List MemPlace} (h : DataW.trod enc Tryz.prog W 0 (fun _ => true) true n 49 r = some y) (hr : r.length = 2) (hlt : ∀ p ∈ y.2, p.block < W.heap.size) (hb : Rows.uptoBulk y.1 ≤ 1048576) :
    ∃ z : ZoneM, r = z.cells ∧ Reads W W.heap.size 13 z.A z.eras.length (z.eras.flatMap Era.cells) ∧ z.eras.length ≤ 1000000 ∧ z.name.size ≤ 2097152 ∧ ∀ e ∈ z.eras, e.rules.size ≤ 2097152 ∧ e.format.size ≤ 2097152 := by
  obtain ⟨v0, v1, rfl⟩ := list2 hr
  obtain ⟨xs, n, _, hx, _, hlen, hf⟩ := DataW.trod_struct Tryz.underlying49 h
  match xs, hlen with
  | [y0, y1], _ =>
    obtain ⟨y1', y2'⟩ := y
    simp only [Prod.mk.injEq, List.map_cons, List.map_nil, List.flatMap_cons, List.flatMap_nil] at hx
    obtain ⟨rfl, rfl⟩ := hx
    simp only [Rows.uptoBulk, Rows.uptoBulkAll] at hb
    have f0 : DataW.trod enc Tryz.prog W 0 (fun _ => true) true n 9 [v0] = some y0 := by
      have h1 := hf 0 _ rfl
      change DataW.trod enc Tryz.prog W 0 (fun _ => true) true n 9 ((List.drop 0 [v0, v1]).take (Tryz.prog.cellsOf 9)) = some y0 at h1
      rw [cells_string] at h1
      exact h1
    have f1 : DataW.trod enc Tryz.prog W 0 (fun _ => true) true n 47 [v1] = some y1 := by
      have h1 := hf 1 _ rfl
      change DataW.trod enc Tryz.prog W 0 (fun _ => true) true n 47 ((List.drop 1 [v0, v1]).take (Tryz.prog.cellsOf 47)) = some y1 at h1
      rw [cells_eras] at h1
      exact h1
    clear hf
    obtain ⟨name, e0, rfl, _⟩ := DataW.trod_string Tryz.underlying9 f0
    obtain ⟨A, c, rows, rfl, n2, r2, q2⟩ := open_flat 4 Tryz.underlying47 era_kinds cells_era (by decide) f1 (B := W.heap.size) fun q hq => hlt q (by simp [hq])
    obtain ⟨es, g1, g2, g3⟩ := rows_of Era.cells (fun s => s.rules.size ≤ 2097152 ∧ s.format.size ≤ 2097152) rows fun r hr => era_of (q2 r hr).1 (q2 r hr).2 (by omega)
    simp only [List.cons.injEq, and_true] at e0
    subst e0
    rw [g1, g2] at r2
    simp only [size_tl] at hb
    simp only [List.length_cons, List.length_nil, g2] at n2
    exact ⟨⟨name, es, A, c⟩, by rw [g2]; rfl, r2, by show es.length ≤ _; omega, by show name.size ≤ _; omega, g3⟩
set_option maxRecDepth 100000 in
theorem open_source {r : Reach} {b0 : Nat} {v : Value} {d : DataW H} {p : List MemPlace} (hval : Value.okWide Tryz.prog W r b0 26 v)
    (h : DataW.Trod enc Tryz.prog W 0 (fun _ => true) true 26 v d p) (hlt : ∀ q ∈ p, q.block < W.heap.size) (hb : Rows.uptoBulk d ≤ 1048576) :
    ∃ (s : Src) (A A2 A3 : Option Addr) (c c2 c3 : Nat), v = .agg #[.slice A s.rules.length c, .slice A2 s.zones.length c2, .slice A3 s.links.length c3] ∧ SrcOk s A A2 A3 W := by
  obtain ⟨cs, rfl, hsz⟩ := okWide_struct Tryz.underlying26 hval
  obtain ⟨fuel, h⟩ := h
  obtain ⟨l⟩ := cs
  rw [cells_source] at hsz
  obtain ⟨v0, v1, v2, rfl⟩ := list3 hsz
  obtain ⟨xs, n, _, hx, _, hlen, hf⟩ := DataW.trod_struct Tryz.underlying26 h
  match xs, hlen with
  | [y0, y1, y2], _ =>
    simp only [Prod.mk.injEq, List.map_cons, List.map_nil, List.flatMap_cons, List.flatMap_nil] at hx
    obtain ⟨rfl, rfl⟩ := hx
    simp only [Rows.uptoBulk, Rows.uptoBulkAll] at hb
    have f0 : DataW.trod enc Tryz.prog W 0 (fun _ => true) true n 22 [v0] = some y0 := by
      have h1 := hf 0 _ rfl
      change DataW.trod enc Tryz.prog W 0 (fun _ => true) true n 22 ((List.drop 0 [v0, v1, v2]).take (Tryz.prog.cellsOf 22)) = some y0 at h1
      rw [cells_rules] at h1
      exact h1
    have f1 : DataW.trod enc Tryz.prog W 0 (fun _ => true) true n 23 [v1] = some y1 := by
      have h1 := hf 1 _ rfl
      change DataW.trod enc Tryz.prog W 0 (fun _ => true) true n 23 ((List.drop 1 [v0, v1, v2]).take (Tryz.prog.cellsOf 23)) = some y1 at h1
      rw [cells_zones] at h1
      exact h1
    have f2 : DataW.trod enc Tryz.prog W 0 (fun _ => true) true n 24 [v2] = some y2 := by
      have h1 := hf 2 _ rfl
      change DataW.trod enc Tryz.prog W 0 (fun _ => true) true n 24 ((List.drop 2 [v0, v1, v2]).take (Tryz.prog.cellsOf 24)) = some y2 at h1
      rw [cells_links] at h1
      exact h1
    clear hf
    obtain ⟨A, c, rows, rfl, n0, r0, q0⟩ := open_flat 4 Tryz.underlying22 rule_kinds cells_rule (by decide) f0 (B := W.heap.size) fun q hq => hlt q (by simp [hq])
    obtain ⟨rs, g1, g2, g3⟩ := rows_of Rule.cells (fun s => s.name.size ≤ 2097152 ∧ s.letter.size ≤ 2097152) rows fun r hr => rule_of (q0 r hr).1 (q0 r hr).2 (by omega)
    obtain ⟨A2, c2, rows2, rfl, n1, r1, q1⟩ := open_rows Tryz.underlying23 cells_zone (by decide) f1 (B := W.heap.size) fun q hq => hlt q (by simp [hq])
    obtain ⟨zs, g4, g5, g6⟩ := rows_of ZoneM.cells (fun z => Reads W W.heap.size 13 z.A z.eras.length (z.eras.flatMap Era.cells) ∧ z.eras.length ≤ 1000000 ∧ z.name.size ≤ 2097152 ∧ ∀ e ∈ z.eras, e.rules.size ≤ 2097152 ∧ e.format.size ≤ 2097152) rows2 fun r hr => by
      obtain ⟨n, y, k1, k2, k3, k4⟩ := q1 r hr
      exact zone_of k1 k2 k4 (by omega)
    obtain ⟨A3, c3, rows3, rfl, n2, r2, q2⟩ := open_flat 4 Tryz.underlying24 link_kinds cells_link (by decide) f2 (B := W.heap.size) fun q hq => hlt q (by simp [hq])
    obtain ⟨ls, g7, g8, g9⟩ := rows_of Link.cells (fun s => s.target.size ≤ 2097152 ∧ s.name.size ≤ 2097152) rows3 fun r hr => link_of (q2 r hr).1 (q2 r hr).2 (by omega)
    have n1' := n1 2 fun n r y h => zone_bulk h
    rw [g1, g2] at r0
    rw [g4, g5] at r1
    rw [g7, g8] at r2
    simp only [List.length_cons, List.length_nil, g2, g5, g8] at n0 n1' n2
    exact ⟨⟨rs, zs, ls⟩, A, A2, A3, c, c2, c3, by rw [g2, g5, g8], r0, r1, r2, fun z hz => (g6 z hz).1, by show rs.length ≤ _; omega, by show zs.length ≤ _; omega, by show ls.length ≤ _; omega, fun z hz => (g6 z hz).2.1, g3, fun z hz => (g6 z hz).2.2.1, fun z hz => (g6 z hz).2.2.2, g9⟩
end
end Go.Proofs.YtdicedpklpadgaaGreatDoor.Opn
