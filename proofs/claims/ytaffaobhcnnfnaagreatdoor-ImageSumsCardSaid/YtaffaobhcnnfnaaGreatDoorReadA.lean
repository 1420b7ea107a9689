/-
  Images read: what the contract of (*reader).read says, and lemmas for it. Conditions: none.
-/
import Derived.Test.YtaffaobhcnnfnaaGreatDoorRead0
import Derived.RegionDies
namespace Go.Proofs.YtaffaobhcnnfnaaGreatDoor.Rd
open Go.RowKit Mem Img

/-- A slice's cells lie in a new block. -/
def NewAt (B : Nat) (A : Option Addr) (n : Nat) : Prop := 0 < n → ∃ b, A = some ⟨b, 0, none⟩ ∧ B ≤ b
/-- What read leaves. -/
def TP (g : Nat) (w : World) (r : Option (Table × List UInt8)) (e : Ending) (w' : World) : Prop :=
  w.grownBy w' (some g) ∧ match r with
    | some (x, rest) => (∃ A c A2 c2, e = .returned (.agg (tabCells x A c A2 c2)) ∧ TabOk x A A2 w' ∧ NewAt w.heap.size A x.shifts.length ∧ NewAt w.heap.size A2 x.tail.length) ∧ Rd w' g rest
    | none => e = badE
theorem TP.fail {g : Nat} {w : World} {r : Option (Table × List UInt8)} {w' : World} (h : r = none) (hg : w.grownBy w' (some g)) : TP g w r badE w' := by
  subst h
  exact ⟨hg, rfl⟩
theorem info67 : (Tryz.prog.info? 67).map (fun i => (i.zero, i.size, i.bytes)) = some (some (.agg #[.int .i64 0, .int .i64 0, .int .i64 0, .string ⟨#[]⟩]), 4, 40) := by kernel_rfl
theorem info52 : (Tryz.prog.info? 52).map (fun i => (i.zero, i.size, i.bytes)) = some (some (.agg zRule), 11, 104) := by kernel_rfl
theorem info41 : (Tryz.prog.info? 41).map (fun i => (i.zero, i.size, i.bytes)) = some (some (.int .u32 0), 1, 4) := by kernel_rfl
theorem size27 : (Tryz.prog.info? 27).map (·.size) = some 9 := by kernel_rfl
def zTab : Array Value := #[.string ⟨#[]⟩, .int .i64 0, .int .i64 0, .string ⟨#[]⟩, .slice none 0 0, .int .i64 0, .slice none 0 0, .int .i64 0, .string ⟨#[]⟩]
theorem gr_own {w0 w w' : World} {r : Option Nat} {v : Value} (h : w0.grownBy w r) (k : w.grownBy w' v.ownBlock) (hv : ∀ b, v.ownBlock = some b → w0.heap.size ≤ b) : w0.grownBy w' r :=
  ⟨k.os.trans h.os, k.tape.trans h.tape, k.output.trans h.output, Nat.le_trans h.size k.size, fun j hj hne => (k.block j (Nat.lt_of_lt_of_le hj h.size) (fun e => by have := hv j e.symm; omega)).trans (h.block j hj hne)⟩

theorem row_step {W w1 w4 : World} {g size n : Nat} {r : List UInt8} {e : TypeId} {v : Value} {xs : List Value} {o : Obj} (hW : W.grownBy w1 (some g)) (hr : Rd w1 g r) (ho : w1.ownsRow W.heap.size e size v n xs) (hne : e ≠ 76) (hg : (w1.alloc o).grownBy w4 v.ownBlock) :
    Rd w4 g r ∧ W.grownBy w4 (some g) :=
  ⟨Blk.grown (Blk.alloc hr o) hg (fun e => own_blk_ne ho hr hne e.symm), gr_own (gr2 hW (grown_alloc w1 o)) hg fun b hb => (ho.lt b hb).1⟩
theorem row_keep {w w1 : World} {g size n base : Nat} {r : List UInt8} {e : TypeId} {v : Value} {xs : List Value} (ho : w.ownsRow base e size v n xs) (hr : Rd w g r) (hne : e ≠ 76) (hg : w.grownBy w1 (some g)) : w1.ownsRow base e size v n xs :=
  ho.kept hg (.inr (own_blk_ne ho hr hne))
theorem own_own_ne {w : World} {base base' size size' n n' : Nat} {e e' : TypeId} {v v' : Value} {xs xs' : List Value} (h : w.ownsRow base e size v n xs) (h' : w.ownsRow base' e' size' v' n' xs') (hne : e ≠ e') : v.ownBlock ≠ v'.ownBlock ∨ v.ownBlock = none := by
  rcases h.2 with ⟨rfl, _⟩ | ⟨b, cap, cur, rfl, _, hh, _⟩
  · exact .inr rfl
  · refine .inl ?_
    have := own_blk_ne h' (g := b) (t := e) (cs := cur) hh (Ne.symm hne)
    exact fun e => this e.symm
theorem own_form {w : World} {base size n : Nat} {e : TypeId} {v : Value} {xs : List Value} (h : w.ownsRow base e size v n xs) : ∃ A c, v = .slice A n c := by
  rcases h.2 with ⟨rfl, rfl⟩ | ⟨b, cap, cur, rfl, _⟩
  · exact ⟨_, _, rfl⟩
  · exact ⟨_, _, rfl⟩
theorem grown_drewN {w w' : World} {r : Option Nat} (h : w.grownBy w' r) (n : Nat) : w.grownBy (w'.drewN n) r := ⟨h.os, h.tape, h.output, h.size, h.block⟩
theorem own_cell {w : World} {base size n c g : Nat} {e : TypeId} {xs : List Value} (h : w.ownsRow base e size (.slice (some ⟨g, 0, none⟩) n c) n xs) {j : Nat} (hj : j < n * size) : ∃ u, w.cell? ⟨g, j, none⟩ = some u := by
  have hl : j < xs.length := by rw [h.1]; exact hj
  exact ⟨xs[j], by rw [h.cellAt j hj, List.getElem?_eq_getElem hl]⟩
theorem own_at {w : World} {base size n c : Nat} {e : TypeId} {A : Option Addr} {xs : List Value} (h : w.ownsRow base e size (.slice A n c) n xs) (hn : 0 < n) : ∃ b, A = some ⟨b, 0, none⟩ ∧ base ≤ b ∧ b < w.heap.size := by
  obtain ⟨b, cap, e1, h1, h2⟩ := h.form hn
  injection e1 with e1 _ _
  exact ⟨b, e1, h1, h2⟩
theorem new_at {w : World} {base size n c B m : Nat} {e : TypeId} {A : Option Addr} {xs : List Value} (h : w.ownsRow base e size (.slice A n c) n xs) (hB : B ≤ base) (hm : m = n) : NewAt B A m := fun hn => by
  obtain ⟨b, h1, h2, _⟩ := own_at h (by omega)
  exact ⟨b, h1, by omega⟩
theorem own_set {w : World} {base size n b : Nat} {e : TypeId} {v : Value} {xs : List Value} (h : w.ownsRow base e size v n xs) (hne : v.ownBlock ≠ some b) (i : Nat) (u : Value) : (w.setCell ⟨b, i, none⟩ u).ownsRow base e size v n xs :=
  h.kept (World.grownBy_setCell w ⟨b, i, none⟩ u rfl) (.inr hne)
theorem RS.own {w0 w w' : World} {g base size n : Nat} {os : List (Nat × TypeId × Array Value)} {l : List UInt8} {e : TypeId} {v : Value} {xs : List Value} (h : RS w0 g os l w) (ho : w.ownsRow base e size v n xs) (hg : w.grownBy w' v.ownBlock) (hb : w0.heap.size ≤ base) (hr : e ≠ 76) (hx : ∀ x ∈ os, e ≠ x.2.1) : RS w0 g os l w' :=
  ⟨Blk.grown h.1 hg (fun e => own_blk_ne ho h.1 hr e.symm), gr_own h.2.1 hg fun b e => Nat.le_trans hb (ho.lt b e).1, fun x hm => ⟨(h.2.2.1 x hm).1.grown hg (fun e => own_blk_ne ho (h.2.2.1 x hm).1 (hx x hm) e.symm), (h.2.2.1 x hm).2⟩, h.2.2.2⟩
/-- The table that is being read, its result's block, the reader, and the row of its shifts. -/
def RT (w0 : World) (g X R0 : Nat) (cx cr : Array Value) (l : List UInt8) (base : Nat) (v : Value) (n : Nat) (xs : List Value) (w : World) : Prop :=
  RS w0 g [(X, 27, cx), (R0, 27, cr)] l w ∧ w.ownsRow base 67 4 v n xs
section
variable {w0 w w' : World} {g X R0 base n : Nat} {cx cr : Array Value} {l l' : List UInt8} {v : Value} {xs : List Value}
theorem RT.rd (h : RT w0 g X R0 cx cr l base v n xs w) : Rd w g l := h.1.1
theorem RT.out (h : RT w0 g X R0 cx cr l base v n xs w) : w0.grownBy w (some g) := h.1.2.1
theorem RT.blkX (h : RT w0 g X R0 cx cr l base v n xs w) : Blk w X 27 cx := h.1.blk (.head _)
theorem RT.blkR (h : RT w0 g X R0 cx cr l base v n xs w) : Blk w R0 27 cr := h.1.blk (.tail _ (.head _))
theorem RT.step (h : RT w0 g X R0 cx cr l base v n xs w) (hr : Rd w' g l') (hg : w.grownBy w' (some g)) : RT w0 g X R0 cx cr l' base v n xs w' :=
  ⟨h.1.step hr hg, row_keep h.2 h.1.1 (by decide) hg⟩
theorem RT.set_ (h : RT w0 g X R0 cx cr l base v n xs w) (i : Nat) (u : Value) : RT w0 g X R0 (cx.setIfInBounds i u) cr l base v n xs (w.setCell ⟨X, i, none⟩ u) :=
  ⟨h.1.set_ i u, h.2.kept (World.grownBy_setCell w ⟨X, i, none⟩ u rfl) (.inr (own_blk_ne h.2 h.blkX (by decide)))⟩
theorem RT.setR (h : RT w0 g X R0 cx cr l base v n xs w) (i : Nat) (u : Value) : RT w0 g X R0 cx (cr.setIfInBounds i u) l base v n xs (w.setCell ⟨R0, i, none⟩ u) :=
  ⟨(h.1.swap.set_ i u).swap, h.2.kept (World.grownBy_setCell w ⟨R0, i, none⟩ u rfl) (.inr (own_blk_ne h.2 h.blkR (by decide)))⟩
theorem RT.own {base' size n' : Nat} {e : TypeId} {v' : Value} {ys : List Value} (h : RT w0 g X R0 cx cr l base v n xs w) (ho : w.ownsRow base' e size v' n' ys) (hg : w.grownBy w' v'.ownBlock) (hb : w0.heap.size ≤ base') (hr : e ≠ 76) (hx : e ≠ 27) (hs : e ≠ 67) : RT w0 g X R0 cx cr l base v n xs w' :=
  ⟨h.1.own ho hg hb hr (by simpa using hx), h.2.kept hg (own_own_ne h.2 ho (Ne.symm hs)).symm⟩
theorem RT.alloc (h : RT w0 g X R0 cx cr l base v n xs w) (o : Obj) : RT w0 g X R0 cx cr l base v n xs (w.alloc o) :=
  ⟨⟨Blk.alloc h.1.1 o, gr2 h.1.2.1 (grown_alloc w o), fun x hx => ⟨(h.1.2.2.1 x hx).1.alloc o, (h.1.2.2.1 x hx).2⟩, h.1.2.2.2⟩, h.2.alloc o⟩
theorem RT.drew (h : RT w0 g X R0 cx cr l base v n xs w) : RT w0 g X R0 cx cr l base v n xs w.drew :=
  ⟨⟨h.1.1, grown_drewN h.1.2.1 1, h.1.2.2.1, h.1.2.2.2⟩, h.2⟩
theorem grown_row (w : World) (b : Nat) (c : Array Value) : w.grownBy (w.setRow b c) (some b) := ⟨rfl, rfl, rfl, by simp, fun k _ hk => setRow_other w b k _ (fun e => hk (by simp [e]))⟩
theorem RT.rowR (h : RT w0 g X R0 cx cr l base v n xs w) (cr' : Array Value) : RT w0 g X R0 cx cr' l base v n xs (w.setRow R0 cr') := by
  have hg := grown_row w R0 cr'
  have hx := h.1.old (.head _)
  have hr := h.1.old (.tail _ (.head _))
  have hn := h.1.2.2.2
  simp only [List.map_cons, List.map_nil, List.nodup_cons, List.mem_singleton, List.not_mem_nil, not_false_eq_true, List.nodup_nil, and_true] at hn
  refine ⟨⟨Blk.grown h.1.1 hg (by simp; exact fun e => hr.1 e.symm), ?_, ?_, h.1.2.2.2⟩, h.2.kept hg (.inr (own_blk_ne h.2 h.blkR (by decide)))⟩
  · exact ⟨hg.os.trans h.out.os, hg.tape.trans h.out.tape, hg.output.trans h.out.output, Nat.le_trans h.out.size hg.size, fun j hj hne => (hg.block j (Nat.lt_of_lt_of_le hj h.out.size) (by simp; omega)).trans (h.out.block j hj hne)⟩
  · intro x hm
    rcases List.mem_cons.1 hm with rfl | hm
    · exact ⟨h.blkX.grown hg (by simpa using hn), hx⟩
    · rw [List.mem_singleton.1 hm]
      exact ⟨setRow_heap w R0 cr _ _ _ h.blkR, hr⟩
end
def sh0 (n : Int) : List Value := [.int .i64 n, .int .i64 0, .int .i64 0, .string ⟨#[]⟩]
def u32C (n : Int) : Value := .int .u32 n
def ph0 (q : Int × Int × Int) : List Value := [.int .i64 q.1, .int .i64 q.2.1, .string ⟨#[]⟩]
theorem flat_len {α : Type} {f : α → List Value} {m : Nat} (hf : ∀ a, (f a).length = m) (l : List α) : (l.flatMap f).length = l.length * m := by
  induction l with
  | nil => simp
  | cons a t ih => rw [List.flatMap_cons, List.length_append, hf, ih, List.length_cons, Nat.succ_mul]; omega
theorem ph_set {phs : List Phase} {qs : List (Int × Int × Int)} {k : Nat} (s : ByteArray) (hk : k < qs.length) (h : phs.length = k) : (phs.flatMap Phase.cells ++ (qs.drop k).flatMap ph0).set (k * 3 + 2) (.string s) = (phs ++ [(⟨qs[k].1, qs[k].2.1, s⟩ : Phase)]).flatMap Phase.cells ++ (qs.drop (k + 1)).flatMap ph0 := by
  have hl : (phs.flatMap Phase.cells).length = k * 3 := by rw [flat_len (m := 3) (fun _ => rfl), h]
  rw [List.drop_eq_getElem_cons hk, List.set_append_right _ _ (by omega), hl]
  generalize qs[k] = q
  generalize qs.drop (k + 1) = t
  simp [ph0, Phase.cells, List.flatMap_append]
theorem sh_set {sss : List Shift} {xs : List Int} {k : Nat} (p : Phase) (hk : k < xs.length) (h : sss.length = k) : (((sss.flatMap Shift.cells ++ (xs.drop k).flatMap sh0).set (k * 4 + 1) (.int .i64 p.off)).set (k * 4 + 2) (.int .i64 p.save)).set (k * 4 + 3) (.string p.abbr) = (sss ++ [(⟨xs[k], p⟩ : Shift)]).flatMap Shift.cells ++ (xs.drop (k + 1)).flatMap sh0 := by
  have hl : (sss.flatMap Shift.cells).length = k * 4 := by rw [flat_len (m := 4) (fun _ => rfl), h]
  rw [List.drop_eq_getElem_cons hk, List.set_append_right _ _ (by omega), hl, List.set_append_right _ _ (by omega), hl, List.set_append_right _ _ (by omega), hl]
  generalize xs[k] = q
  generalize xs.drop (k + 1) = t
  simp [sh0, Shift.cells, List.flatMap_append]
theorem quadM_u32 {l r : List UInt8} {x : Int × Int × Int} (h : quadM l = some (x, r)) : (0 ≤ x.2.2 ∧ x.2.2 < 4294967296) ∧ r.length ≤ l.length := by
  refine ⟨?_, (quadM_le h).2⟩
  unfold quadM at h
  cases h1 : numM .i32 4 l with
  | none => rw [h1] at h; cases h
  | some y1 =>
    rw [h1, Option.bind_some] at h
    cases h2 : numM .i32 4 y1.2 with
    | none => rw [h2] at h; cases h
    | some y2 =>
      rw [h2, Option.bind_some] at h
      cases h3 : numM .u32 4 y2.2 with
      | none => rw [h3] at h; cases h
      | some y3 =>
        rw [h3] at h
        simp only [Option.map_some, Option.some.injEq, Prod.mk.injEq] at h
        have a1 := numM_u32 (rest := y3.2) (n := y3.1) h3
        rw [← h.1]
        exact ⟨a1.1, a1.2.1⟩
theorem r2c_nil {name : List UInt8} {s p : List Int} {t : List UInt8 × List UInt8} : r2c name s p [] t = none := by
  unfold r2c
  simp only [mapO, Option.bind_some, List.head?_nil, Option.bind_none]
  cases mapO (shM []) (s.zip p) <;> rfl
theorem rule_one {a k : ByteArray} {b c d e f g h i j : Int} : ∀ u ∈ (#[.string a, .int .i64 b, .int .i64 c, .int .i64 d, .int .i64 e, .int .i64 f, .int .i64 g, .int .i64 h, .int .i64 i, .int .i64 j, .string k] : Array Value).toList, u.oneCell' = true := by
  intro u hu
  simp at hu
  rcases hu with rfl | rfl | rfl | rfl | rfl | rfl | rfl | rfl | rfl | rfl | rfl <;> rfl
theorem tab_one {a d k : ByteArray} {b c f h : Int} {A A2 : Option Addr} {n n2 c1 c2 : Nat} : (#[.string a, .int .i64 b, .int .i64 c, .string d, .slice A n c1, .int .i64 f, .slice A2 n2 c2, .int .i64 h, .string k] : Array Value).all (·.oneCell') = true := by
  simp [Value.oneCell']
theorem TabB.ok {x : Table} {A A2 : Option Addr} {w : World} {n1 n2 : Nat} (h : TabB x) (e1 : x.shifts.length = n1) (e2 : x.tail.length = n2) (r1 : Reads w w.heap.size 4 A n1 (x.shifts.flatMap Shift.cells)) (r2 : Reads w w.heap.size 11 A2 n2 (x.tail.flatMap Rule.cells)) : TabOk x A A2 w := by
  subst e1 e2
  exact ⟨r1, r2, h.ns, h.nt, h.name, h.format, h.first, h.shifts, h.rules⟩
theorem tab_agg {x : Table} {A A2 : Option Addr} {n1 n2 c c2 : Nat} (e1 : x.shifts.length = n1) (e2 : x.tail.length = n2) : Value.agg #[.string x.name, .int .i64 x.first.off, .int .i64 x.first.save, .string x.first.abbr, .slice A n1 c, .int .i64 x.till, .slice A2 n2 c2, .int .i64 x.off, .string x.format] = .agg (tabCells x A c A2 c2) := by
  subst e1 e2
  rfl
theorem tab_results {w : World} {R0 : Nat} {a0 a1 a2 a3 a4 a5 a6 a7 a8 : Value} (h : Blk w R0 27 #[a0, a1, a2, a3, a4, a5, a6, a7, a8]) (tmps : Array Value) (ht : tmps[2]? = some (.pointer (some ⟨R0, 0, none⟩))) : (results Tryz.f30 tmps).run Tryz.prog w = .ok (.agg #[a0, a1, a2, a3, a4, a5, a6, a7, a8]) w := by
  have hc := fun i => h.cell i
  simp [results, Tryz.results30, go_sem, hc, ht]
theorem shift_one {a b c : Int} {s : ByteArray} : ∀ u ∈ (#[Value.int .i64 a, .int .i64 b, .int .i64 c, .string s] : Array Value).toList, u.oneCell' = true := by
  intro u hu
  simp at hu
  rcases hu with rfl | rfl | rfl | rfl <;> rfl

end Go.Proofs.YtaffaobhcnnfnaaGreatDoor.Rd
