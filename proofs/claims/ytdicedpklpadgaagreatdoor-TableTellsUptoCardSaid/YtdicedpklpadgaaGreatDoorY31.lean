/-
  A slice that the call owns and whose first elements have been cut off: its tail is cut, elements are appended to it. Conditions: none.
-/
import Derived.Test.YtdicedpklpadgaaGreatDoorY00
import Derived.OwnWalkIn
set_option linter.all false
namespace Go.Proofs.YtdicedpklpadgaaGreatDoor.Slo
open Go.RowKit Mem

/-- A slice that the call owns, whatever stands ahead of it in its block. -/
def OwnO (w : World) (base : Nat) (e : TypeId) (size : Nat) (A : Option Addr) (n c : Nat) (xs : List Value) : Prop :=
  (n = 0 ∧ c = 0 ∧ xs = []) ∨ ∃ g k ps, A = some ⟨g, k * size, none⟩ ∧ ps.length = k * size ∧ w.ownsRow base e size (.slice (some ⟨g, 0, none⟩) (k + n) (k + c)) (k + n) (ps ++ xs)
/-- The block that may turn. -/
def blockO (A : Option Addr) (c : Nat) : Option Nat := if c = 0 then none else A.map (·.block)
section
variable {w w' : World} {base : Nat} {e : TypeId} {size : Nat} {A : Option Addr} {n c : Nat} {xs : List Value}
theorem OwnO.len (h : OwnO w base e size A n c xs) : xs.length = n * size := by
  rcases h with ⟨rfl, _, rfl⟩ | ⟨g, k, ps, _, hp, ho⟩
  · simp
  · have := ho.1
    rw [List.length_append, hp, Nat.add_mul] at this
    omega
theorem OwnO.cap (h : OwnO w base e size A n c xs) : n ≤ c := by
  rcases h with ⟨rfl, rfl, _⟩ | ⟨g, k, ps, _, hp, ho⟩
  · exact Nat.le_refl _
  · rcases ho.2 with ⟨hv, _⟩ | ⟨g', cap, cur, hv, _, _, hnc, _⟩
    · cases hv
    · injection hv with h1 h2 h3
      omega
theorem OwnO.nil (w : World) (base : Nat) (e : TypeId) (size : Nat) : OwnO w base e size none 0 0 [] := .inl ⟨rfl, rfl, rfl⟩
theorem OwnO.kept {row : Option Nat} (h : OwnO w base e size A n c xs) (hg : w.grownBy w' row) (hr : ∀ b, row = some b → blockO A c ≠ some b) : OwnO w' base e size A n c xs := by
  rcases h with h | ⟨g, k, ps, rfl, hp, ho⟩
  · exact .inl h
  · by_cases hc : c = 0
    · subst hc
      have hn : n = 0 := by
        have := OwnO.cap (w := w) (.inr ⟨g, k, ps, rfl, hp, ho⟩)
        omega
      subst hn
      refine .inl ⟨rfl, rfl, ?_⟩
      have := OwnO.len (w := w) (.inr ⟨g, k, ps, rfl, hp, ho⟩)
      exact List.eq_nil_of_length_eq_zero (by simpa using this)
    · refine .inr ⟨g, k, ps, rfl, hp, ho.kept hg ?_⟩
      cases row with
      | none => exact .inr (by simp [Value.ownBlock])
      | some b =>
        right
        intro he
        have := hr b rfl
        simp only [blockO, if_neg hc, Option.map_some, ne_eq, Option.some.injEq] at this
        simp only [Value.ownBlock, Option.some.injEq] at he
        exact this he
theorem OwnO.below (h : OwnO w base e size A n c xs) (hb : Below w.heap.size w w') : OwnO w' base e size A n c xs :=
  h.kept (row := none) ⟨hb.os, hb.tape, hb.output, hb.size, fun j hj _ => hb.block j hj⟩ (fun b e => by cases e)
theorem OwnO.base_lt (h : OwnO w base e size A n c xs) {b : Nat} (hb : blockO A c = some b) : base ≤ b ∧ b < w.heap.size := by
  rcases h with ⟨_, rfl, _⟩ | ⟨g, k, ps, rfl, _, ho⟩
  · simp [blockO] at hb
  · unfold blockO at hb
    split at hb
    · cases hb
    · simp only [Option.map_some, Option.some.injEq] at hb
      exact ho.lt b (by simp [Value.ownBlock, hb])
/-- Its cells. -/
theorem OwnO.cellAt (h : OwnO w base e size A n c xs) (h0 : 0 < n) : ∃ g o, A = some ⟨g, o, none⟩ ∧ g < w.heap.size ∧ base ≤ g ∧ ∀ j, j < n * size → w.cell? ⟨g, o + j, none⟩ = xs[j]? := by
  rcases h with ⟨rfl, _⟩ | ⟨g, k, ps, rfl, hp, ho⟩
  · omega
  · refine ⟨g, k * size, rfl, (ho.lt g rfl).2, (ho.lt g rfl).1, fun j hj => ?_⟩
    rw [ho.cellAt _ (by rw [Nat.add_mul]; omega), List.getElem?_append_right (by omega), hp]
    congr 1
    omega
/-- The slice behind its first element. -/
theorem OwnO.tail {x : List Value} (h : OwnO w base e size A (n + 1) c (x ++ xs)) (hx : x.length = size) :
    (c = 1 → n = 0 ∧ OwnO w base e size A 0 0 xs) ∧ (c ≠ 1 → ∃ g o, A = some ⟨g, o, none⟩ ∧ OwnO w base e size (some ⟨g, o + size, none⟩) n (c - 1) xs) := by
  have hc := h.cap
  have hl := h.len
  rw [List.length_append, hx, Nat.succ_mul] at hl
  rcases h with ⟨h0, _⟩ | ⟨g, k, ps, rfl, hp, ho⟩
  · omega
  · refine ⟨fun h1 => ?_, fun h1 => ?_⟩
    · have h2 : n = 0 := by omega
      subst h2
      exact ⟨rfl, .inl ⟨rfl, rfl, List.eq_nil_of_length_eq_zero (by omega)⟩⟩
    · refine ⟨g, k * size, rfl, .inr ⟨g, k + 1, ps ++ x, by rw [Nat.succ_mul], by rw [List.length_append, hp, hx, Nat.succ_mul], ?_⟩⟩
      rw [show k + 1 + n = k + (n + 1) from by omega, show k + 1 + (c - 1) = k + c from by omega, List.append_assoc]
      exact ho
end
section
variable {P : Program} (w : World)
theorem run_append_empty (t ty e : TypeId) (i : TypeInfo) (ht : P.underlying t = some (.slice e)) (hi : P.info? e = some i) (A : Option Addr) (B : Option Addr) (c : Nat) (hB : B = none ∨ ∃ b, B = some b) :
    (Builtin.append_ #[t, t] ty #[.slice A 0 0, .slice B 0 c]).run P w = .ok (.slice A 0 0) w := by
  rcases hB with rfl | ⟨b, rfl⟩ <;> cases A <;> simp [Builtin.append_, run_underlying ht, sizeOf, typeInfo, hi, Builtin.lenOf, Builtin.firstCells, storeCells, loadCells, loadCellsFrom]
theorem run_append_room_o (t ty e : TypeId) (i : TypeInfo) (ht : P.underlying t = some (.slice e)) (hi : P.info? e = some i)
    (g k sLen sCap : Nat) (cur : Array Value) (hg : w.heap[g]? = some (.cells cur e (0, 0)))
    (a : Addr) (m c : Nat) (news : List Value) (hl : news.length = m * i.size) (hnews : ∀ j u, news[j]? = some u → w.cell? (a.add j) = some u) (h1 : ∀ u ∈ news, u.oneCell' = true)
    (hroom : sLen + m ≤ sCap) (hfit : (k + sLen) * i.size + news.length ≤ cur.size) :
    (Builtin.append_ #[t, t] ty #[.slice (some ⟨g, k * i.size, none⟩) sLen sCap, .slice (some a) m c]).run P w =
      .ok (.slice (some ⟨g, k * i.size, none⟩) (sLen + m) sCap) (w.setRow g (cur.toList.take ((k + sLen) * i.size) ++ news ++ cur.toList.drop ((k + sLen) * i.size + news.length)).toArray) := by
  have hf := run_firstCells_some (P := P) w i.size m a m c news hl hnews
  have hst := run_storeCells_at P g ((k + sLen) * i.size) e news 0 cur w hg (by simpa using hfit) h1
  have ha : (⟨g, k * i.size, none⟩ : Addr).add (sLen * i.size) = ⟨g, (k + sLen) * i.size, none⟩ := by
    unfold Addr.add
    split
    · next h => simp only [h, Nat.add_mul, Nat.add_zero]
    · simp only [Nat.add_mul]
  simp only [Nat.add_zero] at hst
  simp [Builtin.append_, run_underlying ht, sizeOf, typeInfo, hi, Builtin.lenOf, hroom, hf, ha, hst]
theorem run_append_o (base : Nat) (t ty e : TypeId) (i : TypeInfo) (z : Value) (size bytes : Nat) (ht : P.underlying t = some (.slice e)) (hi : P.info? e = some i) (hz : i.zero = some z)
    (hsize : i.size = size) (hby : i.bytes = bytes) (hzs : z.cells.size = size) (hsz : 0 < size)
    (A : Option Addr) (n cp : Nat) (xs : List Value) (hown : OwnO w base e size A n cp xs)
    (B : Nat) (A2 : Option Addr) (m c : Nat) (news : List Value) (hr : Reads w B size A2 m news) (h1 : ∀ u ∈ news, u.oneCell' = true)
    (h63 : n + m ≤ maxLen) (hbytes : (n + m) * bytes ≤ 140737488355328) (hbase : base ≤ w.heap.size) :
    ∃ A' c' w', (Builtin.append_ #[t, t] ty #[.slice A n cp, .slice A2 m c]).run P w = .ok (.slice A' (n + m) c') w' ∧ OwnO w' base e size A' (n + m) c' (xs ++ news) ∧ w.grownBy w' (blockO A cp) := by
  subst hsize
  subst hby
  have hsmall : n + m ≤ 9223372036854775807 := by simp only [maxLen] at h63; omega
  have hxl := hown.len
  have hlen : (xs ++ news).length = (n + m) * i.size := by rw [List.length_append, hxl, hr.1, Nat.add_mul]
  have hncp := hown.cap
  rcases Nat.eq_zero_or_pos m with rfl | hm
  · have hn : news = [] := List.eq_nil_of_length_eq_zero (by simpa using hr.1)
    subst hn
    refine ⟨A, cp, w, ?_, by simpa using hown, World.grownBy.refl _ _⟩
    rcases hown with ⟨rfl, rfl, rfl⟩ | ⟨g, k, ps, rfl, hp, ho⟩
    · exact run_append_empty w t ty e i ht hi A A2 c (by cases A2 <;> simp)
    · cases A2 <;> simp [Builtin.append_, run_underlying ht, sizeOf, typeInfo, hi, Builtin.lenOf, Builtin.firstCells, storeCells, loadCells, loadCellsFrom, hncp]
  · obtain ⟨ad, rfl, _, hnews⟩ := hr.2 hm
    have grown : ∀ (old : Nat), old < n + m → ∀ (row : Option Nat),
        OwnO (w.drew.alloc (.cells (xs.toArray ++ news.toArray ++ Builtin.zeroCells z.cells (grownCap w (n + m) old e - (n + m))) e)) base e i.size
          (some ⟨w.heap.size, 0, none⟩) (n + m) (grownCap w (n + m) old e) (xs ++ news) ∧
        w.grownBy (w.drew.alloc (.cells (xs.toArray ++ news.toArray ++ Builtin.zeroCells z.cells (grownCap w (n + m) old e - (n + m))) e)) row := by
      intro old ho row
      have hge := grownCap_ge w (n + m) old e
      have hcm : grownCap w (n + m) old e ≤ maxLen := grownCap_le_maxLen w (n + m) old e h63
      refine ⟨.inr ⟨w.heap.size, 0, [], by rw [Nat.zero_mul], by simp, ?_⟩, ⟨rfl, rfl, rfl, by simp, fun k hk _ => Below.heap_alloc w.drew _ k hk⟩⟩
      simp only [Nat.zero_add, List.nil_append]
      refine ⟨hlen, .inr ⟨w.heap.size, _, _, rfl, hbase, heap_alloc_new w.drew _, hge, hcm, ?_, ?_⟩⟩
      · simp only [Array.size_append, List.size_toArray, size_zeroCells, hzs, hxl, hr.1, ← Nat.add_mul]
        congr 1
        omega
      · simp only [Array.toList_append, List.append_assoc]
        rw [← List.append_assoc, ← hlen]
        exact List.take_left
    by_cases hroom : n + m ≤ cp
    · rcases hown with ⟨rfl, rfl, rfl⟩ | ⟨g, k, ps, rfl, hp, ho⟩
      · omega
      · rcases ho.2 with ⟨hv, _⟩ | ⟨g', cap, cur, hv, hbg, hg, hnc, hcm, hcs, htake⟩
        · cases hv
        · simp only [Value.slice.injEq, Option.some.injEq, Addr.mk.injEq, and_true, true_and] at hv
          obtain ⟨rfl, rfl⟩ := hv
          have hfit : (k + n) * i.size + news.length ≤ cur.size := by rw [hr.1, hcs, ← Nat.add_mul]; exact Nat.mul_le_mul_right _ (by omega)
          have hrun := run_append_room_o (P := P) w t ty e i ht hi g k n cp cur hg ad m c news hr.1 hnews h1 hroom hfit
          refine ⟨_, _, _, hrun, .inr ⟨g, k, ps, rfl, hp, ?_, .inr ⟨g, _, _, rfl, hbg, setRow_heap w g cur _ e _ hg, by omega, hcm, ?_, ?_⟩⟩, ⟨rfl, rfl, rfl, by simp, fun j _ hj => setRow_other w g j _ (fun e => hj ?_)⟩⟩
          · rw [List.length_append, hp, hlen, Nat.add_mul k]
          · simp only [List.size_toArray, List.length_append, List.length_take, List.length_drop, Array.length_toList]
            omega
          · have e2 : (ps ++ (xs ++ news)).length = (k + (n + m)) * i.size := by rw [List.length_append, hp, hlen, Nat.add_mul k]
            rw [htake, ← e2]
            generalize List.drop _ cur.toList = D
            rw [show ps ++ xs ++ news ++ D = (ps ++ (xs ++ news)) ++ D from by simp only [List.append_assoc]]
            exact List.take_left
          · rw [e]; unfold blockO; rw [if_neg (by omega)]; rfl
    · cases A with
      | none =>
        rcases hown with ⟨rfl, rfl, rfl⟩ | ⟨g, k, ps, hA, _⟩
        · have hrun := run_append_nil (P := P) w t ty e i z ht hi hz ad m c news hr.1 hnews (by omega) (by omega) (by have hb := hbytes; simp only [Nat.zero_add] at hb; omega)
          have hgr := grown 0 (by omega) (blockO none 0)
          simp only [Nat.zero_add, List.nil_append, Array.empty_append] at hgr ⊢
          exact ⟨_, _, _, hrun, hgr.1, hgr.2⟩
        · cases hA
      | some b =>
        have holds : ∀ j u, xs[j]? = some u → w.cell? (b.add j) = some u := by
          intro j u hu
          rcases hown with ⟨_, _, rfl⟩ | ⟨g, k, ps, hA, hp, ho⟩
          · simp at hu
          · injection hA with hA
            subst hA
            have e1 : (⟨g, k * i.size, none⟩ : Addr).add j = ⟨g, k * i.size + j, none⟩ := by unfold Addr.add; split <;> simp_all
            have hj : j < xs.length := (List.getElem?_eq_some_iff.1 hu).1
            rw [e1, ho.cellAt _ (by rw [Nat.add_mul, ← hxl]; omega), List.getElem?_append_right (by omega), ← hu]
            congr 1
            omega
        have hrun := run_append_grow (P := P) w t ty e i z ht hi hz b n cp xs hxl holds ad m c news hr.1 hnews (by omega) (by omega) (growslice_fits (by omega) hbytes)
        have hgr := grown cp (by omega) (blockO (some b) cp)
        exact ⟨_, _, _, hrun, hgr.1, hgr.2⟩
theorem wp_append_o {o : Oper} {a : Act} {K : Act → World → Prop} {Q : Exit → Act → World → Prop} (s x : Operand) (t : TypeId)
    (ho : o.op = .call { callee := .builtin .append, args := #[s, x], argTypes := #[t, t] })
    (base : Nat) (e : TypeId) (i : TypeInfo) (z : Value) (size bytes : Nat) (ht : P.underlying t = some (.slice e)) (hi : P.info? e = some i) (hz : i.zero = some z)
    (hsize : i.size = size) (hby : i.bytes = bytes) (hzs : z.cells.size = size) (hsz : 0 < size)
    (A : Option Addr) (n cp : Nat) (xs : List Value) (hs : a.eval s = .slice A n cp) (hown : OwnO w base e size A n cp xs)
    (B : Nat) (A2 : Option Addr) (m c : Nat) (news : List Value) (hx : a.eval x = .slice A2 m c) (hr : Reads w B size A2 m news) (h1 : ∀ u ∈ news, u.oneCell' = true)
    (h63 : n + m ≤ maxLen) (hbytes : (n + m) * bytes ≤ 140737488355328) (hbase : base ≤ w.heap.size)
    (h : ∀ A' c' w', OwnO w' base e size A' (n + m) c' (xs ++ news) → w.grownBy w' (blockO A cp) → K (a.put o.dst (.slice A' (n + m) c')) w') : o.wp P a w K Q := by
  obtain ⟨A', c', w', hrun, h2, h3⟩ := run_append_o (P := P) w base t o.type e i z size bytes ht hi hz hsize hby hzs hsz A n cp xs hown B A2 m c news hr h1 h63 hbytes hbase
  unfold Oper.wp execOp
  simp only [ho, resolve, invoke, builtin, Sem.run_bind, Sem.run_pure, Result.andThen_ok, List.map_toArray, List.map_cons, List.map_nil, hs, hx, hrun]
  exact h A' c' w' h2 h3
theorem wpList_append_o {ops : Array Oper} {rest : List Oper} {o : Oper} {a : Act} {Q : Exit → Act → World → Prop} (hgd : o.guard = none) (s x : Operand) (t : TypeId)
    (ho : o.op = .call { callee := .builtin .append, args := #[s, x], argTypes := #[t, t] })
    (base : Nat) (e : TypeId) (i : TypeInfo) (z : Value) (size bytes : Nat) (ht : P.underlying t = some (.slice e)) (hi : P.info? e = some i) (hz : i.zero = some z)
    (hsize : i.size = size) (hby : i.bytes = bytes) (hzs : z.cells.size = size) (hsz : 0 < size)
    (A : Option Addr) (n cp : Nat) (xs : List Value) (hs : a.eval s = .slice A n cp) (hown : OwnO w base e size A n cp xs)
    (B : Nat) (A2 : Option Addr) (m c : Nat) (news : List Value) (hx : a.eval x = .slice A2 m c) (hr : Reads w B size A2 m news) (h1 : ∀ u ∈ news, u.oneCell' = true)
    (h63 : n + m ≤ maxLen) (hbytes : (n + m) * bytes ≤ 140737488355328) (hbase : base ≤ w.heap.size)
    (h : ∀ A' c' w', OwnO w' base e size A' (n + m) c' (xs ++ news) → w.grownBy w' (blockO A cp) → wpList P ops Q rest (a.put o.dst (.slice A' (n + m) c')) w') : wpList P ops Q (o :: rest) a w :=
  wpList_plain hgd fun _ hK => wp_append_o w s x t ho base e i z size bytes ht hi hz hsize hby hzs hsz A n cp xs hs hown B A2 m c news hx hr h1 h63 hbytes hbase fun A' c' w' h2 h3 => hK _ _ (h A' c' w' h2 h3)
theorem wpListIn_append_o {F : Fence} {nn : Nat} {ops : Array Oper} {rest : List Oper} {o : Oper} {a : Act} {Q : Exit → Act → World → Prop} (hgd : o.guard = none) (s x : Operand) (t : TypeId)
    (ho : o.op = .call { callee := .builtin .append, args := #[s, x], argTypes := #[t, t] })
    (base : Nat) (e : TypeId) (i : TypeInfo) (z : Value) (size bytes : Nat) (ht : P.underlying t = some (.slice e)) (hi : P.info? e = some i) (hz : i.zero = some z)
    (hsize : i.size = size) (hby : i.bytes = bytes) (hzs : z.cells.size = size) (hsz : 0 < size)
    (A : Option Addr) (n cp : Nat) (xs : List Value) (hs : a.eval s = .slice A n cp) (hown : OwnO w base e size A n cp xs)
    (B : Nat) (A2 : Option Addr) (m c : Nat) (news : List Value) (hx : a.eval x = .slice A2 m c) (hr : Reads w B size A2 m news) (h1 : ∀ u ∈ news, u.oneCell' = true)
    (h63 : n + m ≤ maxLen) (hbytes : (n + m) * bytes ≤ 140737488355328) (hbase : base ≤ w.heap.size)
    (h : ∀ A' c' w', OwnO w' base e size A' (n + m) c' (xs ++ news) → w.grownBy w' (blockO A cp) → wpListIn F nn P ops Q rest (a.put o.dst (.slice A' (n + m) c')) w') : wpListIn F nn P ops Q (o :: rest) a w := by
  refine wpListIn_plain hgd fun K hK' => ?_
  obtain ⟨A', c', w', hrun, h2, h3⟩ := run_append_o (P := P) w base t o.type e i z size bytes ht hi hz hsize hby hzs hsz A n cp xs hown B A2 m c news hr h1 h63 hbytes hbase
  unfold Oper.wpIn
  refine ⟨?_, ?_⟩
  · simp [Oper.about, ho, resolve, Target.leads, Sem.run_pure]
  · rw [Oper.semAt_plain F _ _ (by rw [ho]; intro c hc'; cases hc')]
    simp [execOp, ho, resolve, invoke, builtin, hs, hx, hrun, Result.andThen]
    exact hK' _ _ (h A' c' w' h2 h3)
end
end Go.Proofs.YtdicedpklpadgaaGreatDoor.Slo
