/-
  The document's Load: what its walk holds (lemmas). Conditions: none.
-/
import Derived.Test.YtaffaobhcnnfnaaGreatDoorR15N
import Derived.Test.YtaffaobhcnnfnaaGreatDoorR15F
import Derived.Test.YtaffaobhcnnfnaaGreatDoorR15S
import Derived.Test.YtaffaobhcnnfnaaGreatDoorR14W
namespace Go.Proofs.YtaffaobhcnnfnaaGreatDoor.R15
open Go.RowKit Mem Img Rgt Rd Plc Src

/-- What Load holds: its reader, its table, its result's place. -/
structure LS (w : World) (s : ByteArray) (o : Option (List UInt8)) (X : Nat) (cx : Array Value) (wr : World) : Prop where
  rd : RdQ wr (w.heap.size + 1) s o
  bx : Blk wr X 27 cx
  br : Blk wr w.heap.size 27 zTab
  bel : Below w.heap.size w wr
  hx : w.heap.size + 1 < X
theorem rd_ne {wr : World} {g base size n : Nat} {s : ByteArray} {o : Option (List UInt8)} {e : TypeId} {v : Value} {xs : List Value} (h : RdQ wr g s o) (ho : wr.ownsRow base e size v n xs) (he : e ≠ 80) : v.ownBlock ≠ some g := by
  obtain ⟨p, _, _, hb⟩ := h
  exact own_blk_ne ho hb he
theorem rd_alloc {wr : World} {g : Nat} {s : ByteArray} {o : Option (List UInt8)} (h : RdQ wr g s o) (ob : Obj) : RdQ (wr.alloc ob) g s o := by
  obtain ⟨p, h1, h2, hb⟩ := h
  exact ⟨p, h1, h2, hb.alloc ob⟩
theorem rd_far {wr : World} {g : Nat} {s : ByteArray} {o : Option (List UInt8)} (h : RdQ wr g s o) {q : Addr} (hq : g ≠ q.block) (u : Value) : RdQ (wr.setCell q u) g s o := by
  obtain ⟨p, h1, h2, hb⟩ := h
  exact ⟨p, h1, h2, hb.far hq u⟩
theorem bel_grown {w wr w' : World} {B g : Nat} (h : Below B w wr) (hB : B ≤ wr.heap.size) (hg : wr.grownBy w' (some g)) (hb : B ≤ g) : Below B w w' := h.grown hg hB fun k e => by injection e with e; omega
section
variable {w wr wr' : World} {s : ByteArray} {o o' : Option (List UInt8)} {X : Nat} {cx : Array Value}
theorem LS.step (h : LS w s o X cx wr) (hr : RdQ wr' (w.heap.size + 1) s o') (hg : wr.grownBy wr' (some (w.heap.size + 1))) : LS w s o' X cx wr' :=
  ⟨hr, h.bx.grown hg (by have := h.hx; intro e; injection e with e; omega), h.br.grown hg (by intro e; injection e with e; omega), bel_grown h.bel h.bel.size hg (by omega), h.hx⟩
theorem LS.alloc (h : LS w s o X cx wr) (ob : Obj) : LS w s o X cx (wr.alloc ob) := ⟨rd_alloc h.rd ob, h.bx.alloc ob, h.br.alloc ob, h.bel.alloc h.bel.size ob, h.hx⟩
theorem LS.drewN (h : LS w s o X cx wr) (n : Nat) : LS w s o X cx (wr.drewN n) := ⟨h.rd.drewN n, h.bx.drewN n, h.br.drewN n, below_drewN h.bel n, h.hx⟩
theorem LS.drew (h : LS w s o X cx wr) : LS w s o X cx wr.drew := h.drewN 1
theorem LS.set_ (h : LS w s o X cx wr) (i : Nat) (u : Value) : LS w s o X (cx.setIfInBounds i u) (wr.setCell ⟨X, i, none⟩ u) :=
  ⟨rd_far h.rd (by have := h.hx; show _ ≠ X; omega) u, h.bx.set_ i u, h.br.far (by have := h.hx; show _ ≠ X; omega) u, h.bel.setCell (by have := h.hx; show _ ≤ X; omega) u, h.hx⟩
theorem LS.own {base size n : Nat} {e : TypeId} {v : Value} {xs : List Value} (h : LS w s o X cx wr) (ho : wr.ownsRow base e size v n xs) (hb : w.heap.size ≤ base) (h1 : e ≠ 80) (h2 : e ≠ 27) (hg : wr.grownBy wr' v.ownBlock) : LS w s o X cx wr' :=
  ⟨h.rd.grown hg (rd_ne h.rd ho h1), h.bx.grown hg (own_blk_ne ho h.bx h2).symm, h.br.grown hg (own_blk_ne ho h.br h2).symm, h.bel.grown hg h.bel.size fun j hj => Nat.le_trans hb (ho.lt j hj).1, h.hx⟩
theorem LS.own1 {base size n : Nat} {e : TypeId} {v : Value} {xs : List Value} {ob : Obj} (h : LS w s o X cx wr) (ho : wr.ownsRow base e size v n xs) (hb : w.heap.size ≤ base) (h1 : e ≠ 80) (h2 : e ≠ 27) (hg : (wr.alloc ob).grownBy wr' v.ownBlock) : LS w s o X cx wr' :=
  (h.alloc ob).own (ho.alloc ob) hb h1 h2 hg
/-- A row stands through a call of the reader's. -/
theorem LS.row {base size n : Nat} {e : TypeId} {v : Value} {xs : List Value} (h : LS w s o X cx wr) (ho : wr.ownsRow base e size v n xs) (h1 : e ≠ 80) (hg : wr.grownBy wr' (some (w.heap.size + 1))) : wr'.ownsRow base e size v n xs :=
  ho.kept hg (.inr (rd_ne h.rd ho h1))
end
theorem row_set {wr : World} {X base size n : Nat} {e : TypeId} {v : Value} {xs : List Value} {cx : Array Value} (ho : wr.ownsRow base e size v n xs) (hx : Blk wr X 27 cx) (he : e ≠ 27) (i : Nat) (u : Value) : (wr.setCell ⟨X, i, none⟩ u).ownsRow base e size v n xs :=
  ho.kept (World.grownBy_setCell wr ⟨X, i, none⟩ u rfl) (.inr (own_blk_ne ho hx he))
theorem row_row {wr wr' : World} {b1 b2 s1 s2 n1 n2 : Nat} {e1 e2 : TypeId} {v1 v2 : Value} {xs1 xs2 : List Value} {ob : Obj} (h1 : wr.ownsRow b1 e1 s1 v1 n1 xs1) (h2 : wr.ownsRow b2 e2 s2 v2 n2 xs2) (hne : e1 ≠ e2) (hg : (wr.alloc ob).grownBy wr' v2.ownBlock) : wr'.ownsRow b1 e1 s1 v1 n1 xs1 :=
  (h1.alloc ob).kept hg (Rd.own_own_ne h1 h2 hne).symm
theorem QR.none_ {α : Type} {p : List UInt8 → Option (α × List UInt8)} {v : α} {o' : Option (List UInt8)} (h : QR p none v o') : o' = none := by
  rcases h with ⟨h, _⟩ | ⟨r, _, h⟩
  · exact h
  · cases h
theorem info_u64 : (Tryz.prog.info? 82).map (fun i => (i.zero, i.size, i.bytes)) = some (some (.int .u64 0), 1, 8) := by kernel_rfl
def uC (n : Nat) : Value := .int .u64 n
/-- A phase without its text. -/
def pq (q : Int × Int × Nat) : List Value := [.int .i64 q.1, .int .i64 q.2.1, .string ⟨#[]⟩]
/-- A shift without its phase. -/
def sq (v : Nat) : List Value := sh0 (IntKind.i64.wrap v)
theorem row_apart {wr wr' : World} {b1 b2 s1 s2 n1 n2 : Nat} {e1 e2 : TypeId} {v1 v2 : Value} {xs1 xs2 : List Value} {ob : Obj} (h1 : wr.ownsRow b1 e1 s1 v1 n1 xs1) (h2 : wr.ownsRow b2 e2 s2 v2 n2 xs2) (hne : ∀ b, v1.ownBlock = some b → b < b2) (hg : (wr.alloc ob).grownBy wr' v2.ownBlock) : wr'.ownsRow b1 e1 s1 v1 n1 xs1 := by
  refine (h1.alloc ob).kept hg ?_
  cases hv : v1.ownBlock with
  | none => exact .inl rfl
  | some b =>
    refine .inr fun e => ?_
    have h3 := hne b hv
    have h4 := (h2.lt b e.symm).1
    omega
theorem qr_quad {o o1 o2 o3 : Option (List UInt8)} {a b : Int} {c : Nat} (h1 : QR fQ o a o1) (h2 : QR fQ o1 b o2) (h3 : QR (nU 4) o2 c o3) : QR quadQ o (a, b, c) o3 := by
  have k1 := h1.next (R := o.bind quadQ) rfl
  dsimp only at k1
  have k2 := h2.next k1
  dsimp only at k2
  exact h3.fin k2
/-- A loop of readings, after k rounds. -/
def LR {α : Type} (p : List UInt8 → Option (α × List UInt8)) (N : Nat) (o0 : Option (List UInt8)) (k : Nat) (xs : List α) (o : Option (List UInt8)) : Prop :=
  (o = none ∧ o0.bind (repM p N) = none) ∨ ∃ r, o = some r ∧ o0.bind (repM p k) = some (xs, r)
theorem ph_setQ {phs : List Phase} {qs : List (Int × Int × Nat)} {k : Nat} (s : ByteArray) (hk : k < qs.length) (h : phs.length = k) : (phs.flatMap Phase.cells ++ (qs.drop k).flatMap pq).set (k * 3 + 2) (.string s) = (phs ++ [(⟨qs[k].1, qs[k].2.1, s⟩ : Phase)]).flatMap Phase.cells ++ (qs.drop (k + 1)).flatMap pq := by
  have hl : (phs.flatMap Phase.cells).length = k * 3 := by rw [flat_len (m := 3) (fun _ => rfl), h]
  rw [List.drop_eq_getElem_cons hk, List.set_append_right _ _ (by omega), hl]
  generalize qs[k] = q
  generalize qs.drop (k + 1) = t
  simp [pq, Phase.cells, List.flatMap_append]
theorem ph_atQ {phs : List Phase} {qs : List (Int × Int × Nat)} {k : Nat} (hk : k < qs.length) (h : phs.length = k) : (phs.flatMap Phase.cells ++ (qs.drop k).flatMap pq)[k * 3 + 2]? = some (.string ⟨#[]⟩) := by
  have hl : (phs.flatMap Phase.cells).length = k * 3 := by rw [flat_len (m := 3) (fun _ => rfl), h]
  rw [List.drop_eq_getElem_cons hk, List.getElem?_append_right (by omega), hl]
  generalize qs[k] = q
  generalize qs.drop (k + 1) = t
  simp [pq]
theorem set_self {l : List Value} {i : Nat} {v : Value} (h : l[i]? = some v) : l.set i v = l := by
  apply List.ext_getElem?
  intro j
  rw [List.getElem?_set]
  split
  · next e =>
    subst e
    rw [if_pos (List.getElem?_eq_some_iff.1 h).1, h]
  · rfl
theorem sh_setQ {sss : List Shift} {xs : List Nat} {k : Nat} (p : Phase) (hk : k < xs.length) (h : sss.length = k) : (((sss.flatMap Shift.cells ++ (xs.drop k).flatMap sq).set (k * 4 + 1) (.int .i64 p.off)).set (k * 4 + 2) (.int .i64 p.save)).set (k * 4 + 3) (.string p.abbr) = (sss ++ [(⟨IntKind.i64.wrap xs[k], p⟩ : Shift)]).flatMap Shift.cells ++ (xs.drop (k + 1)).flatMap sq := by
  have hl : (sss.flatMap Shift.cells).length = k * 4 := by rw [flat_len (m := 4) (fun _ => rfl), h]
  rw [List.drop_eq_getElem_cons hk, List.set_append_right _ _ (by omega), hl, List.set_append_right _ _ (by omega), hl, List.set_append_right _ _ (by omega), hl]
  generalize xs[k] = q
  generalize xs.drop (k + 1) = t
  simp [sq, sh0, Shift.cells, List.flatMap_append]
theorem take_while {p : UInt8 → Bool} : ∀ (l : List UInt8) (n : Nat), (∀ c ∈ l.take n, p c = true) → (l.length ≤ n ∨ ∃ c, l[n]? = some c ∧ p c = false) → l.takeWhile p = l.take n
  | [], n, _, _ => by simp
  | a :: t, 0, _, h => by
    rcases h with h | ⟨c, h1, h2⟩
    · simp at h
    · simp at h1
      subst h1
      rw [List.takeWhile_cons, h2]
      rfl
  | a :: t, n + 1, h, h2 => by
    have ha : p a = true := h a (by simp)
    rw [List.takeWhile_cons, ha, List.take_succ_cons]
    simp only [if_true]
    rw [take_while t n (fun c hc => h c (by simp [hc])) (by
      rcases h2 with h2 | ⟨c, h1, h3⟩
      · exact .inl (by simpa using h2)
      · exact .inr ⟨c, by simpa using h1, h3⟩)]
theorem txt_done {pool : List UInt8} {b e : Nat} (h : ∀ c ∈ (pool.drop b).take e, c ≠ 0) (h2 : pool.length ≤ b + e ∨ pool[b + e]? = some 0) : (pool.drop b).take e = txt pool b := by
  unfold txt
  rw [take_while (pool.drop b) e (fun c hc => by simpa using h c hc) (by
    rcases h2 with h2 | h2
    · exact .inl (by rw [List.length_drop]; omega)
    · exact .inr ⟨0, by rw [List.getElem?_drop]; exact h2, by simp⟩)]
theorem txt_step {pool : List UInt8} {b e E : Nat} (hE : E = b + e) (h : E < pool.length) : (⟨((pool.drop b).take e).toArray⟩ : ByteArray) ++ (⟨pool.toArray⟩ : ByteArray).extract E (E + 1) = ⟨((pool.drop b).take (e + 1)).toArray⟩ := by
  have h1 := ext_text ⟨pool.toArray⟩ E 1 (by show E + 1 ≤ pool.toArray.size; rw [List.size_toArray]; omega)
  rw [h1]
  show bs ((pool.drop b).take e) ++ bs ((pool.drop E).take 1) = bs ((pool.drop b).take (e + 1))
  rw [bs_append, List.take_add]
  congr 2
  rw [List.drop_drop, hE]
theorem nz_step {pool : List UInt8} {b e E : Nat} (hE : E = b + e) (h : E < pool.length) (hz : pool[E] ≠ 0) (hn : ∀ x ∈ (pool.drop b).take e, x ≠ 0) : ∀ x ∈ (pool.drop b).take (e + 1), x ≠ 0 := by
  subst hE
  rw [List.take_succ_eq_append_getElem (by rw [List.length_drop]; omega), List.getElem_drop]
  intro x hx
  rcases List.mem_append.1 hx with h1 | h1
  · exact hn x h1
  · simp only [List.mem_singleton] at h1
    rw [h1]
    exact hz
theorem add0 (g j : Nat) : Addr.add ⟨g, 0, none⟩ j = ⟨g, j, none⟩ := by unfold Addr.add; split <;> simp_all
theorem quadQ_bd {l r : List UInt8} {q : Int × Int × Nat} (h : quadQ l = some (q, r)) : (In64 q.1 ∧ In64 q.2.1) ∧ r.length ≤ l.length := by
  have hf : ∀ {l r : List UInt8} {n : Int}, fQ l = some (n, r) → In64 n ∧ r.length ≤ l.length := fun {l r n} h => by
    unfold fQ at h
    obtain ⟨y, hy, e⟩ := Option.map_eq_some_iff.1 h
    cases e
    unfold nU at hy
    obtain ⟨z, hz, e⟩ := Option.map_eq_some_iff.1 hy
    cases e
    obtain ⟨_, h1, _⟩ := takeM_le hz
    refine ⟨?_, h1⟩
    have := i32_bd (numU z.1)
    unfold In64
    simp only
    omega
  unfold quadQ at h
  obtain ⟨a, ha, h⟩ := Option.bind_eq_some_iff.1 h
  obtain ⟨b, hb, h⟩ := Option.bind_eq_some_iff.1 h
  obtain ⟨c, hc, e⟩ := Option.map_eq_some_iff.1 h
  cases e
  obtain ⟨a1, a2⟩ := hf ha
  obtain ⟨b1, b2⟩ := hf hb
  refine ⟨⟨a1, b1⟩, ?_⟩
  unfold nU at hc
  obtain ⟨z, hz, e⟩ := Option.map_eq_some_iff.1 hc
  cases e
  obtain ⟨_, h1, _⟩ := takeM_le hz
  simp only
  omega
theorem phQ_ok {pool : List UInt8} (hp : pool.length ≤ 4000) {q : Int × Int × Nat} (h : In64 q.1 ∧ In64 q.2.1) : PW (phQ pool q) := by
  refine ⟨h.1, h.2, ?_⟩
  show ((txt pool q.2.2).toArray).size ≤ 8388608
  rw [List.size_toArray]
  unfold txt
  have h1 := (List.takeWhile_sublist (fun x : UInt8 => decide (x ≠ 0)) (l := pool.drop q.2.2)).length_le
  rw [List.length_drop] at h1
  omega
theorem i64_in (n : Int) : In64 (IntKind.i64.wrap n) := by
  unfold In64
  rw [IntKind.wrap_i64]
  omega
theorem shfQ_all {phs : List Phase} {l : List (Nat × Nat)} {ss : List Shift} (h : mapO (shfQ phs) l = some ss) (hp : ∀ p ∈ phs, PW p) : ∀ z ∈ ss, PW z.ph ∧ In64 z.sec := by
  refine mapO_all h (F := fun z : Shift => PW z.ph ∧ In64 z.sec) fun a _ b hb => ?_
  unfold shfQ at hb
  obtain ⟨ph, h1, e⟩ := Option.map_eq_some_iff.1 hb
  cases e
  exact ⟨hp _ (List.mem_of_getElem? h1), i64_in _⟩
theorem row_row0 {wr wr' : World} {b1 b2 s1 s2 n1 n2 : Nat} {e1 e2 : TypeId} {v1 v2 : Value} {xs1 xs2 : List Value} (h1 : wr.ownsRow b1 e1 s1 v1 n1 xs1) (h2 : wr.ownsRow b2 e2 s2 v2 n2 xs2) (hne : e1 ≠ e2) (hg : wr.grownBy wr' v2.ownBlock) : wr'.ownsRow b1 e1 s1 v1 n1 xs1 :=
  h1.kept hg (Rd.own_own_ne h1 h2 hne).symm
theorem LR.start {α : Type} (p : List UInt8 → Option (α × List UInt8)) (N : Nat) (o0 : Option (List UInt8)) : LR p N o0 0 [] o0 := by
  cases o0 with
  | none => exact .inl ⟨rfl, rfl⟩
  | some l => exact .inr ⟨l, rfl, rfl⟩
theorem LR.step {α : Type} {p : List UInt8 → Option (α × List UInt8)} {N k : Nat} {o0 o' : Option (List UInt8)} {xs : List α} {r : List UInt8} {v : α} (h : LR p N o0 k xs (some r)) (hk : k < N) (hq : QR p (some r) v o') : LR p N o0 (k + 1) (xs ++ [v]) o' := by
  rcases h with ⟨e, _⟩ | ⟨r', e, h⟩
  · cases e
  · cases e
    cases o0 with
    | none => cases h
    | some l =>
      rw [Option.bind_some] at h
      rcases hq with ⟨rfl, hq⟩ | ⟨r2, rfl, hq⟩
      · exact .inl ⟨rfl, by rw [Option.bind_some]; exact repM_stop h hq hk⟩
      · exact .inr ⟨r2, rfl, by rw [Option.bind_some]; exact repM_step h hq⟩
theorem LR.done {α : Type} {p : List UInt8 → Option (α × List UInt8)} {N : Nat} {o0 o : Option (List UInt8)} {xs : List α} (h : LR p N o0 N xs o) : QR (repM p N) o0 xs o := h
theorem LR.bad {α : Type} {p : List UInt8 → Option (α × List UInt8)} {N k : Nat} {o0 : Option (List UInt8)} {xs : List α} (h : LR p N o0 k xs none) : QR (repM p N) o0 xs none := by
  rcases h with h | ⟨r, e, _⟩
  · exact .inl h
  · cases e
theorem LR.len {α : Type} {p : List UInt8 → Option (α × List UInt8)} {N k : Nat} {o0 : Option (List UInt8)} {xs : List α} {r : List UInt8} (h : LR p N o0 k xs (some r)) : xs.length = k := by
  rcases h with ⟨e, _⟩ | ⟨r', e, h⟩
  · cases e
  · cases o0 with
    | none => cases h
    | some l => exact repM_length h
theorem LR.all {k N : Nat} {o0 : Option (List UInt8)} {qs : List (Int × Int × Nat)} {r : List UInt8} (h : LR quadQ N o0 k qs (some r)) : ∀ q ∈ qs, In64 q.1 ∧ In64 q.2.1 := by
  rcases h with ⟨e, _⟩ | ⟨r', e, h⟩
  · cases e
  · cases o0 with
    | none => cases h
    | some l => exact (repM_all (F := fun q : Int × Int × Nat => In64 q.1 ∧ In64 q.2.1) (fun _ _ _ h => quadQ_bd h) h).1
theorem loadq_results {w : World} {R0 : Nat} {a0 a1 a2 a3 a4 a5 a6 a7 a8 : Value} {b : Bool} (h : Blk w R0 27 #[a0, a1, a2, a3, a4, a5, a6, a7, a8]) (tmps : Array Value) (h2 : tmps[2]? = some (.pointer (some ⟨R0, 0, none⟩))) (h3 : tmps[3]? = some (.bool b)) :
    (results Tryz.f13 tmps).run Tryz.prog w = .ok (.tuple #[.agg #[a0, a1, a2, a3, a4, a5, a6, a7, a8], .bool b]) w := by
  have hc := fun i => h.cell i
  simp [results, Tryz.results13, go_sem, hc, h2, h3]
theorem loadz_results {w : World} {R0 : Nat} {b : Bool} (h : Blk w R0 27 zTab) (tmps : Array Value) (h2 : tmps[2]? = some (.pointer (some ⟨R0, 0, none⟩))) (h3 : tmps[3]? = some (.bool b)) :
    (results Tryz.f13 tmps).run Tryz.prog w = .ok (.tuple #[.agg zTab, .bool b]) w := by
  unfold zTab at h ⊢
  exact loadq_results h tmps h2 h3
/-- What Load answers. -/
def LQ (w : World) (r : Option Table) (e : Ending) (w' : World) : Prop :=
  Below w.heap.size w w' ∧ match r with
    | some x => ∃ A c A2 c2, e = .returned (.tuple #[.agg (tabCells x A c A2 c2), .bool true]) ∧ TabOk x A A2 w'
    | none => e = .returned (.tuple #[.agg zTab, .bool false])
theorem LS.zero {w wr : World} {s : ByteArray} {o : Option (List UInt8)} {X : Nat} {cx : Array Value} (h : LS w s o X cx wr) : Blk (wr.setRow w.heap.size zTab) w.heap.size 27 zTab ∧ Below w.heap.size w (wr.setRow w.heap.size zTab) :=
  ⟨row_new h.br, row_below h.bel h.bel.size (Nat.le_refl _)⟩
end Go.Proofs.YtaffaobhcnnfnaaGreatDoor.R15
