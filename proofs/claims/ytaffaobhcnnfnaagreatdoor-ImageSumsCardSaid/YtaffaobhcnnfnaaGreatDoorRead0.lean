/-
  Images read: what (*reader).read computes, in plain words, and how large what it reads is. Conditions: none but bounded lengths.
-/
import Derived.Test.YtaffaobhcnnfnaaGreatDoorRd3
import Derived.Test.YtaffaobhcnnfnaaGreatDoorSave0
namespace Go.Proofs.YtaffaobhcnnfnaaGreatDoor.Rd
open Go.RowKit Mem Img

section
variable {α β : Type}
/-- So many times. -/
def repM (p : List UInt8 → Option (α × List UInt8)) : Nat → List UInt8 → Option (List α × List UInt8)
  | 0, l => some ([], l)
  | n + 1, l => (repM p n l).bind fun y => (p y.2).map fun x => (y.1 ++ [x.1], x.2)
theorem repM_none {p : List UInt8 → Option (α × List UInt8)} {k n : Nat} {l : List UInt8} (h : repM p k l = none) (hk : k ≤ n) : repM p n l = none := by
  induction n with
  | zero => obtain rfl : k = 0 := by omega
            exact h
  | succ n ih =>
    rcases Nat.lt_or_ge n k with h1 | h1
    · obtain rfl : k = n + 1 := by omega
      exact h
    · rw [repM, ih h1]
      rfl
theorem repM_step {p : List UInt8 → Option (α × List UInt8)} {k : Nat} {l r r' : List UInt8} {xs : List α} {x : α} (h : repM p k l = some (xs, r)) (hx : p r = some (x, r')) : repM p (k + 1) l = some (xs ++ [x], r') := by
  rw [repM, h, Option.bind_some, hx]
  rfl
theorem repM_stop {p : List UInt8 → Option (α × List UInt8)} {k n : Nat} {l r : List UInt8} {xs : List α} (h : repM p k l = some (xs, r)) (hx : p r = none) (hk : k < n) : repM p n l = none := by
  refine repM_none (k := k + 1) ?_ hk
  rw [repM, h, Option.bind_some, hx]
  rfl
theorem repM_length {p : List UInt8 → Option (α × List UInt8)} {k : Nat} {l r : List UInt8} {xs : List α} (h : repM p k l = some (xs, r)) : xs.length = k := by
  induction k generalizing xs r with
  | zero => simp [repM] at h; simp [← h.1]
  | succ k ih =>
    rw [repM] at h
    cases h1 : repM p k l with
    | none => rw [h1] at h; cases h
    | some y =>
      obtain ⟨ys, r1⟩ := y
      rw [h1, Option.bind_some] at h
      cases h2 : p r1 with
      | none => rw [h2] at h; cases h
      | some z =>
        rw [h2] at h
        simp only [Option.map_some, Option.some.injEq, Prod.mk.injEq] at h
        rw [← h.1, List.length_append, ih h1]
        rfl
/-- What holds of all that are read, and that bytes grow fewer. -/
theorem repM_all {p : List UInt8 → Option (α × List UInt8)} {F : α → Prop} (hp : ∀ l x r, p l = some (x, r) → F x ∧ r.length ≤ l.length) {k : Nat} {l r : List UInt8} {xs : List α} (h : repM p k l = some (xs, r)) :
    (∀ x ∈ xs, F x) ∧ r.length ≤ l.length := by
  induction k generalizing xs r with
  | zero =>
    simp [repM] at h
    obtain ⟨rfl, rfl⟩ := h
    simp
  | succ k ih =>
    rw [repM] at h
    cases h1 : repM p k l with
    | none => rw [h1] at h; cases h
    | some y =>
      obtain ⟨ys, r1⟩ := y
      rw [h1, Option.bind_some] at h
      cases h2 : p r1 with
      | none => rw [h2] at h; cases h
      | some z =>
        rw [h2] at h
        simp only [Option.map_some, Option.some.injEq, Prod.mk.injEq] at h
        obtain ⟨i1, i2⟩ := ih h1
        obtain ⟨j1, j2⟩ := hp _ _ _ h2
        rw [← h.1, ← h.2]
        refine ⟨fun x hx => ?_, by omega⟩
        rcases List.mem_append.1 hx with hx | hx
        · exact i1 x hx
        · rw [List.mem_singleton.1 hx]; exact j1
/-- A list through a function that may fail. -/
def mapO (f : α → Option β) : List α → Option (List β)
  | [] => some []
  | a :: t => (f a).bind fun b => (mapO f t).map (b :: ·)
theorem mapO_append (f : α → Option β) (l t : List α) : mapO f (l ++ t) = (mapO f l).bind fun bs => (mapO f t).map (bs ++ ·) := by
  induction l with
  | nil => simp [mapO]
  | cons a l ih =>
    rw [List.cons_append, mapO, mapO, ih]
    cases f a with
    | none => rfl
    | some b =>
      cases mapO f l with
      | none => rfl
      | some bs => cases mapO f t <;> rfl
theorem mapO_take_succ (f : α → Option β) (l : List α) (k : Nat) (hk : k < l.length) : mapO f (l.take (k + 1)) = (mapO f (l.take k)).bind fun bs => (f l[k]).map fun b => bs ++ [b] := by
  rw [List.take_succ_eq_append_getElem hk, mapO_append]
  cases mapO f (l.take k) with
  | none => rfl
  | some bs => cases h : f l[k] <;> simp [mapO, h]
theorem mapO_stop {f : α → Option β} {l : List α} {k : Nat} (hk : k < l.length) (h : f l[k] = none) : mapO f l = none := by
  have : mapO f (l.take (k + 1)) = none := by
    rw [mapO_take_succ f l k hk, h]
    cases mapO f (l.take k) <;> rfl
  rw [← List.take_append_drop (k + 1) l, mapO_append, this]
  rfl
theorem mapO_step {f : α → Option β} {l : List α} {k : Nat} {bs : List β} {b : β} (hk : k < l.length) (h : mapO f (l.take k) = some bs) (hb : f l[k] = some b) : mapO f (l.take (k + 1)) = some (bs ++ [b]) := by
  rw [mapO_take_succ f l k hk, h, hb]
  rfl
theorem mapO_length {f : α → Option β} {l : List α} {bs : List β} (h : mapO f l = some bs) : bs.length = l.length := by
  induction l generalizing bs with
  | nil => simp [mapO] at h; simp [← h]
  | cons a l ih =>
    rw [mapO] at h
    cases h1 : f a with
    | none => rw [h1] at h; cases h
    | some b =>
      cases h2 : mapO f l with
      | none => rw [h1, h2] at h; cases h
      | some cs =>
        rw [h1, h2] at h
        simp only [Option.bind_some, Option.map_some, Option.some.injEq] at h
        rw [← h, List.length_cons, List.length_cons, ih h2]
theorem mapO_all {f : α → Option β} {l : List α} {bs : List β} (h : mapO f l = some bs) {F : β → Prop} (hf : ∀ a ∈ l, ∀ b, f a = some b → F b) : ∀ b ∈ bs, F b := by
  induction l generalizing bs with
  | nil =>
    simp [mapO] at h
    subst h
    simp
  | cons a l ih =>
    rw [mapO] at h
    cases h1 : f a with
    | none => rw [h1] at h; cases h
    | some b =>
      cases h2 : mapO f l with
      | none => rw [h1, h2] at h; cases h
      | some cs =>
        rw [h1, h2] at h
        simp only [Option.bind_some, Option.map_some, Option.some.injEq] at h
        rw [← h]
        intro c hc
        rcases List.mem_cons.1 hc with rfl | hc
        · exact hf a (.head _) _ h1
        · exact ih h2 (fun a ha => hf a (.tail _ ha)) c hc
end

def quadM (r : List UInt8) : Option ((Int × Int × Int) × List UInt8) := (numM .i32 4 r).bind fun a => (numM .i32 4 a.2).bind fun b => (numM .u32 4 b.2).map fun c => ((a.1, b.1, c.1), c.2)
def phM (pool : List UInt8) (q : Int × Int × Int) : Option Phase := (abbrM pool q.2.2.toNat).map fun s => ⟨q.1, q.2.1, ⟨s.toArray⟩⟩
def shM (phs : List Phase) (q : Int × Int) : Option Shift := (phs[q.2.toNat]?).map fun ph => ⟨q.1, ph⟩
def r3 (name : List UInt8) (first : Phase) (ss : List Shift) (l : List UInt8) : Option (Table × List UInt8) :=
  (numM .i64 8 l).bind fun till => (numM .u8 1 till.2).bind fun t => (repM ruleM t.1.toNat t.2).bind fun rs => (numM .i32 4 rs.2).bind fun off => (shortM off.2).map fun f => (⟨⟨name.toArray⟩, first, ss, till.1, rs.1, off.1, ⟨f.1.toArray⟩⟩, f.2)
def r2c (name : List UInt8) (s p : List Int) (q : List (Int × Int × Int)) (t : List UInt8 × List UInt8) : Option (Table × List UInt8) :=
  (mapO (phM t.1) q).bind fun phs => (mapO (shM phs) (s.zip p)).bind fun ss => phs.head?.bind fun first => r3 name first ss t.2
def r2 (name : List UInt8) (n k m : Nat) (l : List UInt8) : Option (Table × List UInt8) :=
  (repM (numM .i64 8) n l).bind fun s => (repM (numM .u32 4) n s.2).bind fun p => (repM quadM k p.2).bind fun q => (takeM m q.2).bind fun t => r2c name s.1 p.1 q.1 t
def r1 (l : List UInt8) : Option (Table × List UInt8) := (shortM l).bind fun a => (manyM 12 a.2).bind fun n => (manyM 12 n.2).bind fun k => (manyM 1 k.2).bind fun m => r2 a.1 n.1.toNat k.1.toNat m.1.toNat m.2
/-- The table of bytes, whatever they are, and what is left. -/
def readM (l : List UInt8) : Option (Table × List UInt8) := (takeM 4 l).bind fun h => if h.1 = magic then r1 h.2 else none

/-- What is bounded in a table that was read. -/
structure TabB (x : Table) : Prop where
  ns : x.shifts.length ≤ 1000000
  nt : x.tail.length ≤ 1000000
  name : x.name.size ≤ 2097152
  format : x.format.size ≤ 2097152
  first : PW x.first
  shifts : ∀ s ∈ x.shifts, PW s.ph
  rules : ∀ r ∈ x.tail, r.name.size ≤ 2097152 ∧ r.letter.size ≤ 2097152

theorem takeM_le {n : Nat} {l s r : List UInt8} (h : takeM n l = some (s, r)) : s.length = n ∧ r.length ≤ l.length ∧ n ≤ l.length ∧ s = l.take n ∧ r = l.drop n := by
  unfold takeM at h
  split at h
  · simp only [Option.some.injEq, Prod.mk.injEq] at h
    rw [← h.1, ← h.2, List.length_take, List.length_drop]
    exact ⟨by omega, by omega, by omega, rfl, rfl⟩
  · cases h
theorem numM_le {q : IntKind} {k : Nat} {l r : List UInt8} {n : Int} (h : numM q k l = some (n, r)) : r.length ≤ l.length := by
  unfold numM at h
  cases h1 : takeM k l with
  | none => rw [h1] at h; cases h
  | some y =>
    rw [h1] at h
    simp only [Option.map_some, Option.some.injEq, Prod.mk.injEq] at h
    rw [← h.2]
    exact (takeM_le (s := y.1) (r := y.2) h1).2.1
theorem shortM_le {l s r : List UInt8} (h : shortM l = some (s, r)) : s.length ≤ 255 ∧ r.length ≤ l.length := by
  unfold shortM at h
  cases h1 : numM .u8 1 l with
  | none => rw [h1] at h; cases h
  | some y =>
    obtain ⟨n, r1⟩ := y
    rw [h1, Option.bind_some] at h
    obtain ⟨a, b, c⟩ := numM_u8 h1
    obtain ⟨d, e, _⟩ := takeM_le h
    simp only at d e
    exact ⟨by omega, by omega⟩
theorem manyM_le {b : Nat} {l r : List UInt8} {n : Int} (h : manyM b l = some (n, r)) : 0 ≤ n ∧ n * b ≤ r.length ∧ r.length ≤ l.length := by
  unfold manyM at h
  cases h1 : numM .u32 4 l with
  | none => rw [h1] at h; cases h
  | some y =>
    obtain ⟨n', r1⟩ := y
    rw [h1, Option.bind_some] at h
    obtain ⟨a, b, c⟩ := numM_u32 h1
    simp only at h
    split at h
    · cases h
    · simp only [Option.some.injEq, Prod.mk.injEq] at h
      obtain ⟨rfl, rfl⟩ := h
      exact ⟨a, by omega, c⟩
theorem rM4_le {v : List UInt8} {lo a b c d : Int} {l r : List UInt8} {x : Rule} (hv : v.length ≤ 255) (h : rM4 v lo a b c d l = some (x, r)) : (x.name.size ≤ 2097152 ∧ x.letter.size ≤ 2097152) ∧ r.length ≤ l.length := by
  unfold rM4 at h
  cases h1 : numM .i32 4 l with
  | none => rw [h1] at h; cases h
  | some y1 =>
    rw [h1, Option.bind_some] at h
    cases h2 : numM .u8 1 y1.2 with
    | none => rw [h2] at h; cases h
    | some y2 =>
      rw [h2, Option.bind_some] at h
      cases h3 : numM .i32 4 y2.2 with
      | none => rw [h3] at h; cases h
      | some y3 =>
        rw [h3, Option.bind_some] at h
        cases h4 : shortM y3.2 with
        | none => rw [h4] at h; cases h
        | some y4 =>
          rw [h4] at h
          simp only [Option.map_some, Option.some.injEq, Prod.mk.injEq] at h
          obtain ⟨k1, k2⟩ := shortM_le (s := y4.1) (r := y4.2) h4
          have := numM_le (r := y1.2) (n := y1.1) h1
          have := numM_le (r := y2.2) (n := y2.1) h2
          have := numM_le (r := y3.2) (n := y3.1) h3
          rw [← h.1, ← h.2]
          exact ⟨⟨by show v.length ≤ _; omega, by show y4.1.length ≤ _; omega⟩, by omega⟩
theorem ruleM_le {l r : List UInt8} {x : Rule} (h : ruleM l = some (x, r)) : (x.name.size ≤ 2097152 ∧ x.letter.size ≤ 2097152) ∧ r.length ≤ l.length := by
  unfold ruleM at h
  cases h1 : shortM l with
  | none => rw [h1] at h; cases h
  | some y1 =>
    rw [h1, Option.bind_some] at h
    cases h2 : numM .u16 2 y1.2 with
    | none => rw [h2] at h; cases h
    | some y2 =>
      rw [h2, Option.bind_some, rM] at h
      obtain ⟨k1, k2⟩ := shortM_le (s := y1.1) (r := y1.2) h1
      have := numM_le (r := y2.2) (n := y2.1) h2
      cases h3 : numM .u8 1 y2.2 with
      | none => rw [h3] at h; cases h
      | some y3 =>
        rw [h3, Option.bind_some] at h
        cases h4 : numM .u8 1 y3.2 with
        | none => rw [h4] at h; cases h
        | some y4 =>
          rw [h4, Option.bind_some] at h
          cases h5 : numM .u8 1 y4.2 with
          | none => rw [h5] at h; cases h
          | some y5 =>
            rw [h5, Option.bind_some] at h
            cases h6 : numM .u8 1 y5.2 with
            | none => rw [h6] at h; cases h
            | some y6 =>
              rw [h6, Option.bind_some] at h
              obtain ⟨j1, j2⟩ := rM4_le k1 h
              have := numM_le (r := y3.2) (n := y3.1) h3
              have := numM_le (r := y4.2) (n := y4.1) h4
              have := numM_le (r := y5.2) (n := y5.1) h5
              have := numM_le (r := y6.2) (n := y6.1) h6
              exact ⟨j1, by omega⟩
theorem quadM_le {l r : List UInt8} {x : Int × Int × Int} (h : quadM l = some (x, r)) : (In64 x.1 ∧ In64 x.2.1) ∧ r.length ≤ l.length := by
  unfold quadM at h
  cases h1 : numM .i32 4 l with
  | none => rw [h1] at h; cases h
  | some y1 =>
    rw [h1, Option.bind_some] at h
    cases h2 : numM .i32 4 y1.2 with
    | none => rw [h2] at h; cases h
    | some y2 =>
      rw [h2, Option.bind_some] at h
      cases h3 : numM .u32 4 y2.2 with
      | none => rw [h3] at h; cases h
      | some y3 =>
        rw [h3] at h
        simp only [Option.map_some, Option.some.injEq, Prod.mk.injEq] at h
        have a1 := numM_i32 (rest := y1.2) (n := y1.1) h1
        have a2 := numM_i32 (rest := y2.2) (n := y2.1) h2
        have := numM_le (r := y1.2) (n := y1.1) h1
        have := numM_le (r := y2.2) (n := y2.1) h2
        have := numM_le (r := y3.2) (n := y3.1) h3
        rw [← h.1, ← h.2]
        refine ⟨⟨?_, ?_⟩, by omega⟩ <;> · unfold In64; simp only; omega
theorem cut_len (l : List UInt8) : (Lib.cut l [0]).1.length ≤ l.length := by
  unfold Lib.cut
  split
  · rw [List.length_take]; omega
  · exact Nat.le_refl _
theorem abbrM_le {pool s : List UInt8} {k : Nat} (h : abbrM pool k = some s) : s.length ≤ pool.length := by
  unfold abbrM at h
  split at h
  · cases h
  · split at h
    · simp only [Option.some.injEq] at h
      rw [← h]
      have := cut_len (pool.drop k)
      rw [List.length_drop] at this
      omega
    · cases h
theorem r3_ok {name : List UInt8} {first : Phase} {ss : List Shift} {l r : List UInt8} {x : Table} (hn : name.length ≤ 255) (hs : ss.length ≤ 1000000) (hf : PW first) (hp : ∀ s ∈ ss, PW s.ph) (h : r3 name first ss l = some (x, r)) : TabB x := by
  unfold r3 at h
  cases h1 : numM .i64 8 l with
  | none => rw [h1] at h; cases h
  | some y1 =>
    rw [h1, Option.bind_some] at h
    cases h2 : numM .u8 1 y1.2 with
    | none => rw [h2] at h; cases h
    | some y2 =>
      rw [h2, Option.bind_some] at h
      cases h3 : repM ruleM y2.1.toNat y2.2 with
      | none => rw [h3] at h; cases h
      | some y3 =>
        rw [h3, Option.bind_some] at h
        cases h4 : numM .i32 4 y3.2 with
        | none => rw [h4] at h; cases h
        | some y4 =>
          rw [h4, Option.bind_some] at h
          cases h5 : shortM y4.2 with
          | none => rw [h5] at h; cases h
          | some y5 =>
            rw [h5] at h
            simp only [Option.map_some, Option.some.injEq, Prod.mk.injEq] at h
            have a2 := numM_u8 (rest := y2.2) (n := y2.1) h2
            have a5 := shortM_le (s := y5.1) (r := y5.2) h5
            have a3 := repM_length (xs := y3.1) (r := y3.2) h3
            have b3 := (repM_all (F := fun r : Rule => r.name.size ≤ 2097152 ∧ r.letter.size ≤ 2097152) (fun l x r hx => ruleM_le hx) (xs := y3.1) (r := y3.2) h3).1
            rw [← h.1]
            exact ⟨hs, by show y3.1.length ≤ _; omega, by show name.length ≤ _; omega, by show y5.1.length ≤ _; omega, hf, hp, b3⟩
theorem readM_ok {l r : List UInt8} {x : Table} (hl : l.length ≤ 8388608) (h : readM l = some (x, r)) : TabB x := by
  unfold readM at h
  cases h0 : takeM 4 l with
  | none => rw [h0] at h; cases h
  | some y0 =>
    rw [h0, Option.bind_some] at h
    have k0 := takeM_le (s := y0.1) (r := y0.2) h0
    split at h
    · unfold r1 at h
      cases h1 : shortM y0.2 with
      | none => rw [h1] at h; cases h
      | some y1 =>
        rw [h1, Option.bind_some] at h
        cases h2 : manyM 12 y1.2 with
        | none => rw [h2] at h; cases h
        | some y2 =>
          rw [h2, Option.bind_some] at h
          cases h3 : manyM 12 y2.2 with
          | none => rw [h3] at h; cases h
          | some y3 =>
            rw [h3, Option.bind_some] at h
            cases h4 : manyM 1 y3.2 with
            | none => rw [h4] at h; cases h
            | some y4 =>
              rw [h4, Option.bind_some] at h
              unfold r2 at h
              have k1 := shortM_le (s := y1.1) (r := y1.2) h1
              have k2 := manyM_le (n := y2.1) (r := y2.2) h2
              have k3 := manyM_le (n := y3.1) (r := y3.2) h3
              have k4 := manyM_le (n := y4.1) (r := y4.2) h4
              cases h5 : repM (numM .i64 8) y2.1.toNat y4.2 with
              | none => rw [h5] at h; cases h
              | some y5 =>
                rw [h5, Option.bind_some] at h
                have k5 := repM_length (xs := y5.1) (r := y5.2) h5
                cases h6 : repM (numM .u32 4) y2.1.toNat y5.2 with
                | none => rw [h6] at h; cases h
                | some y6 =>
                  rw [h6, Option.bind_some] at h
                  cases h7 : repM quadM y3.1.toNat y6.2 with
                  | none => rw [h7] at h; cases h
                  | some y7 =>
                    rw [h7, Option.bind_some] at h
                    have k5 := (repM_all (F := fun _ => True) (fun l x r hx => ⟨trivial, numM_le hx⟩) (xs := y5.1) (r := y5.2) h5).2
                    have k6 := (repM_all (F := fun _ => True) (fun l x r hx => ⟨trivial, numM_le hx⟩) (xs := y6.1) (r := y6.2) h6).2
                    have k7 := repM_all (F := fun x : Int × Int × Int => In64 x.1 ∧ In64 x.2.1) (fun l x r hx => quadM_le hx) (xs := y7.1) (r := y7.2) h7
                    cases h8 : takeM y4.1.toNat y7.2 with
                    | none => rw [h8] at h; cases h
                    | some y8 =>
                      rw [h8, Option.bind_some, r2c] at h
                      have k8 := takeM_le (s := y8.1) (r := y8.2) h8
                      cases h9 : mapO (phM y8.1) y7.1 with
                      | none => rw [h9] at h; cases h
                      | some phs =>
                        rw [h9, Option.bind_some] at h
                        have k9 : ∀ p ∈ phs, PW p := mapO_all h9 fun q hq b hb => by
                          unfold phM at hb
                          cases ha : abbrM y8.1 q.2.2.toNat with
                          | none => rw [ha] at hb; cases hb
                          | some s =>
                            rw [ha] at hb
                            simp only [Option.map_some, Option.some.injEq] at hb
                            rw [← hb]
                            have := abbrM_le ha
                            have := k7.2
                            exact ⟨(k7.1 q hq).1, (k7.1 q hq).2, by show s.length ≤ _; omega⟩
                        cases h10 : mapO (shM phs) (y5.1.zip y6.1) with
                        | none => rw [h10] at h; cases h
                        | some ss =>
                          rw [h10, Option.bind_some] at h
                          have k10 : ∀ s ∈ ss, PW s.ph := mapO_all (F := fun s => PW s.ph) h10 fun q hq b hb => by
                            unfold shM at hb
                            cases ha : phs[q.2.toNat]? with
                            | none => rw [ha] at hb; cases hb
                            | some p =>
                              rw [ha] at hb
                              simp only [Option.map_some, Option.some.injEq] at hb
                              rw [← hb]
                              exact k9 _ (List.mem_of_getElem? ha)
                          have k11 := mapO_length h10
                          rw [List.length_zip] at k11
                          cases h12 : phs.head? with
                          | none => rw [h12] at h; cases h
                          | some first =>
                            rw [h12, Option.bind_some] at h
                            refine r3_ok k1.1 ?_ (k9 _ (List.mem_of_head? h12)) k10 h
                            have := repM_length (xs := y5.1) (r := y5.2) h5
                            omega
    · cases h
end Go.Proofs.YtaffaobhcnnfnaaGreatDoor.Rd
