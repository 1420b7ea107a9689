/-
  Images read: what (*reader).read computes, in plain words, and how large what it reads is. Conditions: none but bounded lengths.
  Images read: what the contract of (*reader).read says, and lemmas for it. Conditions: none.
-/
import Derived.Test.YtpbojebnghcndaaGreatDoorRd
import Derived.Test.YtpbojebnghcndaaGreatDoorSave
import Derived.RegionDies
namespace Go.Proofs.YtpbojebnghcndaaGreatDoor.Rd
open Go.RowKit Mem Img

section
variable {α β : Type}
/-- So many times. -/
def repM (p : List UInt8 → Option (α × List UInt8)) : Nat → List UInt8 → Option (List α × List UInt8)
  | 0, l => some ([], l)
  | n + 1, l => (repM p n l).bind fun y => (p y.2).map fun x => (y.1 ++ [x.1], x.2)
theorem repM_none {p : List UInt8 → Option (α × List UInt8)} {k n : Nat} {l : List UInt8} (h : repM p k l = none) (hk : k ≤ n) : repM p n l = none := by
  induction n with
  | zero => obtain rfl : k = 0 := by omega
            exact h
  | succ n ih =>
    rcases Nat.lt_or_ge n k with h1 | h1
    · obtain rfl : k = n + 1 := by omega
      exact h
    · rw [repM, ih h1]
      rfl
theorem repM_step {p : List UInt8 → Option (α × List UInt8)} {k : Nat} {l r r' : List UInt8} {xs : List α} {x : α} (h : repM p k l = some (xs, r)) (hx : p r = some (x, r')) : repM p (k + 1) l = some (xs ++ [x], r') := by
  rw [repM, h, Option.bind_some, hx]
  rfl
theorem repM_stop {p : List UInt8 → Option (α × List UInt8)} {k n : Nat} {l r : List UInt8} {xs : List α} (h : repM p k l = some (xs, r)) (hx : p r = none) (hk : k < n) : repM p n l = none := by
  refine repM_none (k := k + 1) ?_ hk
  rw [repM, h, Option.bind_some, hx]
  rfl
theorem repM_length {p : List UInt8 → Option (α × List UInt8)} {k : Nat} {l r : List UInt8} {xs : List α} (h : repM p k l = some (xs, r)) : xs.length = k := by
  induction k generalizing xs r with
  | zero => simp [repM] at h; simp [← h.1]
  | succ k ih =>
    rw [repM] at h
    cases h1 : repM p k l with
    | none => rw [h1] at h; cases h
    | some y =>
      obtain ⟨ys, r1⟩ := y
      rw [h1, Option.bind_some] at h
      cases h2 : p r1 with
      | none => rw [h2] at h; cases h
      | some z =>
        rw [h2] at h
        simp only [Option.map_some, Option.some.injEq, Prod.mk.injEq] at h
        rw [← h.1, List.length_append, ih h1]
        rfl
/-- What holds of all that are read, and that bytes grow fewer. -/
theorem repM_all {p : List UInt8 → Option (α × List UInt8)} {F : α → Prop} (hp : ∀ l x r, p l = some (x, r) → F x ∧ r.length ≤ l.length) {k : Nat} {l r : List UInt8} {xs : List α} (h : repM p k l = some (xs, r)) :
    (∀ x ∈ xs, F x) ∧ r.length ≤ l.length := by
  induction k generalizing xs r with
  | zero =>
    simp [repM] at h
    obtain ⟨rfl, rfl⟩ := h
    simp
  | succ k ih =>
    rw [repM] at h
    cases h1 : repM p k l with
    | none => rw [h1] at h; cases h
    | some y =>
      obtain ⟨ys, r1⟩ := y
      rw [h1, Option.bind_some] at h
      cases h2 : p r1 with
      | none => rw [h2] at h; cases h
      | some z =>
        rw [h2] at h
        simp only [Option.map_some, Option.some.injEq, Prod.mk.injEq] at h
        obtain ⟨i1, i2⟩ := ih h1
        obtain ⟨j1, j2⟩ := hp _ _ _ h2
        rw [← h.1, ← h.2]
        refine ⟨fun x hx => ?_, by omega⟩
        rcases List.mem_append.1 hx with hx | hx
        · exact i1 x hx
        · rw [List.mem_singleton.1 hx]; exact j1
/-- A list through a function that may fail. -/
def mapO (f : α → Option β) : List α → Option (List β)
  | [] => some []
  | a :: t => (f a).bind fun b => (mapO f t).map (b :: ·)
theorem mapO_append (f : α → Option β) (l t : List α) : mapO f (l ++ t) = (mapO f l).bind fun bs => (mapO f t).map (bs ++ ·) := by
  induction l with
  | nil => simp [mapO]
  | cons a l ih =>
    rw [List.cons_append, mapO, mapO, ih]
    cases f a with
    | none => rfl
    | some b =>
      cases mapO f l with
      | none => rfl
      | some bs => cases mapO f t <;> rfl
theorem mapO_take_succ (f : α → Option β) (l : List α) (k : Nat) (hk : k < l.length) : mapO f (l.take (k + 1)) = (mapO f (l.take k)).bind fun bs => (f l[k]).map fun b => bs ++ [b] := by
  rw [List.take_succ_eq_append_getElem hk, mapO_append]
  cases mapO f (l.take k) with
  | none => rfl
  | some bs => cases h : f l[k] <;> simp [mapO, h]
theorem mapO_stop {f : α → Option β} {l : List α} {k : Nat} (hk : k < l.length) (h : f l[k] = none) : mapO f l = none := by
  have : mapO f (l.take (k + 1)) = none := by
    rw [mapO_take_succ f l k hk, h]
    cases mapO f (l.take k) <;> rfl
  rw [← List.take_append_drop (k + 1) l, mapO_append, this]
  rfl
theorem mapO_step {f : α → Option β} {l : List α} {k : Nat} {bs : List β} {b : β} (hk : k < l.length) (h : mapO f (l.take k) = some bs) (hb : f l[k] = some b) : mapO f (l.take (k + 1)) = some (bs ++ [b]) := by
  rw [mapO_take_succ f l k hk, h, hb]
  rfl
theorem mapO_length {f : α → Option β} {l : List α} {bs : List β} (h : mapO f l = some bs) : bs.length = l.length := by
  induction l generalizing bs with
  | nil => simp [mapO] at h; simp [← h]
  | cons a l ih =>
    rw [mapO] at h
    cases h1 : f a with
    | none => rw [h1] at h; cases h
    | some b =>
      cases h2 : mapO f l with
      | none => rw [h1, h2] at h; cases h
      | some cs =>
        rw [h1, h2] at h
        simp only [Option.bind_some, Option.map_some, Option.some.injEq] at h
        rw [← h, List.length_cons, List.length_cons, ih h2]
theorem mapO_all {f : α → Option β} {l : List α} {bs : List β} (h : mapO f l = some bs) {F : β → Prop} (hf : ∀ a ∈ l, ∀ b, f a = some b → F b) : ∀ b ∈ bs, F b := by
  induction l generalizing bs with
  | nil =>
    simp [mapO] at h
    subst h
    simp
  | cons a l ih =>
    rw [mapO] at h
    cases h1 : f a with
    | none => rw [h1] at h; cases h
    | some b =>
      cases h2 : mapO f l with
      | none => rw [h1, h2] at h; cases h
      | some cs =>
        rw [h1, h2] at h
        simp only [Option.bind_some, Option.map_some, Option.some.injEq] at h
        rw [← h]
        intro c hc
        rcases List.mem_cons.1 hc with rfl | hc
        · exact hf a (.head _) _ h1
        · exact ih h2 (fun a ha => hf a (.tail _ ha)) c hc
end

def quadM (r : List UInt8) : Option ((Int × Int × Int) × List UInt8) := (numM .i32 4 r).bind fun a => (numM .i32 4 a.2).bind fun b => (numM .u32 4 b.2).map fun c => ((a.1, b.1, c.1), c.2)
def phM (pool : List UInt8) (q : Int × Int × Int) : Option Phase := (abbrM pool q.2.2.toNat).map fun s => ⟨q.1, q.2.1, ⟨s.toArray⟩⟩
def shM (phs : List Phase) (q : Int × Int) : Option Shift := (phs[q.2.toNat]?).map fun ph => ⟨q.1, ph⟩
def r3 (name : List UInt8) (first : Phase) (ss : List Shift) (l : List UInt8) : Option (Table × List UInt8) :=
  (numM .i64 8 l).bind fun till => (numM .u8 1 till.2).bind fun t => (repM ruleM t.1.toNat t.2).bind fun rs => (numM .i32 4 rs.2).bind fun off => (shortM off.2).map fun f => (⟨⟨name.toArray⟩, first, ss, till.1, rs.1, off.1, ⟨f.1.toArray⟩⟩, f.2)
def r2c (name : List UInt8) (s p : List Int) (q : List (Int × Int × Int)) (t : List UInt8 × List UInt8) : Option (Table × List UInt8) :=
  (mapO (phM t.1) q).bind fun phs => (mapO (shM phs) (s.zip p)).bind fun ss => phs.head?.bind fun first => r3 name first ss t.2
def r2 (name : List UInt8) (n k m : Nat) (l : List UInt8) : Option (Table × List UInt8) :=
  (repM (numM .i64 8) n l).bind fun s => (repM (numM .u32 4) n s.2).bind fun p => (repM quadM k p.2).bind fun q => (takeM m q.2).bind fun t => r2c name s.1 p.1 q.1 t
def r1 (l : List UInt8) : Option (Table × List UInt8) := (shortM l).bind fun a => (manyM 12 a.2).bind fun n => (manyM 12 n.2).bind fun k => (manyM 1 k.2).bind fun m => r2 a.1 n.1.toNat k.1.toNat m.1.toNat m.2
/-- The table of bytes, whatever they are, and what is left. -/
def readM (l : List UInt8) : Option (Table × List UInt8) := (takeM 4 l).bind fun h => if h.1 = magic then r1 h.2 else none

/-- What is bounded in a table that was read. -/
structure TabB (x : Table) : Prop where
  ns : x.shifts.length ≤ 1000000
  nt : x.tail.length ≤ 1000000
  name : x.name.size ≤ 2097152
  format : x.format.size ≤ 2097152
  first : PW x.first
  shifts : ∀ s ∈ x.shifts, PW s.ph
  rules : ∀ r ∈ x.tail, r.name.size ≤ 2097152 ∧ r.letter.size ≤ 2097152

theorem takeM_le {n : Nat} {l s r : List UInt8} (h : takeM n l = some (s, r)) : s.length = n ∧ r.length ≤ l.length ∧ n ≤ l.length ∧ s = l.take n ∧ r = l.drop n := by
  unfold takeM at h
  split at h
  · simp only [Option.some.injEq, Prod.mk.injEq] at h
    rw [← h.1, ← h.2, List.length_take, List.length_drop]
    exact ⟨by omega, by omega, by omega, rfl, rfl⟩
  · cases h
theorem numM_le {q : IntKind} {k : Nat} {l r : List UInt8} {n : Int} (h : numM q k l = some (n, r)) : r.length ≤ l.length := by
  unfold numM at h
  cases h1 : takeM k l with
  | none => rw [h1] at h; cases h
  | some y =>
    rw [h1] at h
    simp only [Option.map_some, Option.some.injEq, Prod.mk.injEq] at h
    rw [← h.2]
    exact (takeM_le (s := y.1) (r := y.2) h1).2.1
theorem shortM_le {l s r : List UInt8} (h : shortM l = some (s, r)) : s.length ≤ 255 ∧ r.length ≤ l.length := by
  unfold shortM at h
  cases h1 : numM .u8 1 l with
  | none => rw [h1] at h; cases h
  | some y =>
    obtain ⟨n, r1⟩ := y
    rw [h1, Option.bind_some] at h
    obtain ⟨a, b, c⟩ := numM_u8 h1
    obtain ⟨d, e, _⟩ := takeM_le h
    simp only at d e
    exact ⟨by omega, by omega⟩
theorem manyM_le {b : Nat} {l r : List UInt8} {n : Int} (h : manyM b l = some (n, r)) : 0 ≤ n ∧ n * b ≤ r.length ∧ r.length ≤ l.length := by
  unfold manyM at h
  cases h1 : numM .u32 4 l with
  | none => rw [h1] at h; cases h
  | some y =>
    obtain ⟨n', r1⟩ := y
    rw [h1, Option.bind_some] at h
    obtain ⟨a, b, c⟩ := numM_u32 h1
    simp only at h
    split at h
    · cases h
    · simp only [Option.some.injEq, Prod.mk.injEq] at h
      obtain ⟨rfl, rfl⟩ := h
      exact ⟨a, by omega, c⟩
theorem rM4_le {v : List UInt8} {lo a b c d : Int} {l r : List UInt8} {x : Rule} (hv : v.length ≤ 255) (h : rM4 v lo a b c d l = some (x, r)) : (x.name.size ≤ 2097152 ∧ x.letter.size ≤ 2097152) ∧ r.length ≤ l.length := by
  unfold rM4 at h
  cases h1 : numM .i32 4 l with
  | none => rw [h1] at h; cases h
  | some y1 =>
    rw [h1, Option.bind_some] at h
    cases h2 : numM .u8 1 y1.2 with
    | none => rw [h2] at h; cases h
    | some y2 =>
      rw [h2, Option.bind_some] at h
      cases h3 : numM .i32 4 y2.2 with
      | none => rw [h3] at h; cases h
      | some y3 =>
        rw [h3, Option.bind_some] at h
        cases h4 : shortM y3.2 with
        | none => rw [h4] at h; cases h
        | some y4 =>
          rw [h4] at h
          simp only [Option.map_some, Option.some.injEq, Prod.mk.injEq] at h
          obtain ⟨k1, k2⟩ := shortM_le (s := y4.1) (r := y4.2) h4
          have := numM_le (r := y1.2) (n := y1.1) h1
          have := numM_le (r := y2.2) (n := y2.1) h2
          have := numM_le (r := y3.2) (n := y3.1) h3
          rw [← h.1, ← h.2]
          exact ⟨⟨by show v.length ≤ _; omega, by show y4.1.length ≤ _; omega⟩, by omega⟩
theorem ruleM_le {l r : List UInt8} {x : Rule} (h : ruleM l = some (x, r)) : (x.name.size ≤ 2097152 ∧ x.letter.size ≤ 2097152) ∧ r.length ≤ l.length := by
  unfold ruleM at h
  cases h1 : shortM l with
  | none => rw [h1] at h; cases h
  | some y1 =>
    rw [h1, Option.bind_some] at h
    cases h2 : numM .u16 2 y1.2 with
    | none => rw [h2] at h; cases h
    | some y2 =>
      rw [h2, Option.bind_some, rM] at h
      obtain ⟨k1, k2⟩ := shortM_le (s := y1.1) (r := y1.2) h1
      have := numM_le (r := y2.2) (n := y2.1) h2
      cases h3 : numM .u8 1 y2.2 with
      | none => rw [h3] at h; cases h
      | some y3 =>
        rw [h3, Option.bind_some] at h
        cases h4 : numM .u8 1 y3.2 with
        | none => rw [h4] at h; cases h
        | some y4 =>
          rw [h4, Option.bind_some] at h
          cases h5 : numM .u8 1 y4.2 with
          | none => rw [h5] at h; cases h
          | some y5 =>
            rw [h5, Option.bind_some] at h
            cases h6 : numM .u8 1 y5.2 with
            | none => rw [h6] at h; cases h
            | some y6 =>
              rw [h6, Option.bind_some] at h
              obtain ⟨j1, j2⟩ := rM4_le k1 h
              have := numM_le (r := y3.2) (n := y3.1) h3
              have := numM_le (r := y4.2) (n := y4.1) h4
              have := numM_le (r := y5.2) (n := y5.1) h5
              have := numM_le (r := y6.2) (n := y6.1) h6
              exact ⟨j1, by omega⟩
theorem quadM_le {l r : List UInt8} {x : Int × Int × Int} (h : quadM l = some (x, r)) : (In64 x.1 ∧ In64 x.2.1) ∧ r.length ≤ l.length := by
  unfold quadM at h
  cases h1 : numM .i32 4 l with
  | none => rw [h1] at h; cases h
  | some y1 =>
    rw [h1, Option.bind_some] at h
    cases h2 : numM .i32 4 y1.2 with
    | none => rw [h2] at h; cases h
    | some y2 =>
      rw [h2, Option.bind_some] at h
      cases h3 : numM .u32 4 y2.2 with
      | none => rw [h3] at h; cases h
      | some y3 =>
        rw [h3] at h
        simp only [Option.map_some, Option.some.injEq, Prod.mk.injEq] at h
        have a1 := numM_i32 (rest := y1.2) (n := y1.1) h1
        have a2 := numM_i32 (rest := y2.2) (n := y2.1) h2
        have := numM_le (r := y1.2) (n := y1.1) h1
        have := numM_le (r := y2.2) (n := y2.1) h2
        have := numM_le (r := y3.2) (n := y3.1) h3
        rw [← h.1, ← h.2]
        refine ⟨⟨?_, ?_⟩, by omega⟩ <;> · unfold In64; simp only; omega
theorem cut_len (l : List UInt8) : (Lib.cut l [0]).1.length ≤ l.length := by
  unfold Lib.cut
  split
  · rw [List.length_take]; omega
  · exact Nat.le_refl _
theorem abbrM_le {pool s : List UInt8} {k : Nat} (h : abbrM pool k = some s) : s.length ≤ pool.length := by
  unfold abbrM at h
  split at h
  · cases h
  · split at h
    · simp only [Option.some.injEq] at h
      rw [← h]
      have := cut_len (pool.drop k)
      rw [List.length_drop] at this
      omega
    · cases h
theorem r3_ok {name : List UInt8} {first : Phase} {ss : List Shift} {l r : List UInt8} {x : Table} (hn : name.length ≤ 255) (hs : ss.length ≤ 1000000) (hf : PW first) (hp : ∀ s ∈ ss, PW s.ph) (h : r3 name first ss l = some (x, r)) : TabB x := by
  unfold r3 at h
  cases h1 : numM .i64 8 l with
  | none => rw [h1] at h; cases h
  | some y1 =>
    rw [h1, Option.bind_some] at h
    cases h2 : numM .u8 1 y1.2 with
    | none => rw [h2] at h; cases h
    | some y2 =>
      rw [h2, Option.bind_some] at h
      cases h3 : repM ruleM y2.1.toNat y2.2 with
      | none => rw [h3] at h; cases h
      | some y3 =>
        rw [h3, Option.bind_some] at h
        cases h4 : numM .i32 4 y3.2 with
        | none => rw [h4] at h; cases h
        | some y4 =>
          rw [h4, Option.bind_some] at h
          cases h5 : shortM y4.2 with
          | none => rw [h5] at h; cases h
          | some y5 =>
            rw [h5] at h
            simp only [Option.map_some, Option.some.injEq, Prod.mk.injEq] at h
            have a2 := numM_u8 (rest := y2.2) (n := y2.1) h2
            have a5 := shortM_le (s := y5.1) (r := y5.2) h5
            have a3 := repM_length (xs := y3.1) (r := y3.2) h3
            have b3 := (repM_all (F := fun r : Rule => r.name.size ≤ 2097152 ∧ r.letter.size ≤ 2097152) (fun l x r hx => ruleM_le hx) (xs := y3.1) (r := y3.2) h3).1
            rw [← h.1]
            exact ⟨hs, by show y3.1.length ≤ _; omega, by show name.length ≤ _; omega, by show y5.1.length ≤ _; omega, hf, hp, b3⟩
theorem readM_ok {l r : List UInt8} {x : Table} (hl : l.length ≤ 8388608) (h : readM l = some (x, r)) : TabB x := by
  unfold readM at h
  cases h0 : takeM 4 l with
  | none => rw [h0] at h; cases h
  | some y0 =>
    rw [h0, Option.bind_some] at h
    have k0 := takeM_le (s := y0.1) (r := y0.2) h0
    split at h
    · unfold r1 at h
      cases h1 : shortM y0.2 with
      | none => rw [h1] at h; cases h
      | some y1 =>
        rw [h1, Option.bind_some] at h
        cases h2 : manyM 12 y1.2 with
        | none => rw [h2] at h; cases h
        | some y2 =>
          rw [h2, Option.bind_some] at h
          cases h3 : manyM 12 y2.2 with
          | none => rw [h3] at h; cases h
          | some y3 =>
            rw [h3, Option.bind_some] at h
            cases h4 : manyM 1 y3.2 with
            | none => rw [h4] at h; cases h
            | some y4 =>
              rw [h4, Option.bind_some] at h
              unfold r2 at h
              have k1 := shortM_le (s := y1.1) (r := y1.2) h1
              have k2 := manyM_le (n := y2.1) (r := y2.2) h2
              have k3 := manyM_le (n := y3.1) (r := y3.2) h3
              have k4 := manyM_le (n := y4.1) (r := y4.2) h4
              cases h5 : repM (numM .i64 8) y2.1.toNat y4.2 with
              | none => rw [h5] at h; cases h
              | some y5 =>
                rw [h5, Option.bind_some] at h
                have k5 := repM_length (xs := y5.1) (r := y5.2) h5
                cases h6 : repM (numM .u32 4) y2.1.toNat y5.2 with
                | none => rw [h6] at h; cases h
                | some y6 =>
                  rw [h6, Option.bind_some] at h
                  cases h7 : repM quadM y3.1.toNat y6.2 with
                  | none => rw [h7] at h; cases h
                  | some y7 =>
                    rw [h7, Option.bind_some] at h
                    have k5 := (repM_all (F := fun _ => True) (fun l x r hx => ⟨trivial, numM_le hx⟩) (xs := y5.1) (r := y5.2) h5).2
                    have k6 := (repM_all (F := fun _ => True) (fun l x r hx => ⟨trivial, numM_le hx⟩) (xs := y6.1) (r := y6.2) h6).2
                    have k7 := repM_all (F := fun x : Int × Int × Int => In64 x.1 ∧ In64 x.2.1) (fun l x r hx => quadM_le hx) (xs := y7.1) (r := y7.2) h7
                    cases h8 : takeM y4.1.toNat y7.2 with
                    | none => rw [h8] at h; cases h
                    | some y8 =>
                      rw [h8, Option.bind_some, r2c] at h
                      have k8 := takeM_le (s := y8.1) (r := y8.2) h8
                      cases h9 : mapO (phM y8.1) y7.1 with
                      | none => rw [h9] at h; cases h
                      | some phs =>
                        rw [h9, Option.bind_some] at h
                        have k9 : ∀ p ∈ phs, PW p := mapO_all h9 fun q hq b hb => by
                          unfold phM at hb
                          cases ha : abbrM y8.1 q.2.2.toNat with
                          | none => rw [ha] at hb; cases hb
                          | some s =>
                            rw [ha] at hb
                            simp only [Option.map_some, Option.some.injEq] at hb
                            rw [← hb]
                            have := abbrM_le ha
                            have := k7.2
                            exact ⟨(k7.1 q hq).1, (k7.1 q hq).2, by show s.length ≤ _; omega⟩
                        cases h10 : mapO (shM phs) (y5.1.zip y6.1) with
                        | none => rw [h10] at h; cases h
                        | some ss =>
                          rw [h10, Option.bind_some] at h
                          have k10 : ∀ s ∈ ss, PW s.ph := mapO_all (F := fun s => PW s.ph) h10 fun q hq b hb => by
                            unfold shM at hb
                            cases ha : phs[q.2.toNat]? with
                            | none => rw [ha] at hb; cases hb
                            | some p =>
                              rw [ha] at hb
                              simp only [Option.map_some, Option.some.injEq] at hb
                              rw [← hb]
                              exact k9 _ (List.mem_of_getElem? ha)
                          have k11 := mapO_length h10
                          rw [List.length_zip] at k11
                          cases h12 : phs.head? with
                          | none => rw [h12] at h; cases h
                          | some first =>
                            rw [h12, Option.bind_some] at h
                            refine r3_ok k1.1 ?_ (k9 _ (List.mem_of_head? h12)) k10 h
                            have := repM_length (xs := y5.1) (r := y5.2) h5
                            omega
    · cases h
end Go.Proofs.YtpbojebnghcndaaGreatDoor.Rd
namespace Go.Proofs.YtpbojebnghcndaaGreatDoor.Rd
open Go.RowKit Mem Img

/-- A slice's cells lie in a new block. -/
def NewAt (B : Nat) (A : Option Addr) (n : Nat) : Prop := 0 < n → ∃ b, A = some ⟨b, 0, none⟩ ∧ B ≤ b
/-- What read leaves. -/
def TP (g : Nat) (w : World) (r : Option (Table × List UInt8)) (e : Ending) (w' : World) : Prop :=
  w.grownBy w' (some g) ∧ match r with
    | some (x, rest) => (∃ A c A2 c2, e = .returned (.agg (tabCells x A c A2 c2)) ∧ TabOk x A A2 w' ∧ NewAt w.heap.size A x.shifts.length ∧ NewAt w.heap.size A2 x.tail.length) ∧ Rd w' g rest
    | none => e = badE
theorem TP.fail {g : Nat} {w : World} {r : Option (Table × List UInt8)} {w' : World} (h : r = none) (hg : w.grownBy w' (some g)) : TP g w r badE w' := by
  subst h
  exact ⟨hg, rfl⟩
theorem info67 : (Tryz.prog.info? 98).map (fun i => (i.zero, i.size, i.bytes)) = some (some (.agg #[.int .i64 0, .int .i64 0, .int .i64 0, .string ⟨#[]⟩]), 4, 40) := by kernel_rfl
theorem info52 : (Tryz.prog.info? 63).map (fun i => (i.zero, i.size, i.bytes)) = some (some (.agg zRule), 11, 104) := by kernel_rfl
theorem info41 : (Tryz.prog.info? 79).map (fun i => (i.zero, i.size, i.bytes)) = some (some (.int .u32 0), 1, 4) := by kernel_rfl
theorem size27 : (Tryz.prog.info? 27).map (·.size) = some 9 := by kernel_rfl
def zTab : Array Value := #[.string ⟨#[]⟩, .int .i64 0, .int .i64 0, .string ⟨#[]⟩, .slice none 0 0, .int .i64 0, .slice none 0 0, .int .i64 0, .string ⟨#[]⟩]
theorem gr_own {w0 w w' : World} {r : Option Nat} {v : Value} (h : w0.grownBy w r) (k : w.grownBy w' v.ownBlock) (hv : ∀ b, v.ownBlock = some b → w0.heap.size ≤ b) : w0.grownBy w' r :=
  ⟨k.os.trans h.os, k.tape.trans h.tape, k.output.trans h.output, Nat.le_trans h.size k.size, fun j hj hne => (k.block j (Nat.lt_of_lt_of_le hj h.size) (fun e => by have := hv j e.symm; omega)).trans (h.block j hj hne)⟩

theorem row_step {W w1 w4 : World} {g size n : Nat} {r : List UInt8} {e : TypeId} {v : Value} {xs : List Value} {o : Obj} (hW : W.grownBy w1 (some g)) (hr : Rd w1 g r) (ho : w1.ownsRow W.heap.size e size v n xs) (hne : e ≠ 103) (hg : (w1.alloc o).grownBy w4 v.ownBlock) :
    Rd w4 g r ∧ W.grownBy w4 (some g) :=
  ⟨Blk.grown (Blk.alloc hr o) hg (fun e => own_blk_ne ho hr hne e.symm), gr_own (gr2 hW (grown_alloc w1 o)) hg fun b hb => (ho.lt b hb).1⟩
theorem row_keep {w w1 : World} {g size n base : Nat} {r : List UInt8} {e : TypeId} {v : Value} {xs : List Value} (ho : w.ownsRow base e size v n xs) (hr : Rd w g r) (hne : e ≠ 103) (hg : w.grownBy w1 (some g)) : w1.ownsRow base e size v n xs :=
  ho.kept hg (.inr (own_blk_ne ho hr hne))
theorem own_own_ne {w : World} {base base' size size' n n' : Nat} {e e' : TypeId} {v v' : Value} {xs xs' : List Value} (h : w.ownsRow base e size v n xs) (h' : w.ownsRow base' e' size' v' n' xs') (hne : e ≠ e') : v.ownBlock ≠ v'.ownBlock ∨ v.ownBlock = none := by
  rcases h.2 with ⟨rfl, _⟩ | ⟨b, cap, cur, rfl, _, hh, _⟩
  · exact .inr rfl
  · refine .inl ?_
    have := own_blk_ne h' (g := b) (t := e) (cs := cur) hh (Ne.symm hne)
    exact fun e => this e.symm
theorem own_form {w : World} {base size n : Nat} {e : TypeId} {v : Value} {xs : List Value} (h : w.ownsRow base e size v n xs) : ∃ A c, v = .slice A n c := by
  rcases h.2 with ⟨rfl, rfl⟩ | ⟨b, cap, cur, rfl, _⟩
  · exact ⟨_, _, rfl⟩
  · exact ⟨_, _, rfl⟩
theorem grown_drewN {w w' : World} {r : Option Nat} (h : w.grownBy w' r) (n : Nat) : w.grownBy (w'.drewN n) r := ⟨h.os, h.tape, h.output, h.size, h.block⟩
theorem own_cell {w : World} {base size n c g : Nat} {e : TypeId} {xs : List Value} (h : w.ownsRow base e size (.slice (some ⟨g, 0, none⟩) n c) n xs) {j : Nat} (hj : j < n * size) : ∃ u, w.cell? ⟨g, j, none⟩ = some u := by
  have hl : j < xs.length := by rw [h.1]; exact hj
  exact ⟨xs[j], by rw [h.cellAt j hj, List.getElem?_eq_getElem hl]⟩
theorem own_at {w : World} {base size n c : Nat} {e : TypeId} {A : Option Addr} {xs : List Value} (h : w.ownsRow base e size (.slice A n c) n xs) (hn : 0 < n) : ∃ b, A = some ⟨b, 0, none⟩ ∧ base ≤ b ∧ b < w.heap.size := by
  obtain ⟨b, cap, e1, h1, h2⟩ := h.form hn
  injection e1 with e1 _ _
  exact ⟨b, e1, h1, h2⟩
theorem new_at {w : World} {base size n c B m : Nat} {e : TypeId} {A : Option Addr} {xs : List Value} (h : w.ownsRow base e size (.slice A n c) n xs) (hB : B ≤ base) (hm : m = n) : NewAt B A m := fun hn => by
  obtain ⟨b, h1, h2, _⟩ := own_at h (by omega)
  exact ⟨b, h1, by omega⟩
theorem own_set {w : World} {base size n b : Nat} {e : TypeId} {v : Value} {xs : List Value} (h : w.ownsRow base e size v n xs) (hne : v.ownBlock ≠ some b) (i : Nat) (u : Value) : (w.setCell ⟨b, i, none⟩ u).ownsRow base e size v n xs :=
  h.kept (World.grownBy_setCell w ⟨b, i, none⟩ u rfl) (.inr hne)
theorem RS.own {w0 w w' : World} {g base size n : Nat} {os : List (Nat × TypeId × Array Value)} {l : List UInt8} {e : TypeId} {v : Value} {xs : List Value} (h : RS w0 g os l w) (ho : w.ownsRow base e size v n xs) (hg : w.grownBy w' v.ownBlock) (hb : w0.heap.size ≤ base) (hr : e ≠ 103) (hx : ∀ x ∈ os, e ≠ x.2.1) : RS w0 g os l w' :=
  ⟨Blk.grown h.1 hg (fun e => own_blk_ne ho h.1 hr e.symm), gr_own h.2.1 hg fun b e => Nat.le_trans hb (ho.lt b e).1, fun x hm => ⟨(h.2.2.1 x hm).1.grown hg (fun e => own_blk_ne ho (h.2.2.1 x hm).1 (hx x hm) e.symm), (h.2.2.1 x hm).2⟩, h.2.2.2⟩
/-- The table that is being read, its result's block, the reader, and the row of its shifts. -/
def RT (w0 : World) (g X R0 : Nat) (cx cr : Array Value) (l : List UInt8) (base : Nat) (v : Value) (n : Nat) (xs : List Value) (w : World) : Prop :=
  RS w0 g [(X, 27, cx), (R0, 27, cr)] l w ∧ w.ownsRow base 98 4 v n xs
section
variable {w0 w w' : World} {g X R0 base n : Nat} {cx cr : Array Value} {l l' : List UInt8} {v : Value} {xs : List Value}
theorem RT.rd (h : RT w0 g X R0 cx cr l base v n xs w) : Rd w g l := h.1.1
theorem RT.out (h : RT w0 g X R0 cx cr l base v n xs w) : w0.grownBy w (some g) := h.1.2.1
theorem RT.blkX (h : RT w0 g X R0 cx cr l base v n xs w) : Blk w X 27 cx := h.1.blk (.head _)
theorem RT.blkR (h : RT w0 g X R0 cx cr l base v n xs w) : Blk w R0 27 cr := h.1.blk (.tail _ (.head _))
theorem RT.step (h : RT w0 g X R0 cx cr l base v n xs w) (hr : Rd w' g l') (hg : w.grownBy w' (some g)) : RT w0 g X R0 cx cr l' base v n xs w' :=
  ⟨h.1.step hr hg, row_keep h.2 h.1.1 (by decide) hg⟩
theorem RT.set_ (h : RT w0 g X R0 cx cr l base v n xs w) (i : Nat) (u : Value) : RT w0 g X R0 (cx.setIfInBounds i u) cr l base v n xs (w.setCell ⟨X, i, none⟩ u) :=
  ⟨h.1.set_ i u, h.2.kept (World.grownBy_setCell w ⟨X, i, none⟩ u rfl) (.inr (own_blk_ne h.2 h.blkX (by decide)))⟩
theorem RT.setR (h : RT w0 g X R0 cx cr l base v n xs w) (i : Nat) (u : Value) : RT w0 g X R0 cx (cr.setIfInBounds i u) l base v n xs (w.setCell ⟨R0, i, none⟩ u) :=
  ⟨(h.1.swap.set_ i u).swap, h.2.kept (World.grownBy_setCell w ⟨R0, i, none⟩ u rfl) (.inr (own_blk_ne h.2 h.blkR (by decide)))⟩
theorem RT.own {base' size n' : Nat} {e : TypeId} {v' : Value} {ys : List Value} (h : RT w0 g X R0 cx cr l base v n xs w) (ho : w.ownsRow base' e size v' n' ys) (hg : w.grownBy w' v'.ownBlock) (hb : w0.heap.size ≤ base') (hr : e ≠ 103) (hx : e ≠ 27) (hs : e ≠ 98) : RT w0 g X R0 cx cr l base v n xs w' :=
  ⟨h.1.own ho hg hb hr (by simpa using hx), h.2.kept hg (own_own_ne h.2 ho (Ne.symm hs)).symm⟩
theorem RT.alloc (h : RT w0 g X R0 cx cr l base v n xs w) (o : Obj) : RT w0 g X R0 cx cr l base v n xs (w.alloc o) :=
  ⟨⟨Blk.alloc h.1.1 o, gr2 h.1.2.1 (grown_alloc w o), fun x hx => ⟨(h.1.2.2.1 x hx).1.alloc o, (h.1.2.2.1 x hx).2⟩, h.1.2.2.2⟩, h.2.alloc o⟩
theorem RT.drew (h : RT w0 g X R0 cx cr l base v n xs w) : RT w0 g X R0 cx cr l base v n xs w.drew :=
  ⟨⟨h.1.1, grown_drewN h.1.2.1 1, h.1.2.2.1, h.1.2.2.2⟩, h.2⟩
theorem grown_row (w : World) (b : Nat) (c : Array Value) : w.grownBy (w.setRow b c) (some b) := ⟨rfl, rfl, rfl, by simp, fun k _ hk => setRow_other w b k _ (fun e => hk (by simp [e]))⟩
theorem RT.rowR (h : RT w0 g X R0 cx cr l base v n xs w) (cr' : Array Value) : RT w0 g X R0 cx cr' l base v n xs (w.setRow R0 cr') := by
  have hg := grown_row w R0 cr'
  have hx := h.1.old (.head _)
  have hr := h.1.old (.tail _ (.head _))
  have hn := h.1.2.2.2
  simp only [List.map_cons, List.map_nil, List.nodup_cons, List.mem_singleton, List.not_mem_nil, not_false_eq_true, List.nodup_nil, and_true] at hn
  refine ⟨⟨Blk.grown h.1.1 hg (by simp; exact fun e => hr.1 e.symm), ?_, ?_, h.1.2.2.2⟩, h.2.kept hg (.inr (own_blk_ne h.2 h.blkR (by decide)))⟩
  · exact ⟨hg.os.trans h.out.os, hg.tape.trans h.out.tape, hg.output.trans h.out.output, Nat.le_trans h.out.size hg.size, fun j hj hne => (hg.block j (Nat.lt_of_lt_of_le hj h.out.size) (by simp; omega)).trans (h.out.block j hj hne)⟩
  · intro x hm
    rcases List.mem_cons.1 hm with rfl | hm
    · exact ⟨h.blkX.grown hg (by simpa using hn), hx⟩
    · rw [List.mem_singleton.1 hm]
      exact ⟨setRow_heap w R0 cr _ _ _ h.blkR, hr⟩
end
def sh0 (n : Int) : List Value := [.int .i64 n, .int .i64 0, .int .i64 0, .string ⟨#[]⟩]
def u32C (n : Int) : Value := .int .u32 n
def ph0 (q : Int × Int × Int) : List Value := [.int .i64 q.1, .int .i64 q.2.1, .string ⟨#[]⟩]
theorem flat_len {α : Type} {f : α → List Value} {m : Nat} (hf : ∀ a, (f a).length = m) (l : List α) : (l.flatMap f).length = l.length * m := by
  induction l with
  | nil => simp
  | cons a t ih => rw [List.flatMap_cons, List.length_append, hf, ih, List.length_cons, Nat.succ_mul]; omega
theorem ph_set {phs : List Phase} {qs : List (Int × Int × Int)} {k : Nat} (s : ByteArray) (hk : k < qs.length) (h : phs.length = k) : (phs.flatMap Phase.cells ++ (qs.drop k).flatMap ph0).set (k * 3 + 2) (.string s) = (phs ++ [(⟨qs[k].1, qs[k].2.1, s⟩ : Phase)]).flatMap Phase.cells ++ (qs.drop (k + 1)).flatMap ph0 := by
  have hl : (phs.flatMap Phase.cells).length = k * 3 := by rw [flat_len (m := 3) (fun _ => rfl), h]
  rw [List.drop_eq_getElem_cons hk, List.set_append_right _ _ (by omega), hl]
  generalize qs[k] = q
  generalize qs.drop (k + 1) = t
  simp [ph0, Phase.cells, List.flatMap_append]
theorem sh_set {sss : List Shift} {xs : List Int} {k : Nat} (p : Phase) (hk : k < xs.length) (h : sss.length = k) : (((sss.flatMap Shift.cells ++ (xs.drop k).flatMap sh0).set (k * 4 + 1) (.int .i64 p.off)).set (k * 4 + 2) (.int .i64 p.save)).set (k * 4 + 3) (.string p.abbr) = (sss ++ [(⟨xs[k], p⟩ : Shift)]).flatMap Shift.cells ++ (xs.drop (k + 1)).flatMap sh0 := by
  have hl : (sss.flatMap Shift.cells).length = k * 4 := by rw [flat_len (m := 4) (fun _ => rfl), h]
  rw [List.drop_eq_getElem_cons hk, List.set_append_right _ _ (by omega), hl, List.set_append_right _ _ (by omega), hl, List.set_append_right _ _ (by omega), hl]
  generalize xs[k] = q
  generalize xs.drop (k + 1) = t
  simp [sh0, Shift.cells, List.flatMap_append]
theorem quadM_u32 {l r : List UInt8} {x : Int × Int × Int} (h : quadM l = some (x, r)) : (0 ≤ x.2.2 ∧ x.2.2 < 4294967296) ∧ r.length ≤ l.length := by
  refine ⟨?_, (quadM_le h).2⟩
  unfold quadM at h
  cases h1 : numM .i32 4 l with
  | none => rw [h1] at h; cases h
  | some y1 =>
    rw [h1, Option.bind_some] at h
    cases h2 : numM .i32 4 y1.2 with
    | none => rw [h2] at h; cases h
    | some y2 =>
      rw [h2, Option.bind_some] at h
      cases h3 : numM .u32 4 y2.2 with
      | none => rw [h3] at h; cases h
      | some y3 =>
        rw [h3] at h
        simp only [Option.map_some, Option.some.injEq, Prod.mk.injEq] at h
        have a1 := numM_u32 (rest := y3.2) (n := y3.1) h3
        rw [← h.1]
        exact ⟨a1.1, a1.2.1⟩
theorem r2c_nil {name : List UInt8} {s p : List Int} {t : List UInt8 × List UInt8} : r2c name s p [] t = none := by
  unfold r2c
  simp only [mapO, Option.bind_some, List.head?_nil, Option.bind_none]
  cases mapO (shM []) (s.zip p) <;> rfl
theorem rule_one {a k : ByteArray} {b c d e f g h i j : Int} : ∀ u ∈ (#[.string a, .int .i64 b, .int .i64 c, .int .i64 d, .int .i64 e, .int .i64 f, .int .i64 g, .int .i64 h, .int .i64 i, .int .i64 j, .string k] : Array Value).toList, u.oneCell' = true := by
  intro u hu
  simp at hu
  rcases hu with rfl | rfl | rfl | rfl | rfl | rfl | rfl | rfl | rfl | rfl | rfl <;> rfl
theorem tab_one {a d k : ByteArray} {b c f h : Int} {A A2 : Option Addr} {n n2 c1 c2 : Nat} : (#[.string a, .int .i64 b, .int .i64 c, .string d, .slice A n c1, .int .i64 f, .slice A2 n2 c2, .int .i64 h, .string k] : Array Value).all (·.oneCell') = true := by
  simp [Value.oneCell']
theorem TabB.ok {x : Table} {A A2 : Option Addr} {w : World} {n1 n2 : Nat} (h : TabB x) (e1 : x.shifts.length = n1) (e2 : x.tail.length = n2) (r1 : Reads w w.heap.size 4 A n1 (x.shifts.flatMap Shift.cells)) (r2 : Reads w w.heap.size 11 A2 n2 (x.tail.flatMap Rule.cells)) : TabOk x A A2 w := by
  subst e1 e2
  exact ⟨r1, r2, h.ns, h.nt, h.name, h.format, h.first, h.shifts, h.rules⟩
theorem tab_agg {x : Table} {A A2 : Option Addr} {n1 n2 c c2 : Nat} (e1 : x.shifts.length = n1) (e2 : x.tail.length = n2) : Value.agg #[.string x.name, .int .i64 x.first.off, .int .i64 x.first.save, .string x.first.abbr, .slice A n1 c, .int .i64 x.till, .slice A2 n2 c2, .int .i64 x.off, .string x.format] = .agg (tabCells x A c A2 c2) := by
  subst e1 e2
  rfl
theorem tab_results {w : World} {R0 : Nat} {a0 a1 a2 a3 a4 a5 a6 a7 a8 : Value} (h : Blk w R0 27 #[a0, a1, a2, a3, a4, a5, a6, a7, a8]) (tmps : Array Value) (ht : tmps[2]? = some (.pointer (some ⟨R0, 0, none⟩))) : (results Tryz.f54 tmps).run Tryz.prog w = .ok (.agg #[a0, a1, a2, a3, a4, a5, a6, a7, a8]) w := by
  have hc := fun i => h.cell i
  simp [results, Tryz.results54, go_sem, hc, ht]
theorem shift_one {a b c : Int} {s : ByteArray} : ∀ u ∈ (#[Value.int .i64 a, .int .i64 b, .int .i64 c, .string s] : Array Value).toList, u.oneCell' = true := by
  intro u hu
  simp at hu
  rcases hu with rfl | rfl | rfl | rfl <;> rfl

end Go.Proofs.YtpbojebnghcndaaGreatDoor.Rd
