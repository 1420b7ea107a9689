/-
  What Save's walk leans on: a writer's first text (onto the constant that it begins with), worlds that grow, objects that are kept. Conditions: the lengths are bounded.
  The contract of image.Save: of a right table the image in plain words, of another one nothing and the error. What tail answers is handed in. Conditions: the table lies in memory, its lengths are bounded.
  Images read: what (*reader).read computes, in plain words, and how large what it reads is. Conditions: none but bounded lengths.
  Images read: what the contract of (*reader).read says, and lemmas for it. Conditions: none.
  Images read: the contract of (*reader).read. Conditions: at most 8388608 bytes; the cell of bytealg.MaxLen holds a number.
  Images read: the contract of Load. Conditions: at most 8388608 bytes; the cell of bytealg.MaxLen holds a number; table.tail answers.
-/
import Derived.Test.YtdicedpklpadgaaGreatDoorZ14
import Derived.ArgAppend
import Derived.Laws.IdiomStrings
import Derived.Test.YtdicedpklpadgaaGreatDoorZ15
import Derived.Lib.SlBytesConst
import Derived.RegionDies
import Derived.Recover
import Derived.Defers
import Derived.Laws.Pointers
section
namespace Go.Proofs.YtdicedpklpadgaaGreatDoor.Img
open Go.RowKit Mem Go.Maps

section
variable {P : Program} (w : World)
theorem step_append1_grows {ops : Array Oper} {o : Oper} {a : Act} {K : Act → World → Prop} {Q : Exit → Act → World → Prop} {E : Prop} {cs : Array Value} (hgd : o.guard = none) (s x : Operand) (t : TypeId)
    (ho : o.op = .call { callee := .builtin .append, args := #[s, x], argTypes := #[t, t] })
    (e : TypeId) (i : TypeInfo) (z : Value) (size bytes : Nat) (ht : P.underlying t = some (.slice e)) (hi : P.info? e = some i) (hz : i.zero = some z)
    (hsize : i.size = size) (hby : i.bytes = bytes) (hzs : z.cells.size = size) (hsz : 0 < size)
    (b : Addr) (n cap : Nat) (olds : List Value) (hs : a.eval s = .slice (some b) n cap) (hb : b.block < w.heap.size) (hlo : olds.length = n * size) (holds : ∀ j u, olds[j]? = some u → w.cell? (b.add j) = some u)
    (hx : a.eval x = .slice (some ⟨w.heap.size, 0, none⟩) 1 1) (hcs : cs.size = size) (hfull : cap < n + 1)
    (h63 : n + 1 ≤ maxLen) (hbytes : (n + 1) * bytes ≤ 140737488355328)
    (h : ∀ v' w', w'.ownsRow w.heap.size e size v' (n + 1) (olds ++ cs.toList) → (w.alloc (.cells cs e)).grownBy w' none → K (a.put o.dst v') w') :
    if Region.wanted o (yielded ops a.tmps) = true then Oper.wp P o a (w.alloc (.cells cs e)) K Q else E := by
  have hw : Region.wanted o (yielded ops a.tmps) = true := by simp [Region.wanted, hgd]
  rw [if_pos hw]
  obtain ⟨v', w', hrun, r1, r2⟩ := run_append_arg_grows (P := P) (w.alloc (.cells cs e)) t o.type e i z size bytes ht hi hz hsize hby hzs hsz b n cap olds hlo
    (fun j u hu => by rw [World.cell?_alloc_lt w _ _ (by rw [block_of_add]; exact hb)]; exact holds j u hu) ⟨w.heap.size, 0, none⟩ 1 1 cs.toList (by simp [hcs]) (by
      intro j u hu
      have e1 : (⟨w.heap.size, 0, none⟩ : Addr).add j = ⟨w.heap.size, j, none⟩ := by unfold Addr.add; split <;> simp_all
      rw [e1, (Blk.new w e cs).cell j]
      simpa using hu) (by omega) h63 hbytes
  unfold Oper.wp
  simp [execOp, ho, resolve, invoke, builtin, hs, hx, hrun, Result.andThen]
  exact h v' w' (own_base r1 (by simp)) r2
end

theorem own_below {w w' : World} {base : Nat} {e : TypeId} {v : Value} {n size : Nat} {xs : List Value} (h : w.ownsRow base e size v n xs) (hb : Below w.heap.size w w') : w'.ownsRow base e size v n xs := by
  refine ⟨h.1, ?_⟩
  rcases h.2 with h0 | ⟨g, cap, cur, e1, e2, e3, r⟩
  · exact .inl h0
  · exact .inr ⟨g, cap, cur, e1, e2, (hb.block g (Array.getElem?_eq_some_iff.1 e3).1).trans e3, r⟩
theorem own_obj {w : World} {base : Nat} {e : TypeId} {g n cap size : Nat} {xs : List Value} (h : w.ownsRow base e size (.slice (some ⟨g, 0, none⟩) n cap) n xs) (he : e ≠ 5) :
    ∃ o, w.heap[g]? = some o ∧ (∀ c fz, o ≠ .cells c 5 fz) ∧ ∀ w' : World, w'.heap[g]? = some o → w'.ownsRow base e size (.slice (some ⟨g, 0, none⟩) n cap) n xs := by
  rcases h.2 with ⟨h0, _⟩ | ⟨g', cap', cur, e1, e2, e3, r⟩
  · cases h0
  · obtain ⟨rfl, rfl⟩ : g' = g ∧ cap' = cap := by simpa [eq_comm] using e1
    exact ⟨_, e3, not_bytes he, fun w' hw => ⟨h.1, .inr ⟨_, _, cur, rfl, e2, hw, r⟩⟩⟩
theorem map_obj {H : Type} {w : World} {r n : Nat} {P : Program} {k : TypeId} {R : Value → Option (DataW H × List MemPlace)} {D : DataW H} (hm : w.ownsMap P k R r n D) :
    ∃ o, w.heap[r]? = some o ∧ (∀ c fz, o ≠ .cells c 5 fz) ∧ ∀ w' : World, w'.heap[r]? = some o → w'.ownsMap P k R r n D := by
  obtain ⟨es, clock, hb2, F, hs, rfl⟩ := hm
  exact ⟨_, hb2, fun _ _ e => (by cases e), fun w' hw => ⟨es, clock, hw, F, hs, rfl⟩⟩
theorem Kept.of_below {B g : Nat} {w w' : World} (hB : B ≤ w.heap.size) (hb : Below w.heap.size w w') : Kept B g w w' :=
  ⟨hb.mono hB, fun k _ hk _ _ => (hb.block k (Array.getElem?_eq_some_iff.1 hk).1).trans hk⟩
def magic : List UInt8 := [65, 78, 76, 49]
def Table.kinds (x : Table) : List Phase := kindsL x.first x.shifts
def Table.text (x : Table) : List UInt8 := (poolL x.kinds).1
def Table.begin_ (x : Table) (p : Phase) : Int := ((look (poolL x.kinds).2 p.abbr).getD 0 : Nat)
def b1 (x : Table) : List UInt8 := magic ++ short x.name.data.toList
def three (a b c : Int) : Nat → List UInt8
  | 0 => []
  | 1 => num a 4
  | 2 => num a 4 ++ num b 4
  | _ => num a 4 ++ num b 4 ++ num c 4
def b2 (x : Table) (k : Nat) : List UInt8 := b1 x ++ three x.shifts.length x.kinds.length x.text.length k
def b3 (x : Table) (k : Nat) : List UInt8 := b2 x 3 ++ (x.shifts.take k).flatMap fun s => num s.sec 8
def b4 (x : Table) (k : Nat) : List UInt8 := b3 x x.shifts.length ++ (x.shifts.take k).flatMap fun s => num (x.kinds.idxOf s.ph) 4
def b5 (x : Table) (k : Nat) : List UInt8 := b4 x x.shifts.length ++ (x.kinds.take k).flatMap fun p => num p.off 4 ++ num p.save 4 ++ num (x.begin_ p) 4
def b6 (x : Table) : List UInt8 := b5 x x.kinds.length ++ x.text ++ num x.till 8 ++ num x.tail.length 1
def b7 (x : Table) (k : Nat) : List UInt8 := b6 x ++ (x.tail.take k).flatMap ruleB
def body (x : Table) : List UInt8 := b7 x x.tail.length ++ num x.off 4 ++ short x.format.data.toList
def img (x : Table) : List UInt8 := body x ++ num (sumB (body x)) 4

/-- What is asked of a table in memory. -/
structure TabOk (x : Table) (A A2 : Option Addr) (w : World) : Prop where
  rs : Reads w w.heap.size 4 A x.shifts.length (x.shifts.flatMap Shift.cells)
  rt : Reads w w.heap.size 11 A2 x.tail.length (x.tail.flatMap Rule.cells)
  ns : x.shifts.length ≤ 1000000
  nt : x.tail.length ≤ 1000000
  name : x.name.size ≤ 2097152
  format : x.format.size ≤ 2097152
  first : PW x.first
  shifts : ∀ s ∈ x.shifts, PW s.ph
  rules : ∀ r ∈ x.tail, r.name.size ≤ 2097152 ∧ r.letter.size ≤ 2097152
theorem TabOk.below {x : Table} {A A2 : Option Addr} {w w' : World} (h : TabOk x A A2 w) (hb : Below w.heap.size w w') : TabOk x A A2 w' :=
  ⟨(h.rs.below hb).more hb.size, (h.rt.below hb).more hb.size, h.ns, h.nt, h.name, h.format, h.first, h.shifts, h.rules⟩

theorem flat_succ {α : Type} (f : α → List UInt8) (l : List α) (k : Nat) (hk : k < l.length) : (l.take (k + 1)).flatMap f = (l.take k).flatMap f ++ f l[k] := by
  rw [List.take_succ_eq_append_getElem hk, List.flatMap_append]
  simp
theorem flat_le {α : Type} (f : α → List UInt8) (M : Nat) (l : List α) (hf : ∀ a ∈ l, (f a).length ≤ M) : (l.flatMap f).length ≤ l.length * M := by
  induction l with
  | nil => simp
  | cons a t ih =>
    rw [List.flatMap_cons, List.length_append, List.length_cons, Nat.succ_mul]
    have := hf a (by simp)
    have := ih fun b hb => hf b (by simp [hb])
    omega
theorem flat_take_le {α : Type} (f : α → List UInt8) (M : Nat) (l : List α) (hf : ∀ a ∈ l, (f a).length ≤ M) (k : Nat) : ((l.take k).flatMap f).length ≤ l.length * M := by
  refine Nat.le_trans (flat_le f M _ fun a ha => hf a (List.mem_of_mem_take ha)) (Nat.mul_le_mul_right _ (by simp; omega))
theorem three_len (a b c : Int) (k : Nat) : (three a b c k).length ≤ 12 := by
  unfold three
  split <;> simp [num_length]
theorem three_succ (a b c : Int) (k : Nat) (hk : k < 3) : three a b c (k + 1) = three a b c k ++ num (#[a, b, c].getD k 0) 4 := by
  match k, hk with
  | 0, _ => rfl
  | 1, _ => rfl
  | 2, _ => rfl
theorem kindsL_all (first : Phase) (ss : List Shift) : (kindsL first ss).length ≤ ss.length + 1 := by
  have := kindsL_length first ss ss.length
  rwa [List.take_length] at this
theorem kindsL_mem (first : Phase) (ss : List Shift) : first ∈ kindsL first ss ∧ (∀ s ∈ ss, s.ph ∈ kindsL first ss) ∧ ∀ p ∈ kindsL first ss, p = first ∨ ∃ s ∈ ss, s.ph = p := by
  unfold kindsL
  suffices h : ∀ (l : List Phase), (∀ p ∈ l, p ∈ ss.foldl (fun l s => if s.ph ∈ l then l else l ++ [s.ph]) l) ∧ (∀ s ∈ ss, s.ph ∈ ss.foldl (fun l s => if s.ph ∈ l then l else l ++ [s.ph]) l) ∧
      ∀ p ∈ ss.foldl (fun l s => if s.ph ∈ l then l else l ++ [s.ph]) l, p ∈ l ∨ ∃ s ∈ ss, s.ph = p by
    obtain ⟨h1, h2, h3⟩ := h [first]
    exact ⟨h1 first (by simp), h2, fun p hp => by simpa using h3 p hp⟩
  induction ss with
  | nil => intro l; simp
  | cons a t ih =>
    intro l
    simp only [List.foldl_cons]
    by_cases ha : a.ph ∈ l
    · rw [if_pos ha]
      obtain ⟨h1, h2, h3⟩ := ih l
      refine ⟨h1, fun s hs => ?_, fun p hp => ?_⟩
      · rcases List.mem_cons.1 hs with rfl | hs
        · exact h1 _ ha
        · exact h2 s hs
      · rcases h3 p hp with h | ⟨s, hs, e⟩
        · exact .inl h
        · exact .inr ⟨s, List.mem_cons_of_mem _ hs, e⟩
    · rw [if_neg ha]
      obtain ⟨h1, h2, h3⟩ := ih (l ++ [a.ph])
      refine ⟨fun p hp => h1 p (by simp [hp]), fun s hs => ?_, fun p hp => ?_⟩
      · rcases List.mem_cons.1 hs with rfl | hs
        · exact h1 _ (by simp)
        · exact h2 s hs
      · rcases h3 p hp with h | ⟨s, hs, e⟩
        · rcases List.mem_append.1 h with h | h
          · exact .inl h
          · exact .inr ⟨a, by simp, by simpa [eq_comm] using h⟩
        · exact .inr ⟨s, List.mem_cons_of_mem _ hs, e⟩
end Go.Proofs.YtdicedpklpadgaaGreatDoor.Img
namespace Go.Proofs.YtdicedpklpadgaaGreatDoor.Img
open Go.RowKit Mem Go.Maps Rgt

theorem b2_zero (x : Table) : b2 x 0 = b1 x := by simp [b2, three]
theorem b3_zero (x : Table) : b3 x 0 = b2 x 3 := by simp [b3]
theorem b4_zero (x : Table) : b4 x 0 = b3 x x.shifts.length := by simp [b4]
theorem b5_zero (x : Table) : b5 x 0 = b4 x x.shifts.length := by simp [b5]
theorem b5_pos (x : Table) (k : Nat) : 0 < (b5 x k).length := by
  simp only [b5, b4, b3, b2, b1, List.length_append, magic, List.length_cons]
  omega
theorem b7_zero (x : Table) : b7 x 0 = b6 x := by simp [b7]
theorem b3_succ (x : Table) (k : Nat) (hk : k < x.shifts.length) : b3 x (k + 1) = b3 x k ++ num x.shifts[k].sec 8 := by rw [b3, b3, flat_succ _ _ k hk, List.append_assoc]
theorem b4_succ (x : Table) (k : Nat) (hk : k < x.shifts.length) : b4 x (k + 1) = b4 x k ++ num (x.kinds.idxOf x.shifts[k].ph) 4 := by rw [b4, b4, flat_succ _ _ k hk, List.append_assoc]
theorem b5_succ (x : Table) (k : Nat) (hk : k < x.kinds.length) : b5 x (k + 1) = b5 x k ++ num x.kinds[k].off 4 ++ num x.kinds[k].save 4 ++ num (x.begin_ x.kinds[k]) 4 := by
  rw [b5, b5, flat_succ _ _ k hk]
  simp only [List.append_assoc]
theorem b7_succ (x : Table) (k : Nat) (hk : k < x.tail.length) : b7 x (k + 1) = b7 x k ++ ruleB x.tail[k] := by rw [b7, b7, flat_succ _ _ k hk, List.append_assoc]
section
variable {x : Table} {A A2 : Option Addr} {w : World}
theorem TabOk.kinds (h : TabOk x A A2 w) : x.kinds.length ≤ 1000001 ∧ 0 < x.kinds.length ∧ ∀ p ∈ x.kinds, PW p := by
  refine ⟨?_, kindsL_pos _ _, fun p hp => ?_⟩
  · have := kindsL_all x.first x.shifts
    have := h.ns
    unfold Table.kinds
    omega
  · rcases (kindsL_mem x.first x.shifts).2.2 p hp with rfl | ⟨s, hs, rfl⟩
    · exact h.first
    · exact h.shifts s hs
theorem TabOk.text (h : TabOk x A A2 w) : x.text.length ≤ 1000001 * 8388609 := by
  have h1 := poolL_le 8388608 x.kinds (fun p hp => (h.kinds.2.2 p hp).2.2) x.kinds.length
  rw [List.take_length] at h1
  exact Nat.le_trans h1 (Nat.mul_le_mul_right _ h.kinds.1)
theorem b1_le (h : TabOk x A A2 w) : (b1 x).length ≤ 3000000 := by
  have := h.name
  simp only [b1, List.length_append, short_length, len_toList, magic, List.length_cons, List.length_nil]
  omega
theorem b2_le (h : TabOk x A A2 w) (k : Nat) : (b2 x k).length ≤ 3000012 := by
  have := b1_le h
  have := three_len x.shifts.length x.kinds.length x.text.length k
  simp only [b2, List.length_append]
  omega
theorem b3_le (h : TabOk x A A2 w) (k : Nat) : (b3 x k).length ≤ 11000012 := by
  have := b2_le h 3
  have := flat_take_le (fun s : Shift => num s.sec 8) 8 x.shifts (fun _ _ => by simp [num_length]) k
  have := h.ns
  simp only [b3, List.length_append]
  omega
theorem b4_le (h : TabOk x A A2 w) (k : Nat) : (b4 x k).length ≤ 15000012 := by
  have := b3_le h x.shifts.length
  have := flat_take_le (fun s : Shift => num (x.kinds.idxOf s.ph) 4) 4 x.shifts (fun _ _ => by simp [num_length]) k
  have := h.ns
  simp only [b4, List.length_append]
  omega
theorem b5_le (h : TabOk x A A2 w) (k : Nat) : (b5 x k).length ≤ 27000030 := by
  have := b4_le h x.shifts.length
  have := flat_take_le (fun p : Phase => num p.off 4 ++ num p.save 4 ++ num (x.begin_ p) 4) 12 x.kinds (fun _ _ => by simp [num_length]) k
  have := h.kinds.1
  simp only [b5, List.length_append]
  omega
theorem b6_le (h : TabOk x A A2 w) : (b6 x).length ≤ 9000000000000 := by
  have := b5_le h x.kinds.length
  have := h.text
  simp only [b6, List.length_append, num_length]
  omega
theorem ruleB_le (r : Rule) (h1 : r.name.size ≤ 2097152) (h2 : r.letter.size ≤ 2097152) : (ruleB r).length ≤ 4194400 := by
  simp only [ruleB, List.length_append, num_length, short_length, len_toList]
  omega
theorem b7_le (h : TabOk x A A2 w) (k : Nat) : (b7 x k).length ≤ 14000000000000 := by
  have := b6_le h
  have := flat_take_le ruleB 4194400 x.tail (fun r hr => ruleB_le r (h.rules r hr).1 (h.rules r hr).2) k
  have := h.nt
  simp only [b7, List.length_append]
  omega
theorem body_le (h : TabOk x A A2 w) : (body x).length ≤ 14000003000000 := by
  have := b7_le h x.tail.length
  have := h.format
  simp only [body, List.length_append, num_length, short_length, len_toList]
  omega
theorem img_ne : img x ≠ [] := by
  simp [img, body, b7, b6, b5, b4, b3, b2, b1, magic]
theorem body_ne : body x ≠ [] := by
  simp [body, b7, b6, b5, b4, b3, b2, b1, magic]
end
theorem look_some (l : List Phase) : ∀ p ∈ l, (look (poolL l).2 p.abbr).isSome = true := by
  have key : ∀ (k : Nat), ∀ p ∈ l.take k, (look (poolL (l.take k)).2 p.abbr).isSome = true := by
    intro k
    induction k with
    | zero => intro p hp; simp at hp
    | succ k ih =>
      by_cases hk : k < l.length
      · intro p hp
        rw [poolL_succ l k hk]
        rw [List.take_succ_eq_append_getElem hk] at hp
        unfold poolStep
        by_cases hs : (look (poolL (l.take k)).2 l[k].abbr).isSome = true
        · rw [if_pos hs]
          rcases List.mem_append.1 hp with h | h
          · exact ih p h
          · simp at h; rw [h]; exact hs
        · rw [if_neg hs]
          simp only [look_snoc]
          rcases List.mem_append.1 hp with h | h
          · have := ih p h
            cases hx : look (poolL (l.take k)).2 p.abbr with
            | none => rw [hx] at this; cases this
            | some v => simp
          · simp at h
            rw [h]
            simp
      · rw [List.take_of_length_le (by omega)] at ih ⊢
        exact ih
  have := key l.length
  rwa [List.take_length] at this
/-- A table's box's cells. -/
abbrev boxC (x : Table) (A : Option Addr) (c : Nat) (A2 : Option Addr) (c2 : Nat) : Array Value := #[.string x.name, .int .i64 x.first.off, .int .i64 x.first.save, .string x.first.abbr, .slice A x.shifts.length c, .int .i64 x.till, .slice A2 x.tail.length c2, .int .i64 x.off, .string x.format]
end Go.Proofs.YtdicedpklpadgaaGreatDoor.Img
end
section
namespace Go.Proofs.YtdicedpklpadgaaGreatDoor.Rd
open Go.RowKit Mem Img

section
variable {α β : Type}
/-- So many times. -/
def repM (p : List UInt8 → Option (α × List UInt8)) : Nat → List UInt8 → Option (List α × List UInt8)
  | 0, l => some ([], l)
  | n + 1, l => (repM p n l).bind fun y => (p y.2).map fun x => (y.1 ++ [x.1], x.2)
theorem repM_none {p : List UInt8 → Option (α × List UInt8)} {k n : Nat} {l : List UInt8} (h : repM p k l = none) (hk : k ≤ n) : repM p n l = none := by
  induction n with
  | zero => obtain rfl : k = 0 := by omega
            exact h
  | succ n ih =>
    rcases Nat.lt_or_ge n k with h1 | h1
    · obtain rfl : k = n + 1 := by omega
      exact h
    · rw [repM, ih h1]
      rfl
theorem repM_step {p : List UInt8 → Option (α × List UInt8)} {k : Nat} {l r r' : List UInt8} {xs : List α} {x : α} (h : repM p k l = some (xs, r)) (hx : p r = some (x, r')) : repM p (k + 1) l = some (xs ++ [x], r') := by
  rw [repM, h, Option.bind_some, hx]
  rfl
theorem repM_stop {p : List UInt8 → Option (α × List UInt8)} {k n : Nat} {l r : List UInt8} {xs : List α} (h : repM p k l = some (xs, r)) (hx : p r = none) (hk : k < n) : repM p n l = none := by
  refine repM_none (k := k + 1) ?_ hk
  rw [repM, h, Option.bind_some, hx]
  rfl
theorem repM_length {p : List UInt8 → Option (α × List UInt8)} {k : Nat} {l r : List UInt8} {xs : List α} (h : repM p k l = some (xs, r)) : xs.length = k := by
  induction k generalizing xs r with
  | zero => simp [repM] at h; simp [← h.1]
  | succ k ih =>
    rw [repM] at h
    cases h1 : repM p k l with
    | none => rw [h1] at h; cases h
    | some y =>
      obtain ⟨ys, r1⟩ := y
      rw [h1, Option.bind_some] at h
      cases h2 : p r1 with
      | none => rw [h2] at h; cases h
      | some z =>
        rw [h2] at h
        simp only [Option.map_some, Option.some.injEq, Prod.mk.injEq] at h
        rw [← h.1, List.length_append, ih h1]
        rfl
/-- What holds of all that are read, and that bytes grow fewer. -/
theorem repM_all {p : List UInt8 → Option (α × List UInt8)} {F : α → Prop} (hp : ∀ l x r, p l = some (x, r) → F x ∧ r.length ≤ l.length) {k : Nat} {l r : List UInt8} {xs : List α} (h : repM p k l = some (xs, r)) :
    (∀ x ∈ xs, F x) ∧ r.length ≤ l.length := by
  induction k generalizing xs r with
  | zero =>
    simp [repM] at h
    obtain ⟨rfl, rfl⟩ := h
    simp
  | succ k ih =>
    rw [repM] at h
    cases h1 : repM p k l with
    | none => rw [h1] at h; cases h
    | some y =>
      obtain ⟨ys, r1⟩ := y
      rw [h1, Option.bind_some] at h
      cases h2 : p r1 with
      | none => rw [h2] at h; cases h
      | some z =>
        rw [h2] at h
        simp only [Option.map_some, Option.some.injEq, Prod.mk.injEq] at h
        obtain ⟨i1, i2⟩ := ih h1
        obtain ⟨j1, j2⟩ := hp _ _ _ h2
        rw [← h.1, ← h.2]
        refine ⟨fun x hx => ?_, by omega⟩
        rcases List.mem_append.1 hx with hx | hx
        · exact i1 x hx
        · rw [List.mem_singleton.1 hx]; exact j1
/-- A list through a function that may fail. -/
def mapO (f : α → Option β) : List α → Option (List β)
  | [] => some []
  | a :: t => (f a).bind fun b => (mapO f t).map (b :: ·)
theorem mapO_append (f : α → Option β) (l t : List α) : mapO f (l ++ t) = (mapO f l).bind fun bs => (mapO f t).map (bs ++ ·) := by
  induction l with
  | nil => simp [mapO]
  | cons a l ih =>
    rw [List.cons_append, mapO, mapO, ih]
    cases f a with
    | none => rfl
    | some b =>
      cases mapO f l with
      | none => rfl
      | some bs => cases mapO f t <;> rfl
theorem mapO_take_succ (f : α → Option β) (l : List α) (k : Nat) (hk : k < l.length) : mapO f (l.take (k + 1)) = (mapO f (l.take k)).bind fun bs => (f l[k]).map fun b => bs ++ [b] := by
  rw [List.take_succ_eq_append_getElem hk, mapO_append]
  cases mapO f (l.take k) with
  | none => rfl
  | some bs => cases h : f l[k] <;> simp [mapO, h]
theorem mapO_stop {f : α → Option β} {l : List α} {k : Nat} (hk : k < l.length) (h : f l[k] = none) : mapO f l = none := by
  have : mapO f (l.take (k + 1)) = none := by
    rw [mapO_take_succ f l k hk, h]
    cases mapO f (l.take k) <;> rfl
  rw [← List.take_append_drop (k + 1) l, mapO_append, this]
  rfl
theorem mapO_step {f : α → Option β} {l : List α} {k : Nat} {bs : List β} {b : β} (hk : k < l.length) (h : mapO f (l.take k) = some bs) (hb : f l[k] = some b) : mapO f (l.take (k + 1)) = some (bs ++ [b]) := by
  rw [mapO_take_succ f l k hk, h, hb]
  rfl
theorem mapO_length {f : α → Option β} {l : List α} {bs : List β} (h : mapO f l = some bs) : bs.length = l.length := by
  induction l generalizing bs with
  | nil => simp [mapO] at h; simp [← h]
  | cons a l ih =>
    rw [mapO] at h
    cases h1 : f a with
    | none => rw [h1] at h; cases h
    | some b =>
      cases h2 : mapO f l with
      | none => rw [h1, h2] at h; cases h
      | some cs =>
        rw [h1, h2] at h
        simp only [Option.bind_some, Option.map_some, Option.some.injEq] at h
        rw [← h, List.length_cons, List.length_cons, ih h2]
theorem mapO_all {f : α → Option β} {l : List α} {bs : List β} (h : mapO f l = some bs) {F : β → Prop} (hf : ∀ a ∈ l, ∀ b, f a = some b → F b) : ∀ b ∈ bs, F b := by
  induction l generalizing bs with
  | nil =>
    simp [mapO] at h
    subst h
    simp
  | cons a l ih =>
    rw [mapO] at h
    cases h1 : f a with
    | none => rw [h1] at h; cases h
    | some b =>
      cases h2 : mapO f l with
      | none => rw [h1, h2] at h; cases h
      | some cs =>
        rw [h1, h2] at h
        simp only [Option.bind_some, Option.map_some, Option.some.injEq] at h
        rw [← h]
        intro c hc
        rcases List.mem_cons.1 hc with rfl | hc
        · exact hf a (.head _) _ h1
        · exact ih h2 (fun a ha => hf a (.tail _ ha)) c hc
end

def quadM (r : List UInt8) : Option ((Int × Int × Int) × List UInt8) := (numM .i32 4 r).bind fun a => (numM .i32 4 a.2).bind fun b => (numM .u32 4 b.2).map fun c => ((a.1, b.1, c.1), c.2)
def phM (pool : List UInt8) (q : Int × Int × Int) : Option Phase := (abbrM pool q.2.2.toNat).map fun s => ⟨q.1, q.2.1, ⟨s.toArray⟩⟩
def shM (phs : List Phase) (q : Int × Int) : Option Shift := (phs[q.2.toNat]?).map fun ph => ⟨q.1, ph⟩
def r3 (name : List UInt8) (first : Phase) (ss : List Shift) (l : List UInt8) : Option (Table × List UInt8) :=
  (numM .i64 8 l).bind fun till => (numM .u8 1 till.2).bind fun t => (repM ruleM t.1.toNat t.2).bind fun rs => (numM .i32 4 rs.2).bind fun off => (shortM off.2).map fun f => (⟨⟨name.toArray⟩, first, ss, till.1, rs.1, off.1, ⟨f.1.toArray⟩⟩, f.2)
def r2c (name : List UInt8) (s p : List Int) (q : List (Int × Int × Int)) (t : List UInt8 × List UInt8) : Option (Table × List UInt8) :=
  (mapO (phM t.1) q).bind fun phs => (mapO (shM phs) (s.zip p)).bind fun ss => phs.head?.bind fun first => r3 name first ss t.2
def r2 (name : List UInt8) (n k m : Nat) (l : List UInt8) : Option (Table × List UInt8) :=
  (repM (numM .i64 8) n l).bind fun s => (repM (numM .u32 4) n s.2).bind fun p => (repM quadM k p.2).bind fun q => (takeM m q.2).bind fun t => r2c name s.1 p.1 q.1 t
def r1 (l : List UInt8) : Option (Table × List UInt8) := (shortM l).bind fun a => (manyM 12 a.2).bind fun n => (manyM 12 n.2).bind fun k => (manyM 1 k.2).bind fun m => r2 a.1 n.1.toNat k.1.toNat m.1.toNat m.2
/-- The table of bytes, whatever they are, and what is left. -/
def readM (l : List UInt8) : Option (Table × List UInt8) := (takeM 4 l).bind fun h => if h.1 = magic then r1 h.2 else none

/-- What is bounded in a table that was read. -/
structure TabB (x : Table) : Prop where
  ns : x.shifts.length ≤ 1000000
  nt : x.tail.length ≤ 1000000
  name : x.name.size ≤ 2097152
  format : x.format.size ≤ 2097152
  first : PW x.first
  shifts : ∀ s ∈ x.shifts, PW s.ph
  rules : ∀ r ∈ x.tail, r.name.size ≤ 2097152 ∧ r.letter.size ≤ 2097152

theorem takeM_le {n : Nat} {l s r : List UInt8} (h : takeM n l = some (s, r)) : s.length = n ∧ r.length ≤ l.length ∧ n ≤ l.length ∧ s = l.take n ∧ r = l.drop n := by
  unfold takeM at h
  split at h
  · simp only [Option.some.injEq, Prod.mk.injEq] at h
    rw [← h.1, ← h.2, List.length_take, List.length_drop]
    exact ⟨by omega, by omega, by omega, rfl, rfl⟩
  · cases h
theorem numM_le {q : IntKind} {k : Nat} {l r : List UInt8} {n : Int} (h : numM q k l = some (n, r)) : r.length ≤ l.length := by
  unfold numM at h
  cases h1 : takeM k l with
  | none => rw [h1] at h; cases h
  | some y =>
    rw [h1] at h
    simp only [Option.map_some, Option.some.injEq, Prod.mk.injEq] at h
    rw [← h.2]
    exact (takeM_le (s := y.1) (r := y.2) h1).2.1
theorem shortM_le {l s r : List UInt8} (h : shortM l = some (s, r)) : s.length ≤ 255 ∧ r.length ≤ l.length := by
  unfold shortM at h
  cases h1 : numM .u8 1 l with
  | none => rw [h1] at h; cases h
  | some y =>
    obtain ⟨n, r1⟩ := y
    rw [h1, Option.bind_some] at h
    obtain ⟨a, b, c⟩ := numM_u8 h1
    obtain ⟨d, e, _⟩ := takeM_le h
    simp only at d e
    exact ⟨by omega, by omega⟩
theorem manyM_le {b : Nat} {l r : List UInt8} {n : Int} (h : manyM b l = some (n, r)) : 0 ≤ n ∧ n * b ≤ r.length ∧ r.length ≤ l.length := by
  unfold manyM at h
  cases h1 : numM .u32 4 l with
  | none => rw [h1] at h; cases h
  | some y =>
    obtain ⟨n', r1⟩ := y
    rw [h1, Option.bind_some] at h
    obtain ⟨a, b, c⟩ := numM_u32 h1
    simp only at h
    split at h
    · cases h
    · simp only [Option.some.injEq, Prod.mk.injEq] at h
      obtain ⟨rfl, rfl⟩ := h
      exact ⟨a, by omega, c⟩
theorem rM4_le {v : List UInt8} {lo a b c d : Int} {l r : List UInt8} {x : Rule} (hv : v.length ≤ 255) (h : rM4 v lo a b c d l = some (x, r)) : (x.name.size ≤ 2097152 ∧ x.letter.size ≤ 2097152) ∧ r.length ≤ l.length := by
  unfold rM4 at h
  cases h1 : numM .i32 4 l with
  | none => rw [h1] at h; cases h
  | some y1 =>
    rw [h1, Option.bind_some] at h
    cases h2 : numM .u8 1 y1.2 with
    | none => rw [h2] at h; cases h
    | some y2 =>
      rw [h2, Option.bind_some] at h
      cases h3 : numM .i32 4 y2.2 with
      | none => rw [h3] at h; cases h
      | some y3 =>
        rw [h3, Option.bind_some] at h
        cases h4 : shortM y3.2 with
        | none => rw [h4] at h; cases h
        | some y4 =>
          rw [h4] at h
          simp only [Option.map_some, Option.some.injEq, Prod.mk.injEq] at h
          obtain ⟨k1, k2⟩ := shortM_le (s := y4.1) (r := y4.2) h4
          have := numM_le (r := y1.2) (n := y1.1) h1
          have := numM_le (r := y2.2) (n := y2.1) h2
          have := numM_le (r := y3.2) (n := y3.1) h3
          rw [← h.1, ← h.2]
          exact ⟨⟨by show v.length ≤ _; omega, by show y4.1.length ≤ _; omega⟩, by omega⟩
theorem ruleM_le {l r : List UInt8} {x : Rule} (h : ruleM l = some (x, r)) : (x.name.size ≤ 2097152 ∧ x.letter.size ≤ 2097152) ∧ r.length ≤ l.length := by
  unfold ruleM at h
  cases h1 : shortM l with
  | none => rw [h1] at h; cases h
  | some y1 =>
    rw [h1, Option.bind_some] at h
    cases h2 : numM .u16 2 y1.2 with
    | none => rw [h2] at h; cases h
    | some y2 =>
      rw [h2, Option.bind_some, rM] at h
      obtain ⟨k1, k2⟩ := shortM_le (s := y1.1) (r := y1.2) h1
      have := numM_le (r := y2.2) (n := y2.1) h2
      cases h3 : numM .u8 1 y2.2 with
      | none => rw [h3] at h; cases h
      | some y3 =>
        rw [h3, Option.bind_some] at h
        cases h4 : numM .u8 1 y3.2 with
        | none => rw [h4] at h; cases h
        | some y4 =>
          rw [h4, Option.bind_some] at h
          cases h5 : numM .u8 1 y4.2 with
          | none => rw [h5] at h; cases h
          | some y5 =>
            rw [h5, Option.bind_some] at h
            cases h6 : numM .u8 1 y5.2 with
            | none => rw [h6] at h; cases h
            | some y6 =>
              rw [h6, Option.bind_some] at h
              obtain ⟨j1, j2⟩ := rM4_le k1 h
              have := numM_le (r := y3.2) (n := y3.1) h3
              have := numM_le (r := y4.2) (n := y4.1) h4
              have := numM_le (r := y5.2) (n := y5.1) h5
              have := numM_le (r := y6.2) (n := y6.1) h6
              exact ⟨j1, by omega⟩
theorem quadM_le {l r : List UInt8} {x : Int × Int × Int} (h : quadM l = some (x, r)) : (In64 x.1 ∧ In64 x.2.1) ∧ r.length ≤ l.length := by
  unfold quadM at h
  cases h1 : numM .i32 4 l with
  | none => rw [h1] at h; cases h
  | some y1 =>
    rw [h1, Option.bind_some] at h
    cases h2 : numM .i32 4 y1.2 with
    | none => rw [h2] at h; cases h
    | some y2 =>
      rw [h2, Option.bind_some] at h
      cases h3 : numM .u32 4 y2.2 with
      | none => rw [h3] at h; cases h
      | some y3 =>
        rw [h3] at h
        simp only [Option.map_some, Option.some.injEq, Prod.mk.injEq] at h
        have a1 := numM_i32 (rest := y1.2) (n := y1.1) h1
        have a2 := numM_i32 (rest := y2.2) (n := y2.1) h2
        have := numM_le (r := y1.2) (n := y1.1) h1
        have := numM_le (r := y2.2) (n := y2.1) h2
        have := numM_le (r := y3.2) (n := y3.1) h3
        rw [← h.1, ← h.2]
        refine ⟨⟨?_, ?_⟩, by omega⟩ <;> · unfold In64; simp only; omega
theorem cut_len (l : List UInt8) : (Lib.cut l [0]).1.length ≤ l.length := by
  unfold Lib.cut
  split
  · rw [List.length_take]; omega
  · exact Nat.le_refl _
theorem abbrM_le {pool s : List UInt8} {k : Nat} (h : abbrM pool k = some s) : s.length ≤ pool.length := by
  unfold abbrM at h
  split at h
  · cases h
  · split at h
    · simp only [Option.some.injEq] at h
      rw [← h]
      have := cut_len (pool.drop k)
      rw [List.length_drop] at this
      omega
    · cases h
theorem r3_ok {name : List UInt8} {first : Phase} {ss : List Shift} {l r : List UInt8} {x : Table} (hn : name.length ≤ 255) (hs : ss.length ≤ 1000000) (hf : PW first) (hp : ∀ s ∈ ss, PW s.ph) (h : r3 name first ss l = some (x, r)) : TabB x := by
  unfold r3 at h
  cases h1 : numM .i64 8 l with
  | none => rw [h1] at h; cases h
  | some y1 =>
    rw [h1, Option.bind_some] at h
    cases h2 : numM .u8 1 y1.2 with
    | none => rw [h2] at h; cases h
    | some y2 =>
      rw [h2, Option.bind_some] at h
      cases h3 : repM ruleM y2.1.toNat y2.2 with
      | none => rw [h3] at h; cases h
      | some y3 =>
        rw [h3, Option.bind_some] at h
        cases h4 : numM .i32 4 y3.2 with
        | none => rw [h4] at h; cases h
        | some y4 =>
          rw [h4, Option.bind_some] at h
          cases h5 : shortM y4.2 with
          | none => rw [h5] at h; cases h
          | some y5 =>
            rw [h5] at h
            simp only [Option.map_some, Option.some.injEq, Prod.mk.injEq] at h
            have a2 := numM_u8 (rest := y2.2) (n := y2.1) h2
            have a5 := shortM_le (s := y5.1) (r := y5.2) h5
            have a3 := repM_length (xs := y3.1) (r := y3.2) h3
            have b3 := (repM_all (F := fun r : Rule => r.name.size ≤ 2097152 ∧ r.letter.size ≤ 2097152) (fun l x r hx => ruleM_le hx) (xs := y3.1) (r := y3.2) h3).1
            rw [← h.1]
            exact ⟨hs, by show y3.1.length ≤ _; omega, by show name.length ≤ _; omega, by show y5.1.length ≤ _; omega, hf, hp, b3⟩
theorem readM_ok {l r : List UInt8} {x : Table} (hl : l.length ≤ 8388608) (h : readM l = some (x, r)) : TabB x := by
  unfold readM at h
  cases h0 : takeM 4 l with
  | none => rw [h0] at h; cases h
  | some y0 =>
    rw [h0, Option.bind_some] at h
    have k0 := takeM_le (s := y0.1) (r := y0.2) h0
    split at h
    · unfold r1 at h
      cases h1 : shortM y0.2 with
      | none => rw [h1] at h; cases h
      | some y1 =>
        rw [h1, Option.bind_some] at h
        cases h2 : manyM 12 y1.2 with
        | none => rw [h2] at h; cases h
        | some y2 =>
          rw [h2, Option.bind_some] at h
          cases h3 : manyM 12 y2.2 with
          | none => rw [h3] at h; cases h
          | some y3 =>
            rw [h3, Option.bind_some] at h
            cases h4 : manyM 1 y3.2 with
            | none => rw [h4] at h; cases h
            | some y4 =>
              rw [h4, Option.bind_some] at h
              unfold r2 at h
              have k1 := shortM_le (s := y1.1) (r := y1.2) h1
              have k2 := manyM_le (n := y2.1) (r := y2.2) h2
              have k3 := manyM_le (n := y3.1) (r := y3.2) h3
              have k4 := manyM_le (n := y4.1) (r := y4.2) h4
              cases h5 : repM (numM .i64 8) y2.1.toNat y4.2 with
              | none => rw [h5] at h; cases h
              | some y5 =>
                rw [h5, Option.bind_some] at h
                have k5 := repM_length (xs := y5.1) (r := y5.2) h5
                cases h6 : repM (numM .u32 4) y2.1.toNat y5.2 with
                | none => rw [h6] at h; cases h
                | some y6 =>
                  rw [h6, Option.bind_some] at h
                  cases h7 : repM quadM y3.1.toNat y6.2 with
                  | none => rw [h7] at h; cases h
                  | some y7 =>
                    rw [h7, Option.bind_some] at h
                    have k5 := (repM_all (F := fun _ => True) (fun l x r hx => ⟨trivial, numM_le hx⟩) (xs := y5.1) (r := y5.2) h5).2
                    have k6 := (repM_all (F := fun _ => True) (fun l x r hx => ⟨trivial, numM_le hx⟩) (xs := y6.1) (r := y6.2) h6).2
                    have k7 := repM_all (F := fun x : Int × Int × Int => In64 x.1 ∧ In64 x.2.1) (fun l x r hx => quadM_le hx) (xs := y7.1) (r := y7.2) h7
                    cases h8 : takeM y4.1.toNat y7.2 with
                    | none => rw [h8] at h; cases h
                    | some y8 =>
                      rw [h8, Option.bind_some, r2c] at h
                      have k8 := takeM_le (s := y8.1) (r := y8.2) h8
                      cases h9 : mapO (phM y8.1) y7.1 with
                      | none => rw [h9] at h; cases h
                      | some phs =>
                        rw [h9, Option.bind_some] at h
                        have k9 : ∀ p ∈ phs, PW p := mapO_all h9 fun q hq b hb => by
                          unfold phM at hb
                          cases ha : abbrM y8.1 q.2.2.toNat with
                          | none => rw [ha] at hb; cases hb
                          | some s =>
                            rw [ha] at hb
                            simp only [Option.map_some, Option.some.injEq] at hb
                            rw [← hb]
                            have := abbrM_le ha
                            have := k7.2
                            exact ⟨(k7.1 q hq).1, (k7.1 q hq).2, by show s.length ≤ _; omega⟩
                        cases h10 : mapO (shM phs) (y5.1.zip y6.1) with
                        | none => rw [h10] at h; cases h
                        | some ss =>
                          rw [h10, Option.bind_some] at h
                          have k10 : ∀ s ∈ ss, PW s.ph := mapO_all (F := fun s => PW s.ph) h10 fun q hq b hb => by
                            unfold shM at hb
                            cases ha : phs[q.2.toNat]? with
                            | none => rw [ha] at hb; cases hb
                            | some p =>
                              rw [ha] at hb
                              simp only [Option.map_some, Option.some.injEq] at hb
                              rw [← hb]
                              exact k9 _ (List.mem_of_getElem? ha)
                          have k11 := mapO_length h10
                          rw [List.length_zip] at k11
                          cases h12 : phs.head? with
                          | none => rw [h12] at h; cases h
                          | some first =>
                            rw [h12, Option.bind_some] at h
                            refine r3_ok k1.1 ?_ (k9 _ (List.mem_of_head? h12)) k10 h
                            have := repM_length (xs := y5.1) (r := y5.2) h5
                            omega
    · cases h
end Go.Proofs.YtdicedpklpadgaaGreatDoor.Rd
namespace Go.Proofs.YtdicedpklpadgaaGreatDoor.Rd
open Go.RowKit Mem Img

/-- A slice's cells lie in a new block. -/
def NewAt (B : Nat) (A : Option Addr) (n : Nat) : Prop := 0 < n → ∃ b, A = some ⟨b, 0, none⟩ ∧ B ≤ b
theorem info67 : (Tryz.prog.info? 83).map (fun i => (i.zero, i.size, i.bytes)) = some (some (.agg #[.int .i64 0, .int .i64 0, .int .i64 0, .string ⟨#[]⟩]), 4, 40) := by kernel_rfl
theorem info52 : (Tryz.prog.info? 59).map (fun i => (i.zero, i.size, i.bytes)) = some (some (.agg zRule), 11, 104) := by kernel_rfl
theorem info41 : (Tryz.prog.info? 206).map (fun i => (i.zero, i.size, i.bytes)) = some (some (.int .u32 0), 1, 4) := by kernel_rfl
theorem size27 : (Tryz.prog.info? 33).map (·.size) = some 9 := by kernel_rfl
def zTab : Array Value := #[.string ⟨#[]⟩, .int .i64 0, .int .i64 0, .string ⟨#[]⟩, .slice none 0 0, .int .i64 0, .slice none 0 0, .int .i64 0, .string ⟨#[]⟩]
theorem gr_own {w0 w w' : World} {r : Option Nat} {v : Value} (h : w0.grownBy w r) (k : w.grownBy w' v.ownBlock) (hv : ∀ b, v.ownBlock = some b → w0.heap.size ≤ b) : w0.grownBy w' r :=
  ⟨k.os.trans h.os, k.tape.trans h.tape, k.output.trans h.output, Nat.le_trans h.size k.size, fun j hj hne => (k.block j (Nat.lt_of_lt_of_le hj h.size) (fun e => by have := hv j e.symm; omega)).trans (h.block j hj hne)⟩

theorem own_own_ne {w : World} {base base' size size' n n' : Nat} {e e' : TypeId} {v v' : Value} {xs xs' : List Value} (h : w.ownsRow base e size v n xs) (h' : w.ownsRow base' e' size' v' n' xs') (hne : e ≠ e') : v.ownBlock ≠ v'.ownBlock ∨ v.ownBlock = none := by
  rcases h.2 with ⟨rfl, _⟩ | ⟨b, cap, cur, rfl, _, hh, _⟩
  · exact .inr rfl
  · refine .inl ?_
    have := own_blk_ne h' (g := b) (t := e) (cs := cur) hh (Ne.symm hne)
    exact fun e => this e.symm
theorem own_form {w : World} {base size n : Nat} {e : TypeId} {v : Value} {xs : List Value} (h : w.ownsRow base e size v n xs) : ∃ A c, v = .slice A n c := by
  rcases h.2 with ⟨rfl, rfl⟩ | ⟨b, cap, cur, rfl, _⟩
  · exact ⟨_, _, rfl⟩
  · exact ⟨_, _, rfl⟩
theorem grown_drewN {w w' : World} {r : Option Nat} (h : w.grownBy w' r) (n : Nat) : w.grownBy (w'.drewN n) r := ⟨h.os, h.tape, h.output, h.size, h.block⟩
theorem own_cell {w : World} {base size n c g : Nat} {e : TypeId} {xs : List Value} (h : w.ownsRow base e size (.slice (some ⟨g, 0, none⟩) n c) n xs) {j : Nat} (hj : j < n * size) : ∃ u, w.cell? ⟨g, j, none⟩ = some u := by
  have hl : j < xs.length := by rw [h.1]; exact hj
  exact ⟨xs[j], by rw [h.cellAt j hj, List.getElem?_eq_getElem hl]⟩
theorem own_at {w : World} {base size n c : Nat} {e : TypeId} {A : Option Addr} {xs : List Value} (h : w.ownsRow base e size (.slice A n c) n xs) (hn : 0 < n) : ∃ b, A = some ⟨b, 0, none⟩ ∧ base ≤ b ∧ b < w.heap.size := by
  obtain ⟨b, cap, e1, h1, h2⟩ := h.form hn
  injection e1 with e1 _ _
  exact ⟨b, e1, h1, h2⟩
theorem new_at {w : World} {base size n c B m : Nat} {e : TypeId} {A : Option Addr} {xs : List Value} (h : w.ownsRow base e size (.slice A n c) n xs) (hB : B ≤ base) (hm : m = n) : NewAt B A m := fun hn => by
  obtain ⟨b, h1, h2, _⟩ := own_at h (by omega)
  exact ⟨b, h1, by omega⟩
theorem own_set {w : World} {base size n b : Nat} {e : TypeId} {v : Value} {xs : List Value} (h : w.ownsRow base e size v n xs) (hne : v.ownBlock ≠ some b) (i : Nat) (u : Value) : (w.setCell ⟨b, i, none⟩ u).ownsRow base e size v n xs :=
  h.kept (World.grownBy_setCell w ⟨b, i, none⟩ u rfl) (.inr hne)
section
variable {w0 w w' : World} {g X R0 base n : Nat} {cx cr : Array Value} {l l' : List UInt8} {v : Value} {xs : List Value}
theorem grown_row (w : World) (b : Nat) (c : Array Value) : w.grownBy (w.setRow b c) (some b) := ⟨rfl, rfl, rfl, by simp, fun k _ hk => setRow_other w b k _ (fun e => hk (by simp [e]))⟩
end
def sh0 (n : Int) : List Value := [.int .i64 n, .int .i64 0, .int .i64 0, .string ⟨#[]⟩]
def u32C (n : Int) : Value := .int .u32 n
def ph0 (q : Int × Int × Int) : List Value := [.int .i64 q.1, .int .i64 q.2.1, .string ⟨#[]⟩]
theorem flat_len {α : Type} {f : α → List Value} {m : Nat} (hf : ∀ a, (f a).length = m) (l : List α) : (l.flatMap f).length = l.length * m := by
  induction l with
  | nil => simp
  | cons a t ih => rw [List.flatMap_cons, List.length_append, hf, ih, List.length_cons, Nat.succ_mul]; omega
theorem ph_set {phs : List Phase} {qs : List (Int × Int × Int)} {k : Nat} (s : ByteArray) (hk : k < qs.length) (h : phs.length = k) : (phs.flatMap Phase.cells ++ (qs.drop k).flatMap ph0).set (k * 3 + 2) (.string s) = (phs ++ [(⟨qs[k].1, qs[k].2.1, s⟩ : Phase)]).flatMap Phase.cells ++ (qs.drop (k + 1)).flatMap ph0 := by
  have hl : (phs.flatMap Phase.cells).length = k * 3 := by rw [flat_len (m := 3) (fun _ => rfl), h]
  rw [List.drop_eq_getElem_cons hk, List.set_append_right _ _ (by omega), hl]
  generalize qs[k] = q
  generalize qs.drop (k + 1) = t
  simp [ph0, Phase.cells, List.flatMap_append]
theorem sh_set {sss : List Shift} {xs : List Int} {k : Nat} (p : Phase) (hk : k < xs.length) (h : sss.length = k) : (((sss.flatMap Shift.cells ++ (xs.drop k).flatMap sh0).set (k * 4 + 1) (.int .i64 p.off)).set (k * 4 + 2) (.int .i64 p.save)).set (k * 4 + 3) (.string p.abbr) = (sss ++ [(⟨xs[k], p⟩ : Shift)]).flatMap Shift.cells ++ (xs.drop (k + 1)).flatMap sh0 := by
  have hl : (sss.flatMap Shift.cells).length = k * 4 := by rw [flat_len (m := 4) (fun _ => rfl), h]
  rw [List.drop_eq_getElem_cons hk, List.set_append_right _ _ (by omega), hl, List.set_append_right _ _ (by omega), hl, List.set_append_right _ _ (by omega), hl]
  generalize xs[k] = q
  generalize xs.drop (k + 1) = t
  simp [sh0, Shift.cells, List.flatMap_append]
theorem quadM_u32 {l r : List UInt8} {x : Int × Int × Int} (h : quadM l = some (x, r)) : (0 ≤ x.2.2 ∧ x.2.2 < 4294967296) ∧ r.length ≤ l.length := by
  refine ⟨?_, (quadM_le h).2⟩
  unfold quadM at h
  cases h1 : numM .i32 4 l with
  | none => rw [h1] at h; cases h
  | some y1 =>
    rw [h1, Option.bind_some] at h
    cases h2 : numM .i32 4 y1.2 with
    | none => rw [h2] at h; cases h
    | some y2 =>
      rw [h2, Option.bind_some] at h
      cases h3 : numM .u32 4 y2.2 with
      | none => rw [h3] at h; cases h
      | some y3 =>
        rw [h3] at h
        simp only [Option.map_some, Option.some.injEq, Prod.mk.injEq] at h
        have a1 := numM_u32 (rest := y3.2) (n := y3.1) h3
        rw [← h.1]
        exact ⟨a1.1, a1.2.1⟩
theorem r2c_nil {name : List UInt8} {s p : List Int} {t : List UInt8 × List UInt8} : r2c name s p [] t = none := by
  unfold r2c
  simp only [mapO, Option.bind_some, List.head?_nil, Option.bind_none]
  cases mapO (shM []) (s.zip p) <;> rfl
theorem rule_one {a k : ByteArray} {b c d e f g h i j : Int} : ∀ u ∈ (#[.string a, .int .i64 b, .int .i64 c, .int .i64 d, .int .i64 e, .int .i64 f, .int .i64 g, .int .i64 h, .int .i64 i, .int .i64 j, .string k] : Array Value).toList, u.oneCell' = true := by
  intro u hu
  simp at hu
  rcases hu with rfl | rfl | rfl | rfl | rfl | rfl | rfl | rfl | rfl | rfl | rfl <;> rfl
theorem tab_one {a d k : ByteArray} {b c f h : Int} {A A2 : Option Addr} {n n2 c1 c2 : Nat} : (#[.string a, .int .i64 b, .int .i64 c, .string d, .slice A n c1, .int .i64 f, .slice A2 n2 c2, .int .i64 h, .string k] : Array Value).all (·.oneCell') = true := by
  simp [Value.oneCell']
theorem TabB.ok {x : Table} {A A2 : Option Addr} {w : World} {n1 n2 : Nat} (h : TabB x) (e1 : x.shifts.length = n1) (e2 : x.tail.length = n2) (r1 : Reads w w.heap.size 4 A n1 (x.shifts.flatMap Shift.cells)) (r2 : Reads w w.heap.size 11 A2 n2 (x.tail.flatMap Rule.cells)) : TabOk x A A2 w := by
  subst e1 e2
  exact ⟨r1, r2, h.ns, h.nt, h.name, h.format, h.first, h.shifts, h.rules⟩
theorem tab_agg {x : Table} {A A2 : Option Addr} {n1 n2 c c2 : Nat} (e1 : x.shifts.length = n1) (e2 : x.tail.length = n2) : Value.agg #[.string x.name, .int .i64 x.first.off, .int .i64 x.first.save, .string x.first.abbr, .slice A n1 c, .int .i64 x.till, .slice A2 n2 c2, .int .i64 x.off, .string x.format] = .agg (tabCells x A c A2 c2) := by
  subst e1 e2
  rfl
theorem shift_one {a b c : Int} {s : ByteArray} : ∀ u ∈ (#[Value.int .i64 a, .int .i64 b, .int .i64 c, .string s] : Array Value).toList, u.oneCell' = true := by
  intro u hu
  simp at hu
  rcases hu with rfl | rfl | rfl | rfl <;> rfl

end Go.Proofs.YtdicedpklpadgaaGreatDoor.Rd
end
section
namespace Go.Proofs.YtdicedpklpadgaaGreatDoor.Rd
open Go.RowKit Mem Img

end Go.Proofs.YtdicedpklpadgaaGreatDoor.Rd
end
section
namespace Go.Proofs.YtdicedpklpadgaaGreatDoor.Rd
open Go.RowKit Mem Img Rgt

theorem wpS_of_wp' {P : Program} {c : Code} {Q : Exit → Act → List Frame → World → Prop} {a : Act} {cs : List Frame} {w : World} (h : ∀ Q' : Exit → Act → World → Prop, (∀ e a' w', Q e a' cs w' → Q' e a' w') → c.wp P Q' a w) : c.wpS P Q a cs w :=
  wpS_of_wp (h _ fun _ _ _ h => h)
theorem assert_nil (w : World) : (Instr.typeAssert .nilIface 20 34 true).run Tryz.prog w = .ok (.tuple #[.int .i64 0, .bool false]) w := by kernel_rfl
theorem assert_some (n : Int) (w : World) : (Instr.typeAssert (.iface 34 (.int .i64 n)) 20 34 true).run Tryz.prog w = .ok (.tuple #[.int .i64 n, .bool true]) w := by kernel_rfl
/-- The table that an image is of, if it is one. -/
def loadM (tb : Table → Bool) (l : List UInt8) : Option Table := (readM l).bind fun y => if rightB y.1 (tb y.1) = true ∧ img y.1 = l then some y.1 else none
def LP (w : World) (r : Option Table) (e : Ending) (w' : World) : Prop :=
  Below w.heap.size w w' ∧ match r with
    | some x => ∃ A c A2 c2, e = .returned (.tuple #[.agg (tabCells x A c A2 c2), .int .i64 0]) ∧ TabOk x A A2 w'
    | none => e = .returned (.tuple #[.agg zTab, .int .i64 18])
/-- table.tail answers, at tables of a kind. -/
def TailIs (Pt : Table → Prop) (tb : Table → Bool) (m : Int) : Prop := ∀ (x : Table) (A A2 : Option Addr) (c c2 : Nat) (w : World), Pt x → TabOk x A A2 w → w.cell? ⟨0, 0, none⟩ = some (.int .i64 m) →
  Calls Tryz.prog 49 #[.agg (tabCells x A c A2 c2)] w fun e w' => e = .returned (.bool (tb x)) ∧ Below w.heap.size w w'

theorem row_new {w1 : World} {X : Nat} {t : TypeId} {cx cy : Array Value} (h : Blk w1 X t cx) : Blk (w1.setRow X cy) X t cy := setRow_heap w1 X cx cy t (0, 0) h
theorem reads_row {w1 : World} {X B size n : Nat} {A : Option Addr} {xs : List Value} {cy : Array Value} (h : Reads w1 B size A n xs) (hn : NewAt (X + 1) A n) : Reads (w1.setRow X cy) B size A n xs :=
  ⟨h.1, fun h0 => by
    obtain ⟨ad, e, hb, hc⟩ := h.2 h0
    obtain ⟨b, e2, hb2⟩ := hn h0
    rw [e] at e2
    injection e2 with e2
    refine ⟨ad, e, hb, fun j u hu => ?_⟩
    rw [← hc j u hu]
    have hbk : (ad.add j).block = b := by rw [block_of_add, e2]
    exact World.cell?_of_block (w := w1) (setRow_other w1 X _ cy (by omega))⟩
theorem NewAt.mono {B B' : Nat} {A : Option Addr} {n : Nat} (h : NewAt B A n) (hB : B' ≤ B) : NewAt B' A n := fun h0 => by
  obtain ⟨b, e, hb⟩ := h h0
  exact ⟨b, e, by omega⟩
theorem tabOk_row {w1 : World} {X : Nat} {x : Table} {A A2 : Option Addr} {cy : Array Value} (h : TabOk x A A2 w1) (h1 : NewAt (X + 1) A x.shifts.length) (h2 : NewAt (X + 1) A2 x.tail.length) : TabOk x A A2 (w1.setRow X cy) := by
  have hs : w1.heap.size ≤ (w1.setRow X cy).heap.size := (grown_row w1 X cy).size
  exact ⟨(reads_row h.rs h1).more hs, (reads_row h.rt h2).more hs, h.ns, h.nt, h.name, h.format, h.first, h.shifts, h.rules⟩
theorem reads_set {w1 : World} {X i B size n : Nat} {A : Option Addr} {xs : List Value} {u : Value} (h : Reads w1 B size A n xs) (hn : NewAt (X + 1) A n) : Reads (w1.setCell ⟨X, i, none⟩ u) B size A n xs :=
  ⟨h.1, fun h0 => by
    obtain ⟨ad, e, hb, hc⟩ := h.2 h0
    obtain ⟨b, e2, hx⟩ := hn h0
    rw [e] at e2
    injection e2 with e2
    refine ⟨ad, e, hb, fun j v hv => ?_⟩
    rw [← hc j v hv]
    have hbk : (ad.add j).block = b := by rw [block_of_add, e2]
    exact World.cell?_of_block (w := w1) (Below.heap_setCell w1 ⟨X, i, none⟩ u _ (by rw [hbk]; show b ≠ X; omega))⟩
theorem tabOk_set {w1 : World} {X i : Nat} {x : Table} {A A2 : Option Addr} {u : Value} (h : TabOk x A A2 w1) (h1 : NewAt (X + 1) A x.shifts.length) (h2 : NewAt (X + 1) A2 x.tail.length) : TabOk x A A2 (w1.setCell ⟨X, i, none⟩ u) := by
  have hs : w1.heap.size ≤ (w1.setCell ⟨X, i, none⟩ u).heap.size := by simp
  exact ⟨(reads_set h.rs h1).more hs, (reads_set h.rt h2).more hs, h.ns, h.nt, h.name, h.format, h.first, h.shifts, h.rules⟩
theorem row_far {w1 : World} {X E : Nat} {t : TypeId} {cx cy : Array Value} (h : Blk w1 E t cx) (hne : E ≠ X) : Blk (w1.setRow X cy) E t cx := (setRow_other w1 X E cy hne).trans h
theorem row_below {w w1 : World} {B X : Nat} {cy : Array Value} (h : Below B w w1) (hB : B ≤ w1.heap.size) (hX : B ≤ X) : Below B w (w1.setRow X cy) := h.grown (grown_row w1 X cy) hB fun k e => by injection e with e; omega

end Go.Proofs.YtdicedpklpadgaaGreatDoor.Rd
end
