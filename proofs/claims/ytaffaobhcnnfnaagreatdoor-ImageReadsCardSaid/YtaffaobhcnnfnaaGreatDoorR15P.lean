/-
  The document's pool of names: distinct, and where each begins (plain). Conditions: none.
  Regions that draw their order and hold calls that only make memory: one walk (a class of worlds above one). Conditions: none.
-/
import Derived.Test.YtaffaobhcnnfnaaGreatDoorR15
import Derived.Test.YtaffaobhcnnfnaaGreatDoorQuiet
namespace Go.Proofs.YtaffaobhcnnfnaaGreatDoor.R15
open Go.RowKit Mem Img

def hasN (a : List (ByteArray × Nat)) (s : ByteArray) (j : Nat) : Bool := (a.take j).any fun q => decide (q.1 = s)
def lastN (a : List (ByteArray × Nat)) (s : ByteArray) (j : Nat) : Int := (a.take j).foldl (fun m q => if q.1 = s then (q.2 : Int) else m) 0
theorem hasN_succ (a : List (ByteArray × Nat)) (s : ByteArray) (j : Nat) (hj : j < a.length) : hasN a s (j + 1) = (hasN a s j || decide (a[j].1 = s)) := by
  unfold hasN
  rw [List.take_succ_eq_append_getElem hj, List.any_append]
  simp
theorem lastN_succ (a : List (ByteArray × Nat)) (s : ByteArray) (j : Nat) (hj : j < a.length) : lastN a s (j + 1) = if a[j].1 = s then (a[j].2 : Int) else lastN a s j := by
  unfold lastN
  rw [List.take_succ_eq_append_getElem hj, List.foldl_append]
  rfl
theorem look_isSome (a : List (ByteArray × Nat)) (s : ByteArray) : (Img.look a s).isSome = a.any fun q => decide (q.1 = s) := by
  induction a with
  | nil => rfl
  | cons q t ih =>
    obtain ⟨x, k⟩ := q
    rw [Img.look, List.any_cons]
    by_cases h : x = s
    · rw [if_pos h, decide_eq_true h]; rfl
    · rw [if_neg h, decide_eq_false h, ih, Bool.false_or]
theorem has_all (a : List (ByteArray × Nat)) (s : ByteArray) : hasN a s a.length = (Img.look a s).isSome := by
  rw [look_isSome, hasN, List.take_length]
theorem nodup_pool (l : List Phase) (k : Nat) : ((poolL (l.take k)).2.map (·.1)).Nodup := by
  induction k with
  | zero => simp [poolL]
  | succ k ih =>
    by_cases hk : k < l.length
    · rw [poolL_succ l k hk, poolStep]
      split
      · exact ih
      · next h =>
        rw [List.map_append, List.nodup_append]
        refine ⟨ih, by simp, ?_⟩
        intro x hx y hy
        simp only [List.map_cons, List.map_nil, List.mem_singleton] at hy
        subst hy
        rintro rfl
        apply h
        rw [look_isSome, List.any_eq_true]
        obtain ⟨q, hq, e⟩ := List.mem_map.1 hx
        exact ⟨q, hq, by simpa using e⟩
    · rw [List.take_of_length_le (by omega)] at ih ⊢
      exact ih
theorem fold_look (s : ByteArray) : ∀ (a : List (ByteArray × Nat)) (m : Int), (a.map (·.1)).Nodup → a.foldl (fun m q => if q.1 = s then (q.2 : Int) else m) m = (match Img.look a s with | some k => (k : Int) | none => m) := by
  intro a
  induction a with
  | nil => intro m _; rfl
  | cons q t ih =>
    intro m h
    obtain ⟨x, k⟩ := q
    rw [List.map_cons, List.nodup_cons] at h
    rw [List.foldl_cons, ih _ h.2, Img.look]
    by_cases e : x = s
    · rw [if_pos e, if_pos e]
      have : Img.look t s = none := by
        have h2 : (Img.look t s).isSome = false := by
          rw [look_isSome, List.any_eq_false]
          intro q hq
          simp only [decide_eq_true_eq]
          rintro rfl
          exact h.1 (by rw [e]; exact List.mem_map.2 ⟨q, hq, rfl⟩)
        simpa using h2
      rw [this]
    · rw [if_neg e, if_neg e]
theorem last_all (a : List (ByteArray × Nat)) (s : ByteArray) (h : (a.map (·.1)).Nodup) : lastN a s a.length = ((Img.look a s).getD 0 : Nat) := by
  unfold lastN
  rw [List.take_length, fold_look s a 0 h]
  cases Img.look a s <;> rfl
theorem last_begin (x : Table) (p : Phase) : lastN (poolL x.kinds).2 p.abbr (poolL x.kinds).2.length = x.begin_ p := by
  rw [last_all _ _ (by have := nodup_pool x.kinds x.kinds.length; rwa [List.take_length] at this)]
  rfl
theorem pool_step_no {p1 p2 : Int} {l : List Phase} {k : Nat} {s : ByteArray} {T : List UInt8} {a : List (ByteArray × Nat)} (h : poolL (l.take (k + 1)) = poolStep (T, a) ⟨p1, p2, s⟩) (hs : hasN a s a.length = true) : poolL (l.take (k + 1)) = (T, a) := by
  rw [h, poolStep]
  simp only
  rw [has_all] at hs
  rw [if_pos hs]
theorem pool_step_yes {p1 p2 : Int} {l : List Phase} {k : Nat} {s : ByteArray} {T : List UInt8} {a : List (ByteArray × Nat)} (h : poolL (l.take (k + 1)) = poolStep (T, a) ⟨p1, p2, s⟩) (hs : hasN a s a.length = false) : poolL (l.take (k + 1)) = (T ++ (s.data.toList ++ [0]), a ++ [(s, T.length)]) := by
  rw [h, poolStep]
  simp only
  rw [has_all] at hs
  rw [if_neg (by rw [hs]; decide)]
theorem pool_names_le (l : List Phase) (k : Nat) : (poolL (l.take k)).2.length ≤ k := by
  induction k with
  | zero => simp [poolL]
  | succ k ih =>
    by_cases hk : k < l.length
    · rw [poolL_succ l k hk, poolStep]
      split
      · omega
      · rw [List.length_append]; simp; omega
    · rw [List.take_of_length_le (by omega)] at ih ⊢
      omega
/-- Two rows of one's own, of different types, do not lie in one block. -/
theorem own_own_ne {w : World} {b b' n n' s s' : Nat} {e e' : TypeId} {v v' : Value} {xs xs' : List Value} (h : w.ownsRow b e s v n xs) (h' : w.ownsRow b' e' s' v' n' xs') (hne : e ≠ e') {r : Nat} (hr : v.ownBlock = some r) : v'.ownBlock ≠ some r := by
  intro hr'
  rcases h.2 with ⟨hv, _⟩ | ⟨g, cap, cur, rfl, _, hb, _⟩
  · subst hv; simp [Value.ownBlock] at hr
  · rcases h'.2 with ⟨hv, _⟩ | ⟨g', cap', cur', rfl, _, hb', _⟩
    · subst hv; simp [Value.ownBlock] at hr'
    · simp only [Value.ownBlock, Option.some.injEq] at hr hr'
      subst hr
      subst hr'
      rw [hb] at hb'
      simp only [Option.some.injEq, Obj.cells.injEq] at hb'
      exact hne hb'.2.1
/-- The worlds above one. -/
def Ab (W w : World) : Prop := Below W.heap.size W w
theorem ab_call {W w : World} {P : Program} {f : FuncId} {args : Array Value} {v : Value} (h : Ab W w) (hc : Calls P f args w fun e w' => e = .returned v ∧ Below w.heap.size w w') : Calls P f args w fun e w' => e = .returned v ∧ Ab W w' :=
  hc.mono fun _ _ ⟨he, hb⟩ => ⟨he, h.trans (hb.mono h.size)⟩
end Go.Proofs.YtaffaobhcnnfnaaGreatDoor.R15
