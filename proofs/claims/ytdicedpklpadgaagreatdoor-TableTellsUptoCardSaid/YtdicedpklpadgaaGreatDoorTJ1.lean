/-
  Shifts that are put one behind the other, and what they tell (plain). Conditions: none.
  Shifts found by halves (plain). Conditions: none.
-/
import Derived.Test.YtdicedpklpadgaaGreatDoorY26
import Derived.Test.YtdicedpklpadgaaGreatDoorTKR11Pc
import Derived.Test.YtdicedpklpadgaaGreatDoorY21
set_option linter.all false
section
namespace Go.Proofs.YtdicedpklpadgaaGreatDoor.Cmq
open Go.RowKit Mem Civ Mom Img Rul Ahd Trn Src Snd Att Rgt Abr

/-- How clocks stand by shifts that rise. -/
def tellL (first : Phase) (ss : List Shift) (t : Int) : Phase := ss.foldl (fun p s => if s.sec ≤ t then s.ph else p) first
def Diff : Phase → List Shift → Prop
  | _, [] => True
  | p, s :: ss => s.ph ≠ p ∧ Diff s.ph ss
/-- Shifts as the maker puts them, none behind a second. -/
structure Gd (first : Phase) (till a : Int) (ss : List Shift) : Prop where
  rise : ss.Pairwise fun x y => x.sec < y.sec
  upto : ∀ s ∈ ss, s.sec ≤ a
  till : ∀ s ∈ ss, s.sec < till
  diff : Diff first ss
theorem tell_snoc (first : Phase) (ss : List Shift) (s : Shift) (t : Int) : tellL first (ss ++ [s]) t = if s.sec ≤ t then s.ph else tellL first ss t := by
  unfold tellL
  rw [List.foldl_append]
  rfl
theorem lastPh_snoc' (first : Phase) : ∀ (l : List Shift) (s : Shift), lastPh first (l ++ [s]) = s.ph
  | [], s => rfl
  | [a], s => rfl
  | a :: b :: l, s => by
    have := lastPh_snoc' first (b :: l) s
    simpa [lastPh] using this
theorem tell_late {first : Phase} {ss : List Shift} {t : Int} (h : ∀ s ∈ ss, s.sec ≤ t) : tellL first ss t = lastPh first ss := by
  rcases List.eq_nil_or_concat ss with rfl | ⟨l, s, rfl⟩
  · rfl
  · rw [List.concat_eq_append, lastPh_snoc', tell_snoc, if_pos (h s (by simp))]
end Go.Proofs.YtdicedpklpadgaaGreatDoor.Cmq
end
section
namespace Go.Proofs.YtdicedpklpadgaaGreatDoor.Cmq
open Go.RowKit Mem Civ Mom Img Plc Rul Ahd Src Snd Att Rgt Abr Sch

theorem tell_skip {t : Int} : ∀ {l : List Shift} {p : Phase}, (∀ s ∈ l, t < s.sec) → l.foldl (fun p s => if s.sec ≤ t then s.ph else p) p = p
  | [], _, _ => rfl
  | a :: l, p, h => by
    rw [List.foldl_cons, if_neg (by have := h a (by simp); omega)]
    exact tell_skip fun s hs => h s (by simp [hs])
theorem tell_at {first : Phase} {ss : List Shift} {t : Int} {n : Nat} (hn : n ≤ ss.length) (h1 : ∀ i (hi : i < ss.length), i < n → ss[i].sec ≤ t) (h2 : ∀ i (hi : i < ss.length), n ≤ i → t < ss[i].sec) : tellL first ss t = hadAt first ss n := by
  have e1 : tellL first ss t = tellL first (ss.take n) t := by
    conv => lhs; rw [← List.take_append_drop n ss]
    unfold tellL
    rw [List.foldl_append]
    refine tell_skip fun s hs => ?_
    obtain ⟨i, hi, e⟩ := List.mem_iff_getElem.1 hs
    rw [List.getElem_drop] at e
    rw [← e]
    exact h2 _ _ (by omega)
  have e2 : tellL first (ss.take n) t = lastPh first (ss.take n) := tell_late fun s hs => by
    obtain ⟨i, hi, e⟩ := List.mem_iff_getElem.1 hs
    rw [List.getElem_take] at e
    rw [← e]
    rw [List.length_take] at hi
    exact h1 _ _ (by omega)
  rw [e1, e2]
  cases n with
  | zero => rfl
  | succ k =>
    have hk : k < ss.length := by omega
    rw [List.take_succ_eq_append_getElem hk, lastPh_snoc']
    simp only [hadAt, List.getElem?_eq_getElem hk, Option.map_some, Option.getD_some]
theorem shift_tell {first : Phase} {ss : List Shift} {t : Int} (hr : ss.Pairwise fun x y => x.sec < y.sec) : hadAt first ss (searchF (shiftF ss t) ss.length 0 ss.length) = tellL first ss t := by
  have hf : ∀ i (hi : i < ss.length), shiftF ss t i = decide (t < ss[i].sec) := fun i hi => by
    unfold shiftF
    rw [List.getElem?_eq_getElem hi, Option.map_some, Option.getD_some]
  have hmono : ∀ a b, a ≤ b → b < ss.length → shiftF ss t a = true → shiftF ss t b = true := fun a b hab hb h => by
    rw [hf a (by omega), decide_eq_true_eq] at h
    rw [hf b hb, decide_eq_true_eq]
    rcases Nat.eq_or_lt_of_le hab with rfl | hlt
    · exact h
    · have := List.pairwise_iff_getElem.1 hr a b (by omega) hb hlt
      omega
  obtain ⟨h1, h2⟩ := search_first (f := shiftF ss t) (n := ss.length) hmono ss.length 0 ss.length (by omega) (Nat.zero_le _) (Nat.le_refl _) (fun i hi => by omega) (fun i hi1 hi2 => by omega)
  have hle := search_le (shiftF ss t) ss.length 0 ss.length (Nat.zero_le _)
  refine (tell_at hle (fun i hi hin => ?_) fun i hi hin => ?_).symm
  · have := h1 i hin
    rw [hf i hi] at this
    have := of_decide_eq_false this
    omega
  · have := h2 i hin hi
    rw [hf i hi] at this
    exact of_decide_eq_true this
end Go.Proofs.YtdicedpklpadgaaGreatDoor.Cmq
end
