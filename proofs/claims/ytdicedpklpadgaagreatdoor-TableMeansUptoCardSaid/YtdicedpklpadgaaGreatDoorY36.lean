/-
  Shifts that are put one behind the other, and what they tell (plain). Conditions: none.
  The turns of a set without flaws lie two days apart, in all years; what the latest turn is, and in which order universal times stand (plain). Conditions: right rules, neither crowded nor near.
  Which turn is the latest one that is so; in which order universal times stand (plain). Conditions: right rules; turns that lie two days apart; an offset of less than a day.
  The program's list of a set's turns is that of all turns, in order, at their universal times (plain). Conditions: right rules, neither crowded nor near; an offset of less than a day.
  What the shifts of all eras tell ahead of a table's end (plain). Conditions: eras and sets without flaws; not too many shifts.
  What a source without flaws is like (plain): its names, their zones, and a zone of it alone. Conditions: none.
  What a source without flaws is like to Compile (plain): its eras, their sets, their ends, the greatest year. Conditions: none.
  A zone's shifts are fewer than thirty thousand where the years of a source's rules lie six hundred apart at most (plain). Conditions: none.
  A compiled table is right (plain). Conditions: none.
  What a compiled table tells is what its zone's eras say, however late (plain). Conditions: none.
  Package table: Compile at any source and zone, as a table that is read. Conditions: what the source's slices hold is read; the cell of bytealg.MaxLen holds a number.
  The table of the small source that the laws' function alive compiles (closed facts). Conditions: none.
-/
import Derived.Test.YtdicedpklpadgaaGreatDoorY26
import Derived.Test.YtdicedpklpadgaaGreatDoorY15
import Derived.Test.YtdicedpklpadgaaGreatDoorY25
import Derived.Test.YtdicedpklpadgaaGreatDoorY34
import Derived.Test.YtdicedpklpadgaaGreatDoorY35
set_option linter.all false
section
namespace Go.Proofs.YtdicedpklpadgaaGreatDoor.Cmq
open Go.RowKit Mem Civ Mom Img Rul Ahd Trn Src Snd Att Rgt Abr

/-- How clocks stand by shifts that rise. -/
def tellL (first : Phase) (ss : List Shift) (t : Int) : Phase := ss.foldl (fun p s => if s.sec ≤ t then s.ph else p) first
def Diff : Phase → List Shift → Prop
  | _, [] => True
  | p, s :: ss => s.ph ≠ p ∧ Diff s.ph ss
/-- Shifts as the maker puts them, none behind a second. -/
structure Gd (first : Phase) (till a : Int) (ss : List Shift) : Prop where
  rise : ss.Pairwise fun x y => x.sec < y.sec
  upto : ∀ s ∈ ss, s.sec ≤ a
  till : ∀ s ∈ ss, s.sec < till
  diff : Diff first ss
theorem tell_snoc (first : Phase) (ss : List Shift) (s : Shift) (t : Int) : tellL first (ss ++ [s]) t = if s.sec ≤ t then s.ph else tellL first ss t := by
  unfold tellL
  rw [List.foldl_append]
  rfl
theorem lastPh_snoc' (first : Phase) : ∀ (l : List Shift) (s : Shift), lastPh first (l ++ [s]) = s.ph
  | [], s => rfl
  | [a], s => rfl
  | a :: b :: l, s => by
    have := lastPh_snoc' first (b :: l) s
    simpa [lastPh] using this
theorem tell_late {first : Phase} {ss : List Shift} {t : Int} (h : ∀ s ∈ ss, s.sec ≤ t) : tellL first ss t = lastPh first ss := by
  rcases List.eq_nil_or_concat ss with rfl | ⟨l, s, rfl⟩
  · rfl
  · rw [List.concat_eq_append, lastPh_snoc', tell_snoc, if_pos (h s (by simp))]
theorem diff_snoc {s : Shift} : ∀ {ss : List Shift} {first : Phase}, Diff first (ss ++ [s]) ↔ Diff first ss ∧ s.ph ≠ lastPh first ss
  | [], first => by simp [Diff, lastPh]
  | [a], first => by simp [Diff, lastPh]
  | a :: b :: ss, first => by
    have ih := @diff_snoc s (b :: ss) a.ph
    show a.ph ≠ first ∧ Diff a.ph ((b :: ss) ++ [s]) ↔ _
    rw [ih]
    have : lastPh first (a :: b :: ss) = lastPh a.ph (b :: ss) := by
      show lastPh first (b :: ss) = lastPh a.ph (b :: ss)
      have : ∀ (l : List Shift) (p q : Phase) (c : Shift), lastPh p (c :: l) = lastPh q (c :: l) := by
        intro l
        induction l with
        | nil => intro p q c; rfl
        | cons d l ih => intro p q c; exact ih p q d
      exact this ss _ _ b
    rw [this]
    simp only [Diff]
    constructor
    · rintro ⟨h1, h2, h3⟩; exact ⟨⟨h1, h2⟩, h3⟩
    · rintro ⟨⟨h1, h2⟩, h3⟩; exact ⟨h1, h2, h3⟩
theorem gd_nil (first : Phase) (till a : Int) : Gd first till a [] := ⟨List.Pairwise.nil, fun _ h => by simp at h, fun _ h => by simp at h, trivial⟩
theorem Gd.mono {first : Phase} {till a b : Int} {ss : List Shift} (h : Gd first till a ss) (hab : a ≤ b) : Gd first till b ss := ⟨h.rise, fun s hs => Int.le_trans (h.upto s hs) hab, h.till, h.diff⟩
theorem gd_init {first : Phase} {till a : Int} {l : List Shift} {s : Shift} (h : Gd first till a (l ++ [s])) : Gd first till a l ∧ (∀ x ∈ l, x.sec < s.sec) := by
  have h1 := List.pairwise_append.1 h.rise
  exact ⟨⟨h1.1, fun x hx => h.upto x (by simp [hx]), fun x hx => h.till x (by simp [hx]), (diff_snoc.1 h.diff).1⟩, fun x hx => h1.2.2 x hx s (by simp)⟩
/-- A put: what is told from then on, and all else as it was. -/
theorem put_spec {first : Phase} {till a at_ : Int} {p : Phase} {ss : List Shift} (h : Gd first till a ss) (ha : a ≤ at_) (hn : ss.length < 30000) :
    (putP first till (ss, false) at_ p).2 = false ∧ Gd first till at_ (putP first till (ss, false) at_ p).1 ∧ (putP first till (ss, false) at_ p).1.length ≤ ss.length + 1 ∧
    (∀ t, t < till → tellL first (putP first till (ss, false) at_ p).1 t = if at_ ≤ t then p else tellL first ss t) ∧
    (till ≤ at_ → putP first till (ss, false) at_ p = (ss, false)) := by
  have hc : Gd first till at_ (cutAt at_ ss) ∧ (cutAt at_ ss).length ≤ ss.length ∧ (∀ x ∈ cutAt at_ ss, x.sec < at_) ∧ (∀ t, t < at_ → tellL first (cutAt at_ ss) t = tellL first ss t) ∧ (till ≤ at_ → cutAt at_ ss = ss) := by
    rcases List.eq_nil_or_concat ss with rfl | ⟨l, s, rfl⟩
    · exact ⟨gd_nil _ _ _, Nat.le_refl _, fun _ h => by simp [cutAt] at h, fun _ _ => rfl, fun _ => rfl⟩
    · rw [List.concat_eq_append] at h hn ⊢
      obtain ⟨h1, h2⟩ := gd_init h
      have hs := h.upto s (by simp)
      have hst := h.till s (by simp)
      unfold cutAt
      rw [List.getLast?_concat]
      simp only [List.dropLast_concat]
      by_cases he : s.sec = at_
      · rw [if_pos he]
        refine ⟨h1.mono ha, by simp, fun x hx => by have := h2 x hx; omega, fun t ht => ?_, fun ht => by omega⟩
        rw [tell_snoc, if_neg (by omega)]
      · rw [if_neg he]
        refine ⟨h.mono ha, Nat.le_refl _, fun x hx => ?_, fun t ht => rfl, fun _ => rfl⟩
        rcases List.mem_append.1 hx with hx | hx
        · have := h2 x hx; omega
        · have : x = s := by simpa using hx
          subst this
          omega
  obtain ⟨c1, c2, c3, c4, c5⟩ := hc
  have clast : ∀ t, at_ ≤ t → tellL first (cutAt at_ ss) t = lastPh first (cutAt at_ ss) := fun t ht => tell_late fun x hx => by have := c3 x hx; omega
  unfold putP
  by_cases h1 : till ≤ at_ ∨ p = lastPh first (cutAt at_ ss)
  · rw [if_pos h1]
    refine ⟨rfl, c1, Nat.le_trans c2 (Nat.le_succ _), fun t ht => ?_, fun ht => by rw [c5 ht]⟩
    by_cases hat : at_ ≤ t
    · rw [if_pos hat]
      rcases h1 with h1 | h1
      · omega
      · show tellL first (cutAt at_ ss) t = p
        rw [clast t hat, h1]
    · rw [if_neg hat]
      exact c4 t (by omega)
  · rw [if_neg h1, if_neg (by simp; omega)]
    have h2 : ¬ till ≤ at_ := fun h => h1 (.inl h)
    refine ⟨rfl, ⟨?_, fun x hx => ?_, fun x hx => ?_, diff_snoc.2 ⟨c1.diff, fun h => h1 (.inr h)⟩⟩, by rw [List.length_append]; simp; omega, fun t ht => ?_, fun ht => absurd ht h2⟩
    · rw [List.pairwise_append]
      exact ⟨c1.rise, List.pairwise_singleton _ _, fun x hx y hy => by have : y = ⟨at_, p⟩ := by simpa using hy
                                                                       subst this; exact c3 x hx⟩
    · rcases List.mem_append.1 hx with hx | hx
      · have := c3 x hx; omega
      · have : x = ⟨at_, p⟩ := by simpa using hx
        subst this; exact Int.le_refl _
    · rcases List.mem_append.1 hx with hx | hx
      · exact c1.till x hx
      · have : x = ⟨at_, p⟩ := by simpa using hx
        subst this; show at_ < till; omega
    · show tellL first (cutAt at_ ss ++ [⟨at_, p⟩]) t = _
      rw [tell_snoc]
      by_cases hat : at_ ≤ t
      · rw [if_pos hat, if_pos hat]
      · rw [if_neg hat, if_neg hat]
        exact c4 t (by omega)
end Go.Proofs.YtdicedpklpadgaaGreatDoor.Cmq
end
section
namespace Go.Proofs.YtdicedpklpadgaaGreatDoor.Trn
open Go.RowKit Mem Civ Mom Img Rul Ahd

def Far (a b : Turn) : Prop := 172800 ≤ a.at_ - b.at_ ∨ 172800 ≤ b.at_ - a.at_
theorem Far.symm {a b : Turn} (h : Far a b) : Far b a := Or.symm h
theorem far_of {a b : Turn} (h : nearT a b = false) : Far a b := by
  unfold nearT at h
  unfold Far
  rw [Bool.and_eq_false_iff, decide_eq_false_iff_not, decide_eq_false_iff_not] at h
  omega
theorem of_far {a b : Turn} (h : Far a b) : nearT a b = false := by
  unfold nearT
  unfold Far at h
  rw [Bool.and_eq_false_iff, decide_eq_false_iff_not, decide_eq_false_iff_not]
  omega
theorem upto_far {now had : List Turn} : ∀ {n : Nat}, nearUpto now had n = false → ∀ k x, k < n → now[k]? = some x → ∀ y ∈ now.take k ++ had, Far x y
  | 0, _, k, _, hk, _, _, _ => by omega
  | n + 1, h, k, x, hk, hx, y, hy => by
    unfold nearUpto at h
    rw [Bool.or_eq_false_iff] at h
    by_cases hkn : k = n
    · subst hkn
      rw [hx] at h
      have := List.any_eq_false.1 h.2 y hy
      exact far_of (by simpa using this)
    · exact upto_far h.1 k x (by omega) hx y hy
theorem nearer_far {now had : List Turn} (h : nearerB now had = false) : now.Pairwise Far ∧ ∀ a ∈ now, ∀ b ∈ had, Far a b := by
  unfold nearerB at h
  have hu := @upto_far now had now.length h
  refine ⟨List.pairwise_iff_getElem.2 fun i j hi hj hij => ?_, fun a ha b hb => ?_⟩
  · refine (hu j now[j] hj (List.getElem?_eq_getElem hj) now[i] (List.mem_append.2 (.inl ?_))).symm
    exact List.mem_take_iff_getElem.2 ⟨i, by omega, rfl⟩
  · obtain ⟨k, hk⟩ := List.getElem?_of_mem ha
    exact hu k a (List.getElem?_eq_some_iff.1 hk).1 hk b (List.mem_append.2 (.inr hb))
theorem nearer_of {now had : List Turn} (h1 : now.Pairwise Far) (h2 : ∀ a ∈ now, ∀ b ∈ had, Far a b) : nearerB now had = false := by
  unfold nearerB
  have : ∀ n, n ≤ now.length → nearUpto now had n = false := by
    intro n
    induction n with
    | zero => intro _; rfl
    | succ n ih =>
      intro hn
      unfold nearUpto
      rw [ih (by omega), Bool.false_or, List.getElem?_eq_getElem (by omega : n < now.length)]
      rw [List.any_eq_false]
      intro y hy
      rw [Bool.not_eq_true]
      refine of_far ?_
      rcases List.mem_append.1 hy with hy | hy
      · obtain ⟨i, hi, rfl⟩ := List.mem_take_iff_getElem.1 hy
        exact (List.pairwise_iff_getElem.1 h1 i n (by omega) (by omega) (by omega)).symm
      · exact h2 _ (List.getElem_mem _) y hy
  exact this _ (Nat.le_refl _)
/-- A year's turns, as the rules stand. -/
def rawT (rs : List Rule) (y : Int) : List Turn := rs.filterMap (turnL y)
theorem rawT_mem {rs : List Rule} {y : Int} {t : Turn} : t ∈ rawT rs y ↔ ∃ r ∈ rs, turnL y r = some t := by
  unfold rawT
  rw [List.mem_filterMap]
def FarY (rs : List Rule) (y : Int) : Prop := (rawT rs y).Pairwise Far ∧ ∀ a ∈ rawT rs y, ∀ b ∈ rawT rs (y - 1), Far a b
theorem turnsL_perm {rs : List Rule} (hr : rulesB rs = true) (y : Int) : (turnsL rs y).Perm (rawT rs y) := by
  unfold turnsL
  rw [if_pos hr]
  exact sortT_perm _
theorem farY_of {rs : List Rule} (hr : rulesB rs = true) {y : Int} (h : nearerB (turnsL rs y) (turnsL rs (y - 1)) = false) : FarY rs y := by
  have h2 := nearer_far h
  refine ⟨((turnsL_perm hr y).pairwise_iff (fun h => Far.symm h)).1 h2.1, fun a ha b hb => h2.2 a ((turnsL_perm hr y).mem_iff.2 ha) b ((turnsL_perm hr (y - 1)).mem_iff.2 hb)⟩
theorem years_far {rs : List Rule} : ∀ (n : Nat) (y : Int) (had : List Turn), nearYears rs n y had = false → ∀ i : Nat, i < n → nearerB (turnsL rs (y + i)) (if i = 0 then had else turnsL rs (y + i - 1)) = false
  | 0, _, _, _, i, hi => by omega
  | n + 1, y, had, h, i, hi => by
    unfold nearYears at h
    rw [Bool.or_eq_false_iff] at h
    cases i with
    | zero => simpa using h.1
    | succ i =>
      have := years_far n (y + 1) _ h.2 i (by omega)
      rw [if_neg (by omega), show y + ((i + 1 : Nat) : Int) = y + 1 + i from by omega]
      cases i with
      | zero => simpa using this
      | succ j =>
        rw [if_neg (by omega)] at this
        exact this
theorem firstY_le {rs : List Rule} {r : Rule} (h : r ∈ rs) : firstY rs ≤ r.lo := by
  have : ∀ (l : List Rule) (m : Int), (l.foldl (fun m r => min m r.lo) m ≤ m) ∧ ∀ r ∈ l, l.foldl (fun m r => min m r.lo) m ≤ r.lo := by
    intro l
    induction l with
    | nil => intro m; exact ⟨Int.le_refl _, fun r h => by simp at h⟩
    | cons a l ih =>
      intro m
      obtain ⟨h1, h2⟩ := ih (min m a.lo)
      rw [List.foldl_cons]
      refine ⟨by omega, fun r hr => ?_⟩
      rcases List.mem_cons.1 hr with rfl | hr
      · omega
      · exact h2 r hr
  exact (this rs 9999).2 r h
theorem lastY_le {rs : List Rule} {r : Rule} (h : r ∈ rs) : r.lo ≤ lastY rs ∧ (r.hi ≠ 1000000 → r.hi ≤ lastY rs) := by
  have : ∀ (l : List Rule) (m : Int), m ≤ l.foldl lastY1 m ∧ ∀ r ∈ l, r.lo ≤ l.foldl lastY1 m ∧ (r.hi ≠ 1000000 → r.hi ≤ l.foldl lastY1 m) := by
    intro l
    induction l with
    | nil => intro m; exact ⟨Int.le_refl _, fun r h => by simp at h⟩
    | cons a l ih =>
      intro m
      obtain ⟨h1, h2⟩ := ih (lastY1 m a)
      rw [List.foldl_cons]
      have ha : m ≤ lastY1 m a ∧ a.lo ≤ lastY1 m a ∧ (a.hi ≠ 1000000 → a.hi ≤ lastY1 m a) := by
        unfold lastY1
        split <;> omega
      refine ⟨by omega, fun r hr => ?_⟩
      rcases List.mem_cons.1 hr with rfl | hr
      · exact ⟨by omega, fun h => by have := ha.2.2 h; omega⟩
      · exact h2 r hr
  exact (this rs 1).2 r h
/-- The calendar comes again behind 400 years. -/
theorem count_again (y m d : Int) : countI (y - 400) m d = countI y m d - 146097 := by
  unfold countI
  by_cases h : m < 3
  · simp only [if_pos h]
    rw [show (y - 400 - 1) / 400 = (y - 1) / 400 - 1 from by omega, show (y - 400 - 1) % 400 = (y - 1) % 400 from by omega]
    omega
  · simp only [if_neg h]
    rw [show (y - 400) / 400 = y / 400 - 1 from by omega, show (y - 400) % 400 = y % 400 from by omega]
    omega
theorem leap_again (y : Int) : leapB (y - 400) = leapB y := by
  unfold leapB
  rw [show (y - 400) % 4 = y % 4 from by omega, show (y - 400) % 100 = y % 100 from by omega, show (y - 400) % 400 = y % 400 from by omega]
theorem mlen_again (y m : Int) : mlen (y - 400) m = mlen y m := by
  unfold mlen
  rw [leap_again]
theorem back_again (n w : Int) : backI (n - 146097) w = backI n w := by
  unfold backI
  omega
theorem spot_again (s : Spot) (f l : Int) : spotDay s (f - 146097) l = spotDay s f l - 146097 := by
  unfold spotDay
  rw [show f - 146097 + l - 1 = f + l - 1 - 146097 from by omega, show f - 146097 + s.day + 5 = f + s.day + 5 - 146097 from by omega, show f - 146097 + s.day - 1 = f + s.day - 1 - 146097 from by omega, back_again, back_again, back_again]
  split
  · omega
  · split
    · omega
    · split <;> omega
theorem local_form {s : Spot} {y n : Int} (h : localO s y = some n) : s.okP ∧ 1 ≤ y ∧ y ≤ 275760 ∧ n = spotDay s (countI y s.month 1) (mlen y s.month) * 86400 + s.time := by
  unfold localO at h
  cases ho : onO s y with
  | none => rw [ho] at h; cases h
  | some k =>
    rw [ho, Option.map_some, Option.some.injEq] at h
    have hok := (onO_bd ho).2.1
    unfold onO at ho
    split at ho
    · cases ho
    · next hc =>
      cases hd : daysO y s.month 1 with
      | none => rw [hd] at ho; cases ho
      | some f =>
        rw [hd, Option.bind_some] at ho
        unfold daysO at hd
        split at hd
        · cases hd
        · split at hd
          · cases hd
          · have hf := Option.some.inj hd
            split at ho
            · cases ho
            · injection ho with ho
              subst hf ho
              exact ⟨hok, by omega, by omega, h.symm⟩
theorem local_again {s : Spot} {y n : Int} (h : localO s y = some n) (h1 : 1 ≤ y - 400) : localO s (y - 400) = some (n - 12622780800) := by
  obtain ⟨hok, h2, h3, rfl⟩ := local_form h
  obtain ⟨k, hk⟩ := local_there (spotB_true hok) h1 (by omega)
  obtain ⟨_, _, _, rfl⟩ := local_form hk
  rw [hk, count_again, mlen_again, spot_again]
  congr 1
  omega
def backT (t : Turn) : Turn := ⟨t.at_ - 12622780800, t.ref, t.save, t.letter⟩
theorem turn_again {rs : List Rule} {r : Rule} (hm : r ∈ rs) {y : Int} {t : Turn} (h : turnL y r = some t) (hl : 1 ≤ lastY rs) (h1 : lastY rs + 1 ≤ y - 400) : turnL (y - 400) r = some (backT t) := by
  have hb := lastY_le hm
  have hin : r.lo ≤ y ∧ y ≤ r.hi := by
    by_cases hc : y < r.lo ∨ r.hi < y
    · rw [R11.turnL_out hc] at h; cases h
    · omega
  have hhi : r.hi = 1000000 := by
    by_cases hc : r.hi = 1000000
    · exact hc
    · have := hb.2 hc; omega
  rw [R11.turnL_in hin.1 hin.2] at h
  obtain ⟨n, hn, ht⟩ := Option.map_eq_some_iff.1 h
  rw [R11.turnL_in (by omega) (by omega), local_again hn (by omega), Option.map_some, ← ht]
  rfl
theorem far_back {a b : Turn} : Far (backT a) (backT b) ↔ Far a b := by
  unfold Far backT
  simp only
  omega
theorem raw_again {rs : List Rule} {y : Int} (hl : 1 ≤ lastY rs) (h1 : lastY rs + 1 ≤ y - 400) : ((rawT rs y).map backT).Sublist (rawT rs (y - 400)) := by
  have : ∀ l : List Rule, (∀ r ∈ l, r ∈ rs) → ((l.filterMap (turnL y)).map backT).Sublist (l.filterMap (turnL (y - 400))) := by
    intro l
    induction l with
    | nil => intro _; exact List.Sublist.refl _
    | cons a l ih =>
      intro hl2
      have ih2 := ih (fun r hr => hl2 r (List.mem_cons_of_mem _ hr))
      rw [List.filterMap_cons, List.filterMap_cons]
      cases ht : turnL y a with
      | none =>
        cases turnL (y - 400) a with
        | none => exact ih2
        | some u => exact ih2.cons _
      | some t =>
        rw [turn_again (hl2 a List.mem_cons_self) ht hl h1]
        exact ih2.cons_cons _
  exact this rs fun r h => h
/-- In all years. -/
theorem far_all {rs : List Rule} (hr : rulesB rs = true) (hn : nearB rs = false) (hc : crowdB rs = false) (y : Int) : FarY rs y := by
  cases hrs : rs with
  | nil => exact ⟨List.Pairwise.nil, fun a ha => by simp [rawT] at ha⟩
  | cons a0 l0 =>
    rw [← hrs]
    have hne : rs ≠ [] := by rw [hrs]; simp
    have hy := years_bd rs hr rs.length
    rw [List.take_length] at hy
    have hfl := first_last hne
    have hlow : ∀ y, y < firstY rs → rawT rs y = [] := by
      intro y hy
      unfold rawT
      rw [List.filterMap_eq_nil_iff]
      intro r hr
      exact turnL_low (by have := firstY_le hr; omega)
    have hnear : nearYears rs (lastY rs + 401 - firstY rs + 1).toNat (firstY rs) [] = false := by
      unfold nearB at hn
      rw [hr, hc] at hn
      have he : rs.isEmpty = false := by rw [hrs]; rfl
      rw [he] at hn
      simpa using hn
    have hbase : ∀ y, firstY rs ≤ y → y ≤ lastY rs + 401 → FarY rs y := by
      intro y h1 h2
      have h3 := years_far _ _ _ hnear (y - firstY rs).toNat (by omega)
      rw [show firstY rs + ((y - firstY rs).toNat : Int) = y from by omega] at h3
      by_cases h0 : (y - firstY rs).toNat = 0
      · rw [if_pos h0] at h3
        have h4 := nearer_far h3
        refine ⟨((turnsL_perm hr y).pairwise_iff (fun h => Far.symm h)).1 h4.1, fun a ha b hb => ?_⟩
        rw [hlow (y - 1) (by omega)] at hb
        simp at hb
      · rw [if_neg h0] at h3
        exact farY_of hr h3
    have hall : ∀ (n : Nat) (y : Int), y ≤ lastY rs + 401 + n → FarY rs y := by
      intro n
      induction n with
      | zero =>
        intro y h1
        by_cases h2 : firstY rs ≤ y
        · exact hbase y h2 (by omega)
        · unfold FarY
          rw [hlow y (by omega)]
          exact ⟨List.Pairwise.nil, fun a ha => by simp at ha⟩
      | succ n ih =>
        intro y h1
        by_cases h2 : y ≤ lastY rs + 401 + n
        · exact ih y h2
        · have h3 := ih (y - 400) (by omega)
          have s1 := raw_again (rs := rs) (y := y) hy.2.1 (by omega)
          have s2 := raw_again (rs := rs) (y := y - 1) hy.2.1 (by omega)
          rw [show y - 1 - 400 = y - 400 - 1 from by omega] at s2
          refine ⟨?_, fun a ha b hb => ?_⟩
          · have h4 := h3.1.sublist s1
            rw [List.pairwise_map] at h4
            exact h4.imp fun h => far_back.1 h
          · exact far_back.1 (h3.2 _ (s1.subset (List.mem_map_of_mem ha)) _ (s2.subset (List.mem_map_of_mem hb)))
    exact hall (y - lastY rs).toNat y (by omega)
/-- A turn of the set, of whatever year. -/
def Gt (rs : List Rule) (t : Turn) : Prop := ∃ r ∈ rs, ∃ z, turnL z r = some t
theorem spaced {rs : List Rule} (hf : ∀ y, FarY rs y) {a b : Turn} (ha : Gt rs a) (hb : Gt rs b) : a = b ∨ Far a b := by
  obtain ⟨r, hr, z, hz⟩ := ha
  obtain ⟨q, hq, v, hv⟩ := hb
  have na := local_near (turnL_at hz).1
  have nb := local_near (turnL_at hv).1
  have key : ∀ {p q : Turn} {z : Int}, p ∈ rawT rs z → q ∈ rawT rs z → p = q ∨ Far p q := by
    intro p q z hp hq
    obtain ⟨i, hi⟩ := List.getElem?_of_mem hp
    obtain ⟨j, hj⟩ := List.getElem?_of_mem hq
    obtain ⟨hi1, rfl⟩ := List.getElem?_eq_some_iff.1 hi
    obtain ⟨hj1, rfl⟩ := List.getElem?_eq_some_iff.1 hj
    have hp := List.pairwise_iff_getElem.1 (hf z).1
    rcases Nat.lt_trichotomy i j with h | h | h
    · exact .inr (hp i j hi1 hj1 h)
    · subst h; exact .inl rfl
    · exact .inr (hp j i hj1 hi1 h).symm
  by_cases h1 : z = v
  · subst h1
    exact key (rawT_mem.2 ⟨r, hr, hz⟩) (rawT_mem.2 ⟨q, hq, hv⟩)
  · by_cases h2 : v = z - 1
    · subst h2
      exact .inr ((hf z).2 a (rawT_mem.2 ⟨r, hr, hz⟩) b (rawT_mem.2 ⟨q, hq, hv⟩))
    · by_cases h3 : z = v - 1
      · subst h3
        exact .inr ((hf v).2 b (rawT_mem.2 ⟨q, hq, hv⟩) a (rawT_mem.2 ⟨r, hr, hz⟩)).symm
      · right
        unfold Far
        rcases Int.lt_or_le z v with h4 | h4
        · have := jan_mono (a := z + 2) (b := v) (by omega)
          have := jan_next z
          have := jan_next (z + 1)
          rw [show z + 1 + 1 = z + 2 from by omega] at this
          omega
        · have := jan_mono (a := v + 2) (b := z) (by omega)
          have := jan_next v
          have := jan_next (v + 1)
          rw [show v + 1 + 1 = v + 2 from by omega] at this
          omega
end Go.Proofs.YtdicedpklpadgaaGreatDoor.Trn
end
section
namespace Go.Proofs.YtdicedpklpadgaaGreatDoor.Trn
open Go.RowKit Mem Civ Mom Img Rul Ahd

theorem year_form (a : Int) : janI (a + 1) = a / 400 * 146097 + a % 400 * 365 + a % 400 / 4 - a % 400 / 100 + 306 - 719468 := by
  have := jan_form (a + 1)
  rw [show a + 1 - 1 = a from by omega] at this
  exact this
theorem count_form (y m : Int) : countI y m 1 = janI ((if m < 3 then y - 1 else y) + 1) + (153 * (if m < 3 then m + 9 else m - 3) + 2) / 5 - 306 := by
  rw [year_form]
  unfold countI
  simp only
  omega
theorem count_next (y m : Int) : countI y m 1 + 365 ≤ countI (y + 1) m 1 ∧ countI (y + 1) m 1 ≤ countI y m 1 + 366 := by
  rw [count_form, count_form]
  by_cases h : m < 3
  · simp only [if_pos h]
    have := jan_next y
    rw [show y - 1 + 1 = y from by omega, show y + 1 - 1 + 1 = y + 1 from by omega]
    omega
  · simp only [if_neg h]
    have := jan_next (y + 1)
    omega
/-- One rule's turns of two years on end. -/
theorem rule_gap {s : Spot} {y a b : Int} (ha : localO s y = some a) (hb : localO s (y + 1) = some b) : a + 350 * 86400 ≤ b ∧ b ≤ a + 374 * 86400 := by
  obtain ⟨hok, _, _, rfl⟩ := local_form ha
  obtain ⟨_, _, _, rfl⟩ := local_form hb
  have hm := hok.1
  have hm2 := hok.2.1
  have hf := count_next y s.month
  have hl : 28 ≤ mlen y s.month ∧ mlen y s.month ≤ 31 ∧ 28 ≤ mlen (y + 1) s.month ∧ mlen (y + 1) s.month ≤ 31 ∧ mlen y s.month ≤ mlen (y + 1) s.month + 1 ∧ mlen (y + 1) s.month ≤ mlen y s.month + 1 := by
    have hc : ¬ (s.month < 1 ∨ 12 < s.month) := by omega
    unfold mlen
    simp only [if_neg hc]
    by_cases h2 : s.month = 2
    · simp only [if_pos h2]
      cases leapB y <;> cases leapB (y + 1) <;> simp
    · simp only [if_neg h2]
      split <;> omega
  generalize countI y s.month 1 = f at *
  generalize countI (y + 1) s.month 1 = f' at *
  generalize mlen y s.month = l at *
  generalize mlen (y + 1) s.month = l' at *
  have b1 := backI_bd (f + l - 1) s.weekday
  have b2 := backI_bd (f + s.day + 5) s.weekday
  have b3 := backI_bd (f + s.day - 1) s.weekday
  have c1 := backI_bd (f' + l' - 1) s.weekday
  have c2 := backI_bd (f' + s.day + 5) s.weekday
  have c3 := backI_bd (f' + s.day - 1) s.weekday
  unfold spotDay
  split
  · omega
  · split
    · omega
    · split <;> omega
theorem rule_less {r : Rule} {z z' : Int} {a b : Turn} (ha : turnL z r = some a) (hb : turnL z' r = some b) (h : z < z') : a.at_ < b.at_ := by
  have na := local_near (turnL_at ha).1
  have nb := local_near (turnL_at hb).1
  by_cases h1 : z' = z + 1
  · subst h1
    have := rule_gap (turnL_at ha).1 (turnL_at hb).1
    omega
  · have := jan_mono (a := z + 2) (b := z') (by omega)
    have := jan_next z
    have := jan_next (z + 1)
    rw [show z + 1 + 1 = z + 2 from by omega] at this
    omega
/-- The latest turn that is so. -/
def IsLatest (rs : List Rule) (so : Turn → Bool) (t : Turn) : Prop := Gt rs t ∧ so t = true ∧ ∀ u, Gt rs u → so u = true → u.at_ ≤ t.at_
theorem descF_none {α : Type} {g : Int → Option α} {top : Int} : ∀ {n : Nat}, descF g top n = none → ∀ i : Nat, i < n → g (top - (i : Nat)) = none
  | 0, _, i, hi => by omega
  | n + 1, h, i, hi => by
    unfold descF at h
    cases hd : descF g top n with
    | some v => rw [hd] at h; simp at h
    | none =>
      rw [hd] at h
      by_cases hn : i = n
      · subst hn; simpa using h
      · exact descF_none hd i (by omega)
theorem descF_first {α : Type} {g : Int → Option α} {top : Int} {v : α} : ∀ {n : Nat}, descF g top n = some v → ∃ i : Nat, i < n ∧ g (top - (i : Nat)) = some v ∧ ∀ j : Nat, j < i → g (top - (j : Nat)) = none
  | 0, h => by cases h
  | n + 1, h => by
    unfold descF at h
    cases hd : descF g top n with
    | some u =>
      rw [hd] at h
      have hv : u = v := by simpa using h
      subst hv
      obtain ⟨i, h1, h2, h3⟩ := descF_first hd
      exact ⟨i, by omega, h2, h3⟩
    | none =>
      rw [hd] at h
      exact ⟨n, by omega, by simpa using h, fun j hj => descF_none hd j hj⟩
theorem docF_none {so : Turn → Bool} {r : Rule} {Y : Int} (hm : ∀ z t, turnL z r = some t → Y + 2 ≤ z → so t = false) (h : docF so r Y = none) : ∀ z t, turnL z r = some t → so t = false := by
  intro z t ht
  by_cases hz : Y + 2 ≤ z
  · exact hm z t ht hz
  · have hin : r.lo ≤ z ∧ z ≤ r.hi := by
      by_cases hc : z < r.lo ∨ r.hi < z
      · rw [R11.turnL_out hc] at ht; cases ht
      · omega
    have hl : docLast r Y = r.hi ∨ docLast r Y = Y + 2 := by unfold docLast; split <;> simp
    have hge : z ≤ docLast r Y := by unfold docLast; split <;> omega
    have := descF_none (show descF (soL so r) (docLast r Y) (docLast r Y + 1 - r.lo).toNat = none from h) (docLast r Y - z).toNat (by omega)
    rw [show docLast r Y - ((docLast r Y - z).toNat : Int) = z from by omega] at this
    unfold soL at this
    rw [ht] at this
    by_cases hs : so t = true
    · simp [Option.filter, hs] at this
    · simpa using hs
theorem docF_some {so : Turn → Bool} {r : Rule} {Y : Int} {t : Turn} (hm : ∀ z t, turnL z r = some t → Y + 2 ≤ z → so t = false) (h : docF so r Y = some t) : (∃ z, turnL z r = some t) ∧ so t = true ∧ ∀ z u, turnL z r = some u → so u = true → u.at_ ≤ t.at_ := by
  obtain ⟨i, hi, h1, h2⟩ := descF_first (show descF (soL so r) (docLast r Y) (docLast r Y + 1 - r.lo).toNat = some t from h)
  unfold soL at h1
  cases ht : turnL (docLast r Y - (i : Nat)) r with
  | none => rw [ht] at h1; cases h1
  | some v =>
    rw [ht] at h1
    by_cases hs : so v = true
    · have hv : v = t := by simpa [Option.filter, hs] using h1
      subst hv
      refine ⟨⟨_, ht⟩, hs, fun z u hu hsu => ?_⟩
      rcases Int.lt_trichotomy z (docLast r Y - (i : Nat)) with h3 | h3 | h3
      · exact Int.le_of_lt (rule_less hu ht h3)
      · rw [h3, ht] at hu
        injection hu with hu
        rw [hu]; exact Int.le_refl _
      · exfalso
        by_cases hz : Y + 2 ≤ z
        · rw [hm z u hu hz] at hsu; cases hsu
        · have hin : r.lo ≤ z ∧ z ≤ r.hi := by
            by_cases hc : z < r.lo ∨ r.hi < z
            · rw [R11.turnL_out hc] at hu; cases hu
            · omega
          have hge : z ≤ docLast r Y := by unfold docLast; split <;> omega
          have := h2 (docLast r Y - z).toNat (by omega)
          rw [show docLast r Y - ((docLast r Y - z).toNat : Int) = z from by omega] at this
          unfold soL at this
          rw [hu] at this
          simp [Option.filter, hsu] at this
    · simp [Option.filter, hs] at h1
theorem docL_spec {so : Turn → Bool} {rs : List Rule} {Y : Int} (hm : ∀ r ∈ rs, ∀ z t, turnL z r = some t → Y + 2 ≤ z → so t = false) :
    (∀ t, docL so Y rs = some t → IsLatest rs so t) ∧ (docL so Y rs = none → ∀ u, Gt rs u → so u = false) := by
  have key : ∀ (l : List Rule) (b : Option Turn), (∀ r ∈ l, ∀ z t, turnL z r = some t → Y + 2 ≤ z → so t = false) → (∀ t, b = some t → so t = true) →
      (∀ t, l.foldl (fun b x => joinT b (docF so x Y)) b = some t → ((b = some t ∨ Gt l t) ∧ so t = true ∧ (∀ u, b = some u → u.at_ ≤ t.at_) ∧ ∀ u, Gt l u → so u = true → u.at_ ≤ t.at_)) ∧
      (l.foldl (fun b x => joinT b (docF so x Y)) b = none → b = none ∧ ∀ u, Gt l u → so u = false) := by
    intro l
    induction l with
    | nil =>
      intro b _ hb
      refine ⟨fun t ht => ⟨.inl ht, hb t ht, fun u hu => ?_, fun u ⟨r, hr, _⟩ => by simp at hr⟩, fun h => ⟨h, fun u ⟨r, hr, _⟩ => by simp at hr⟩⟩
      simp only [List.foldl_nil] at ht
      rw [ht] at hu
      injection hu with hu
      rw [hu]; exact Int.le_refl _
    | cons a l ih =>
      intro b hl hb
      rw [List.foldl_cons]
      have ha := hl a List.mem_cons_self
      have hl2 : ∀ r ∈ l, ∀ z t, turnL z r = some t → Y + 2 ≤ z → so t = false := fun r hr => hl r (List.mem_cons_of_mem _ hr)
      cases hd : docF so a Y with
      | none =>
        have hno := docF_none ha hd
        have hj : joinT b none = b := by cases b <;> rfl
        rw [hj]
        obtain ⟨h1, h2⟩ := ih b hl2 hb
        refine ⟨fun t ht => ?_, fun h => ?_⟩
        · obtain ⟨p1, p2, p3, p4⟩ := h1 t ht
          refine ⟨p1.imp id fun ⟨r, hr, hz⟩ => ⟨r, List.mem_cons_of_mem _ hr, hz⟩, p2, p3, fun u ⟨r, hr, z, hz⟩ hu => ?_⟩
          rcases List.mem_cons.1 hr with rfl | hr
          · rw [hno z u hz] at hu; cases hu
          · exact p4 u ⟨r, hr, z, hz⟩ hu
        · obtain ⟨p1, p2⟩ := h2 h
          refine ⟨p1, fun u ⟨r, hr, z, hz⟩ => ?_⟩
          rcases List.mem_cons.1 hr with rfl | hr
          · exact hno z u hz
          · exact p2 u ⟨r, hr, z, hz⟩
      | some v =>
        obtain ⟨hv1, hv2, hv3⟩ := docF_some ha hd
        have hj : ∃ w, joinT b (some v) = some w ∧ (w = v ∨ b = some w) ∧ v.at_ ≤ w.at_ ∧ ∀ u, b = some u → u.at_ ≤ w.at_ := by
          cases b with
          | none => exact ⟨v, rfl, .inl rfl, Int.le_refl _, fun u hu => by cases hu⟩
          | some p =>
            by_cases hle : p.at_ ≤ v.at_
            · exact ⟨v, join_le hle, .inl rfl, Int.le_refl _, fun u hu => by injection hu with hu; subst hu; exact hle⟩
            · exact ⟨p, join_gt hle, .inr rfl, by omega, fun u hu => by injection hu with hu; subst hu; exact Int.le_refl _⟩
        obtain ⟨w, hw, hw1, hw2, hw3⟩ := hj
        rw [hw]
        have hws : so w = true := by
          rcases hw1 with h | h
          · rw [h]; exact hv2
          · exact hb w h
        obtain ⟨h1, h2⟩ := ih (some w) hl2 (fun t ht => by injection ht with ht; rw [← ht]; exact hws)
        refine ⟨fun t ht => ?_, fun h => ?_⟩
        · obtain ⟨p1, p2, p3, p4⟩ := h1 t ht
          have p5 := p3 w rfl
          refine ⟨?_, p2, fun u hu => Int.le_trans (hw3 u hu) p5, fun u ⟨r, hr, z, hz⟩ hu => ?_⟩
          · rcases p1 with h | ⟨r, hr, hz⟩
            · injection h with h
              subst h
              rcases hw1 with h | h
              · right
                obtain ⟨z, hz⟩ := hv1
                exact ⟨a, List.mem_cons_self, z, by rw [h]; exact hz⟩
              · exact .inl h
            · exact .inr ⟨r, List.mem_cons_of_mem _ hr, hz⟩
          · rcases List.mem_cons.1 hr with rfl | hr
            · exact Int.le_trans (hv3 z u hz hu) (Int.le_trans hw2 p5)
            · exact p4 u ⟨r, hr, z, hz⟩ hu
        · have := (h2 h).1
          cases this
  obtain ⟨h1, h2⟩ := key rs none hm (fun t ht => by cases ht)
  refine ⟨fun t ht => ?_, fun h => (h2 h).2⟩
  obtain ⟨p1, p2, _, p4⟩ := h1 t ht
  exact ⟨p1.elim (fun h => by cases h) id, p2, p4⟩
theorem ahead_spec {rs : List Rule} (hr : rulesB rs = true) (a : Int) :
    (∀ t, aheadO rs a = some t → IsLatest rs (fun t => decide (t.at_ < a)) t) ∧ (aheadO rs a = none → ∀ u, Gt rs u → ¬ u.at_ < a) := by
  have hu : aheadO rs a = latestL (fun t => decide (t.at_ < a)) (yearI a) rs := by unfold aheadO; rw [if_pos hr]
  rcases ahead_mid (rs := rs) (at_ := a) with hm | ⟨_, hno⟩
  · rw [hu, latest_same hr (yearI_le a) hm]
    obtain ⟨h1, h2⟩ := docL_spec (so := fun t => decide (t.at_ < a)) (rs := rs) (Y := yearI a) (fun r hr z t ht hz => (hm r hr z t ht).2 hz)
    exact ⟨h1, fun h u hgu => by have := h2 h u hgu; simpa using this⟩
  · have hno2 : ∀ r ∈ rs, ∀ z t, turnL z r = some t → decide (t.at_ < a) = false := fun r hrm z t ht => hno r hrm (List.all_eq_true.1 hr r hrm) z t ht
    rw [hu, latest_no hno2]
    exact ⟨fun t ht => (by cases ht), fun _ u ⟨r, hrm, z, hz⟩ => (by have := hno2 r hrm z u hz; simpa using this)⟩
theorem force_spec {rs : List Rule} {off t : Int} (hr : rulesB rs = true) (h1 : -86400 < off) (h2 : off < 86400) :
    (∀ x, latestL (fun x => decide (uniT rs off x ≤ t)) (yearI t) rs = some x → IsLatest rs (fun x => decide (uniT rs off x ≤ t)) x) ∧ (latestL (fun x => decide (uniT rs off x ≤ t)) (yearI t) rs = none → ∀ u, Gt rs u → ¬ uniT rs off u ≤ t) := by
  rcases force_mid (rs := rs) (off := off) (at_ := t) hr h1 h2 with hm | ⟨_, hno⟩
  · rw [latest_same hr (yearI_le t) hm]
    obtain ⟨h3, h4⟩ := docL_spec (so := fun x => decide (uniT rs off x ≤ t)) (rs := rs) (Y := yearI t) (fun r hr z t ht hz => (hm r hr z t ht).2 hz)
    exact ⟨h3, fun h u hgu => by have := h4 h u hgu; simpa using this⟩
  · have hno2 : ∀ r ∈ rs, ∀ z x, turnL z r = some x → decide (uniT rs off x ≤ t) = false := fun r hrm z x hx => hno r hrm z x hx
    rw [latest_no hno2]
    exact ⟨fun x hx => (by cases hx), fun _ u ⟨r, hrm, z, hz⟩ => (by have := hno2 r hrm z u hz; simpa using this)⟩
/-- A turn's universal time, without the machine's width. -/
theorem uni_is {rs : List Rule} {off : Int} (hr : rulesB rs = true) (h1 : -86400 < off) (h2 : off < 86400) {t : Turn} (hg : Gt rs t) : uniT rs off t = uniS off ((aheadO rs t.at_).getD noTurn).save t ∧ (t.ref = 0 ∨ t.ref = 1 ∨ t.ref = 2) := by
  obtain ⟨r, hrm, z, hz⟩ := hg
  have hb := turn_bd hz
  have hs := ahead_save hr t.at_
  have hrf := (turnL_at hz).2.2.2
  have hrs := rule_save hr hrm
  refine ⟨?_, by omega⟩
  unfold uniT uniS
  have w1 : wrap64 (t.at_ - off) = t.at_ - off := by unfold wrap64; omega
  rw [w1]
  split
  · next h0 =>
    rw [if_neg (by omega)]
    unfold wrap64; omega
  · rfl
theorem uni_bd {rs : List Rule} {off : Int} (hr : rulesB rs = true) (h1 : -86400 < off) (h2 : off < 86400) {t : Turn} (hg : Gt rs t) : ∃ a, uniT rs off t = t.at_ - a ∧ (a = 0 ∨ (off - 43200 ≤ a ∧ a ≤ off + 43200)) := by
  obtain ⟨e, hrf⟩ := uni_is hr h1 h2 hg
  have hs := ahead_save hr t.at_
  rw [e]
  unfold uniS
  rcases hrf with h | h | h
  · rw [if_pos h, if_neg (by omega)]
    exact ⟨off + ((aheadO rs t.at_).getD noTurn).save, by omega, .inr ⟨by omega, by omega⟩⟩
  · rw [if_neg (by omega), if_neg (by omega)]
    exact ⟨off, by omega, .inr ⟨by omega, by omega⟩⟩
  · rw [if_neg (by omega), if_pos h]
    exact ⟨0, by omega, .inl rfl⟩
/-- Universal times stand as local ones. -/
theorem uni_less {rs : List Rule} {off : Int} (hr : rulesB rs = true) (hf : ∀ y, FarY rs y) (h1 : -86400 < off) (h2 : off < 86400) {t u : Turn} (ht : Gt rs t) (hu : Gt rs u) (h : t.at_ < u.at_) : uniT rs off t < uniT rs off u := by
  obtain ⟨a, ha, ha2⟩ := uni_bd hr h1 h2 ht
  obtain ⟨b, hb, hb2⟩ := uni_bd hr h1 h2 hu
  rcases spaced hf ht hu with rfl | hs
  · omega
  · unfold Far at hs
    omega
end Go.Proofs.YtdicedpklpadgaaGreatDoor.Trn
end
section
namespace Go.Proofs.YtdicedpklpadgaaGreatDoor.Trn
open Go.RowKit Mem Civ Mom Img Rul Ahd

def takeL (b : Int) : List Turn → List Turn
  | [] => []
  | t :: ts => if t.at_ < b then t :: takeL b ts else []
def annot (off : Int) : List Turn → Int → List TurnU
  | [], _ => []
  | t :: ts, sv => ⟨uniS off sv t, t.save, t.letter⟩ :: annot off ts t.save
def endS : List Turn → Int → Int
  | [], sv => sv
  | t :: ts, _ => endS ts t.save
theorem give_is (off b : Int) : ∀ (l : List Turn) (sv : Int), giveL off b l sv = annot off (takeL b l) sv ∧ saveL b l sv = endS (takeL b l) sv
  | [], sv => ⟨rfl, rfl⟩
  | t :: ts, sv => by
    unfold giveL saveL takeL
    split
    · obtain ⟨h1, h2⟩ := give_is off b ts t.save
      exact ⟨by rw [h1]; rfl, by rw [h2]; rfl⟩
    · exact ⟨rfl, rfl⟩
theorem annot_append (off : Int) : ∀ (l m : List Turn) (sv : Int), annot off (l ++ m) sv = annot off l sv ++ annot off m (endS l sv)
  | [], m, sv => rfl
  | t :: ts, m, sv => by
    show ⟨uniS off sv t, t.save, t.letter⟩ :: annot off (ts ++ m) t.save = ⟨uniS off sv t, t.save, t.letter⟩ :: (annot off ts t.save ++ annot off m (endS ts t.save))
    rw [annot_append off ts m t.save]
def rawGo (rs : List Rule) : Nat → Int → List Turn → List Turn
  | 0, _, _ => []
  | n + 1, y, wait => takeL (borderI y) (waitL rs y wait) ++ rawGo rs n (y + 1) (leftL (borderI y) (waitL rs y wait))
theorem go_is (rs : List Rule) (off : Int) : ∀ (n : Nat) (y : Int) (wait : List Turn) (sv : Int), turnsGo rs off n y wait sv = annot off (rawGo rs n y wait) sv
  | 0, _, _, _ => rfl
  | n + 1, y, wait, sv => by
    obtain ⟨h1, h2⟩ := give_is off (borderI y) (waitL rs y wait) sv
    unfold turnsGo rawGo
    rw [h1, h2, go_is rs off n, annot_append]
theorem take_left (b : Int) : ∀ l, takeL b l ++ leftL b l = l
  | [] => rfl
  | t :: ts => by
    unfold takeL leftL
    split
    · rw [List.cons_append, take_left b ts]
    · rfl
theorem takeL_early {b : Int} : ∀ {l : List Turn}, ∀ t ∈ takeL b l, t.at_ < b
  | [], t, h => by simp [takeL] at h
  | a :: l, t, h => by
    unfold takeL at h
    split at h
    · next hb =>
      rcases List.mem_cons.1 h with rfl | h
      · exact hb
      · exact takeL_early t h
    · simp at h
def Gap (l : List Turn) : Prop := l.Pairwise fun a b => a.at_ + 172800 ≤ b.at_
/-- Those that wait stand two days apart, and apart from those of the year. -/
theorem waitL_gap {rs : List Rule} (hr : rulesB rs = true) (hf : ∀ y, FarY rs y) {y : Int} {wait : List Turn} (hw : WaitOk rs y wait) (hg : Gap wait) : Gap (waitL rs y wait) := by
  have hp : (wait ++ turnsL rs y).Pairwise Far := by
    rw [List.pairwise_append]
    refine ⟨hg.imp fun h => .inr (by omega), ((turnsL_perm hr y).pairwise_iff (fun h => Far.symm h)).2 (hf y).1, fun a ha b hb => ?_⟩
    obtain ⟨r, hr1, hr2⟩ := hw.1 a ha
    exact ((hf y).2 b ((turnsL_perm hr y).mem_iff.1 hb) a (rawT_mem.2 ⟨r, hr1, hr2⟩)).symm
  have h2 : (waitL rs y wait).Pairwise Far := ((sortT_perm _).pairwise_iff (fun h => Far.symm h)).2 hp
  have h3 := sortT_rise (wait ++ turnsL rs y)
  exact (h2.and h3).imp fun ⟨h4, h5⟩ => by
    unfold Far at h4
    omega
/-- What the list holds. -/
theorem rawGo_spec {rs : List Rule} (hr : rulesB rs = true) (hc : crowdB rs = false) (hf : ∀ y, FarY rs y) : ∀ (n : Nat) (y : Int) (wait : List Turn), WaitOk rs y wait → Gap wait → 1 ≤ y → y + n ≤ 20000 →
    Gap (rawGo rs n y wait) ∧ (∀ t, t ∈ rawGo rs n y wait ↔ ((t ∈ wait ∨ ∃ z, y ≤ z ∧ ∃ r ∈ rs, turnL z r = some t) ∧ 0 < n ∧ t.at_ < borderI (y + n - 1)))
  | 0, y, wait, _, _, _, _ => ⟨List.Pairwise.nil, fun t => by simp [rawGo]⟩
  | n + 1, y, wait, hw, hg, h1, h2 => by
    have hg2 := waitL_gap hr hf hw hg
    have hwn := wait_next hw hc h1 (by omega)
    have hgl : Gap (leftL (borderI y) (waitL rs y wait)) := hg2.sublist (leftL_suffix _ _).sublist
    have hgt : Gap (takeL (borderI y) (waitL rs y wait)) := by
      have := take_left (borderI y) (waitL rs y wait)
      rw [← this] at hg2
      exact (List.pairwise_append.1 hg2).1
    obtain ⟨ih1, ih2⟩ := rawGo_spec hr hc hf n (y + 1) _ hwn hgl (by omega) (by omega)
    have hb := border_is h1 (by omega)
    have ho := october y
    have hmem : ∀ t, t ∈ waitL rs y wait ↔ (t ∈ wait ∨ ∃ r ∈ rs, turnL y r = some t) := by
      intro t
      unfold waitL
      rw [(sortT_perm _).mem_iff, List.mem_append, (turnsL_perm hr y).mem_iff, rawT_mem]
    -- a turn of a later year lies behind the border
    have hlate : ∀ t z, y + 1 ≤ z → (∃ r ∈ rs, turnL z r = some t) → borderI y + 172800 ≤ t.at_ := by
      rintro t z hz ⟨r, _, ht⟩
      have := (local_near (turnL_at ht).1).1
      have := jan_mono (a := y + 1) (b := z) hz
      omega
    have hearly : ∀ t, (t ∈ wait ∨ ∃ r ∈ rs, turnL y r = some t) → n ≠ 0 → t.at_ < borderI (y + n) := by
      intro t ht hn
      have hb2 := border_is (y := y + n) (by omega) (by omega)
      have ho2 := october (y + n)
      have hz : ∃ z, z ≤ y ∧ ∃ r, turnL z r = some t := by
        rcases ht with ht | ⟨r, _, ht⟩
        · obtain ⟨r, _, h3⟩ := hw.1 t ht
          exact ⟨_, by omega, r, h3⟩
        · exact ⟨y, by omega, r, ht⟩
      obtain ⟨z, hz, r, ht⟩ := hz
      have := (local_near (turnL_at ht).1).2
      have := jan_mono (a := z) (b := y) hz
      have := jan_mono (a := y + 1) (b := y + n) (by omega)
      have := jan_next (y + n)
      have := jan_next y
      omega
    unfold rawGo
    refine ⟨?_, fun t => ?_⟩
    · unfold Gap
      rw [List.pairwise_append]
      refine ⟨hgt, ih1, fun a ha b hb3 => ?_⟩
      have h3 := takeL_early a ha
      rcases (ih2 b).1 hb3 with ⟨h4 | ⟨z, hz, h4⟩, _, _⟩
      · have := take_left (borderI y) (waitL rs y wait)
        rw [← this] at hg2
        exact (List.pairwise_append.1 hg2).2.2 a ha b h4
      · have := hlate b z hz h4
        omega
    · rw [List.mem_append, ih2 t, show y + ((n + 1 : Nat) : Int) - 1 = y + n from by omega, show y + 1 + (n : Int) - 1 = y + n from by omega]
      have hsplit : t ∈ waitL rs y wait ↔ (t ∈ takeL (borderI y) (waitL rs y wait) ∨ t ∈ leftL (borderI y) (waitL rs y wait)) := by
        rw [← List.mem_append, take_left]
      constructor
      · rintro (h3 | ⟨h3, h4, h5⟩)
        · have h6 := takeL_early t h3
          have h7 := (hmem t).1 (hsplit.2 (.inl h3))
          refine ⟨?_, by omega, ?_⟩
          · rcases h7 with h7 | h7
            · exact .inl h7
            · exact .inr ⟨y, Int.le_refl _, h7⟩
          · by_cases hn : n = 0
            · subst hn
              simpa using h6
            · exact hearly t h7 hn
        · refine ⟨?_, by omega, h5⟩
          rcases h3 with h3 | ⟨z, hz, h3⟩
          · rcases (hmem t).1 (hsplit.2 (.inr h3)) with h7 | h7
            · exact .inl h7
            · exact .inr ⟨y, Int.le_refl _, h7⟩
          · exact .inr ⟨z, by omega, h3⟩
      · rintro ⟨h3, _, h5⟩
        by_cases hz : ∃ z, y + 1 ≤ z ∧ ∃ r ∈ rs, turnL z r = some t
        · obtain ⟨z, hz, h4⟩ := hz
          right
          refine ⟨.inr ⟨z, hz, h4⟩, ?_, h5⟩
          by_cases hn : n = 0
          · subst hn
            have := hlate t z hz h4
            simp at h5
            omega
          · omega
        · have h7 : t ∈ wait ∨ ∃ r ∈ rs, turnL y r = some t := by
            rcases h3 with h3 | ⟨z, hz2, h3⟩
            · exact .inl h3
            · by_cases hzy : z = y
              · subst hzy; exact .inr h3
              · exact absurd ⟨z, by omega, h3⟩ hz
          rcases hsplit.1 ((hmem t).2 h7) with h8 | h8
          · exact .inl h8
          · right
            refine ⟨.inl h8, ?_, h5⟩
            have h9 := leftL_late (b := borderI y) (sortT_rise (wait ++ turnsL rs y)) t h8
            by_cases hn : n = 0
            · subst hn
              simp at h5
              omega
            · omega
theorem annot_map {rs : List Rule} {off : Int} (hr : rulesB rs = true) (hf : ∀ y, FarY rs y) (h1 : -86400 < off) (h2 : off < 86400) {b : Int} : ∀ (m l : List Turn), Gap (l ++ m) → (∀ t, t ∈ l ++ m ↔ Gt rs t ∧ t.at_ < b) →
    annot off m (((l.getLast?).map (·.save)).getD 0) = m.map fun t => ⟨uniT rs off t, t.save, t.letter⟩
  | [], l, _, _ => rfl
  | t :: m, l, hg, hm => by
    have ih := annot_map hr hf h1 h2 (b := b) m (l ++ [t]) (by simpa using hg) (by simpa using hm)
    rw [List.getLast?_concat] at ih
    have ht : Gt rs t ∧ t.at_ < b := (hm t).1 (by simp)
    have hgp := List.pairwise_append.1 hg
    have hgm := List.pairwise_cons.1 hgp.2.1
    have hsv : ((aheadO rs t.at_).getD noTurn).save = ((l.getLast?).map (·.save)).getD 0 := by
      obtain ⟨s1, s2⟩ := ahead_spec hr t.at_
      rcases List.eq_nil_or_concat l with rfl | ⟨k, p, rfl⟩
      · cases ha : aheadO rs t.at_ with
        | none => rfl
        | some x =>
          exfalso
          obtain ⟨g1, g2, _⟩ := s1 x ha
          have g2 : x.at_ < t.at_ := by simpa using g2
          have hx : x ∈ [] ++ t :: m := (hm x).2 ⟨g1, by omega⟩
          simp only [List.nil_append, List.mem_cons] at hx
          rcases hx with rfl | hx
          · omega
          · have := hgm.1 x hx; omega
      · simp only [List.concat_eq_append] at hgp hm ⊢
        rw [List.getLast?_concat]
        have hpt := hgp.2.2 p (by simp) t (by simp)
        have hpG : Gt rs p := ((hm p).1 (by simp)).1
        cases ha : aheadO rs t.at_ with
        | none => exact absurd (by omega : p.at_ < t.at_) (s2 ha p hpG)
        | some x =>
          obtain ⟨g1, g2, g3⟩ := s1 x ha
          have g2 : x.at_ < t.at_ := by simpa using g2
          have g4 := g3 p hpG (by simp; omega)
          have hx : x ∈ (k ++ [p]) ++ t :: m := (hm x).2 ⟨g1, by omega⟩
          have hxp : x = p := by
            rcases List.mem_append.1 hx with hx | hx
            · rcases List.mem_append.1 hx with hx | hx
              · have := (List.pairwise_append.1 hgp.1).2.2 x hx p (by simp)
                omega
              · simpa using hx
            · rcases List.mem_cons.1 hx with rfl | hx
              · omega
              · have := hgm.1 x hx; omega
          subst hxp
          rfl
    unfold annot
    rw [← hsv, ← (uni_is hr h1 h2 ht.1).1, List.map_cons]
    congr 1
/-- All turns ahead of a time, in order. -/
theorem turns_list {rs : List Rule} {off last : Int} (hr : rulesB rs = true) (hc : crowdB rs = false) (hf : ∀ y, FarY rs y) (h1 : -86400 < off) (h2 : off < 86400) (hl : lastY rs ≤ last) (hl2 : last ≤ 15000) :
    ∃ l : List Turn, turnsP rs off last = l.map (fun t => ⟨uniT rs off t, t.save, t.letter⟩) ∧ Gap l ∧ ∀ t, t ∈ l ↔ Gt rs t ∧ t.at_ < borderI (last + 2) := by
  unfold turnsP
  by_cases h0 : rs.length = 0
  · rw [if_pos h0]
    have hrs : rs = [] := List.eq_nil_of_length_eq_zero h0
    subst hrs
    exact ⟨[], rfl, List.Pairwise.nil, fun t => ⟨fun h => by simp at h, fun ⟨⟨r, hr, _⟩, _⟩ => by simp at hr⟩⟩
  · rw [if_neg h0]
    have hy := years_bd rs hr rs.length
    rw [List.take_length] at hy
    have hfl := first_last (rs := rs) (by intro h; subst h; simp at h0)
    obtain ⟨g1, g2⟩ := rawGo_spec hr hc hf (last + 3 - firstY rs).toNat (firstY rs) [] (wait_nil _ _) List.Pairwise.nil hy.1.1 (by omega)
    rw [show firstY rs + ((last + 3 - firstY rs).toNat : Int) - 1 = last + 2 from by omega] at g2
    have g3 : ∀ t, t ∈ rawGo rs (last + 3 - firstY rs).toNat (firstY rs) [] ↔ Gt rs t ∧ t.at_ < borderI (last + 2) := by
      intro t
      rw [g2 t]
      constructor
      · rintro ⟨h3 | ⟨z, _, r, hr1, hr2⟩, _, h4⟩
        · simp at h3
        · exact ⟨⟨r, hr1, z, hr2⟩, h4⟩
      · rintro ⟨⟨r, hr1, z, hr2⟩, h4⟩
        refine ⟨.inr ⟨z, ?_, r, hr1, hr2⟩, by omega, h4⟩
        have hlo := firstY_le hr1
        by_cases hc2 : z < r.lo ∨ r.hi < z
        · rw [R11.turnL_out hc2] at hr2; cases hr2
        · omega
    refine ⟨_, ?_, g1, g3⟩
    rw [go_is]
    exact annot_map hr hf h1 h2 (b := borderI (last + 2)) _ [] g1 g3
end Go.Proofs.YtdicedpklpadgaaGreatDoor.Trn
end
section
namespace Go.Proofs.YtdicedpklpadgaaGreatDoor.Cmq
open Go.RowKit Mem Civ Mom Img Rul Ahd Trn Src Snd Att Rgt Abr

def phaseG (x : Era) (f : Int × ByteArray) : Phase := ⟨x.off + f.1, f.1, abbrB x.format f.2 (x.off + f.1) f.1⟩
theorem phaseE_is (rs : List Rule) (x : Era) (t : Int) : phaseE rs x t = phaseG x (savE rs x t) := rfl
def foldP (p0 : Phase) (F : List TurnU) (x : Era) (t : Int) : Phase := F.foldl (fun p u => if u.at_ ≤ t then phaseU x u else p) p0
theorem fold_none {x : Era} {t : Int} : ∀ {F : List TurnU} {p0 : Phase}, (∀ u ∈ F, ¬ u.at_ ≤ t) → foldP p0 F x t = p0
  | [], _, _ => rfl
  | u :: F, p0, h => by
    unfold foldP
    rw [List.foldl_cons, if_neg (h u List.mem_cons_self)]
    exact fold_none fun v hv => h v (List.mem_cons_of_mem _ hv)
theorem fold_last {x : Era} {t : Int} {v : TurnU} (hv : v.at_ ≤ t) : ∀ {F : List TurnU} {p0 : Phase}, F.Pairwise (fun a b => a.at_ < b.at_) → v ∈ F → (∀ u ∈ F, u.at_ ≤ t → u.at_ ≤ v.at_) → foldP p0 F x t = phaseU x v
  | [], _, _, h, _ => by simp at h
  | u :: F, p0, hp, hm, hl => by
    have hp2 := List.pairwise_cons.1 hp
    unfold foldP
    rw [List.foldl_cons]
    rcases List.mem_cons.1 hm with rfl | hm
    · rw [if_pos hv]
      exact fold_none fun w hw h => by
        have h1 := hp2.1 w hw
        have h2 := hl w (List.mem_cons_of_mem _ hw) h
        omega
    · exact fold_last hv hp2.2 hm fun w hw h => hl w (List.mem_cons_of_mem _ hw) h
/-- Turns that are put one behind the other. -/
theorem puts_spec {first : Phase} {till : Int} {x : Era} : ∀ (F : List TurnU) (ss : List Shift) (a : Int), Gd first till a ss → F.Pairwise (fun a b => a.at_ < b.at_) → (∀ u ∈ F, a ≤ u.at_) → ss.length + (F.filter fun u => decide (u.at_ < till)).length < 30000 →
    (F.foldl (fun m u => putP first till m u.at_ (phaseU x u)) (ss, false)).2 = false ∧
    (∀ e, a ≤ e → (∀ u ∈ F, u.at_ ≤ e) → Gd first till e (F.foldl (fun m u => putP first till m u.at_ (phaseU x u)) (ss, false)).1) ∧
    (F.foldl (fun m u => putP first till m u.at_ (phaseU x u)) (ss, false)).1.length ≤ ss.length + (F.filter fun u => decide (u.at_ < till)).length ∧
    (∀ t, t < till → tellL first (F.foldl (fun m u => putP first till m u.at_ (phaseU x u)) (ss, false)).1 t = foldP (tellL first ss t) F x t)
  | [], ss, a, h, _, _, _ => ⟨rfl, fun e he _ => h.mono he, Nat.le_add_right _ _, fun _ _ => rfl⟩
  | u :: F, ss, a, h, hp, ha, hn => by
    have hp2 := List.pairwise_cons.1 hp
    have hau := ha u List.mem_cons_self
    rw [List.filter_cons] at hn ⊢
    obtain ⟨q1, q2, q3, q4, q5⟩ := put_spec (p := phaseU x u) h hau (by omega)
    obtain ⟨m1, hm1⟩ : ∃ m1, putP first till (ss, false) u.at_ (phaseU x u) = m1 := ⟨_, rfl⟩
    rw [hm1] at q1 q2 q3 q4 q5
    obtain ⟨s1, o1⟩ := m1
    simp only at q1 q2 q3 q4
    subst q1
    rw [List.foldl_cons, hm1]
    by_cases hut : u.at_ < till
    · rw [decide_eq_true hut] at hn ⊢
      simp only [if_true, List.length_cons] at hn ⊢
      obtain ⟨r1, r2, r3, r4⟩ := puts_spec F s1 u.at_ q2 hp2.2 (fun v hv => Int.le_of_lt (hp2.1 v hv)) (by omega)
      refine ⟨r1, fun e he hF => r2 e (hF u List.mem_cons_self) (fun v hv => hF v (List.mem_cons_of_mem _ hv)), by omega, fun t ht => ?_⟩
      rw [r4 t ht, q4 t ht]
      rfl
    · have e5 := q5 (by omega)
      injection e5 with e5 _
      subst e5
      rw [decide_eq_false hut] at hn ⊢
      simp only [Bool.false_eq_true, if_false] at hn ⊢
      obtain ⟨r1, r2, r3, r4⟩ := puts_spec F s1 u.at_ q2 hp2.2 (fun v hv => Int.le_of_lt (hp2.1 v hv)) hn
      refine ⟨r1, fun e he hF => r2 e (hF u List.mem_cons_self) (fun v hv => hF v (List.mem_cons_of_mem _ hv)), r3, fun t ht => ?_⟩
      rw [r4 t ht]
      unfold foldP
      rw [List.foldl_cons, if_neg (by omega)]
/-- The turns of an era that begins at a and ends at b. -/
def inE (x : Era) (a b : Int) (u : TurnU) : Bool := decide (a < u.at_ ∧ ¬ (x.till = true ∧ b ≤ u.at_))
theorem turnPut_fold (first : Phase) (till : Int) (x : Era) (a b : Int) : ∀ (L : List TurnU) (m : List Shift × Bool), L.foldl (turnPut first till x a b) m = (L.filter (inE x a b)).foldl (fun m u => putP first till m u.at_ (phaseU x u)) m
  | [], _ => rfl
  | u :: L, m => by
    rw [List.foldl_cons, List.filter_cons, turnPut_fold first till x a b L]
    unfold turnPut inE
    by_cases h : u.at_ ≤ a ∨ x.till = true ∧ b ≤ u.at_
    · rw [if_pos h, if_neg (by rw [decide_eq_true_eq]; rintro ⟨h1, h2⟩; rcases h with h | h; omega; exact h2 h)]
    · rw [if_neg h, if_pos (by rw [decide_eq_true_eq]; exact ⟨by have := fun h1 => h (.inl h1); omega, fun h1 => h (.inr h1)⟩), List.foldl_cons]
/-- What is asked of an era. -/
structure EraOk (rs : List Rule) (year : Int) (x : Era) : Prop where
  kind : x.kind = 0 ∨ x.kind = 1 ∨ x.kind = 2
  off : -86400 < x.off ∧ x.off < 86400
  none_ : x.kind ≠ 2 → setL rs x.rules = []
  right : rulesB (setL rs x.rules) = true
  crowd : crowdB (setL rs x.rules) = false
  far : ∀ y, FarY (setL rs x.rules) y
  last : lastY (setL rs x.rules) ≤ year
theorem until_is {year : Int} (h1 : 1 ≤ year) (h2 : year ≤ 10000) : untilZ year = janI (year + 3) * 86400 := by
  have hm : mlen (year + 3) 1 = 31 := by simp [mlen]
  have ha : janI 1 = -719162 := by decide
  have hb : janI 20001 = 6585688 := by decide
  have h3 := jan_mono (a := 1) (b := year + 3) (by omega)
  have h4 := jan_mono (a := year + 3) (b := 20001) (by omega)
  have hj : janI (year + 3) = countI (year + 3) 1 1 := rfl
  unfold untilZ daysO
  rw [hm, if_neg (by omega), if_neg (by omega), hj]
  rfl
theorem same_latest {S : List Rule} {so : Turn → Bool} (hf : ∀ y, FarY S y) {x y : Turn} (hx : IsLatest S so x) (hy : IsLatest S so y) : x = y := by
  have h1 := hx.2.2 y hy.1 hy.2.1
  have h2 := hy.2.2 x hx.1 hx.2.1
  rcases spaced hf hx.1 hy.1 with h | h
  · exact h
  · unfold Far at h; omega
theorem era_tells {rs : List Rule} {year : Int} {x : Era} (he : EraOk rs year x) (hy1 : 1 ≤ year) (hy2 : year ≤ 10000) {a b t : Int} (hat : a ≤ t) (htt : t < untilZ year) (htb : x.till = true → t < b) :
    foldP (phaseE rs x a) ((turnsE rs year x).filter (inE x a b)) x t = phaseE rs x t := by
  by_cases hk : x.kind = 2
  · have hso : setOf rs x = setL rs x.rules := by unfold setOf; rw [if_pos hk]
    obtain ⟨S, hS⟩ : ∃ S, setL rs x.rules = S := ⟨_, rfl⟩
    have hr := he.right; have hc := he.crowd; have hf := he.far; have hl := he.last
    rw [hS] at hr hc hf hl hso
    obtain ⟨o1, o2⟩ := he.off
    have hsav : ∀ t, savE rs x t = giveO S (latestL (fun y => decide (uniT S x.off y ≤ t)) (yearI t) S) := by
      intro t
      unfold savE
      rw [if_pos hk, hso]
      unfold forceP
      rw [if_pos ⟨hr, o1, o2⟩]
    obtain ⟨l, l1, l2, l3⟩ := turns_list (last := year + 3) hr hc hf o1 o2 (by omega) (by omega)
    have hbd := border_is (y := year + 3 + 2) (by omega) (by omega)
    have hoc := october (year + 3 + 2)
    have hu := until_is hy1 hy2
    have hj := jan_mono (a := year + 3) (b := year + 3 + 2 + 1) (by omega)
    unfold turnsE
    rw [hS, l1]
    have hmem : ∀ u, u ∈ (l.map fun t => (⟨uniT S x.off t, t.save, t.letter⟩ : TurnU)).filter (inE x a b) ↔ ∃ y ∈ l, u = ⟨uniT S x.off y, y.save, y.letter⟩ ∧ a < u.at_ ∧ ¬ (x.till = true ∧ b ≤ u.at_) := by
      intro u
      rw [List.mem_filter, List.mem_map]
      unfold inE
      rw [decide_eq_true_eq]
      constructor
      · rintro ⟨⟨y, hy, rfl⟩, h⟩; exact ⟨y, hy, rfl, h⟩
      · rintro ⟨y, hy, rfl, h⟩; exact ⟨⟨y, hy, rfl⟩, h⟩
    have hrise : ((l.map fun t => (⟨uniT S x.off t, t.save, t.letter⟩ : TurnU)).filter (inE x a b)).Pairwise (fun a b => a.at_ < b.at_) := by
      refine List.Pairwise.sublist List.filter_sublist ?_
      rw [List.pairwise_map]
      exact List.Pairwise.imp_of_mem (fun {y z} hy hz h => uni_less hr hf o1 o2 ((l3 y).1 hy).1 ((l3 z).1 hz).1 (by omega)) l2
    have hle : ∀ {y z : Turn}, Gt S y → Gt S z → y.at_ ≤ z.at_ → uniT S x.off y ≤ uniT S x.off z := by
      intro y z hy hz h
      rcases Int.lt_or_eq_of_le h with h | h
      · exact Int.le_of_lt (uni_less hr hf o1 o2 hy hz h)
      · rcases spaced hf hy hz with rfl | hs
        · exact Int.le_refl _
        · unfold Far at hs; omega
    obtain ⟨s1, s2⟩ := force_spec (rs := S) (off := x.off) (t := t) hr o1 o2
    obtain ⟨a1, a2⟩ := force_spec (rs := S) (off := x.off) (t := a) hr o1 o2
    rw [phaseE_is rs x t, phaseE_is rs x a, hsav t, hsav a]
    cases hlt : latestL (fun y => decide (uniT S x.off y ≤ t)) (yearI t) S with
    | none =>
      have hno := s2 hlt
      have hla : latestL (fun y => decide (uniT S x.off y ≤ a)) (yearI a) S = none := by
        cases hq : latestL (fun y => decide (uniT S x.off y ≤ a)) (yearI a) S with
        | none => rfl
        | some z =>
          obtain ⟨g1, g2, _⟩ := a1 z hq
          have g2 : uniT S x.off z ≤ a := by simpa using g2
          exact absurd (by omega : uniT S x.off z ≤ t) (hno z g1)
      rw [hla]
      refine fold_none fun u hu h => ?_
      obtain ⟨y, hy, rfl, _⟩ := (hmem u).1 hu
      exact hno y ((l3 y).1 hy).1 h
    | some y =>
      have hyl := s1 y hlt
      obtain ⟨g1, g2, g3⟩ := hyl
      have g2 : uniT S x.off y ≤ t := by simpa using g2
      obtain ⟨al, hal, hal2⟩ := uni_bd hr o1 o2 g1
      have hyin : y ∈ l := (l3 y).2 ⟨g1, by omega⟩
      by_cases hya : a < uniT S x.off y
      · have hm : (⟨uniT S x.off y, y.save, y.letter⟩ : TurnU) ∈ (l.map fun t => (⟨uniT S x.off t, t.save, t.letter⟩ : TurnU)).filter (inE x a b) :=
          (hmem _).2 ⟨y, hyin, rfl, hya, fun ⟨h1, h2⟩ => by have := htb h1; simp only at h2; omega⟩
        rw [fold_last (v := ⟨uniT S x.off y, y.save, y.letter⟩) g2 hrise hm (fun u hu h => by
          obtain ⟨z, hz, rfl, _⟩ := (hmem u).1 hu
          exact hle ((l3 z).1 hz).1 g1 (g3 z ((l3 z).1 hz).1 (by simpa using h)))]
        rfl
      · have hla : latestL (fun y => decide (uniT S x.off y ≤ a)) (yearI a) S = some y := by
          cases hq : latestL (fun y => decide (uniT S x.off y ≤ a)) (yearI a) S with
          | none => exact absurd (by omega : uniT S x.off y ≤ a) (a2 hq y g1)
          | some z =>
            obtain ⟨q1, q2, q3⟩ := a1 z hq
            have q2 : uniT S x.off z ≤ a := by simpa using q2
            have e1 := g3 z q1 (by simp; omega)
            have e2 := q3 y g1 (by simp; omega)
            rcases spaced hf q1 g1 with h | h
            · rw [h]
            · unfold Far at h; omega
        rw [hla]
        refine fold_none fun u hu h => ?_
        obtain ⟨z, hz, rfl, h2, _⟩ := (hmem u).1 hu
        have := hle ((l3 z).1 hz).1 g1 (g3 z ((l3 z).1 hz).1 (by simpa using h))
        simp only at h2
        omega
  · have hS := he.none_ hk
    have hT : turnsE rs year x = [] := by unfold turnsE turnsP; rw [hS]; rfl
    rw [hT]
    show phaseE rs x a = phaseE rs x t
    unfold phaseE savE
    rw [if_neg hk, if_neg hk]
/-- How clocks stand by eras: by the first one whose end is behind the second. -/
def refL (rs : List Rule) (sv : Era → Int) : List Era → Int → Phase
  | [], _ => ⟨0, 0, ⟨#[]⟩⟩
  | x :: es, t => if x.till = true ∧ endP sv x ≤ t then refL rs sv es t else phaseE rs x t
/-- The ends rise; the last era has none. -/
def EndsOk (sv : Era → Int) : Int → List Era → Prop
  | _, [] => False
  | _, [x] => x.till = false
  | a, x :: y :: es => x.till = true ∧ a < endP sv x ∧ EndsOk sv (endP sv x) (y :: es)
/-- How many shifts are put at most. -/
def cntE (rs : List Rule) (sv : Era → Int) (year : Int) : Int → List Era → Nat
  | _, [] => 0
  | a, x :: es => 1 + (((turnsE rs year x).filter (inE x a (endP sv x))).filter fun u => decide (u.at_ < untilZ year)).length + cntE rs sv year (endP sv x) es
theorem turns_rise {rs : List Rule} {year : Int} {x : Era} (he : EraOk rs year x) (hy1 : 1 ≤ year) (hy2 : year ≤ 10000) : (turnsE rs year x).Pairwise (fun a b => a.at_ < b.at_) := by
  obtain ⟨l, l1, l2, l3⟩ := turns_list (last := year + 3) he.right he.crowd he.far he.off.1 he.off.2 (by have := he.last; omega) (by omega)
  unfold turnsE
  rw [l1, List.pairwise_map]
  exact List.Pairwise.imp_of_mem (fun {y z} hy hz h => uni_less he.right he.far he.off.1 he.off.2 ((l3 y).1 hy).1 ((l3 z).1 hz).1 (by omega)) l2
/-- One era, from what is told at its beginning on. -/
theorem era_put {s : Src} {first : Phase} {year : Int} {x : Era} (he : EraOk s.rules year x) (hy1 : 1 ≤ year) (hy2 : year ≤ 10000) {a : Int} {ss : List Shift} (h : Gd first (untilZ year) a ss) (h0 : ∀ t, t < untilZ year → a ≤ t → tellL first ss t = phaseE s.rules x a)
    (hn : ss.length + (((turnsE s.rules year x).filter (inE x a (eraEnd s x))).filter fun u => decide (u.at_ < untilZ year)).length < 30000) :
    ((turnsE s.rules year x).foldl (turnPut first (untilZ year) x a (eraEnd s x)) (ss, false)).2 = false ∧
    (∀ e, a ≤ e → (x.till = true → eraEnd s x ≤ e) → (x.till = false → ∀ u ∈ turnsE s.rules year x, u.at_ ≤ e) → Gd first (untilZ year) e ((turnsE s.rules year x).foldl (turnPut first (untilZ year) x a (eraEnd s x)) (ss, false)).1) ∧
    ((turnsE s.rules year x).foldl (turnPut first (untilZ year) x a (eraEnd s x)) (ss, false)).1.length ≤ ss.length + (((turnsE s.rules year x).filter (inE x a (eraEnd s x))).filter fun u => decide (u.at_ < untilZ year)).length ∧
    (∀ t, t < untilZ year → tellL first ((turnsE s.rules year x).foldl (turnPut first (untilZ year) x a (eraEnd s x)) (ss, false)).1 t = if a ≤ t then (if x.till = true ∧ eraEnd s x ≤ t then tellL first ((turnsE s.rules year x).foldl (turnPut first (untilZ year) x a (eraEnd s x)) (ss, false)).1 t else phaseE s.rules x t) else tellL first ss t) := by
  have hF : ∀ u ∈ (turnsE s.rules year x).filter (inE x a (eraEnd s x)), a < u.at_ ∧ ¬ (x.till = true ∧ eraEnd s x ≤ u.at_) := fun u hu => by
    have := (List.mem_filter.1 hu).2
    unfold inE at this
    exact of_decide_eq_true this
  rw [turnPut_fold]
  obtain ⟨r1, r2, r3, r4⟩ := puts_spec (x := x) ((turnsE s.rules year x).filter (inE x a (eraEnd s x))) ss a h ((turns_rise he hy1 hy2).sublist List.filter_sublist) (fun u hu => Int.le_of_lt (hF u hu).1) hn
  refine ⟨r1, fun e h1 h2 h3 => r2 e h1 fun u hu => ?_, r3, fun t ht => ?_⟩
  · cases hx : x.till with
    | true =>
      have := h2 hx
      have := (hF u hu).2
      by_cases hle : eraEnd s x ≤ u.at_
      · exact absurd ⟨hx, hle⟩ this
      · omega
    | false => exact h3 hx u (List.mem_filter.1 hu).1
  · by_cases hat : a ≤ t
    · rw [if_pos hat]
      by_cases hend : x.till = true ∧ eraEnd s x ≤ t
      · rw [if_pos hend]
      · rw [if_neg hend, r4 t ht, h0 t ht hat]
        exact era_tells he hy1 hy2 hat ht (fun hx => by
          by_cases hle : eraEnd s x ≤ t
          · exact absurd ⟨hx, hle⟩ hend
          · omega)
    · rw [if_neg hat, r4 t ht]
      exact fold_none fun u hu h => by have := (hF u hu).1; omega
theorem bound_of : ∀ (L : List TurnU) (a : Int), ∃ e, a ≤ e ∧ ∀ u ∈ L, u.at_ ≤ e
  | [], a => ⟨a, Int.le_refl _, fun _ h => by simp at h⟩
  | u :: L, a => by
    obtain ⟨e, h1, h2⟩ := bound_of L (max a u.at_)
    refine ⟨e, by omega, fun v hv => ?_⟩
    rcases List.mem_cons.1 hv with rfl | hv
    · omega
    · exact h2 v hv
/-- What all shifts tell that are put from an era on. -/
def Told (s : Src) (first : Phase) (year a : Int) (es : List Era) (ss : List Shift) (r : (List Shift × Bool) × Int) : Prop :=
  r.1.2 = false ∧ (∃ e, Gd first (untilZ year) e r.1.1) ∧ r.1.1.length ≤ ss.length + cntE s.rules (svF s) year a es ∧
  ∀ t, t < untilZ year → tellL first r.1.1 t = if a ≤ t then refL s.rules (svF s) es t else tellL first ss t
theorem eras_one {s : Src} {first : Phase} {year : Int} (hy1 : 1 ≤ year) (hy2 : year ≤ 10000) {x : Era} {es : List Era}
    (ih : ∀ (ss : List Shift) (a : Int), Gd first (untilZ year) a ss → EndsOk (svF s) a es → (∀ x ∈ es, EraOk s.rules year x) → ss.length + cntE s.rules (svF s) year a es < 30000 → Told s first year a es ss (erasPut s first (untilZ year) year es true ((ss, false), a)))
    (he : ∀ y ∈ x :: es, EraOk s.rules year y) {ss : List Shift} {a : Int} (h : Gd first (untilZ year) a ss) (hE : EndsOk (svF s) a (x :: es)) (h0 : ∀ t, t < untilZ year → a ≤ t → tellL first ss t = phaseE s.rules x a)
    (hn : ss.length + (((turnsE s.rules year x).filter (inE x a (endP (svF s) x))).filter fun u => decide (u.at_ < untilZ year)).length + cntE s.rules (svF s) year (endP (svF s) x) es < 30000) :
    (erasPut s first (untilZ year) year es true ((turnsE s.rules year x).foldl (turnPut first (untilZ year) x a (eraEnd s x)) (ss, false), eraEnd s x)).1.2 = false ∧
    (∃ e, Gd first (untilZ year) e (erasPut s first (untilZ year) year es true ((turnsE s.rules year x).foldl (turnPut first (untilZ year) x a (eraEnd s x)) (ss, false), eraEnd s x)).1.1) ∧
    (erasPut s first (untilZ year) year es true ((turnsE s.rules year x).foldl (turnPut first (untilZ year) x a (eraEnd s x)) (ss, false), eraEnd s x)).1.1.length ≤ ss.length + (((turnsE s.rules year x).filter (inE x a (endP (svF s) x))).filter fun u => decide (u.at_ < untilZ year)).length + cntE s.rules (svF s) year (endP (svF s) x) es ∧
    ∀ t, t < untilZ year → tellL first (erasPut s first (untilZ year) year es true ((turnsE s.rules year x).foldl (turnPut first (untilZ year) x a (eraEnd s x)) (ss, false), eraEnd s x)).1.1 t = if a ≤ t then refL s.rules (svF s) (x :: es) t else tellL first ss t := by
  have hex := he x List.mem_cons_self
  have hee : eraEnd s x = endP (svF s) x := rfl
  obtain ⟨q1, q2, q3, q4⟩ := era_put hex hy1 hy2 h h0 (by rw [hee]; omega)
  obtain ⟨m, hm⟩ : ∃ m, (turnsE s.rules year x).foldl (turnPut first (untilZ year) x a (eraEnd s x)) (ss, false) = m := ⟨_, rfl⟩
  rw [hm] at q1 q2 q3 q4 ⊢
  obtain ⟨s2, o2⟩ := m
  simp only at q1 q2 q3 q4
  subst q1
  rw [hee] at q3
  cases es with
  | nil =>
    have hx : x.till = false := hE
    obtain ⟨e, e1, e2⟩ := bound_of (turnsE s.rules year x) a
    refine ⟨rfl, ⟨e, q2 e e1 (fun h => by rw [hx] at h; cases h) (fun _ => e2)⟩, Nat.le_trans q3 (Nat.le_add_right _ _), fun t ht => ?_⟩
    show tellL first s2 t = _
    rw [q4 t ht]
    by_cases hat : a ≤ t
    · rw [if_pos hat, if_pos hat, if_neg (fun h => by rw [hx] at h; cases h.1)]
      simp only [refL]
      rw [if_neg (fun h => by rw [hx] at h; cases h.1)]
    · rw [if_neg hat, if_neg hat]
  | cons y es =>
    obtain ⟨hx, hab, hE2⟩ := hE
    have hgd := q2 (eraEnd s x) (Int.le_of_lt hab) (fun _ => Int.le_refl _) (fun h => by rw [hx] at h; cases h)
    obtain ⟨r1, r2, r3, r4⟩ := ih s2 (eraEnd s x) hgd hE2 (fun z hz => he z (List.mem_cons_of_mem _ hz)) (by rw [hee]; omega)
    rw [hee] at r3
    refine ⟨r1, r2, by rw [hee]; omega, fun t ht => ?_⟩
    rw [r4 t ht]
    have hr : refL s.rules (svF s) (x :: y :: es) t = if x.till = true ∧ endP (svF s) x ≤ t then refL s.rules (svF s) (y :: es) t else phaseE s.rules x t := rfl
    by_cases hbt : eraEnd s x ≤ t
    · rw [if_pos hbt, if_pos (by rw [hee] at hbt; omega), hr, if_pos ⟨hx, hbt⟩]
    · rw [if_neg hbt, q4 t ht]
      by_cases hat : a ≤ t
      · rw [if_pos hat, if_pos hat, hr, if_neg (fun h => hbt h.2), if_neg (fun h => hbt (hee ▸ h.2))]
      · rw [if_neg hat, if_neg hat]
theorem eras_true {s : Src} {first : Phase} {year : Int} (hy1 : 1 ≤ year) (hy2 : year ≤ 10000) : ∀ (es : List Era) (ss : List Shift) (a : Int), Gd first (untilZ year) a ss → EndsOk (svF s) a es → (∀ x ∈ es, EraOk s.rules year x) → ss.length + cntE s.rules (svF s) year a es < 30000 →
    Told s first year a es ss (erasPut s first (untilZ year) year es true ((ss, false), a))
  | [], _, _, _, hE, _, _ => hE.elim
  | x :: es, ss, a, h, hE, he, hn => by
    have hc : cntE s.rules (svF s) year a (x :: es) = 1 + (((turnsE s.rules year x).filter (inE x a (endP (svF s) x))).filter fun u => decide (u.at_ < untilZ year)).length + cntE s.rules (svF s) year (endP (svF s) x) es := rfl
    obtain ⟨p1, p2, p3, p4, _⟩ := put_spec (p := phaseE s.rules x a) h (Int.le_refl a) (by omega)
    obtain ⟨m, hm⟩ : ∃ m, putP first (untilZ year) (ss, false) a (phaseE s.rules x a) = m := ⟨_, rfl⟩
    rw [hm] at p1 p2 p3 p4
    obtain ⟨s1, o1⟩ := m
    simp only at p1 p2 p3 p4
    subst p1
    -- the shift at the beginning counts for one
    have hput : erasPut s first (untilZ year) year (x :: es) true ((ss, false), a) = erasPut s first (untilZ year) year es true ((turnsE s.rules year x).foldl (turnPut first (untilZ year) x a (eraEnd s x)) (s1, false), eraEnd s x) := by
      show erasPut s first (untilZ year) year es true (eraPut s first (untilZ year) year true ((ss, false), a) x) = _
      unfold eraPut
      simp only [if_true, hm]
    rw [hput]
    obtain ⟨r1, r2, r3, r4⟩ := eras_one hy1 hy2 (fun ss a => eras_true hy1 hy2 es ss a) he p2 hE (fun t ht hat => by rw [p4 t ht, if_pos hat]) (by omega)
    refine ⟨r1, r2, by omega, fun t ht => ?_⟩
    rw [r4 t ht]
    by_cases hat : a ≤ t
    · rw [if_pos hat, if_pos hat]
    · rw [if_neg hat, if_neg hat, p4 t ht, if_neg hat]
theorem phase_early {rs : List Rule} {year : Int} {x : Era} (he : EraOk rs year x) {t : Int} (ht : t ≤ everT) : phaseE rs x t = phaseE rs x everT := by
  unfold everT at *
  by_cases hk : x.kind = 2
  · have hso : setOf rs x = setL rs x.rules := by unfold setOf; rw [if_pos hk]
    have hr := he.right
    obtain ⟨o1, o2⟩ := he.off
    have hno : ∀ t, t ≤ -9000000000000 → latestL (fun y => decide (uniT (setL rs x.rules) x.off y ≤ t)) (yearI t) (setL rs x.rules) = none := by
      intro t ht
      obtain ⟨s1, s2⟩ := force_spec (rs := setL rs x.rules) (off := x.off) (t := t) hr o1 o2
      cases hq : latestL (fun y => decide (uniT (setL rs x.rules) x.off y ≤ t)) (yearI t) (setL rs x.rules) with
      | none => rfl
      | some y =>
        exfalso
        obtain ⟨g1, g2, _⟩ := s1 y hq
        have g2 : uniT (setL rs x.rules) x.off y ≤ t := by simpa using g2
        obtain ⟨a, ha, ha2⟩ := uni_bd hr o1 o2 g1
        obtain ⟨r, _, z, hz⟩ := g1
        have hn := local_near (turnL_at hz).1
        obtain ⟨_, hz1, _, _⟩ := local_form (turnL_at hz).1
        have hj := jan_mono (a := 1) (b := z) hz1
        have h1 : janI 1 = -719162 := by decide
        omega
    rw [phaseE_is, phaseE_is]
    unfold savE
    rw [if_pos hk, if_pos hk, hso]
    unfold forceP
    rw [if_pos ⟨hr, o1, o2⟩, if_pos ⟨hr, o1, o2⟩, hno t ht, hno _ (Int.le_refl _)]
  · unfold phaseE savE
    rw [if_neg hk, if_neg hk]
/-- What a zone's shifts tell. -/
theorem zone_told {s : Src} {z : ZoneM} (hy1 : 1 ≤ lastZ s.rules z.eras) (hy2 : lastZ s.rules z.eras ≤ 10000) (hE : EndsOk (svF s) everT z.eras) (he : ∀ x ∈ z.eras, EraOk s.rules (lastZ s.rules z.eras) x)
    (hn : cntE s.rules (svF s) (lastZ s.rules z.eras) everT z.eras ≤ 29999) :
    (madeZ s z).1.2 = false ∧ (∃ e, Gd (firstZ s.rules z.eras) (untilZ (lastZ s.rules z.eras)) e (madeZ s z).1.1) ∧ (madeZ s z).1.1.length ≤ 29999 ∧
    ∀ t, t < untilZ (lastZ s.rules z.eras) → tellL (firstZ s.rules z.eras) (madeZ s z).1.1 t = refL s.rules (svF s) z.eras t := by
  unfold madeZ
  generalize lastZ s.rules z.eras = year at *
  cases hz : z.eras with
  | nil => rw [hz] at hE; exact hE.elim
  | cons x es =>
    rw [hz] at hE he hn
    have hfirst : firstZ s.rules (x :: es) = phaseE s.rules x everT := rfl
    have hput : erasPut s (firstZ s.rules (x :: es)) (untilZ year) year (x :: es) false (([], false), everT) = erasPut s (firstZ s.rules (x :: es)) (untilZ year) year es true ((turnsE s.rules year x).foldl (turnPut (firstZ s.rules (x :: es)) (untilZ year) x everT (eraEnd s x)) ([], false), eraEnd s x) := by
      show erasPut s _ (untilZ year) year es true (eraPut s _ (untilZ year) year false (([], false), everT) x) = _
      unfold eraPut
      simp
    rw [hput, hfirst]
    simp only [cntE] at hn
    obtain ⟨r1, r2, r3, r4⟩ := eras_one (first := phaseE s.rules x everT) hy1 hy2 (fun ss a => eras_true hy1 hy2 es ss a) he (gd_nil _ _ everT) hE (fun t ht hat => rfl) (by simp only [List.length_nil]; omega)
    refine ⟨r1, r2, by simp only [List.length_nil] at r3; omega, fun t ht => ?_⟩
    rw [r4 t ht]
    by_cases hat : everT ≤ t
    · rw [if_pos hat]
    · rw [if_neg hat]
      have h1 : phaseE s.rules x t = phaseE s.rules x everT := phase_early (he x List.mem_cons_self) (by omega)
      show phaseE s.rules x everT = refL s.rules (svF s) (x :: es) t
      rw [← h1]
      show _ = if x.till = true ∧ endP (svF s) x ≤ t then refL s.rules (svF s) es t else phaseE s.rules x t
      rw [if_neg]
      rintro ⟨h2, h3⟩
      cases es with
      | nil =>
        have h4 : x.till = false := hE
        rw [h4] at h2; cases h2
      | cons y es =>
        have := hE.2.1
        omega
end Go.Proofs.YtdicedpklpadgaaGreatDoor.Cmq
end
section
namespace Go.Proofs.YtdicedpklpadgaaGreatDoor.Snd
open Go.RowKit Mem Civ Mom Img Plc Rul Src

theorem flaw_ne {e k a r : Int} (h : ¬ e = 0 ∨ ¬ k = 0) : (⟨e, k, a, r⟩ : Flaw) ≠ noFlaw := fun he => by
  unfold noFlaw at he
  injection he
  omega
theorem firstF_no : ∀ {l : List Flaw}, firstF l = noFlaw → ∀ f ∈ l, f = noFlaw
  | [], _, f, hf => by cases hf
  | a :: t, h, f, hf => by
    unfold firstF at h
    split at h
    · next ha =>
      rcases List.mem_cons.1 hf with rfl | hf
      · exact ha
      · exact firstF_no h f hf
    · next ha => exact absurd h ha
theorem clean_parts {s : Src} (h : checkB s = noFlaw) : srcB s = true ∧ ordersB s = noFlaw ∧ setsB s = noFlaw ∧ zonesB s (svF s) = noFlaw ∧ linksB s = noFlaw ∧ targetsB s = noFlaw := by
  unfold checkB at h
  split at h
  · next hs =>
    have h2 := firstF_no h
    exact ⟨hs, h2 _ (by simp), h2 _ (by simp), h2 _ (by simp), h2 _ (by simp), h2 _ (by simp)⟩
  · exact absurd h (flaw_ne (.inl (by decide)))
theorem inL_no {l : List ByteArray} {s : ByteArray} : inL l s = false ↔ ¬ s ∈ l := by
  rw [← inL_iff]
  cases inL l s <;> simp
/-! ### Names -/
theorem zonesL_no {rs : List Rule} {sv : Era → Int} : ∀ {zs : List ZoneM} {seen : List ByteArray} {i : Nat}, zonesL rs sv seen zs i = noFlaw → (∀ z ∈ zs, ¬ z.name ∈ seen) ∧ (zs.map (·.name)).Nodup ∧ ∀ z ∈ zs, zErr rs sv z.eras = none
  | [], _, _, _ => ⟨by simp, by simp, by simp⟩
  | z :: t, seen, i, h => by
    unfold zonesL at h
    split at h
    · exact absurd h (flaw_ne (.inl (by decide)))
    · next hin =>
      split at h
      · exact absurd h (flaw_ne (.inr (by decide)))
      · next hz =>
        obtain ⟨h1, h2, h3⟩ := zonesL_no h
        have hz' : ¬ z.name ∈ seen := inL_no.1 (by simpa using hin)
        refine ⟨fun y hy => ?_, ?_, fun y hy => ?_⟩
        · rcases List.mem_cons.1 hy with rfl | hy
          · exact hz'
          · exact fun hm => h1 y hy (List.mem_append_left _ hm)
        · rw [List.map_cons, List.nodup_cons]
          refine ⟨fun hm => ?_, h2⟩
          obtain ⟨y, hy, e⟩ := List.mem_map.1 hm
          exact h1 y hy (by rw [e]; simp)
        · rcases List.mem_cons.1 hy with rfl | hy
          · exact hz
          · exact h3 y hy
def usedB (z : ZoneM) (r : Rule) : Bool := z.eras.any fun x => decide (x.rules = r.name)
/-- A zone alone with the sets that it names, its slice of eras told anew. -/
def partS (s : Src) (z : ZoneM) : Src := ⟨s.rules.filter (usedB z), [z], []⟩
theorem setsL_no {all : List Rule} : ∀ {l : List Rule} {seen : List ByteArray} {i : Nat}, setsL all seen l i = noFlaw → ∀ r ∈ l, ¬ r.name ∈ seen → setErr (setL all r.name) = 0
  | [], _, _, _, r, hr, _ => by cases hr
  | x :: t, seen, i, h, r, hr, hn => by
    unfold setsL at h
    split at h
    · next hin =>
      rcases List.mem_cons.1 hr with rfl | hr
      · exact absurd (inL_iff.1 hin) hn
      · exact setsL_no h r hr hn
    · split at h
      · next h0 =>
        by_cases e : r.name = x.name
        · rw [e]; exact h0
        · rcases List.mem_cons.1 hr with rfl | hr
          · exact h0
          · refine setsL_no h r hr fun hm => ?_
            rcases List.mem_append.1 hm with hm | hm
            · exact hn hm
            · exact e (by simpa using hm)
      · exact absurd h (flaw_ne (.inr (by decide)))
end Go.Proofs.YtdicedpklpadgaaGreatDoor.Snd
end
section
namespace Go.Proofs.YtdicedpklpadgaaGreatDoor.Cmq
open Go.RowKit Mem Civ Mom Img Plc Rul Ahd Trn Src Snd Att Rgt Abr

theorem setL_mem {rs : List Rule} {nm : ByteArray} {r : Rule} : r ∈ setL rs nm ↔ r ∈ rs ∧ r.name = nm := by
  unfold setL
  simp [List.mem_filter]
theorem ruleR_parts {r : Rule} (h : ruleR r = true) : setB r.name = true ∧ Rul.ruleB r = true := by
  unfold ruleR at h
  simp only [Bool.and_eq_true, Bool.or_eq_true, yearB, savingB, decide_eq_true_eq] at h
  obtain ⟨h1, ⟨h2, h3⟩, h4, h5, ⟨h6, h7⟩, h8⟩ := h
  refine ⟨h1, decide_eq_true ⟨⟨h2, h3⟩, ?_, spotB_ok h5, h6, h7⟩⟩
  rcases h4 with h4 | h4
  · exact .inl h4
  · exact .inr h4
theorem src_rules {s : Src} (h : srcB s = true) : ∀ r ∈ s.rules, ruleR r = true := by
  unfold srcB at h
  simp only [Bool.and_eq_true] at h
  exact List.all_eq_true.1 h.2.1
theorem src_zones {s : Src} (h : srcB s = true) : ∀ z ∈ s.zones, zoneB z = true := by
  unfold srcB at h
  simp only [Bool.and_eq_true] at h
  exact List.all_eq_true.1 h.2.2.1
theorem src_right {s : Src} (h : srcB s = true) (nm : ByteArray) : rulesB (setL s.rules nm) = true :=
  List.all_eq_true.2 fun r hr => (ruleR_parts (src_rules h r (setL_mem.1 hr).1)).2
theorem setB_some {nm : ByteArray} (h : setB nm = true) : nm ≠ ⟨#[]⟩ := by
  rintro rfl
  revert h
  decide
theorem text_none {x : ByteArray} (h : x.toList.isEmpty = true) : x = ⟨#[]⟩ := by
  rw [ByteArray.toList_eq] at h
  cases x with
  | mk d =>
    congr 1
    simpa using h
theorem set_none {s : Src} (h : srcB s = true) : setL s.rules ⟨#[]⟩ = [] := by
  rw [List.eq_nil_iff_forall_not_mem]
  intro r hr
  obtain ⟨h1, h2⟩ := setL_mem.1 hr
  exact setB_some (ruleR_parts (src_rules h r h1)).1 h2
theorem set_ok {s : Src} (h : checkB s = noFlaw) (nm : ByteArray) : crowdB (setL s.rules nm) = false ∧ nearB (setL s.rules nm) = false ∧ everN (setL s.rules nm) ≤ 2 := by
  obtain ⟨_, _, h2, _⟩ := clean_parts h
  cases hl : setL s.rules nm with
  | nil => exact ⟨rfl, rfl, by decide⟩
  | cons r t =>
    obtain ⟨hr, hn⟩ := setL_mem.1 (show r ∈ setL s.rules nm by rw [hl]; simp)
    have he := setsL_no h2 r hr (by simp)
    rw [hn, hl] at he
    unfold setErr at he
    split at he
    · omega
    · next h1 =>
      split at he
      · omega
      · split at he
        · omega
        · next h3 h4 => exact ⟨by simpa using h1, by simpa using h4, by omega⟩
theorem set_far {s : Src} (h : checkB s = noFlaw) (nm : ByteArray) (y : Int) : FarY (setL s.rules nm) y :=
  far_all (src_right (clean_parts h).1 nm) (set_ok h nm).2.1 (set_ok h nm).1 y
theorem erasOk_at {es : List Era} : ∀ {n : Nat}, erasOk es n = true → ∀ k, k < n → ∀ x, es[k]? = some x → eraB x = true ∧ x.till = decide (((k : Nat) : Int) < (es.length : Int) - 1)
  | 0, _, k, hk, _, _ => by omega
  | n + 1, h, k, hk, x, hx => by
    rw [erasOk, Bool.and_eq_true] at h
    rcases Nat.lt_or_ge k n with h1 | h1
    · exact erasOk_at h.1 k h1 x hx
    · obtain rfl : k = n := by omega
      have h2 := h.2
      rw [hx] at h2
      simp only [Bool.and_eq_true, beq_iff_eq] at h2
      exact h2
/-- What a flawless source's zone is like. -/
structure ZoneW (s : Src) (z : ZoneM) : Prop where
  ne : 0 < z.eras.length
  le : z.eras.length ≤ 40
  era : ∀ x ∈ z.eras, eraB x = true
  till : ∀ k x, z.eras[k]? = some x → x.till = decide (k + 1 < z.eras.length)
  err : ∀ k x, z.eras[k]? = some x → eraE s.rules x (prevP (svF s) z.eras k).1 (prevP (svF s) z.eras k).2 (endP (svF s) x) x.till = 0
theorem zone_w {s : Src} (h : checkB s = noFlaw) {z : ZoneM} (hz : z ∈ s.zones) : ZoneW s z := by
  obtain ⟨h1, _, _, h3, _⟩ := clean_parts h
  have hb := src_zones h1 z hz
  have he := (zonesL_no h3).2.2 z hz
  unfold zoneB at hb
  simp only [Bool.and_eq_true, Bool.not_eq_true', decide_eq_false_iff_not, beq_eq_false_iff_ne] at hb
  obtain ⟨_, b1, b2, b3⟩ := hb
  have hlt : ∀ {k : Nat} {x : Era}, z.eras[k]? = some x → k < z.eras.length := fun hx => (List.getElem?_eq_some_iff.1 hx).1
  refine ⟨by omega, by omega, fun x hx => ?_, fun k x hx => ?_, fun k x hx => ?_⟩
  · obtain ⟨k, hk, e⟩ := List.mem_iff_getElem.1 hx
    exact (erasOk_at b3 k hk x (by rw [List.getElem?_eq_getElem hk, e])).1
  · rw [(erasOk_at b3 k (hlt hx) x hx).2]
    exact decide_eq_decide.2 (by omega)
  · unfold zErr at he
    rw [List.find?_eq_none] at he
    have := he k (List.mem_range.2 (hlt hx))
    unfold eraAt at this
    rw [hx] at this
    simpa using this
theorem era_parts {x : Era} (h : eraB x = true) : (-86400 < x.off ∧ x.off < 86400) ∧ x.format.size ≤ 20 ∧ (x.kind = 0 ∨ x.kind = 1 ∨ x.kind = 2) ∧ (-43200 ≤ x.save ∧ x.save ≤ 43200) ∧ (x.kind ≠ 2 → x.rules = ⟨#[]⟩) ∧ (x.kind = 0 ∨ x.kind = 2 → x.save = 0) ∧ (x.till = true → yearB x.year = true ∧ spotB x.spot = true) ∧ (x.till = false → x.year = 0) := by
  unfold eraB at h
  simp only [Bool.and_eq_true] at h
  obtain ⟨⟨h1, h2⟩, h3, h4⟩ := h
  unfold dayB at h1
  simp only [Bool.and_eq_true, decide_eq_true_eq] at h1
  unfold formatB madeB at h2
  simp only [Bool.and_eq_true, decide_eq_true_eq] at h2
  have hsz : x.format.size = x.format.data.toList.length := Lib.size_eq _
  refine ⟨h1, by have := h2.1.2.2; omega, ?_⟩
  have ht : (x.till = true → yearB x.year = true ∧ spotB x.spot = true) ∧ (x.till = false → x.year = 0) := by
    unfold tillB at h4
    cases hx : x.till <;> rw [hx] at h4
    · rw [if_neg (by decide), Bool.and_eq_true, decide_eq_true_eq] at h4
      exact ⟨fun e => (by cases e), fun _ => h4.1⟩
    · rw [if_pos rfl, Bool.and_eq_true] at h4
      exact ⟨fun _ => h4, fun e => (by cases e)⟩
  unfold kindB at h3
  split at h3
  · next hk =>
    rw [Bool.and_eq_true, decide_eq_true_eq] at h3
    exact ⟨.inl hk, by omega, fun _ => text_none h3.2, fun _ => h3.1, ht⟩
  · next hk =>
    split at h3
    · next hk2 =>
      unfold savingB at h3
      simp only [Bool.and_eq_true, decide_eq_true_eq] at h3
      exact ⟨.inr (.inl hk2), h3.1, fun _ => text_none h3.2, fun e => (by omega), ht⟩
    · split at h3
      · next hk3 =>
        rw [Bool.and_eq_true, decide_eq_true_eq] at h3
        exact ⟨.inr (.inr hk3), by omega, fun e => absurd hk3 e, fun _ => h3.1, ht⟩
      · cases h3
theorem svF_bd {s : Src} (h : srcB s = true) (x : Era) : -43200 ≤ svF s x ∧ svF s x ≤ 43200 := by
  have hr : rulesB (setOf s.rules x) = true := by
    unfold setOf
    split
    · exact src_right h _
    · rfl
  exact ahead_save hr (endT x)
theorem endP_bd {s : Src} (h : srcB s = true) {x : Era} (hx : eraB x = true) : -8999999999999 ≤ endP (svF s) x ∧ endP (svF s) x ≤ 8999999999999 := by
  obtain ⟨⟨o1, o2⟩, _, _, ⟨s1, s2⟩, _⟩ := era_parts hx
  obtain ⟨v1, v2⟩ := svF_bd h x
  have ht : -8900000000000 ≤ endT x ∧ endT x ≤ 8900000000000 := by
    unfold endT localO
    cases ho : onO x.spot x.year with
    | none => simp
    | some n =>
      obtain ⟨⟨h1, h2⟩, h3, _⟩ := onO_bd ho
      obtain ⟨_, _, _, _, h5, h6, _⟩ := h3
      simp only [Option.map_some, Option.getD_some]
      omega
  have hsv : -43200 ≤ savI x (svF s x) ∧ savI x (svF s x) ≤ 43200 := by
    unfold savI
    split <;> omega
  have ha : -8900000086400 ≤ endA x ∧ endA x ≤ 8900000086400 := by
    unfold endA
    split
    · omega
    · unfold wrap64; omega
  unfold endP
  split
  · unfold endI
    split
    · unfold wrap64; omega
    · omega
  · omega
theorem era_w {s : Src} (h : checkB s = noFlaw) {z : ZoneM} (hz : z ∈ s.zones) {x : Era} (hx : x ∈ z.eras) : EraW s x := by
  have hs := (clean_parts h).1
  have hb := (zone_w h hz).era x hx
  obtain ⟨h1, h2, h3, h4, _⟩ := era_parts hb
  have he := endP_bd hs hb
  exact ⟨h3, h1, h4, by omega, src_right hs _, (set_ok h _).1, by omega⟩
/-! ### The greatest year -/
theorem lastY_fold_mono : ∀ (l : List Rule) {a b : Int}, a ≤ b → l.foldl lastY1 a ≤ l.foldl lastY1 b
  | [], _, _, h => h
  | r :: l, a, b, h => by
    rw [List.foldl_cons, List.foldl_cons]
    refine lastY_fold_mono l ?_
    unfold lastY1
    split <;> omega
theorem lastY_fold_ge : ∀ (l : List Rule) (a : Int), a ≤ l.foldl lastY1 a
  | [], _ => Int.le_refl _
  | r :: l, a => by
    rw [List.foldl_cons]
    refine Int.le_trans ?_ (lastY_fold_ge l _)
    unfold lastY1
    split <;> omega
theorem lastY_fold_le : ∀ (l : List Rule) (a b : Int), a ≤ b → (∀ r ∈ l, r.lo ≤ b ∧ (r.hi = 1000000 ∨ r.hi ≤ b)) → l.foldl lastY1 a ≤ b
  | [], _, _, h, _ => h
  | r :: l, a, b, h, hr => by
    rw [List.foldl_cons]
    refine lastY_fold_le l _ b ?_ (fun q hq => hr q (by simp [hq]))
    have := hr r (by simp)
    unfold lastY1
    split <;> omega
theorem lastZ_ge (rs : List Rule) : ∀ (es : List Era) (y : Int), 1 ≤ y → y ≤ es.foldl (lastE rs) y ∧ ∀ x ∈ es, lastY (setL rs x.rules) ≤ es.foldl (lastE rs) y ∧ x.year ≤ es.foldl (lastE rs) y
  | [], y, _ => ⟨Int.le_refl _, by simp⟩
  | x :: es, y, h => by
    rw [List.foldl_cons]
    have h1 : max y x.year ≤ lastE rs y x := lastY_fold_ge _ _
    have h2 : lastY (setL rs x.rules) ≤ lastE rs y x := lastY_fold_mono _ (by omega)
    obtain ⟨g1, g2⟩ := lastZ_ge rs es (lastE rs y x) (by omega)
    refine ⟨by omega, fun u hu => ?_⟩
    rcases List.mem_cons.1 hu with rfl | hu
    · exact ⟨by omega, by omega⟩
    · exact g2 u hu
theorem lastZ_le (rs : List Rule) (hr : ∀ r ∈ rs, r.lo ≤ 9999 ∧ (r.hi = 1000000 ∨ r.hi ≤ 9999)) : ∀ (es : List Era) (y : Int), y ≤ 9999 → (∀ x ∈ es, x.year ≤ 9999) → es.foldl (lastE rs) y ≤ 9999
  | [], _, h, _ => h
  | x :: es, y, h, hx => by
    rw [List.foldl_cons]
    refine lastZ_le rs hr es _ ?_ (fun u hu => hx u (by simp [hu]))
    have := hx x (by simp)
    exact lastY_fold_le _ _ _ (by omega) (fun r hm => hr r (setL_mem.1 hm).1)
theorem zone_year {s : Src} (h : checkB s = noFlaw) {z : ZoneM} (hz : z ∈ s.zones) : 2037 ≤ lastZ s.rules z.eras ∧ lastZ s.rules z.eras ≤ 9999 := by
  have hs := (clean_parts h).1
  refine ⟨(lastZ_ge _ _ _ (by omega)).1, lastZ_le _ (fun r hr => ?_) _ _ (by omega) fun x hx => ?_⟩
  · have hp : ruleP r := of_decide_eq_true (ruleR_parts (src_rules hs r hr)).2
    obtain ⟨⟨_, p1⟩, p2, _⟩ := hp
    refine ⟨p1, ?_⟩
    rcases p2 with p2 | p2
    · exact .inr p2.2
    · exact .inl p2
  · obtain ⟨_, _, _, _, _, _, h1, h2⟩ := era_parts ((zone_w h hz).era x hx)
    cases ht : x.till
    · have := h2 ht; omega
    · have := (h1 ht).1
      unfold yearB at this
      simp only [Bool.and_eq_true, decide_eq_true_eq] at this
      exact this.2
theorem era_ok {s : Src} (h : checkB s = noFlaw) {z : ZoneM} (hz : z ∈ s.zones) {x : Era} (hx : x ∈ z.eras) : EraOk s.rules (lastZ s.rules z.eras) x := by
  have hs := (clean_parts h).1
  obtain ⟨h1, _, h3, _, h5, _⟩ := era_parts ((zone_w h hz).era x hx)
  exact ⟨h3, h1, fun hk => by rw [h5 hk]; exact set_none hs, src_right hs _, (set_ok h _).1, set_far h _, ((lastZ_ge s.rules z.eras 2037 (by omega)).2 x hx).1⟩
/-! ### The ends -/
theorem ends_of {sv : Era → Int} : ∀ (es : List Era) (a : Int), 0 < es.length → (∀ k x, es[k]? = some x → x.till = decide (k + 1 < es.length)) → (∀ k x y, es[k]? = some x → es[k + 1]? = some y → y.till = true → endP sv x < endP sv y) →
    (∀ x, es[0]? = some x → x.till = true → a < endP sv x) → EndsOk sv a es
  | [], _, h, _, _, _ => by simp at h
  | [x], a, _, h1, _, _ => by
    have := h1 0 x rfl
    simpa [EndsOk] using this
  | x :: y :: es, a, _, h1, h2, h3 => by
    have ht : x.till = true := by
      have := h1 0 x rfl
      simpa using this
    refine ⟨ht, h3 x rfl ht, ends_of (y :: es) _ (by simp) (fun k u hu => ?_) (fun k u v hu hv => h2 (k + 1) u v hu hv) fun u hu hut => ?_⟩
    · have := h1 (k + 1) u hu
      rw [this]
      exact decide_eq_decide.2 (by simp only [List.length_cons]; omega)
    · exact h2 0 x u rfl hu hut
theorem ends_ok {s : Src} (h : checkB s = noFlaw) {z : ZoneM} (hz : z ∈ s.zones) : EndsOk (svF s) everT z.eras := by
  have hw := zone_w h hz
  have hs := (clean_parts h).1
  refine ends_of _ _ hw.ne hw.till (fun k x y hx hy hyt => ?_) fun x hx hxt => ?_
  · have he := hw.err (k + 1) y hy
    have hxt : x.till = true := by
      rw [hw.till k x hx, decide_eq_true_eq]
      exact (List.getElem?_eq_some_iff.1 hy).1
    unfold eraE at he
    simp only [prevP, hx] at he
    split at he
    · omega
    · split at he
      · omega
      · split at he
        · omega
        · split at he
          · omega
          · next hn =>
            rcases Int.lt_or_le (endP (svF s) x) (endP (svF s) y) with h1 | h1
            · exact h1
            · exact absurd ⟨hxt, hyt, h1⟩ hn
  · have := endP_bd hs (hw.era x (List.mem_of_getElem? hx))
    unfold everT
    omega
end Go.Proofs.YtdicedpklpadgaaGreatDoor.Cmq
end
section
namespace Go.Proofs.YtdicedpklpadgaaGreatDoor.Cmq
open Go.RowKit Mem Civ Mom Img Plc Rul Ahd Trn Src Snd Att Rgt Abr

/-- The weight of the years ahead of one: ten turns a year at most, two behind the last named year. -/
def wgt (lo hi n : Int) : Int := 10 * (max 0 (min (n - lo) (hi + 1 - lo))) + 2 * max 0 (n - hi - 1)
theorem wgt_step {lo hi : Int} (h : lo ≤ hi) (n : Int) : wgt lo hi (n + 1) = wgt lo hi n + (if n < lo then 0 else if n ≤ hi then 10 else 2) := by
  unfold wgt
  split
  · omega
  · split <;> omega
theorem wgt_three {lo hi : Int} (h : lo ≤ hi) (n : Int) : wgt lo hi (n + 2) ≤ wgt lo hi (n - 1) + 30 := by
  unfold wgt
  omega
theorem wgt_mono {lo hi a b : Int} (h : lo ≤ hi) (hab : a ≤ b) : wgt lo hi a ≤ wgt lo hi b := by
  unfold wgt
  omega
theorem fm_len {α β : Type} {f : α → Option β} {q : α → Bool} : ∀ {l : List α}, (∀ a ∈ l, (f a).isSome = true → q a = true) → (l.filterMap f).length ≤ (l.filter q).length
  | [], _ => by simp
  | a :: l, h => by
    have ih := fm_len (l := l) (fun b hb => h b (by simp [hb]))
    cases hf : f a with
    | none =>
      rw [List.filterMap_cons_none hf, List.filter_cons]
      split
      · simp only [List.length_cons]; omega
      · exact ih
    | some b =>
      rw [List.filterMap_cons_some hf, List.filter_cons, if_pos (h a (by simp) (by rw [hf]; rfl))]
      simp only [List.length_cons]
      omega
theorem nodup_len : ∀ (l m : List Int), l.Nodup → (∀ a ∈ l, a ∈ m) → l.length ≤ m.length
  | [], _, _, _ => Nat.zero_le _
  | a :: l, m, hn, hs => by
    have h0 := List.nodup_cons.1 hn
    have h1 := nodup_len l (m.erase a) h0.2 (fun b hb => (List.mem_erase_of_ne (fun e => h0.1 (by rw [← e]; exact hb))).2 (hs b (by simp [hb])))
    have hm := hs a (by simp)
    have h2 := List.length_erase_of_mem hm
    have h3 := List.length_pos_of_mem hm
    simp only [List.length_cons]
    omega
/-- What is asked of a set, that its turns be few. -/
structure Few (lo hi : Int) (S : List Rule) : Prop where
  right : rulesB S = true
  crowd : crowdB S = false
  ever : everN S ≤ 2
  yrs : ∀ r ∈ S, lo ≤ r.lo ∧ (r.hi = 1000000 ∨ r.hi ≤ hi)
theorem turnL_in {r : Rule} {y : Int} (h : (turnL y r).isSome = true) : r.lo ≤ y ∧ y ≤ r.hi := by
  unfold turnL turnO at h
  split at h
  · next h2 =>
    simp only [Bool.and_eq_true, decide_eq_true_eq] at h2
    exact h2.2
  · cases h
theorem raw_len {lo hi : Int} {S : List Rule} (h : Few lo hi S) (y : Int) : ((rawT S y).length : Int) ≤ if y < lo then 0 else if y ≤ hi then 10 else 2 := by
  split
  · next hy =>
    have := fm_len (f := turnL y) (q := fun _ => false) (l := S) (fun r hr hs => by
      have h1 := turnL_in hs
      have h2 := (h.yrs r hr).1
      omega)
    unfold rawT
    rw [List.filter_eq_nil_iff.2 (by simp), List.length_nil] at this
    omega
  · split
    · have h1 := fm_len (f := turnL y) (q := fun r => forceB r y) (l := S) (fun r hr hs => decide_eq_true (turnL_in hs))
      have hc := h.crowd
      unfold crowdB at hc
      rw [h.right, Bool.true_and] at hc
      have h2 := force_le hc y
      unfold rawT
      omega
    · next h1 h2 =>
      have h3 := fm_len (f := turnL y) (q := fun r => decide (r.hi = 1000000)) (l := S) (fun r hr hs => by
        have h4 := turnL_in hs
        rcases (h.yrs r hr).2 with h5 | h5
        · exact decide_eq_true h5
        · omega)
      have h6 := h.ever
      unfold everN at h6
      unfold rawT
      omega
theorem years_len {lo hi : Int} {S : List Rule} (hlh : lo ≤ hi) (h : Few lo hi S) (off A : Int) : ∀ n : Nat, (((List.range n).flatMap fun i => (rawT S (A + (i : Nat))).map (uniT S off)).length : Int) ≤ wgt lo hi (A + n) - wgt lo hi A
  | 0 => by simp
  | n + 1 => by
    have ih := years_len hlh h off A n
    have h1 := raw_len h (A + n)
    have h2 := wgt_step hlh (A + n)
    rw [List.range_succ, List.flatMap_append, List.length_append]
    simp only [List.flatMap_cons, List.flatMap_nil, List.append_nil, List.length_map]
    rw [show A + ((n + 1 : Nat) : Int) = A + n + 1 from by omega, h2]
    omega
theorem yearD_mono {a b : Int} (h : a ≤ b) : yearD a ≤ yearD b := by
  have h1 := year_in a
  have h2 := year_in b
  by_cases hc : yearD a ≤ yearD b
  · exact hc
  · have := jan_mono (a := yearD b + 1) (b := yearD a) (by omega)
    omega
theorem uni_near {S : List Rule} {off : Int} (hr : rulesB S = true) (h1 : -86400 < off) (h2 : off < 86400) {r : Rule} (hm : r ∈ S) {y : Int} {t : Turn} (ht : turnL y r = some t) : (janI y - 15) * 86400 < uniT S off t ∧ uniT S off t < (janI y + 381) * 86400 := by
  obtain ⟨a, e, ha⟩ := uni_bd hr h1 h2 ⟨r, hm, y, ht⟩
  have := local_near (turnL_at ht).1
  omega
/-- The turns of a set in a stretch. -/
theorem win_len {lo hi : Int} {S : List Rule} (hlh : lo ≤ hi) (h : Few lo hi S) {off : Int} (h1 : -86400 < off) (h2 : off < 86400) {W : List TurnU} (hp : W.Pairwise fun u v => u.at_ < v.at_) {a b : Int} (hab : a ≤ b)
    (hW : ∀ u ∈ W, a < u.at_ ∧ u.at_ < b ∧ ∃ t, Gt S t ∧ u.at_ = uniT S off t) : (W.length : Int) ≤ wgt lo hi (yearD (b / 86400) - 1) - wgt lo hi (yearD (a / 86400) - 1) + 30 := by
  have ha := year_in (a / 86400)
  have hb := year_in (b / 86400)
  have hm := yearD_mono (a := a / 86400) (b := b / 86400) (by omega)
  have h3 := wgt_three hlh (yearD (b / 86400))
  have hy := years_len hlh h off (yearD (a / 86400) - 1) (yearD (b / 86400) + 2 - (yearD (a / 86400) - 1)).toNat
  rw [show yearD (a / 86400) - 1 + ((yearD (b / 86400) + 2 - (yearD (a / 86400) - 1)).toNat : Int) = yearD (b / 86400) + 2 from by omega] at hy
  have hn : (W.map (·.at_)).Nodup := by
    rw [List.nodup_iff_pairwise_ne, List.pairwise_map]
    exact hp.imp fun h => by omega
  have hs := nodup_len (W.map (·.at_)) ((List.range (yearD (b / 86400) + 2 - (yearD (a / 86400) - 1)).toNat).flatMap fun i => (rawT S (yearD (a / 86400) - 1 + (i : Nat))).map (uniT S off)) hn (fun v hv => by
    obtain ⟨u, hu, rfl⟩ := List.mem_map.1 hv
    obtain ⟨u1, u2, t, ⟨r, hr, y, hy⟩, e⟩ := hW u hu
    have hq := uni_near h.right h1 h2 hr hy
    rw [← e] at hq
    have hlo : yearD (a / 86400) - 1 ≤ y := by
      by_cases hc : yearD (a / 86400) - 1 ≤ y
      · exact hc
      · have g1 := jan_mono (a := y + 2) (b := yearD (a / 86400)) (by omega)
        have g2 := jan_mono (a := y) (b := y + 2) (by omega)
        omega
    have hhi : y ≤ yearD (b / 86400) + 1 := by
      by_cases hc : y ≤ yearD (b / 86400) + 1
      · exact hc
      · have g1 := jan_mono (a := yearD (b / 86400) + 2) (b := y) (by omega)
        have g2 := jan_mono (a := yearD (b / 86400) + 1) (b := yearD (b / 86400) + 2) (by omega)
        omega
    refine List.mem_flatMap.2 ⟨(y - (yearD (a / 86400) - 1)).toNat, List.mem_range.2 (by omega), List.mem_map.2 ⟨t, ?_, e.symm⟩⟩
    rw [show yearD (a / 86400) - 1 + ((y - (yearD (a / 86400) - 1)).toNat : Int) = y from by omega]
    exact rawT_mem.2 ⟨r, hr, hy⟩)
  rw [List.length_map] at hs
  omega
theorem turns_from {rs : List Rule} {year : Int} {x : Era} (he : EraOk rs year x) (hy1 : 1 ≤ year) (hy2 : year ≤ 10000) {u : TurnU} (hu : u ∈ turnsE rs year x) : ∃ t, Gt (setL rs x.rules) t ∧ u.at_ = uniT (setL rs x.rules) x.off t := by
  obtain ⟨l, l1, _, l3⟩ := turns_list (last := year + 3) he.right he.crowd he.far he.off.1 he.off.2 (by have := he.last; omega) (by omega)
  unfold turnsE at hu
  rw [l1] at hu
  obtain ⟨t, ht, rfl⟩ := List.mem_map.1 hu
  exact ⟨t, ((l3 t).1 ht).1, rfl⟩
theorem cnt_le {rs : List Rule} {sv : Era → Int} {year lo hi : Int} (hy1 : 1 ≤ year) (hy2 : year ≤ 10000) (hlh : lo ≤ hi) : ∀ (es : List Era) (a : Int), a ≤ untilZ year → EndsOk sv a es → (∀ x ∈ es, EraOk rs year x ∧ Few lo hi (setL rs x.rules) ∧ endP sv x ≤ untilZ year) →
    (cntE rs sv year a es : Int) ≤ 31 * (es.length : Int) + (wgt lo hi (yearD (untilZ year / 86400) - 1) - wgt lo hi (yearD (a / 86400) - 1))
  | [], _, _, hE, _ => hE.elim
  | [x], a, ha, hE, hx => by
    obtain ⟨he, hf, _⟩ := hx x (by simp)
    have hw := win_len hlh hf he.off.1 he.off.2 (W := ((turnsE rs year x).filter (inE x a (endP sv x))).filter fun u => decide (u.at_ < untilZ year)) ((turns_rise he hy1 hy2).sublist (List.filter_sublist.trans List.filter_sublist)) ha (fun u hu => by
      obtain ⟨h1, h2⟩ := List.mem_filter.1 hu
      obtain ⟨h3, h4⟩ := List.mem_filter.1 h1
      unfold inE at h4
      rw [decide_eq_true_eq] at h2 h4
      exact ⟨h4.1, h2, turns_from he hy1 hy2 h3⟩)
    simp only [cntE, List.length_cons, List.length_nil]
    omega
  | x :: y :: es, a, ha, hE, hx => by
    obtain ⟨he, hf, hend⟩ := hx x (by simp)
    obtain ⟨ht, hab, hE2⟩ := hE
    have ih := cnt_le hy1 hy2 hlh (y :: es) (endP sv x) hend hE2 fun u hu => hx u (List.mem_cons_of_mem _ hu)
    have hw := win_len hlh hf he.off.1 he.off.2 (W := ((turnsE rs year x).filter (inE x a (endP sv x))).filter fun u => decide (u.at_ < untilZ year)) ((turns_rise he hy1 hy2).sublist (List.filter_sublist.trans List.filter_sublist)) (Int.le_of_lt hab) (fun u hu => by
      obtain ⟨h1, _⟩ := List.mem_filter.1 hu
      obtain ⟨h3, h4⟩ := List.mem_filter.1 h1
      unfold inE at h4
      rw [decide_eq_true_eq] at h4
      refine ⟨h4.1, ?_, turns_from he hy1 hy2 h3⟩
      rcases Int.lt_or_le u.at_ (endP sv x) with h5 | h5
      · exact h5
      · exact absurd ⟨ht, h5⟩ h4.2)
    have e : cntE rs sv year a (x :: y :: es) = 1 + (((turnsE rs year x).filter (inE x a (endP sv x))).filter fun u => decide (u.at_ < untilZ year)).length + cntE rs sv year (endP sv x) (y :: es) := rfl
    rw [e]
    simp only [List.length_cons] at ih ⊢
    omega
/-- All ends lie ahead of the year behind the next one of the greatest year. -/
theorem end_early {s : Src} (h : checkB s = noFlaw) {z : ZoneM} (hz : z ∈ s.zones) {x : Era} (hx : x ∈ z.eras) : endP (svF s) x < janI (lastZ s.rules z.eras + 2) * 86400 := by
  have hs := (clean_parts h).1
  have hb := (zone_w h hz).era x hx
  have hy := zone_year h hz
  have hxy := ((lastZ_ge s.rules z.eras 2037 (by omega)).2 x hx).2
  have hxy2 : x.year ≤ lastZ s.rules z.eras := hxy
  obtain ⟨⟨o1, o2⟩, _, _, ⟨s1, s2⟩, _⟩ := era_parts hb
  obtain ⟨v1, v2⟩ := svF_bd hs x
  have hj := jan_mono (a := 2039) (b := lastZ s.rules z.eras + 2) (by omega)
  have h39 : janI 2039 = 25202 := by decide
  have h40 := jan_mono (a := lastZ s.rules z.eras + 2) (b := 10001) (by omega)
  have h41 : janI 10001 = 2933263 := by decide
  have ht : -8900000000000 ≤ endT x ∧ endT x < (janI (lastZ s.rules z.eras + 2) - 349) * 86400 := by
    unfold endT
    cases ho : localO x.spot x.year with
    | none => simp only [Option.getD_none]; omega
    | some n =>
      have hn := local_near ho
      obtain ⟨_, hx1, _, _⟩ := local_form ho
      have g0 := jan_mono (a := 1) (b := x.year) hx1
      have g00 : janI 1 = -719162 := by decide
      have g1 := jan_mono (a := x.year + 2) (b := lastZ s.rules z.eras + 2) (by omega)
      have g2 := jan_mono (a := x.year) (b := x.year + 2) (by omega)
      simp only [Option.getD_some]
      omega
  have hsv : -43200 ≤ savI x (svF s x) ∧ savI x (svF s x) ≤ 43200 := by
    unfold savI
    split <;> omega
  have ha : -8900000086400 ≤ endA x ∧ endA x < (janI (lastZ s.rules z.eras + 2) - 347) * 86400 := by
    unfold endA
    split
    · omega
    · unfold wrap64; omega
  unfold endP
  split
  · unfold endI
    split
    · unfold wrap64; omega
    · omega
  · omega
/-- Rules whose years lie so. -/
def YrsP (rs : List Rule) : Prop := ∃ lo hi : Int, (lo ≤ hi ∧ 0 ≤ hi ∧ hi - lo ≤ 600) ∧ ∀ r ∈ rs, lo ≤ r.lo ∧ (r.hi = 1000000 ∨ r.hi ≤ hi)
theorem cnt_ok {s : Src} (h : checkB s = noFlaw) {z : ZoneM} (hz : z ∈ s.zones) (hy : YrsP s.rules) : cntE s.rules (svF s) (lastZ s.rules z.eras) everT z.eras ≤ 29999 := by
  obtain ⟨lo, hi, ⟨h1, h2, h3⟩, h4⟩ := hy
  have hyr := zone_year h hz
  have hw := zone_w h hz
  have hu := until_is (year := lastZ s.rules z.eras) (by omega) (by omega)
  have hj3 := jan_mono (a := lastZ s.rules z.eras + 2) (b := lastZ s.rules z.eras + 3) (by omega)
  have hj1 := jan_mono (a := 2040) (b := lastZ s.rules z.eras + 3) (by omega)
  have h40 : janI 2040 = 25567 := by decide
  have hc := cnt_le (rs := s.rules) (sv := svF s) (year := lastZ s.rules z.eras) (by omega) (by omega) h1 z.eras everT (by rw [hu]; unfold everT; omega) (ends_ok h hz) (fun x hx => ⟨era_ok h hz hx, ⟨src_right (clean_parts h).1 _, (set_ok h _).1, (set_ok h _).2.2, fun r hr => h4 r (setL_mem.1 hr).1⟩, by
    have := end_early h hz hx
    rw [hu]
    omega⟩)
  have hyd : yearD (untilZ (lastZ s.rules z.eras) / 86400) ≤ lastZ s.rules z.eras + 3 := by
    rw [hu]
    have e : janI (lastZ s.rules z.eras + 3) * 86400 / 86400 = janI (lastZ s.rules z.eras + 3) := by omega
    rw [e]
    have hi1 := (year_in (janI (lastZ s.rules z.eras + 3))).1
    by_cases hc : yearD (janI (lastZ s.rules z.eras + 3)) ≤ lastZ s.rules z.eras + 3
    · exact hc
    · have := jan_mono (a := lastZ s.rules z.eras + 3) (b := yearD (janI (lastZ s.rules z.eras + 3))) (by omega)
      omega
  have hle := hw.le
  have g1 : 0 ≤ wgt lo hi (yearD (everT / 86400) - 1) := by unfold wgt; omega
  have g2 : wgt lo hi (yearD (untilZ (lastZ s.rules z.eras) / 86400) - 1) ≤ 6010 + 2 * 10002 := by unfold wgt; omega
  omega
end Go.Proofs.YtdicedpklpadgaaGreatDoor.Cmq
end
section
namespace Go.Proofs.YtdicedpklpadgaaGreatDoor.Cmq
open Go.RowKit Mem Civ Mom Img Plc Rul Ahd Trn Src Snd Att Rgt Abr

/-! ### Texts -/
theorem replace1 (s old new : List UInt8) : Lib.replace s old new 1 = s ∨ ∃ i j, Lib.replace s old new 1 = s.take i ++ new ++ s.drop (i + j) ∧ j = old.length := by
  unfold Lib.replace
  split
  · exact .inl rfl
  · have : Lib.replaceNum s old 1 = 0 ∨ Lib.replaceNum s old 1 = 1 := by
      unfold Lib.replaceNum
      split
      · left; omega
      · right; rfl
    rcases this with h | h
    · rw [h]; exact .inl rfl
    · rw [h, Lib.replaceK]
      split
      · exact .inl rfl
      · exact .inr ⟨_, _, rfl, rfl⟩
theorem replace1_mem {s old new : List UInt8} {x : UInt8} (h : x ∈ Lib.replace s old new 1) : x ∈ s ∨ x ∈ new := by
  rcases replace1 s old new with e | ⟨i, j, e, _⟩
  · rw [e] at h; exact .inl h
  · rw [e] at h
    rcases List.mem_append.1 h with h | h
    · rcases List.mem_append.1 h with h | h
      · exact .inl (List.mem_of_mem_take h)
      · exact .inr h
    · exact .inl (List.mem_of_mem_drop h)
theorem replace1_len (s old new : List UInt8) : (Lib.replace s old new 1).length ≤ s.length + new.length := by
  rcases replace1 s old new with e | ⟨i, j, e, _⟩
  · rw [e]; omega
  · rw [e]
    simp only [List.length_append, List.length_take, List.length_drop]
    omega
theorem cut_mem {s sep : List UInt8} {x : UInt8} : (x ∈ (Lib.cut s sep).1 → x ∈ s) ∧ (x ∈ (Lib.cut s sep).2.1 → x ∈ s) := by
  unfold Lib.cut
  split
  · exact ⟨List.mem_of_mem_take, List.mem_of_mem_drop⟩
  · exact ⟨fun h => h, fun h => by simp at h⟩
theorem size_list (b : ByteArray) : b.size = b.data.toList.length := Lib.size_eq b
def okText (b : ByteArray) : Prop := ∀ c ∈ b.data.toList, byteOk c = true
theorem digB_ok {n : Int} (h0 : 0 ≤ n) (h1 : n ≤ 9) : byteOk (digB n) = true := by
  rcases (by omega : n = 0 ∨ n = 1 ∨ n = 2 ∨ n = 3 ∨ n = 4 ∨ n = 5 ∨ n = 6 ∨ n = 7 ∨ n = 8 ∨ n = 9) with rfl | rfl | rfl | rfl | rfl | rfl | rfl | rfl | rfl | rfl <;> decide
theorem ok_append {a b : ByteArray} (h : okText a) (k : okText b) : okText (a ++ b) := by
  intro c hc
  rw [ByteArray.data_append, Array.toList_append, List.mem_append] at hc
  exact hc.elim (h c) (k c)
theorem twoB_ok (n : Int) : okText (twoB n) := by
  intro c hc
  simp only [twoB, List.mem_cons, List.not_mem_nil, or_false] at hc
  rcases hc with rfl | rfl
  · exact digB_ok (by omega) (by omega)
  · exact digB_ok (by omega) (by omega)
theorem toldB_ok (n : Int) : okText (toldB n) := by
  have hp : okText ⟨#[43]⟩ := by intro c hc; simp at hc; subst hc; decide
  have hm : okText ⟨#[45]⟩ := by intro c hc; simp at hc; subst hc; decide
  have key : ∀ (g : ByteArray) (a b c : Int), okText g → okText (partsB g a b c) := by
    intro g a b c hg
    unfold partsB
    split
    · exact ok_append hg (twoB_ok _)
    · split
      · exact ok_append (ok_append hg (twoB_ok _)) (twoB_ok _)
      · exact ok_append (ok_append (ok_append hg (twoB_ok _)) (twoB_ok _)) (twoB_ok _)
  unfold toldB
  split
  · exact key _ _ _ _ hm
  · exact key _ _ _ _ hp
/-- What a phase is called may be, where its format and its letter may be. -/
theorem abbr_ok {f l : ByteArray} (hf : okText f) (hl : okText l) (hf2 : f.size ≤ 20) (hl2 : l.size ≤ 8) (off save : Int) : okText (abbrB f l off save) ∧ (abbrB f l off save).size ≤ 40 := by
  have ht := told_size off
  rw [size_list] at hf2 hl2 ht
  unfold abbrB
  split
  · refine ⟨fun c hc => ?_, ?_⟩
    · rcases replace1_mem hc with h | h
      · exact hf c h
      · exact hl c h
    · have := replace1_len f.data.toList [37, 115] l.data.toList
      rw [size_list]
      show (Lib.replace f.data.toList [37, 115] l.data.toList 1).length ≤ 40
      omega
  · split
    · refine ⟨fun c hc => ?_, ?_⟩
      · rcases replace1_mem hc with h | h
        · exact hf c h
        · exact toldB_ok off c h
      · have := replace1_len f.data.toList [37, 122] (toldB off).data.toList
        rw [size_list]
        show (Lib.replace f.data.toList [37, 122] (toldB off).data.toList 1).length ≤ 40
        omega
    · have hc := cut_le f.data.toList [47]
      split
      · refine ⟨fun c h => hf c (cut_mem.2 h), ?_⟩
        rw [size_list]
        show (Lib.cut f.data.toList [47]).2.1.length ≤ 40
        omega
      · refine ⟨fun c h => hf c (cut_mem.1 h), ?_⟩
        rw [size_list]
        show (Lib.cut f.data.toList [47]).1.length ≤ 40
        omega
theorem index_in : ∀ {l : List UInt8} {c : UInt8}, ¬ Lib.indexByte l c < 0 → c ∈ l
  | [], c, h => absurd (show Lib.indexByte [] c < 0 by unfold Lib.indexByte; decide) h
  | b :: l, c, h => by
    unfold Lib.indexByte at h
    split at h
    · next he =>
      rw [beq_iff_eq] at he
      simp [he]
    · split at h
      · omega
      · next hn =>
        have hg := Lib.indexByte_ge l c
        have : ¬ Lib.indexByte l c = -1 := fun e => hn (by simp [e])
        exact List.mem_cons_of_mem _ (index_in (by omega))
theorem ok_byte {others : List UInt8} {c : UInt8} (h : okB others c = true) (ho : ∀ x ∈ others, byteOk x = true) : byteOk c = true := by
  unfold okB at h
  simp only [Bool.or_eq_true, Bool.and_eq_true, Bool.not_eq_true', decide_eq_false_iff_not] at h
  have key : (33 : Int) ≤ c.toNat → (c.toNat : Int) ≤ 126 → byteOk c = true := by
    intro h1 h2
    unfold byteOk
    simp only [Bool.and_eq_true, Bool.not_eq_true', decide_eq_false_iff_not]
    omega
  rcases h with (h | h) | h
  · unfold letterI at h
    simp only [Bool.or_eq_true, Bool.and_eq_true, decide_eq_true_eq] at h
    exact key (by omega) (by omega)
  · exact key (by omega) (by omega)
  · exact ho c (index_in h)
theorem made_ok {b : ByteArray} {n : Nat} {most : Int} {others : List UInt8} (h : madeB b.data.toList most others = true) (ho : ∀ x ∈ others, byteOk x = true) (hm : most ≤ n) : okText b ∧ b.size ≤ n := by
  unfold madeB at h
  simp only [Bool.and_eq_true, decide_eq_true_eq] at h
  refine ⟨fun c hc => ok_byte (List.all_eq_true.1 h.1 c hc) ho, ?_⟩
  rw [size_list]
  omega
theorem format_ok {f : ByteArray} (h : formatB f.data.toList = true) : okText f ∧ f.size ≤ 20 := by
  unfold formatB at h
  rw [Bool.and_eq_true] at h
  exact made_ok (n := 20) h.1 (by decide) (by omega)
theorem letter_ok {l : ByteArray} (h : letterB l = true) : okText l ∧ l.size ≤ 8 := by
  unfold letterB at h
  rw [Bool.or_eq_true, decide_eq_true_eq] at h
  rcases h with h | h
  · rw [ByteArray.toList_eq] at h
    refine ⟨fun c hc => ?_, ?_⟩
    · rw [h] at hc; simp at hc
    · rw [size_list, h]; decide
  · rw [Bool.and_eq_true] at h
    exact made_ok (n := 8) h.2 (by decide) (by omega)
theorem ruleR_letter {r : Rule} (h : ruleR r = true) : letterB r.letter = true := by
  unfold ruleR at h
  simp only [Bool.and_eq_true] at h
  exact h.2.2.2.2.2
/-! ### Phases -/
/-- What a saving and a letter must be. -/
def SavOk (x : Era) (f : Int × ByteArray) : Prop := (-43200 ≤ f.1 ∧ f.1 ≤ 43200) ∧ (-86400 < x.off + f.1 ∧ x.off + f.1 < 86400) ∧ okText f.2 ∧ f.2.size ≤ 8
theorem phaseG_ok {x : Era} (hx : eraB x = true) {f : Int × ByteArray} (h : SavOk x f) : phaseB (phaseG x f) = true := by
  obtain ⟨⟨h1, h2⟩, ⟨h3, h4⟩, h5, h6⟩ := h
  unfold eraB at hx
  simp only [Bool.and_eq_true] at hx
  obtain ⟨g1, g2⟩ := format_ok hx.1.2
  obtain ⟨a1, a2⟩ := abbr_ok g1 h5 g2 h6 (x.off + f.1) f.1
  unfold phaseB phaseG dayB
  simp only [Bool.and_eq_true, decide_eq_true_eq]
  exact ⟨List.all_eq_true.2 a1, ⟨⟨⟨h3, h4⟩, h1⟩, h2⟩, by omega⟩
theorem force_from (rs : List Rule) (off t : Int) : (∃ r ∈ rs, forceP rs off t = (r.save, r.letter)) ∨ (∃ r ∈ rs, forceP rs off t = (0, r.letter)) ∨ forceP rs off t = (0, ⟨#[]⟩) := by
  unfold forceP
  split
  · cases hx : latestL (fun x => decide (uniT rs off x ≤ t)) (yearI t) rs with
    | some x =>
      obtain ⟨r, hm, z, hz⟩ := latest_from hx
      obtain ⟨_, e1, e2, _⟩ := turnL_at hz
      exact .inl ⟨r, hm, by simp only [giveO, e1, e2]⟩
    | none =>
      cases hf : firstO rs with
      | none => exact .inr (.inr (by simp [giveO, firstP, hf, noTurn]))
      | some x =>
        obtain ⟨r, hm, z, hz⟩ := first_from hf
        obtain ⟨_, _, e2, _⟩ := turnL_at hz
        exact .inr (.inl ⟨r, hm, by simp [giveO, firstP, hf, e2]⟩)
  · exact .inr (.inr rfl)
theorem none_ok : okText ⟨#[]⟩ ∧ (⟨#[]⟩ : ByteArray).size ≤ 8 := ⟨fun c hc => by simp at hc, by decide⟩
section
variable {s : Src} (h : checkB s = noFlaw) {z : ZoneM} (hz : z ∈ s.zones) {x : Era} (hx : x ∈ z.eras)
include h hz hx
theorem era_day : (-86400 < x.off + x.save ∧ x.off + x.save < 86400) ∧ (x.kind = 2 → ∀ r ∈ setL s.rules x.rules, -86400 < x.off + r.save ∧ x.off + r.save < 86400) := by
  have hw := zone_w h hz
  obtain ⟨⟨o1, o2⟩, _, _, ⟨s1, s2⟩, _⟩ := era_parts (hw.era x hx)
  obtain ⟨k, hk, e⟩ := List.mem_iff_getElem.1 hx
  have he := hw.err k x (by rw [List.getElem?_eq_getElem hk, e])
  unfold eraE at he
  split at he
  · omega
  · split at he
    · omega
    · next hn =>
      split at he
      · omega
      · next hd =>
        have w1 : wrap64 (x.off + x.save) = x.off + x.save := by unfold wrap64; omega
        rw [w1] at hd
        unfold dayB at hd
        simp only [Bool.not_eq_false, Bool.and_eq_true, decide_eq_true_eq] at hd
        refine ⟨hd, fun hk2 r hr => ?_⟩
        have hf : farB x.off (setL s.rules x.rules) = false := by
          cases hb : farB x.off (setL s.rules x.rules)
          · rfl
          · exact absurd ⟨hk2, hb⟩ hn
        unfold farB at hf
        rw [Bool.not_eq_false', List.all_eq_true] at hf
        have h1 := hf r hr
        have h2 := rule_save (src_right (clean_parts h).1 _) hr
        have w2 : wrap64 (x.off + r.save) = x.off + r.save := by unfold wrap64; omega
        rw [w2] at h1
        unfold dayB at h1
        simpa using h1
theorem rule_sav (hk : x.kind = 2) {r : Rule} (hr : r ∈ setL s.rules x.rules) : SavOk x (r.save, r.letter) := by
  have hs := (clean_parts h).1
  have h1 := rule_save (src_right hs _) hr
  obtain ⟨l1, l2⟩ := letter_ok (ruleR_letter (src_rules hs r (setL_mem.1 hr).1))
  exact ⟨⟨h1.1, h1.2.1⟩, (era_day h hz hx).2 hk r hr, l1, l2⟩
theorem sav_ok (t : Int) : SavOk x (savE s.rules x t) := by
  have hs := (clean_parts h).1
  obtain ⟨⟨o1, o2⟩, _, _, ⟨s1, s2⟩, _, s0, _⟩ := era_parts ((zone_w h hz).era x hx)
  unfold savE
  split
  · next hk =>
    have e : setOf s.rules x = setL s.rules x.rules := by unfold setOf; rw [if_pos hk]
    rw [e]
    rcases force_from (setL s.rules x.rules) x.off t with ⟨r, hr, e⟩ | ⟨r, hr, e⟩ | e
    · rw [e]; exact rule_sav h hz hx hk hr
    · rw [e]
      obtain ⟨_, _, l1, l2⟩ := rule_sav h hz hx hk hr
      exact ⟨by omega, by simp only; omega, l1, l2⟩
    · rw [e]
      exact ⟨by omega, by simp only; omega, none_ok.1, none_ok.2⟩
  · split
    · exact ⟨⟨s1, s2⟩, (era_day h hz hx).1, none_ok.1, none_ok.2⟩
    · exact ⟨by omega, by simp only; omega, none_ok.1, none_ok.2⟩
theorem phaseE_ok (t : Int) : phaseB (phaseE s.rules x t) = true := phaseG_ok ((zone_w h hz).era x hx) (sav_ok h hz hx t)
theorem turnsE_ok {u : TurnU} (hu : u ∈ turnsE s.rules (lastZ s.rules z.eras) x) : phaseB (phaseU x u) = true := by
  have he := era_ok h hz hx
  have hy := zone_year h hz
  have hk : x.kind = 2 := by
    by_cases hk : x.kind = 2
    · exact hk
    · exfalso
      unfold turnsE turnsP at hu
      rw [he.none_ hk] at hu
      simp at hu
  obtain ⟨l, l1, _, l3⟩ := turns_list (last := lastZ s.rules z.eras + 3) he.right he.crowd he.far he.off.1 he.off.2 (by have := he.last; omega) (by omega)
  unfold turnsE at hu
  rw [l1] at hu
  obtain ⟨t, ht, rfl⟩ := List.mem_map.1 hu
  obtain ⟨⟨r, hr, y, hy⟩, _⟩ := (l3 t).1 ht
  obtain ⟨_, e1, e2, _⟩ := turnL_at hy
  have := phaseG_ok ((zone_w h hz).era x hx) (rule_sav h hz hx hk hr)
  show phaseB (phaseG x (t.save, t.letter)) = true
  rw [e1, e2]
  exact this
end
/-! ### Shifts -/
def PhOk (l : List Shift) : Prop := ∀ s ∈ l, phaseB s.ph = true
theorem cut_ph {a : Int} {l : List Shift} (h : PhOk l) : PhOk (cutAt a l) := by
  unfold cutAt
  split
  · split
    · exact fun s hs => h s ((List.dropLast_sublist _).subset hs)
    · exact h
  · exact h
theorem put_ph {first : Phase} {till : Int} {m : List Shift × Bool} {a : Int} {p : Phase} (h : PhOk m.1) (hp : phaseB p = true) : PhOk (putP first till m a p).1 := by
  unfold putP
  split
  · exact cut_ph h
  · split
    · exact cut_ph h
    · intro s hs
      rcases List.mem_append.1 hs with hs | hs
      · exact cut_ph h s hs
      · have : s = ⟨a, p⟩ := by simpa using hs
        subst this
        exact hp
theorem turns_ph {first : Phase} {till : Int} {x : Era} {a b : Int} : ∀ (l : List TurnU) (m : List Shift × Bool), PhOk m.1 → (∀ u ∈ l, phaseB (phaseU x u) = true) → PhOk (l.foldl (turnPut first till x a b) m).1
  | [], _, h, _ => h
  | t :: l, m, h, hl => by
    refine turns_ph l _ ?_ fun u hu => hl u (by simp [hu])
    unfold turnPut
    split
    · exact h
    · exact put_ph h (hl t (by simp))
theorem eras_ph {s : Src} (h : checkB s = noFlaw) {z : ZoneM} (hz : z ∈ s.zones) (first : Phase) (till : Int) : ∀ (es : List Era) (i : Bool) (m : (List Shift × Bool) × Int), (∀ x ∈ es, x ∈ z.eras) → PhOk m.1.1 → PhOk (erasPut s first till (lastZ s.rules z.eras) es i m).1.1
  | [], _, _, _, hm => hm
  | x :: es, i, m, he, hm => by
    rw [erasPut]
    refine eras_ph h hz first till es true _ (fun u hu => he u (by simp [hu])) ?_
    unfold eraPut
    refine turns_ph _ _ ?_ fun u hu => turnsE_ok h hz (he x (by simp)) hu
    split
    · exact put_ph hm (phaseE_ok h hz (he x (by simp)) _)
    · exact hm
theorem diff_at : ∀ {ss : List Shift} {p : Phase}, Diff p ss → ∀ (k : Nat) (s : Shift), ss[k]? = some s → s.ph ≠ hadAt p ss k
  | [], _, _, _, _, h => by simp at h
  | a :: t, p, hd, k, s, h => by
    cases k with
    | zero =>
      simp only [List.getElem?_cons_zero, Option.some.injEq] at h
      subst h
      exact hd.1
    | succ k =>
      rw [List.getElem?_cons_succ] at h
      have := diff_at hd.2 k s h
      cases k with
      | zero => exact this
      | succ j =>
        have hj : j < t.length := by
          have := (List.getElem?_eq_some_iff.1 h).1
          omega
        simp only [hadAt, List.getElem?_cons_succ, List.getElem?_eq_getElem hj, Option.map_some, Option.getD_some] at this ⊢
        exact this
theorem shifts_right {first : Phase} {till a : Int} {ss : List Shift} (h : Gd first till a ss) (hp : PhOk ss) {nm fm : ByteArray} {tl : List Rule} {off : Int} : shiftsB ⟨nm, first, ss, till, tl, off, fm⟩ = true := by
  unfold shiftsB
  rw [List.all_eq_true]
  intro k hk
  have hk2 : k < ss.length := List.mem_range.1 hk
  unfold okAt
  simp only [List.getElem?_eq_getElem hk2]
  simp only [Bool.and_eq_true, Bool.not_eq_true', decide_eq_false_iff_not]
  have hm := List.getElem_mem hk2
  refine ⟨hp _ hm, diff_at h.diff k _ (List.getElem?_eq_getElem hk2), by have := h.till _ hm; omega, ?_⟩
  cases k with
  | zero => rfl
  | succ j =>
    have hj : j < ss.length := by omega
    have := (List.pairwise_iff_getElem.1 h.rise) j (j + 1) hj hk2 (by omega)
    unfold secOk
    simp only [List.getElem?_eq_getElem hj, List.getElem?_eq_getElem hk2]
    simp only [Bool.not_eq_true', decide_eq_false_iff_not]
    omega
/-! ### The tail -/
theorem rawT_sub {rs rs' : List Rule} (h : rs'.Sublist rs) (y : Int) : (rawT rs' y).Sublist (rawT rs y) := by
  unfold rawT
  exact h.filterMap _
theorem far_sub {rs rs' : List Rule} (h : rs'.Sublist rs) {y : Int} (hf : FarY rs y) : FarY rs' y :=
  ⟨hf.1.sublist (rawT_sub h y), fun a ha b hb => hf.2 a ((rawT_sub h y).subset ha) b ((rawT_sub h (y - 1)).subset hb)⟩
theorem near_none {rs : List Rule} (hr : rulesB rs = true) (hf : ∀ y, FarY rs y) : ∀ (n : Nat) (y : Int) (had : List Turn), (∀ a ∈ turnsL rs y, ∀ b ∈ had, Far a b) → nearYears rs n y had = false
  | 0, _, _, _ => rfl
  | n + 1, y, had, hh => by
    have hp := turnsL_perm hr y
    have hp1 := turnsL_perm hr (y + 1)
    rw [nearYears, Bool.or_eq_false_iff]
    refine ⟨nearer_of ((hp.pairwise_iff (fun h => Far.symm h)).2 (hf y).1) hh, near_none hr hf n (y + 1) _ fun a ha b hb => ?_⟩
    have h2 := (hf (y + 1)).2 a (hp1.subset ha)
    rw [show y + 1 - 1 = y from by omega] at h2
    exact h2 b (hp.subset hb)
theorem tail_near {rs : List Rule} (hr : rulesB rs = true) (hf : ∀ y, FarY rs y) : nearB rs = false := by
  unfold nearB
  rw [near_none hr hf _ _ [] (fun _ _ _ h => by simp at h)]
  simp
/-- A compiled table's tail is right. -/
theorem tail_right {s : Src} (h : checkB s = noFlaw) {z : ZoneM} (hz : z ∈ s.zones) : tailB (tableZ s z) = true := by
  have hw := zone_w h hz
  have hs := (clean_parts h).1
  have hsz := src_zones hs z hz
  unfold zoneB at hsz
  rw [Bool.and_eq_true] at hsz
  obtain ⟨e, hl⟩ : ∃ e, z.eras.getLast? = some e := by
    cases hl : z.eras.getLast? with
    | none =>
      have := List.getLast?_eq_none_iff.1 hl
      have h0 := hw.ne
      rw [this] at h0
      simp at h0
    | some e => exact ⟨e, rfl⟩
  have hm := List.mem_of_getLast? hl
  have ht : tailZ s.rules z.eras = (setL s.rules e.rules).filter fun r => decide (r.hi = 1000000) := by unfold tailZ; rw [hl]
  obtain ⟨T, hT⟩ : ∃ T, tailZ s.rules z.eras = T := ⟨_, rfl⟩
  have ho : offZ s.rules z.eras = if T.length = 0 then 0 else e.off := by unfold offZ; rw [hl]; simp only [hT]
  have hfm : formatZ s.rules z.eras = if T.length = 0 then ⟨#[]⟩ else e.format := by unfold formatZ; rw [hl]; simp only [hT]
  unfold tailB tableZ
  simp only [tryOf, eraOf]
  rw [ho, hfm, hT]
  by_cases h0 : T.length = 0
  · rw [if_pos h0, if_pos h0, if_pos h0, ByteArray.toList_eq]
    rfl
  · rw [if_neg h0, if_neg h0, if_neg h0]
    have hsub : T.Sublist (setL s.rules e.rules) := by rw [← hT, ht]; exact List.filter_sublist
    have hk : e.kind = 2 := by
      by_cases hk : e.kind = 2
      · exact hk
      · exfalso
        have := (era_ok h hz hm).none_ hk
        rw [this] at hsub
        exact h0 (by rw [List.sublist_nil.1 hsub]; rfl)
    have hlen : T.length ≤ 2 := by
      have := (set_ok h e.rules).2.2
      unfold everN at this
      rw [← hT, ht]
      exact this
    have he := hw.era e hm
    have hin : ∀ r ∈ T, r ∈ setL s.rules e.rules ∧ r.hi = 1000000 := fun r hr => by
      rw [← hT, ht] at hr
      obtain ⟨h1, h2⟩ := List.mem_filter.1 hr
      exact ⟨h1, by simpa using h2⟩
    have hd := (era_day h hz hm).2 hk
    have hR : rulesB T = true := List.all_eq_true.2 fun r hr => List.all_eq_true.1 (src_right hs e.rules) r (hin r hr).1
    have hN : nearB T = false := tail_near hR fun y => far_sub hsub (set_far h e.rules y)
    have hA : T.all (tailR e.off) = true := List.all_eq_true.2 fun r hr => by
      obtain ⟨h1, h2⟩ := hin r hr
      have h3 := hd r h1
      have w2 : wrap64 (e.off + r.save) = e.off + r.save := by unfold wrap64; omega
      unfold tailR dayB
      rw [w2, h2]
      simp [h3.1, h3.2]
    have hS : srcB ⟨T, [⟨z.name, [⟨e.off, 0, 0, ⟨#[]⟩, e.format, false, 0, ⟨0, 0, 0, 0, 0, 0⟩⟩], none, 0⟩], []⟩ = true := by
      unfold eraB at he
      simp only [Bool.and_eq_true] at he
      have hrr : T.all ruleR = true := List.all_eq_true.2 fun r hr => src_rules hs r (setL_mem.1 (hin r hr).1).1
      have h200 : decide (200 < T.length) = false := decide_eq_false (by omega)
      simp [srcB, zoneB, erasOk, eraB, kindB, tillB, hsz.1, he.1.1, he.1.2, hrr, h200]
    rw [hA, hS, hN]
    simp [hlen]
theorem phOk_made {s : Src} (h : checkB s = noFlaw) {z : ZoneM} (hz : z ∈ s.zones) : PhOk (madeZ s z).1.1 := by
  unfold madeZ
  exact eras_ph h hz _ _ _ _ _ (fun _ h => h) (fun _ h => by simp at h)
/-- A compiled table is right, where its shifts are so many at most. -/
theorem table_right {s : Src} (h : checkB s = noFlaw) {z : ZoneM} (hz : z ∈ s.zones) (hn : cntE s.rules (svF s) (lastZ s.rules z.eras) everT z.eras ≤ 29999) : rightB (tableZ s z) (tailB (tableZ s z)) = true := by
  have hw := zone_w h hz
  have hy := zone_year h hz
  obtain ⟨_, ⟨e, hg⟩, hlen, _⟩ := zone_told (s := s) (z := z) (by omega) (by omega) (ends_ok h hz) (fun x hx => era_ok h hz hx) hn
  have hsz := src_zones (clean_parts h).1 z hz
  unfold zoneB at hsz
  rw [Bool.and_eq_true] at hsz
  have hf : phaseB (firstZ s.rules z.eras) = true := by
    cases hz2 : z.eras with
    | nil => have := hw.ne; rw [hz2] at this; simp at this
    | cons x es => exact phaseE_ok h hz (by rw [hz2]; simp) _
  unfold rightB
  rw [tail_right h hz]
  have hsh : shiftsB (tableZ s z) = true := shifts_right hg (phOk_made h hz)
  rw [hsh]
  have hl : decide ((30000 : Int) < (tableZ s z).shifts.length) = false := decide_eq_false (by show ¬ (30000 : Int) < ((madeZ s z).1.1.length : Nat); omega)
  rw [hl]
  show ((placeB z.name && (phaseB (firstZ s.rules z.eras) && (!false && true))) && true) = true
  rw [hsz.1, hf]
  rfl
end Go.Proofs.YtdicedpklpadgaaGreatDoor.Cmq
end
section
namespace Go.Proofs.YtdicedpklpadgaaGreatDoor.Cmq
open Go.RowKit Mem Civ Mom Img Plc Rul Ahd Trn Src Snd Att Rgt Abr Sch

/-! ### Shifts found by halves -/
theorem tell_skip {t : Int} : ∀ {l : List Shift} {p : Phase}, (∀ s ∈ l, t < s.sec) → l.foldl (fun p s => if s.sec ≤ t then s.ph else p) p = p
  | [], _, _ => rfl
  | a :: l, p, h => by
    rw [List.foldl_cons, if_neg (by have := h a (by simp); omega)]
    exact tell_skip fun s hs => h s (by simp [hs])
theorem tell_at {first : Phase} {ss : List Shift} {t : Int} {n : Nat} (hn : n ≤ ss.length) (h1 : ∀ i (hi : i < ss.length), i < n → ss[i].sec ≤ t) (h2 : ∀ i (hi : i < ss.length), n ≤ i → t < ss[i].sec) : tellL first ss t = hadAt first ss n := by
  have e1 : tellL first ss t = tellL first (ss.take n) t := by
    conv => lhs; rw [← List.take_append_drop n ss]
    unfold tellL
    rw [List.foldl_append]
    refine tell_skip fun s hs => ?_
    obtain ⟨i, hi, e⟩ := List.mem_iff_getElem.1 hs
    rw [List.getElem_drop] at e
    rw [← e]
    exact h2 _ _ (by omega)
  have e2 : tellL first (ss.take n) t = lastPh first (ss.take n) := tell_late fun s hs => by
    obtain ⟨i, hi, e⟩ := List.mem_iff_getElem.1 hs
    rw [List.getElem_take] at e
    rw [← e]
    rw [List.length_take] at hi
    exact h1 _ _ (by omega)
  rw [e1, e2]
  cases n with
  | zero => rfl
  | succ k =>
    have hk : k < ss.length := by omega
    rw [List.take_succ_eq_append_getElem hk, lastPh_snoc']
    simp only [hadAt, List.getElem?_eq_getElem hk, Option.map_some, Option.getD_some]
theorem shift_tell {first : Phase} {ss : List Shift} {t : Int} (hr : ss.Pairwise fun x y => x.sec < y.sec) : hadAt first ss (searchF (shiftF ss t) ss.length 0 ss.length) = tellL first ss t := by
  have hf : ∀ i (hi : i < ss.length), shiftF ss t i = decide (t < ss[i].sec) := fun i hi => by
    unfold shiftF
    rw [List.getElem?_eq_getElem hi, Option.map_some, Option.getD_some]
  have hmono : ∀ a b, a ≤ b → b < ss.length → shiftF ss t a = true → shiftF ss t b = true := fun a b hab hb h => by
    rw [hf a (by omega), decide_eq_true_eq] at h
    rw [hf b hb, decide_eq_true_eq]
    rcases Nat.eq_or_lt_of_le hab with rfl | hlt
    · exact h
    · have := List.pairwise_iff_getElem.1 hr a b (by omega) hb hlt
      omega
  obtain ⟨h1, h2⟩ := search_first (f := shiftF ss t) (n := ss.length) hmono ss.length 0 ss.length (by omega) (Nat.zero_le _) (Nat.le_refl _) (fun i hi => by omega) (fun i hi1 hi2 => by omega)
  have hle := search_le (shiftF ss t) ss.length 0 ss.length (Nat.zero_le _)
  refine (tell_at hle (fun i hi hin => ?_) fun i hi hin => ?_).symm
  · have := h1 i hin
    rw [hf i hi] at this
    have := of_decide_eq_false this
    omega
  · have := h2 i hin hi
    rw [hf i hi] at this
    exact of_decide_eq_true this
/-! ### What is in force -/
theorem force_latest {S : List Rule} {off t : Int} (hr : rulesB S = true) (hf : ∀ y, FarY S y) (h1 : -86400 < off) (h2 : off < 86400) {x : Turn} (hx : IsLatest S (fun y => decide (uniT S off y ≤ t)) x) : forceP S off t = (x.save, x.letter) := by
  obtain ⟨s1, s2⟩ := force_spec (rs := S) (off := off) (t := t) hr h1 h2
  unfold forceP
  rw [if_pos ⟨hr, h1, h2⟩]
  cases hl : latestL (fun y => decide (uniT S off y ≤ t)) (yearI t) S with
  | none => exact absurd (of_decide_eq_true hx.2.1) (s2 hl x hx.1)
  | some y =>
    have := same_latest hf (s1 y hl) hx
    rw [this]
    rfl
theorem force_none {S : List Rule} {off t : Int} (hr : rulesB S = true) (h1 : -86400 < off) (h2 : off < 86400) (hx : ∀ u, Gt S u → ¬ uniT S off u ≤ t) : forceP S off t = (0, firstP S) := by
  obtain ⟨s1, s2⟩ := force_spec (rs := S) (off := off) (t := t) hr h1 h2
  unfold forceP
  rw [if_pos ⟨hr, h1, h2⟩]
  cases hl : latestL (fun y => decide (uniT S off y ≤ t)) (yearI t) S with
  | none => rfl
  | some y =>
    obtain ⟨g1, g2, _⟩ := s1 y hl
    exact absurd (of_decide_eq_true g2) (hx y g1)
theorem force_pick {S : List Rule} {off t : Int} (hr : rulesB S = true) (h1 : -86400 < off) (h2 : off < 86400) {u : Turn} (hu : Gt S u) (hut : uniT S off u ≤ t) : ∃ x, IsLatest S (fun y => decide (uniT S off y ≤ t)) x := by
  obtain ⟨s1, s2⟩ := force_spec (rs := S) (off := off) (t := t) hr h1 h2
  cases hl : latestL (fun y => decide (uniT S off y ≤ t)) (yearI t) S with
  | none => exact absurd hut (s2 hl u hu)
  | some y => exact ⟨y, s1 y hl⟩
/-- Where all turns are over, nothing turns any more. -/
theorem force_over {S : List Rule} {off a b : Int} (hr : rulesB S = true) (hf : ∀ y, FarY S y) (h1 : -86400 < off) (h2 : off < 86400) (ha : ∀ u, Gt S u → uniT S off u ≤ a) (hb : ∀ u, Gt S u → uniT S off u ≤ b) : forceP S off a = forceP S off b := by
  by_cases hu : ∃ u, Gt S u
  · obtain ⟨u, hu⟩ := hu
    obtain ⟨x, hx⟩ := force_pick hr h1 h2 hu (ha u hu)
    have hx2 : IsLatest S (fun y => decide (uniT S off y ≤ b)) x := ⟨hx.1, decide_eq_true (hb x hx.1), fun u hu _ => hx.2.2 u hu (decide_eq_true (ha u hu))⟩
    rw [force_latest hr hf h1 h2 hx, force_latest hr hf h1 h2 hx2]
  · rw [force_none hr h1 h2 fun u hg => absurd ⟨u, hg⟩ hu, force_none hr h1 h2 fun u hg => absurd ⟨u, hg⟩ hu]
theorem jan_at9 : janI 1 = -719162 ∧ janI 275759 = 99999379 := by decide
theorem local_there9 {s : Spot} {y : Int} (hs : spotB s = true) (h1 : 1 ≤ y) (h2 : y ≤ 275759) : ∃ n, localO s y = some n := by
  have hok := spotB_ok hs
  have hm := month_near (y := y) hok.1 hok.2.1
  have hd := day_near hok (y := y) (f := countI y s.month 1) rfl
  have g1 := jan_mono h1
  have g2 := jan_mono h2
  have g3 := jan_at9
  have hdays : daysO y s.month 1 = some (countI y s.month 1) := by
    have hl : ¬ mlen y s.month < 1 := by
      obtain ⟨q1, q2, _⟩ := hok
      unfold mlen
      split
      · omega
      · split
        · split <;> omega
        · split <;> omega
    unfold daysO
    rw [if_neg (by omega), if_neg (by omega)]
  refine ⟨spotDay s (countI y s.month 1) (mlen y s.month) * 86400 + s.time, ?_⟩
  unfold localO onO
  rw [if_neg (by rw [hs]; simp; omega), hdays, Option.bind_some, if_neg (by omega), Option.map_some]
theorem turn_there {r : Rule} (h : Rul.ruleB r = true) {y : Int} (h1 : r.lo ≤ y) (h2 : y ≤ r.hi) (h3 : y ≤ 275759) : ∃ t, turnL y r = some t := by
  have hp : ruleP r := of_decide_eq_true h
  obtain ⟨⟨p1, _⟩, _, p3, _⟩ := hp
  obtain ⟨n, hn⟩ := local_there9 (spotB_true p3) (by omega : 1 ≤ y) h3
  exact ⟨_, by rw [R11.turnL_in h1 h2, hn, Option.map_some]⟩
section
variable {S : List Rule} {off year : Int} (hr : rulesB S = true) (hf : ∀ y, FarY S y) (h1 : -86400 < off) (h2 : off < 86400) (hl : lastY S ≤ year) (hy1 : 1 ≤ year) (hy2 : year ≤ 10000)
/-- The rules without an end. -/
def evers (S : List Rule) : List Rule := S.filter fun r => decide (r.hi = 1000000)
theorem evers_sub (S : List Rule) : (evers S).Sublist S := List.filter_sublist
theorem evers_gt {S : List Rule} {u : Turn} (h : Gt (evers S) u) : Gt S u := by
  obtain ⟨r, hm, z, hz⟩ := h
  exact ⟨r, (evers_sub S).subset hm, z, hz⟩
include hl in
/-- A turn that is no late one, or is one of a rule without an end. -/
theorem old_or {u : Turn} (h : Gt S u) : u.at_ < (janI year + 379) * 86400 ∨ Gt (evers S) u := by
  obtain ⟨r, hm, z, hz⟩ := h
  by_cases hh : r.hi = 1000000
  · exact .inr ⟨r, List.mem_filter.2 ⟨hm, decide_eq_true hh⟩, z, hz⟩
  · left
    have h3 := (lastY_le hm).2 hh
    have h4 : z ≤ r.hi := by
      by_cases hc : z < r.lo ∨ r.hi < z
      · rw [R11.turnL_out hc] at hz; cases hz
      · omega
    have h5 := local_near (turnL_at hz).1
    have h6 := jan_mono (a := z) (b := year) (by omega)
    omega
include hr in
theorem evers_right : rulesB (evers S) = true := List.all_eq_true.2 fun r hm => List.all_eq_true.1 hr r ((evers_sub S).subset hm)
include hr hl hy1 hy2 in
/-- A rule without an end turns late enough, yet ahead of a time behind the third year. -/
theorem late_ever (he : evers S ≠ []) : ∃ u, Gt (evers S) u ∧ (janI year + 379) * 86400 ≤ u.at_ ∧ u.at_ ≤ (janI (year + 3) - 2) * 86400 := by
  obtain ⟨r, t, e⟩ := List.exists_cons_of_ne_nil he
  have hm : r ∈ evers S := by rw [e]; simp
  obtain ⟨hms, hh⟩ := List.mem_filter.1 hm
  have hh : r.hi = 1000000 := of_decide_eq_true hh
  have hlo := (lastY_le hms).1
  have hb := List.all_eq_true.1 hr r hms
  obtain ⟨u1, e1⟩ := turn_there hb (y := year + 1) (by omega) (by omega) (by omega)
  obtain ⟨u2, e2⟩ := turn_there hb (y := year + 2) (by omega) (by omega) (by omega)
  have n1 := local_near (turnL_at e1).1
  have n2 := local_near (turnL_at e2).1
  have e2' := (turnL_at e2).1
  rw [show year + 2 = year + 1 + 1 from by omega] at e2'
  have g := rule_gap (turnL_at e1).1 e2'
  have j1 := jan_mono (a := year) (b := year + 1) (by omega)
  have j2 := jan_mono (a := year + 1) (b := year + 2) (by omega)
  have j3 := jan_mono (a := year + 2) (b := year + 3) (by omega)
  by_cases hc : u2.at_ ≤ (janI (year + 3) - 2) * 86400
  · exact ⟨u2, ⟨r, hm, _, e2⟩, by omega, hc⟩
  · exact ⟨u1, ⟨r, hm, _, e1⟩, by omega, by omega⟩
include hr hf hl hy1 hy2 in
/-- The saving ahead of a late turn is a rule's without an end. -/
theorem late_ahead {y : Turn} (hy : Gt (evers S) y) (hlate : (janI (year + 3) - 2) * 86400 < y.at_) : aheadO S y.at_ = aheadO (evers S) y.at_ := by
  obtain ⟨r, hm, z, hz⟩ := hy
  obtain ⟨hms, hh⟩ := List.mem_filter.1 hm
  have hh : r.hi = 1000000 := of_decide_eq_true hh
  have hlo := (lastY_le hms).1
  have hb := List.all_eq_true.1 hr r hms
  have n1 := local_near (turnL_at hz).1
  have hz1 : year + 2 ≤ z := by
    by_cases hc : year + 2 ≤ z
    · exact hc
    · have j1 := jan_mono (a := z) (b := year + 1) (by omega)
      have j2 := jan_mono (a := year + 1) (b := year + 3) (by omega)
      omega
  have hz2 : z ≤ 275760 := (local_form (turnL_at hz).1).2.2.1
  obtain ⟨p, ep⟩ := turn_there hb (y := z - 1) (by omega) (by omega) (by omega)
  have ez := (turnL_at hz).1
  rw [show z = z - 1 + 1 from by omega] at ez
  have g := rule_gap (turnL_at ep).1 ez
  have j1 := jan_mono (a := year) (b := year + 3) (by omega)
  have hp : Gt (evers S) p := ⟨r, hm, _, ep⟩
  obtain ⟨a1, a2⟩ := ahead_spec hr y.at_
  obtain ⟨b1, b2⟩ := ahead_spec (evers_right hr) y.at_
  cases ha : aheadO S y.at_ with
  | none => exact absurd (by omega : p.at_ < y.at_) (a2 ha p (evers_gt hp))
  | some v =>
    cases hb2 : aheadO (evers S) y.at_ with
    | none => exact absurd (by omega : p.at_ < y.at_) (b2 hb2 p hp)
    | some v' =>
      obtain ⟨v1, v2, v3⟩ := a1 v ha
      have hv := v3 p (evers_gt hp) (decide_eq_true (by omega))
      have hve : Gt (evers S) v := (old_or hl v1).resolve_left (by omega)
      have hv' := b1 v' hb2
      have : v = v' := same_latest (fun y => far_sub (evers_sub S) (hf y)) (S := evers S) ⟨hve, v2, fun u hu h => v3 u (evers_gt hu) h⟩ hv'
      rw [this]
include hr hf h1 h2 hl hy1 hy2 in
/-- Behind the third year the rules without an end alone are in force. -/
theorem force_evers (he : evers S ≠ []) {t : Int} (ht : janI (year + 3) * 86400 ≤ t) : forceP (evers S) off t = forceP S off t := by
  have hrE := evers_right hr
  have hfE : ∀ y, FarY (evers S) y := fun y => far_sub (evers_sub S) (hf y)
  have key : ∀ y, Gt (evers S) y → (uniT S off y ≤ t ↔ uniT (evers S) off y ≤ t) := fun y hy => by
    by_cases hc : y.at_ ≤ (janI (year + 3) - 2) * 86400
    · obtain ⟨a, e1, ha⟩ := uni_bd hr h1 h2 (evers_gt hy)
      obtain ⟨b, e2, hb⟩ := uni_bd hrE h1 h2 hy
      constructor <;> intro _ <;> omega
    · have := late_ahead hr hf hl hy1 hy2 hy (by omega)
      unfold uniT
      rw [this]
  obtain ⟨u0, g1, g2, g3⟩ := late_ever hr hl hy1 hy2 he
  obtain ⟨a, e1, ha⟩ := uni_bd hr h1 h2 (evers_gt g1)
  obtain ⟨x, hx⟩ := force_pick hr h1 h2 (evers_gt g1) (t := t) (by omega)
  have hxu := hx.2.2 u0 (evers_gt g1) (decide_eq_true (by omega))
  have hxe : Gt (evers S) x := (old_or hl hx.1).resolve_left (by omega)
  have hxE : IsLatest (evers S) (fun y => decide (uniT (evers S) off y ≤ t)) x :=
    ⟨hxe, decide_eq_true ((key x hxe).1 (of_decide_eq_true hx.2.1)), fun u hu hut => hx.2.2 u (evers_gt hu) (decide_eq_true ((key u hu).2 (of_decide_eq_true hut)))⟩
  rw [force_latest hr hf h1 h2 hx, force_latest hrE hfE h1 h2 hxE]
include hr h1 h2 hl hy1 hy2 in
/-- All turns are over, where no rule is without an end. -/
theorem all_over (he : evers S = []) {t : Int} (ht : janI (year + 3) * 86400 ≤ t + 1) : ∀ u, Gt S u → uniT S off u ≤ t := fun u hu => by
  obtain ⟨a, e1, ha⟩ := uni_bd hr h1 h2 hu
  have j1 := jan_mono (a := year) (b := year + 3) (by omega)
  rcases old_or hl hu with h | ⟨r, hm, _⟩
  · omega
  · rw [he] at hm; simp at hm
end
/-! ### The last era -/
theorem ref_last {rs : List Rule} {sv : Era → Int} {t : Int} : ∀ (es : List Era) (a : Int), EndsOk sv a es → (∀ x ∈ es, endP sv x ≤ t) → ∃ e, es.getLast? = some e ∧ e.till = false ∧ refL rs sv es t = phaseE rs e t
  | [], _, hE, _ => hE.elim
  | [x], a, hE, h => ⟨x, rfl, hE, by
    have hx : x.till = false := hE
    simp only [refL]
    rw [if_neg (by rw [hx]; simp)]⟩
  | x :: y :: es, a, hE, h => by
    obtain ⟨ht, _, hE2⟩ := hE
    obtain ⟨e, e1, e2, e3⟩ := ref_last (rs := rs) (y :: es) _ hE2 fun u hu => h u (List.mem_cons_of_mem _ hu)
    refine ⟨e, by rw [List.getLast?_cons_cons]; exact e1, e2, ?_⟩
    have : refL rs sv (x :: y :: es) t = if x.till = true ∧ endP sv x ≤ t then refL rs sv (y :: es) t else phaseE rs x t := rfl
    rw [this, if_pos ⟨ht, h x (by simp)⟩, e3]
/-- What a compiled table tells. -/
theorem table_means {s : Src} (h : checkB s = noFlaw) {z : ZoneM} (hz : z ∈ s.zones) (hn : cntE s.rules (svF s) (lastZ s.rules z.eras) everT z.eras ≤ 29999) (t : Int) : atP (tableZ s z) t = (refL s.rules (svF s) z.eras t, true) := by
  have hyr := zone_year h hz
  obtain ⟨_, ⟨e0, hg⟩, _, htold⟩ := zone_told (s := s) (z := z) (by omega) (by omega) (ends_ok h hz) (fun x hx => era_ok h hz hx) hn
  have hu := until_is (year := lastZ s.rules z.eras) (by omega) (by omega)
  unfold atP
  rw [if_pos (table_right h hz hn)]
  have hsh : shiftP (tableZ s z) t = tellL (firstZ s.rules z.eras) (madeZ s z).1.1 t := shift_tell hg.rise
  rcases Int.lt_or_le t (untilZ (lastZ s.rules z.eras)) with hlt | hge
  · rw [if_neg (fun hc => by have := hc.1; have e : (tableZ s z).till = untilZ (lastZ s.rules z.eras) := rfl; omega), hsh, htold t hlt]
  · have j2 := jan_mono (a := lastZ s.rules z.eras + 2) (b := lastZ s.rules z.eras + 3) (by omega)
    have hends : ∀ x ∈ z.eras, endP (svF s) x ≤ untilZ (lastZ s.rules z.eras) - 1 := fun x hx => by
      have := end_early h hz hx
      omega
    obtain ⟨e, l1, l2, l3⟩ := ref_last (rs := s.rules) (t := t) z.eras _ (ends_ok h hz) fun x hx => by have := hends x hx; omega
    have hm := List.mem_of_getLast? l1
    have he := era_ok h hz hm
    have htl : (tableZ s z).tail = evers (setL s.rules e.rules) := by
      show tailZ s.rules z.eras = _
      unfold tailZ
      rw [l1]
      rfl
    by_cases h0 : (tableZ s z).tail.length = 0
    · rw [if_neg (fun hc => hc.2 h0), hsh]
      have h0' : evers (setL s.rules e.rules) = [] := by rw [← htl]; exact List.eq_nil_of_length_eq_zero h0
      have e1 : tellL (firstZ s.rules z.eras) (madeZ s z).1.1 t = tellL (firstZ s.rules z.eras) (madeZ s z).1.1 (untilZ (lastZ s.rules z.eras) - 1) := by
        rw [tell_late fun x hx => by have := hg.till x hx; omega, tell_late fun x hx => by have := hg.till x hx; omega]
      obtain ⟨e', k1, _, k3⟩ := ref_last (rs := s.rules) (t := untilZ (lastZ s.rules z.eras) - 1) z.eras _ (ends_ok h hz) hends
      rw [l1] at k1
      injection k1 with k1
      subst k1
      rw [e1, htold _ (by omega), k3, l3]
      congr 1
      by_cases hk : e.kind = 2
      · have hso : setOf s.rules e = setL s.rules e.rules := by unfold setOf; rw [if_pos hk]
        rw [phaseE_is, phaseE_is]
        unfold savE
        rw [if_pos hk, if_pos hk, hso]
        rw [force_over he.right he.far he.off.1 he.off.2 (all_over he.right he.off.1 he.off.2 he.last (by omega) (by omega) h0' (t := untilZ (lastZ s.rules z.eras) - 1) (by omega)) (all_over he.right he.off.1 he.off.2 he.last (by omega) (by omega) h0' (t := t) (by omega))]
      · unfold phaseE savE
        rw [if_neg hk, if_neg hk]
    · have hne : evers (setL s.rules e.rules) ≠ [] := fun hc => h0 (by rw [htl, hc]; rfl)
      rw [if_pos ⟨hge, h0⟩, l3]
      congr 1
      have hk : e.kind = 2 := by
        by_cases hk : e.kind = 2
        · exact hk
        · exact absurd (by rw [he.none_ hk]; rfl) hne
      have hof : (tableZ s z).off = e.off := by
        show offZ s.rules z.eras = _
        unfold offZ
        rw [l1]
        exact if_neg h0
      have hfm : (tableZ s z).format = e.format := by
        show formatZ s.rules z.eras = _
        unfold formatZ
        rw [l1]
        exact if_neg h0
      have hso : setOf s.rules e = setL s.rules e.rules := by unfold setOf; rw [if_pos hk]
      have hfe := force_evers he.right he.far he.off.1 he.off.2 he.last (by omega) (by omega) hne (t := t) (by omega)
      unfold tailP
      rw [htl, hof, hfm, hfe, phaseE_is]
      unfold savE phaseG
      rw [if_pos hk, hso]
end Go.Proofs.YtdicedpklpadgaaGreatDoor.Cmq
end
section
namespace Go.Proofs.YtdicedpklpadgaaGreatDoor.Cmq
open Go.RowKit Mem Civ Mom Img Plc Rul Ahd Trn Src Snd Att Rgt Abr

theorem compileP_no {s : Src} {i : Int} (h : ¬ (checkB s = noFlaw ∧ 0 ≤ i ∧ i < s.zones.length)) : compileP s i = (noTable, 1) := by
  unfold compileP
  split
  · next h1 =>
    have hl : s.zones.length ≤ i.toNat := by
      by_cases hl : i < s.zones.length
      · exact absurd ⟨h1.1, h1.2, hl⟩ h
      · omega
    rw [List.getElem?_eq_none hl]
  · rfl
theorem turnsE_sav {s : Src} (h : checkB s = noFlaw) {z : ZoneM} (hz : z ∈ s.zones) {x : Era} (hx : x ∈ z.eras) {u : TurnU} (hu : u ∈ turnsE s.rules (lastZ s.rules z.eras) x) : (-43200 ≤ u.save ∧ u.save ≤ 43200) ∧ u.letter.size ≤ 2097152 := by
  have he := era_ok h hz hx
  have hy := zone_year h hz
  have hk : x.kind = 2 := by
    by_cases hk : x.kind = 2
    · exact hk
    · exfalso
      unfold turnsE turnsP at hu
      rw [he.none_ hk] at hu
      simp at hu
  obtain ⟨l, l1, _, l3⟩ := turns_list (last := lastZ s.rules z.eras + 3) he.right he.crowd he.far he.off.1 he.off.2 (by have := he.last; omega) (by omega)
  unfold turnsE at hu
  rw [l1] at hu
  obtain ⟨t, ht, rfl⟩ := List.mem_map.1 hu
  obtain ⟨⟨r, hr, y, hy⟩, _⟩ := (l3 t).1 ht
  obtain ⟨_, e1, e2, _⟩ := turnL_at hy
  have hs := rule_sav h hz hx hk hr
  show (-43200 ≤ t.save ∧ t.save ≤ 43200) ∧ t.letter.size ≤ 2097152
  rw [e1, e2]
  exact ⟨hs.1, Nat.le_trans hs.2.2.2 (by decide)⟩
/-- Compile, at any source, any zone. -/
theorem compile_all (s : Src) (A A2 A3 : Option Addr) (c c2 c3 : Nat) (m i : Int) (w : World) (h : SrcOk s A A2 A3 w) (hm : w.cell? ⟨0, 0, none⟩ = some (.int .i64 m)) :
    Calls Tryz.prog 11 #[.agg #[.slice A s.rules.length c, .slice A2 s.zones.length c2, .slice A3 s.links.length c3], .int .i64 i] w (CompP (compileP s i).1 (compileP s i).2 w) := by
  by_cases hc : checkB s = noFlaw ∧ 0 ≤ i ∧ i < s.zones.length
  · obtain ⟨hck, h0, hl⟩ := hc
    obtain ⟨n, rfl⟩ : ∃ n : Nat, i = (n : Int) := ⟨i.toNat, by omega⟩
    have hn : n < s.zones.length := by omega
    have hz := List.getElem_mem hn
    have hy := zone_year hck hz
    exact compile_yes s A A2 A3 c c2 c3 m n w h hm hck (clean_parts hck).1 hn (zone_w hck hz).ne (fun x hx => era_w hck hz hx) hy.1 hy.2 (fun x hx u hu => turnsE_sav hck hz hx hu)
  · rw [compileP_no hc]
    exact compile_no s A A2 A3 c c2 c3 m i w h hm hc
theorem small_pw {p : Phase} (h : phaseB p = true) : PW p := by
  unfold phaseB dayB at h
  simp only [Bool.and_eq_true, decide_eq_true_eq] at h
  obtain ⟨_, ⟨⟨⟨h1, h2⟩, h3⟩, h4⟩⟩ := h
  unfold PW In64
  exact ⟨by omega, by omega, by omega⟩
/-- A right table is small. -/
theorem tabOk_right {x : Table} {A A2 : Option Addr} {w : World} (h : rightB x (tailB x) = true) (rs : Reads w w.heap.size 4 A x.shifts.length (x.shifts.flatMap Shift.cells)) (rt : Reads w w.heap.size 11 A2 x.tail.length (x.tail.flatMap Rule.cells)) : TabOk x A A2 w := by
  unfold rightB at h
  simp only [Bool.and_eq_true, Bool.not_eq_true', decide_eq_false_iff_not] at h
  obtain ⟨⟨hn, hf, hl, ht⟩, hs⟩ := h
  have hname : x.name.size ≤ 40 := by
    unfold placeB at hn
    simp only [Bool.and_eq_true, decide_eq_true_eq] at hn
    omega
  have hsh : ∀ s ∈ x.shifts, PW s.ph := fun s hs' => by
    unfold shiftsB at hs
    rw [List.all_eq_true] at hs
    obtain ⟨k, hk, e⟩ := List.mem_iff_getElem.1 hs'
    have h1 := hs k (List.mem_range.2 hk)
    unfold okAt at h1
    rw [List.getElem?_eq_getElem hk, e] at h1
    simp only [Bool.and_eq_true] at h1
    first | exact small_pw h1.1 | exact small_pw h1.1.1 | exact small_pw h1.2.1 | exact small_pw h1.1.1.1
  have htl : x.tail.length ≤ 2 ∧ x.format.size ≤ 2097152 ∧ ∀ r ∈ x.tail, r.name.size ≤ 2097152 ∧ r.letter.size ≤ 2097152 := by
    unfold tailB at ht
    split at ht
    · next h0 =>
      rw [Bool.and_eq_true] at ht
      have e := text_none ht.2
      rw [e]
      refine ⟨by omega, by decide, fun r hr => ?_⟩
      rw [List.eq_nil_of_length_eq_zero h0] at hr
      simp at hr
    · simp only [Bool.and_eq_true, decide_eq_true_eq] at ht
      obtain ⟨_, h2, h3, _⟩ := ht
      have hz := src_zones h3 _ (List.mem_singleton.2 rfl)
      unfold zoneB at hz
      simp only [Bool.and_eq_true] at hz
      have hw := (erasOk_at hz.2.2.2 0 (by simp [tryOf]) (eraOf x) rfl).1
      refine ⟨h2, Nat.le_trans (era_parts hw).2.1 (by decide), fun r hr => ?_⟩
      have hr2 := src_rules h3 r hr
      have hlt := (letter_ok (ruleR_letter hr2)).2
      have hnm := (ruleR_parts hr2).1
      unfold setB madeB at hnm
      simp only [Bool.and_eq_true, decide_eq_true_eq] at hnm
      have hsz : r.name.size = r.name.data.toList.length := Lib.size_eq _
      exact ⟨by have := hnm.1.2.2; omega, by omega⟩
  exact ⟨rs, rt, by omega, by omega, by omega, htl.2.1, small_pw hf, hsh, htl.2.2⟩
theorem tabOk_none {w : World} : TabOk noTable none none w :=
  ⟨Reads.none_, Reads.none_, by simp [noTable], by simp [noTable], by decide, by decide, ⟨by unfold In64; decide, by unfold In64; decide, by decide⟩, by simp [noTable], by simp [noTable]⟩
/-- What a flawless source's table is. -/
theorem compile_case {s : Src} {i : Int} (hy : YrsP s.rules) (hck : checkB s = noFlaw) (h0 : 0 ≤ i) (hl : i < s.zones.length) : ∃ z, s.zones[i.toNat]? = some z ∧ z ∈ s.zones ∧ compileP s i = (tableZ s z, 0) ∧ rightB (tableZ s z) (tailB (tableZ s z)) = true ∧ cntE s.rules (svF s) (lastZ s.rules z.eras) everT z.eras ≤ 29999 := by
  have hn : i.toNat < s.zones.length := by omega
  have hz := List.getElem_mem hn
  have hc := cnt_ok hck hz hy
  have hyr := zone_year hck hz
  obtain ⟨ho, _⟩ := zone_told (s := s) (z := s.zones[i.toNat]) (by omega) (by omega) (ends_ok hck hz) (fun x hx => era_ok hck hz hx) hc
  refine ⟨_, List.getElem?_eq_getElem hn, hz, ?_, table_right hck hz hc, hc⟩
  unfold compileP
  rw [if_pos ⟨hck, h0⟩, List.getElem?_eq_getElem hn]
  simp only
  rw [if_neg (by rw [ho]; decide)]
/-- What Compile answers, as a table that is read. -/
def CompR (x : Table) (err : Int) (w : World) (e : Ending) (w' : World) : Prop :=
  ∃ A c A2 c2, e = .returned (.tuple #[.agg (tabCells x A c A2 c2), .int .i64 err]) ∧ TabOk x A A2 w' ∧ Below w.heap.size w w'
theorem compile_read (s : Src) (A A2 A3 : Option Addr) (c c2 c3 : Nat) (m i : Int) (w : World) (h : SrcOk s A A2 A3 w) (hm : w.cell? ⟨0, 0, none⟩ = some (.int .i64 m)) (hy : checkB s = noFlaw → YrsP s.rules) :
    Calls Tryz.prog 11 #[.agg #[.slice A s.rules.length c, .slice A2 s.zones.length c2, .slice A3 s.links.length c3], .int .i64 i] w (CompR (compileP s i).1 (compileP s i).2 w) := by
  refine (compile_all s A A2 A3 c c2 c3 m i w h hm).mono ?_
  rintro e w' ⟨v, tv, rfl, ho, ht, hb⟩
  obtain ⟨A', c', rfl⟩ := own_sl ho
  obtain ⟨B', d', rfl⟩ := own_sl ht
  have r1 := Reads.of_own ho
  have r2 := Reads.of_own ht
  refine ⟨A', c', B', d', rfl, ?_, hb⟩
  by_cases hc : checkB s = noFlaw ∧ 0 ≤ i ∧ i < s.zones.length
  · obtain ⟨z, _, _, e, hr, _⟩ := compile_case (hy hc.1) hc.1 hc.2.1 hc.2.2
    rw [e] at r1 r2 ⊢
    exact tabOk_right hr r1 r2
  · rw [compileP_no hc] at r1 r2 ⊢
    exact ⟨r1, r2, by simp [noTable], by simp [noTable], by decide, by decide, ⟨by unfold In64; decide, by unfold In64; decide, by decide⟩, by simp [noTable], by simp [noTable]⟩
end Go.Proofs.YtdicedpklpadgaaGreatDoor.Cmq
end
section
namespace Go.Proofs.YtdicedpklpadgaaGreatDoor.Cmq
open Go.RowKit Mem Civ Mom Img Plc Rul Ahd Trn Src Snd Att Rgt Abr

def nmA : ByteArray := ⟨#[65]⟩
def nmE : ByteArray := ⟨#[69]⟩
def fmC : ByteArray := ⟨#[67, 37, 115, 84]⟩
def rE1 : Rule := ⟨nmE, 1990, 1000000, 3, 1, 7, 0, 3600, 2, 3600, ⟨#[83]⟩⟩
def rE2 : Rule := ⟨nmE, 1990, 1000000, 10, 1, 7, 0, 3600, 2, 0, ⟨#[]⟩⟩
def eraS : Era := ⟨3600, 2, 0, nmE, fmC, false, 0, ⟨0, 0, 0, 0, 0, 0⟩⟩
def znS (A : Option Addr) (c : Nat) : ZoneM := ⟨nmA, [eraS], A, c⟩
def smS (A : Option Addr) (c : Nat) : Src := ⟨[rE1, rE2], [znS A c], []⟩
def tabS : Table := tableZ (smS none 0) (znS none 0)
set_option maxRecDepth 1000000 in
theorem check_sm (A : Option Addr) (c : Nat) : checkB (smS A c) = noFlaw := by kernel_rfl
theorem made_sm (A : Option Addr) (c : Nat) : madeZ (smS A c) (znS A c) = madeZ (smS none 0) (znS none 0) := rfl
theorem table_sm (A : Option Addr) (c : Nat) : tableZ (smS A c) (znS A c) = tabS := rfl
theorem over_sm : (madeZ (smS none 0) (znS none 0)).1.2 = false := by kernel_rfl
theorem compile_sm (A : Option Addr) (c : Nat) : compileP (smS A c) 0 = (tabS, 0) := by
  have e : (smS A c).zones[(0 : Int).toNat]? = some (znS A c) := rfl
  unfold compileP
  rw [if_pos ⟨check_sm A c, Int.le_refl _⟩, e]
  simp only
  rw [if_neg (by rw [made_sm, over_sm]; decide), table_sm]
theorem len_sm : tabS.shifts.length = 100 := by kernel_rfl
theorem tail_sm : tabS.tail = [rE1, rE2] := by kernel_rfl
theorem till_sm : tabS.till = 2208988800 := by kernel_rfl
def phS : Phase := ⟨7200, 3600, ⟨#[67, 83, 84]⟩⟩
set_option maxRecDepth 1000000 in
theorem right_sm : rightB tabS (tailB tabS) = true := by kernel_rfl
theorem at1_sm : atP tabS 1625097600 = (phS, true) := by
  unfold atP
  rw [if_pos right_sm]
  kernel_rfl
theorem at2_sm : atP tabS 32519318400 = (phS, true) := by
  unfold atP
  rw [if_pos right_sm]
  kernel_rfl
end Go.Proofs.YtdicedpklpadgaaGreatDoor.Cmq
end
