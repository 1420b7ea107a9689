/-
  What is in force at a time (plain): a turn's universal time, the latest turn by it, by the document's words and by the program's. Conditions: right rules; an offset of less than a day.
-/
import Derived.Test.YtpbojebnghcndaaGreatDoorAhD
namespace Go.Proofs.YtpbojebnghcndaaGreatDoor.Ahd
open Go.RowKit Mem Civ Mom Img Rul

/-- A turn's universal time. -/
def uniT (rs : List Rule) (off : Int) (t : Turn) : Int :=
  if t.ref = 0 then wrap64 ((if t.ref = 2 then t.at_ else wrap64 (t.at_ - off)) - ((aheadO rs t.at_).getD noTurn).save) else (if t.ref = 2 then t.at_ else wrap64 (t.at_ - off))
/-- The first standard turn, beside the best one till then. -/
def lessT (b : Option Turn) (t : Turn) : Option Turn := match b with
  | none => some t
  | some y => if t.at_ < y.at_ then some t else some y
def firstStep (b : Option Turn) (x : Rule) : Option Turn := match turnL x.lo x with
  | some t => if x.save = 0 then lessT b t else b
  | none => b
theorem firstStep_is (b : Option Turn) (x : Rule) : firstStep b x = if (turnO x x.lo).2 = true ∧ x.save = 0 then lessT b (turnO x x.lo).1 else b := by
  unfold firstStep turnL
  cases (turnO x x.lo).2
  · simp
  · simp
def firstO (rs : List Rule) : Option Turn := rs.foldl firstStep none
def firstP (rs : List Rule) : ByteArray := ((firstO rs).getD noTurn).letter
/-- The saving and the letter of a turn, or those ahead of all. -/
def giveO (rs : List Rule) : Option Turn → Int × ByteArray
  | some x => (x.save, x.letter)
  | none => (0, firstP rs)
/-- The saving and the letter in force. -/
def forceP (rs : List Rule) (off t : Int) : Int × ByteArray :=
  if rulesB rs = true ∧ -86400 < off ∧ off < 86400 then giveO rs (latestL (fun x => decide (uniT rs off x ≤ t)) (yearI t) rs) else (0, ⟨#[]⟩)
theorem descF_from {α : Type} {g : Int → Option α} {top : Int} {v : α} : ∀ {n : Nat}, descF g top n = some v → ∃ i : Nat, i < n ∧ g (top - (i : Nat)) = some v
  | 0, h => by cases h
  | n + 1, h => by
    rw [descF] at h
    cases hd : descF g top n with
    | some u =>
      rw [hd] at h
      obtain ⟨i, hi, e⟩ := descF_from hd
      exact ⟨i, by omega, by rw [e]; exact h⟩
    | none =>
      rw [hd] at h
      exact ⟨n, by omega, h⟩
theorem latest_from {so : Turn → Bool} {y : Int} {rs : List Rule} {t : Turn} (h : latestL so y rs = some t) : ∃ r ∈ rs, ∃ z, turnL z r = some t := by
  suffices key : ∀ (l : List Rule) (b : Option Turn), (∀ u, b = some u → ∃ r ∈ rs, ∃ z, turnL z r = some u) → (∀ r ∈ l, r ∈ rs) → ∀ u, l.foldl (fun b x => stepT so b (backL x y)) b = some u → ∃ r ∈ rs, ∃ z, turnL z r = some u from
    key rs none (fun u e => by cases e) (fun r hr => hr) t h
  intro l
  induction l with
  | nil => intro b hb _ u hu; exact hb u hu
  | cons a l ih =>
    intro b hb hl u hu
    rw [List.foldl_cons] at hu
    refine ih _ (fun v hv => ?_) (fun r hr => hl r (List.mem_cons_of_mem _ hr)) u hu
    rw [stepT_is] at hv
    cases hf : (backL a y).find? so with
    | none =>
      rw [hf] at hv
      exact hb v hv
    | some x =>
      have hx : ∃ r ∈ rs, ∃ z, turnL z r = some x := by
        unfold backL at hf
        rw [find_desc] at hf
        obtain ⟨i, _, e⟩ := descF_from hf
        unfold soL at e
        cases ht : turnL (lastY a y - (i : Nat)) a with
        | none => rw [ht] at e; cases e
        | some w =>
          rw [ht] at e
          simp only [Option.filter] at e
          split at e
          · injection e with e
            subst e
            exact ⟨a, hl a List.mem_cons_self, _, ht⟩
          · cases e
      rw [hf] at hv
      cases b with
      | none =>
        simp only [joinT] at hv
        injection hv with hv
        subst hv
        exact hx
      | some bb =>
        simp only [joinT] at hv
        split at hv
        · injection hv with hv
          subst hv
          exact hx
        · injection hv with hv
          subst hv
          exact hb _ rfl
theorem rule_save {rs : List Rule} (h : rulesB rs = true) {r : Rule} (hr : r ∈ rs) : -43200 ≤ r.save ∧ r.save ≤ 43200 ∧ 0 ≤ r.ref ∧ r.ref ≤ 2 := by
  have hp : ruleP r := of_decide_eq_true (List.all_eq_true.1 h r hr)
  obtain ⟨_, _, hs, h1, h2⟩ := hp
  obtain ⟨_, _, _, _, _, _, h7, h8, _⟩ := hs
  exact ⟨h1, h2, h7, h8⟩
theorem ahead_save {rs : List Rule} (h : rulesB rs = true) (at_ : Int) : -43200 ≤ ((aheadO rs at_).getD noTurn).save ∧ ((aheadO rs at_).getD noTurn).save ≤ 43200 := by
  cases ha : aheadO rs at_ with
  | none => exact ⟨by decide, by decide⟩
  | some t =>
    unfold aheadO at ha
    rw [if_pos h] at ha
    obtain ⟨r, hr, z, hz⟩ := latest_from ha
    have hs := rule_save h hr
    have := (turnL_at hz).2.1
    simp only [Option.getD_some]
    omega
theorem turn_bd {r : Rule} {z : Int} {t : Turn} (h : turnL z r = some t) : -9000000000000 ≤ t.at_ ∧ t.at_ ≤ 9000000000000 := by
  obtain ⟨hl, _⟩ := turnL_at h
  unfold localO at hl
  cases ho : onO (spotOf r) z with
  | none => rw [ho] at hl; cases hl
  | some k =>
    obtain ⟨h1, h2, _⟩ := onO_bd ho
    obtain ⟨_, _, _, _, t1, t2, _⟩ := h2
    rw [ho, Option.map_some, Option.some.injEq] at hl
    omega
theorem uni_near {rs : List Rule} {off : Int} (h : rulesB rs = true) (h1 : -86400 < off) (h2 : off < 86400) {t : Turn} (hb : -9000000000000 ≤ t.at_ ∧ t.at_ ≤ 9000000000000) : t.at_ - 129600 ≤ uniT rs off t ∧ uniT rs off t ≤ t.at_ + 129600 := by
  have hs := ahead_save h t.at_
  unfold uniT
  generalize ((aheadO rs t.at_).getD noTurn).save = sv at *
  have e1 : wrap64 (t.at_ - off) = t.at_ - off := by unfold wrap64; omega
  rw [e1]
  split
  · split
    · have e2 : wrap64 (t.at_ - sv) = t.at_ - sv := by unfold wrap64; omega
      rw [e2]; omega
    · have e2 : wrap64 (t.at_ - off - sv) = t.at_ - off - sv := by unfold wrap64; omega
      rw [e2]; omega
  · split <;> omega
/-- A test that holds of what lies well ahead of a time, and fails of what lies well behind it. -/
theorem near_mid {rs : List Rule} {so : Turn → Bool} {at_ : Int} (h1 : ∀ r ∈ rs, ∀ z t, turnL z r = some t → t.at_ + 129600 < at_ → so t = true) (h2 : ∀ r ∈ rs, ∀ z t, turnL z r = some t → at_ < t.at_ - 129600 → so t = false) :
    Mid so rs (yearI at_) ∨ (yearI at_ = 0 ∧ ∀ r ∈ rs, ∀ z t, turnL z r = some t → so t = false) := by
  unfold yearI
  split
  · refine .inr ⟨rfl, fun r hr z t ht => h2 r hr z t ht ?_⟩
    obtain ⟨hl, _⟩ := turnL_at ht
    have hbd := local_near hl
    have hy := (by unfold localO at hl; cases ho : onO (spotOf r) z with
      | none => rw [ho] at hl; cases hl
      | some k => exact (onO_bd ho).2.2 : 1 ≤ z ∧ z ≤ 300000)
    have := jan_mono hy.1
    have := jan_at.1
    omega
  · refine .inl fun r hr z t ht => ?_
    obtain ⟨hl, _⟩ := turnL_at ht
    have hbd := local_near hl
    split
    · have hd : yearD 100000000 = 275760 := yearD_last
      have hin := year_in 100000000
      rw [hd] at hin ⊢
      refine ⟨fun hz => h1 r hr z t ht ?_, fun hz => ?_⟩
      · have := jan_mono (a := z) (b := 275758) (by omega)
        have := jan_at.2
        omega
      · exfalso
        unfold localO at hl
        cases ho : onO (spotOf r) z with
        | none => rw [ho] at hl; cases hl
        | some k =>
          have ho2 := ho
          unfold onO at ho2
          split at ho2
          · cases ho2
          · unfold daysO at ho2
            rw [if_pos (by omega)] at ho2
            cases ho2
    · have hin := year_in (at_ / 86400)
      refine ⟨fun hz => h1 r hr z t ht ?_, fun hz => h2 r hr z t ht ?_⟩
      · have q1 := jan_mono (a := z) (b := yearD (at_ / 86400) - 2) (by omega)
        have q2 := jan_mono (a := yearD (at_ / 86400) - 2) (b := yearD (at_ / 86400)) (by omega)
        omega
      · have q1 := jan_mono (a := yearD (at_ / 86400) + 2) (b := z) (by omega)
        have q2 := jan_mono (a := yearD (at_ / 86400) + 1) (b := yearD (at_ / 86400) + 2) (by omega)
        omega
theorem force_mid {rs : List Rule} {off at_ : Int} (h : rulesB rs = true) (h1 : -86400 < off) (h2 : off < 86400) :
    Mid (fun x => decide (uniT rs off x ≤ at_)) rs (yearI at_) ∨ (yearI at_ = 0 ∧ ∀ r ∈ rs, ∀ z t, turnL z r = some t → decide (uniT rs off t ≤ at_) = false) :=
  near_mid (fun r _ z t ht hl => decide_eq_true (by have := uni_near h h1 h2 (turn_bd ht); omega)) (fun r _ z t ht hl => decide_eq_false (by have := uni_near h h1 h2 (turn_bd ht); omega))
/-- The latest turn by universal time, as the document has it. -/
def lastD (rs : List Rule) (off at_ : Int) : Option Turn := docL (fun x => decide (uniT rs off x ≤ at_)) (yearJ at_) rs
theorem lastD_is {rs : List Rule} {off at_ : Int} (hr : rulesB rs = true) (h1 : -86400 < off) (h2 : off < 86400) : lastD rs off at_ = latestL (fun x => decide (uniT rs off x ≤ at_)) (yearI at_) rs := by
  unfold lastD
  have hyr : ∀ r ∈ rs, ∀ z t, turnL z r = some t → janI (-271820) * 86400 ≤ at_ ∨ decide (uniT rs off t ≤ at_) = false := fun r _ z t ht => by
    obtain ⟨hl, _⟩ := turnL_at ht
    have hy := (by unfold localO at hl; cases ho : onO (spotOf r) z with
      | none => rw [ho] at hl; cases hl
      | some k => exact (onO_bd ho).2.2 : 1 ≤ z ∧ z ≤ 300000)
    have hb := local_near hl
    have q2 := jan_mono hy.1
    have q3 := jan_at.1
    have q4 := uni_near hr h1 h2 (turn_bd ht)
    rcases Int.lt_or_le at_ (janI (-271820) * 86400) with hlt | hge
    · refine .inr (decide_eq_false ?_)
      have q5 := jan_mono (a := -271820) (b := 1) (by omega)
      omega
    · exact .inl hge
  rcases force_mid (at_ := at_) hr h1 h2 with h | ⟨h0, h⟩
  · rcases yearJ_is at_ with e | ⟨e0, e1⟩
    · rw [e, latest_same hr (yearI_le at_) h]
    · have hall : ∀ r ∈ rs, ∀ z t, turnL z r = some t → (fun t : Turn => decide (uniT rs off t ≤ at_)) t = false := fun r hm z t ht => by
        rcases hyr r hm z t ht with h3 | h3
        · exfalso
          unfold yearJ at e1
          have h5 : janI (-271820) = -99999744 := by decide
          split at e1
          · omega
          · split at e1
            · cases e1
            · split at e1
              · omega
              · have h4 := (year_in (at_ / 86400)).2
                rw [e1, show (-271821 : Int) + 1 = -271820 from rfl] at h4
                omega
        · exact h3
      rw [docL_no hall, latest_no hall]
  · have hall : ∀ r ∈ rs, ∀ z t, turnL z r = some t → (fun t : Turn => decide (uniT rs off t ≤ at_)) t = false := h
    rw [docL_no hall, latest_no hall]
end Go.Proofs.YtpbojebnghcndaaGreatDoor.Ahd
