/-
  The document's word that turns lie near, and the program's: one answer (plain). Conditions: right rules, not crowded, at least one.
-/
import Derived.Test.YtaffaobhcnnfnaaGreatDoorR11N
namespace Go.Proofs.YtaffaobhcnnfnaaGreatDoor.R11
open Go.RowKit Mem Civ Mom Img Rul

theorem upto_pre (had now : List Turn) (k : Nat) (hk : k ≤ had.length) : nearUpto (had ++ now) [] k = nearUpto had [] k := by
  induction k with
  | zero => rfl
  | succ k ih =>
    rw [nearUpto, nearUpto, ih (by omega), List.getElem?_append_left (by omega), List.take_append_of_le_length (by omega)]
theorem upto_both (had now : List Turn) (k : Nat) (hk : k ≤ now.length) : nearUpto (had ++ now) [] (had.length + k) = (nearUpto had [] had.length || nearUpto now had k) := by
  induction k with
  | zero => rw [Nat.add_zero, upto_pre had now _ (Nat.le_refl _), nearUpto, Bool.or_false]
  | succ k ih =>
    rw [← Nat.add_assoc, nearUpto, nearUpto, ih (by omega), List.getElem?_append_right (by omega), Nat.add_sub_cancel_left, List.take_length_add_append, Bool.or_assoc, List.append_nil]
    cases now[k]? with
    | none => rfl
    | some x => simp only [List.any_append, Bool.or_comm]
theorem upto_mono (now had : List Turn) (k : Nat) (h : nearUpto now had k = false) : nearUpto now [] k = false := by
  induction k with
  | zero => rfl
  | succ k ih =>
    rw [nearUpto, Bool.or_eq_false_iff] at h ⊢
    refine ⟨ih h.1, ?_⟩
    have h2 := h.2
    revert h2
    cases now[k]? with
    | none => exact id
    | some x =>
      simp only [List.any_append, List.append_nil, Bool.or_eq_false_iff]
      exact fun h => h.1
theorem turnsL_yearR {rs : List Rule} (h : rulesB rs = true) (y : Int) : turnsL rs y = yearR rs y := by rw [turnsL, if_pos h, yearR]
theorem years_same {rs : List Rule} (h : rulesB rs = true) (n : Nat) : ∀ (y : Int) (had : List Turn), nearUpto had [] had.length = false → nearYearsR rs n y had = nearYears rs n y had := by
  induction n with
  | zero => intro y had _; rfl
  | succ n ih =>
    intro y had hf
    rw [nearYearsR, nearYears, List.length_append, upto_both _ _ _ (Nat.le_refl _), hf, Bool.false_or, turnsL_yearR h, nearerB]
    cases hn : nearUpto (yearR rs y) had (yearR rs y).length
    · rw [Bool.false_or, Bool.false_or, ih _ _ (upto_mono _ _ _ hn)]
    · rfl
theorem years_more (rs : List Rule) (n : Nat) : ∀ (y : Int) (had : List Turn), nearYears rs (n + 2) y had = (nearYears rs (n + 1) y had || nearerB (turnsL rs (y + n + 1)) (turnsL rs (y + n))) := by
  induction n with
  | zero =>
    intro y had
    simp only [nearYears, Bool.or_false, Int.natCast_zero, Int.add_zero]
  | succ n ih =>
    intro y had
    rw [show nearYears rs (n + 1 + 2) y had = (nearerB (turnsL rs y) had || nearYears rs (n + 2) (y + 1) (turnsL rs y)) from rfl, show nearYears rs (n + 1 + 1) y had = (nearerB (turnsL rs y) had || nearYears rs (n + 1) (y + 1) (turnsL rs y)) from rfl, ih, Bool.or_assoc]
    rw [show y + 1 + (n : Int) + 1 = y + ((n + 1 : Nat) : Int) + 1 by omega, show y + 1 + (n : Int) = y + ((n + 1 : Nat) : Int) by omega]
theorem years_step (rs : List Rule) (n : Nat) : ∀ (i : Nat) (y : Int) (had : List Turn), i + 1 < n → nearerB (turnsL rs (y + i + 1)) (turnsL rs (y + i)) = true → nearYears rs n y had = true := by
  induction n with
  | zero => intro i y had hi; omega
  | succ n ih =>
    intro i y had hi h
    rw [nearYears]
    rcases i with _ | i
    · obtain ⟨n, rfl⟩ : ∃ k, n = k + 1 := ⟨n - 1, by omega⟩
      rw [nearYears]
      simp only [Int.natCast_zero, Int.add_zero] at h
      rw [h]
      simp
    · rw [ih i (y + 1) (turnsL rs y) (by omega) (by rw [← h]; congr 2 <;> omega), Bool.or_true]
/-! ## The years come again -/
def later (c : Int) (t : Turn) : Turn := ⟨t.at_ + c, t.ref, t.save, t.letter⟩
theorem posT_later (c : Int) (x : Turn) (S : List Turn) (j : Nat) : posT (later c x) (S.map (later c)) j = posT x S j := by
  induction j with
  | zero => rfl
  | succ j ih =>
    rw [posT, posT, List.getElem?_map, ih]
    cases S[j]? with
    | none => rfl
    | some e =>
      show (if x.at_ + c < e.at_ + c then posT x S j else j + 1) = (if x.at_ < e.at_ then posT x S j else j + 1)
      by_cases h : x.at_ < e.at_
      · rw [if_pos h, if_pos (by omega)]
      · rw [if_neg h, if_neg (by omega)]
theorem insT_later (c : Int) (S : List Turn) (x : Turn) : insT (S.map (later c)) (later c x) = (insT S x).map (later c) := by
  unfold insT putT
  rw [List.length_map, posT_later, List.map_append, List.map_cons, List.map_take, List.map_drop]
theorem sortT_later (c : Int) (l : List Turn) : sortT (l.map (later c)) = (sortT l).map (later c) := by
  have : ∀ (l S : List Turn), (l.map (later c)).foldl insT (S.map (later c)) = (l.foldl insT S).map (later c) := by
    intro l
    induction l with
    | nil => intro S; rfl
    | cons a l ih => intro S; rw [List.map_cons, List.foldl_cons, List.foldl_cons, insT_later, ih]
  exact this l []
theorem nearT_later (c : Int) (a b : Turn) : nearT (later c a) (later c b) = nearT a b := by
  unfold nearT later
  show (decide (a.at_ + c - (b.at_ + c) < 172800) && decide (-172800 < a.at_ + c - (b.at_ + c))) = _
  rw [show a.at_ + c - (b.at_ + c) = a.at_ - b.at_ by omega]
theorem upto_later (c : Int) (now had : List Turn) (k : Nat) : nearUpto (now.map (later c)) (had.map (later c)) k = nearUpto now had k := by
  induction k with
  | zero => rfl
  | succ k ih =>
    rw [nearUpto, nearUpto, ih, List.getElem?_map]
    congr 1
    cases now[k]? with
    | none => rfl
    | some x =>
      show ((now.map (later c)).take k ++ had.map (later c)).any (nearT (later c x)) = (now.take k ++ had).any (nearT x)
      rw [← List.map_take, ← List.map_append, List.any_map]
      congr 1
      funext t
      exact nearT_later c x t
theorem nearer_later (c : Int) (now had : List Turn) : nearerB (now.map (later c)) (had.map (later c)) = nearerB now had := by
  rw [nearerB, nearerB, List.length_map, upto_later]
theorem leap_again (y : Int) : leapB (y + 400) = leapB y := by
  unfold leapB
  rw [show (y + 400) % 4 = y % 4 by omega, show (y + 400) % 100 = y % 100 by omega, show (y + 400) % 400 = y % 400 by omega]
theorem mlen_again (y m : Int) : mlen (y + 400) m = mlen y m := by unfold mlen; rw [leap_again]
theorem count_again (y m d : Int) : countI (y + 400) m d = countI y m d + 146097 := by
  unfold countI
  dsimp only
  split <;> omega
theorem count_in {y m : Int} (hy : 1 ≤ y ∧ y ≤ 20000) (hm : 1 ≤ m ∧ m ≤ 12) : -1000000 ≤ countI y m 1 ∧ countI y m 1 ≤ 10000000 := by
  unfold countI
  dsimp only
  split <;> omega
theorem days_again {y m : Int} (hy : 1 ≤ y ∧ y ≤ 19000) (hm : 1 ≤ m ∧ m ≤ 12) : daysO (y + 400) m 1 = (daysO y m 1).map (· + 146097) := by
  have h1 := count_in (y := y) ⟨by omega, by omega⟩ hm
  have h2 := count_in (y := y + 400) ⟨by omega, by omega⟩ hm
  unfold daysO
  rw [mlen_again]
  by_cases h : mlen y m < 1
  · rw [if_pos (by omega), if_pos (by omega)]; rfl
  · rw [if_neg (by omega), if_neg (by omega), if_neg (by omega), if_neg (by omega), count_again]; rfl
theorem back_again (n wd : Int) : backI (n + 146097) wd = backI n wd := by unfold backI; omega
theorem day_again (s : Spot) (f l : Int) : spotDay s (f + 146097) l = spotDay s f l + 146097 := by
  unfold spotDay
  rw [show f + 146097 + l - 1 = f + l - 1 + 146097 by omega, show f + 146097 + s.day + 5 = f + s.day + 5 + 146097 by omega, show f + 146097 + s.day - 1 = f + s.day - 1 + 146097 by omega, back_again, back_again, back_again]
  split
  · rfl
  · split
    · omega
    · split <;> omega
theorem on_again {s : Spot} {y : Int} (hy : 1 ≤ y ∧ y ≤ 19000) : onO s (y + 400) = (onO s y).map (· + 146097) := by
  cases hs : spotB s
  · unfold onO
    rw [if_pos (.inl hs), if_pos (.inl hs)]; rfl
  · have hok := spotB_ok hs
    have hm : 1 ≤ s.month ∧ s.month ≤ 12 := ⟨hok.1, hok.2.1⟩
    have hc := count_in (y := y) (m := s.month) ⟨by omega, by omega⟩ hm
    unfold onO
    rw [if_neg (by rw [hs]; simp; omega), if_neg (by rw [hs]; simp; omega), days_again hy hm, mlen_again]
    cases hd : daysO y s.month 1 with
    | none => rfl
    | some f =>
      have hf : f = countI y s.month 1 := by
        unfold daysO at hd
        split at hd
        · cases hd
        · split at hd
          · cases hd
          · exact (Option.some.inj hd).symm
      rw [Option.map_some, Option.bind_some, Option.bind_some, day_again]
      have hml := mlen_bd y s.month
      have hb : spotDay s f (mlen y s.month) ≤ 90000000 := by
        obtain ⟨_, _, _, _, _, _, _, _, ho1, ho2, ho3⟩ := hok
        have b1 := backI_bd (f + mlen y s.month - 1) s.weekday
        have b2 := backI_bd (f + s.day + 5) s.weekday
        have b3 := backI_bd (f + s.day - 1) s.weekday
        unfold spotDay
        split
        · have := ho1 (by omega); omega
        · split
          · have := ho2 (by omega); omega
          · split
            · have := ho3 (by omega); omega
            · have := ho3 (by omega); omega
      rw [if_neg (by omega), if_neg (by omega)]; rfl
theorem local_again {s : Spot} {y : Int} (hy : 1 ≤ y ∧ y ≤ 19000) : localO s (y + 400) = (localO s y).map (· + 12622780800) := by
  unfold localO
  rw [on_again hy]
  cases onO s y with
  | none => rfl
  | some n => show some _ = some _; congr 1; show (n + 146097) * 86400 + s.time = n * 86400 + s.time + 12622780800; omega
theorem turn_again {r : Rule} {y : Int} (hy : 1 ≤ y ∧ y ≤ 19000) (hr : r.lo ≤ y ∧ (r.hi < y ∨ r.hi = 1000000)) : turnL (y + 400) r = (turnL y r).map (later 12622780800) := by
  unfold turnL turnO
  simp only [local_again hy]
  rw [show decide (r.lo ≤ y + 400 ∧ y + 400 ≤ r.hi) = decide (r.lo ≤ y ∧ y ≤ r.hi) by rw [decide_eq_decide]; omega]
  cases localO (spotOf r) y with
  | none => rfl
  | some n =>
    cases decide (r.lo ≤ y ∧ y ≤ r.hi) <;> rfl
theorem filter_again {rs : List Rule} {y : Int} (hy : 1 ≤ y ∧ y ≤ 19000) (hr : ∀ r ∈ rs, r.lo ≤ y ∧ (r.hi < y ∨ r.hi = 1000000)) : rs.filterMap (turnL (y + 400)) = (rs.filterMap (turnL y)).map (later 12622780800) := by
  induction rs with
  | nil => rfl
  | cons a l ih =>
    rw [List.filterMap_cons, List.filterMap_cons, turn_again hy (hr a List.mem_cons_self), ih fun r hm => hr r (List.mem_cons_of_mem _ hm)]
    cases turnL y a <;> rfl
theorem years_again {rs : List Rule} {y : Int} (hy : 1 ≤ y ∧ y ≤ 19000) (hr : ∀ r ∈ rs, r.lo ≤ y ∧ (r.hi < y ∨ r.hi = 1000000)) : turnsL rs (y + 400) = (turnsL rs y).map (later 12622780800) := by
  unfold turnsL
  split
  · rw [filter_again hy hr, sortT_later]
  · rfl
theorem last_ge (l : List Rule) : ∀ m : Int, m ≤ l.foldl lastY1 m ∧ ∀ r ∈ l, r.lo ≤ l.foldl lastY1 m ∧ (r.hi ≤ l.foldl lastY1 m ∨ r.hi = 1000000) := by
  induction l with
  | nil => intro m; exact ⟨Int.le_refl _, fun r h => absurd h List.not_mem_nil⟩
  | cons a l ih =>
    intro m
    have h := ih (lastY1 m a)
    have h1 : m ≤ lastY1 m a ∧ a.lo ≤ lastY1 m a ∧ (a.hi ≤ lastY1 m a ∨ a.hi = 1000000) := by
      unfold lastY1
      split <;> omega
    rw [List.foldl_cons]
    refine ⟨by omega, fun r hr => ?_⟩
    rcases List.mem_cons.1 hr with rfl | hr
    · omega
    · exact h.2 r hr
theorem ends_same {rs : List Rule} (h : rulesB rs = true) (k : Nat) (hk : k < rs.length) : firstR (rs.take (k + 1)) = firstY (rs.take (k + 1)) ∧ hiR (rs.take (k + 1)) = lastY (rs.take (k + 1)) := by
  induction k with
  | zero =>
    have hr := rule_years (List.all_eq_true.1 h rs[0] (List.getElem_mem hk))
    rw [firstR_succ rs 0 hk, firstY_succ rs 0 hk, hiR_succ rs 0 hk, lastY_succ rs 0 hk]
    show (if _ < (10000 : Int) then _ else (10000 : Int)) = min (9999 : Int) _ ∧ hiStep 0 _ = lastY1 1 _
    unfold hiStep lastY1
    refine ⟨by split <;> omega, ?_⟩
    split <;> split <;> (try split) <;> omega
  | succ k ih =>
    have hr := rule_years (List.all_eq_true.1 h rs[k + 1] (List.getElem_mem hk))
    obtain ⟨h1, h2⟩ := ih (by omega)
    rw [firstR_succ rs _ hk, firstY_succ rs _ hk, hiR_succ rs _ hk, lastY_succ rs _ hk, h1, h2]
    unfold hiStep lastY1
    refine ⟨by split <;> omega, ?_⟩
    split <;> split <;> (try split) <;> omega
theorem ends_all {rs : List Rule} (h : rulesB rs = true) (hne : rs ≠ []) : firstR rs = firstY rs ∧ hiR rs = lastY rs := by
  have hl := List.length_pos_iff.2 hne
  have hs := ends_same h (rs.length - 1) (by omega)
  rw [Nat.sub_add_cancel hl, List.take_length] at hs
  exact hs
theorem near_same {rs : List Rule} (h : rulesB rs = true) (hc : crowdB rs = false) (hne : rs ≠ []) : nearR rs = nearB rs := by
  have hy := years_bd rs h rs.length
  rw [List.take_length] at hy
  have hfl := first_last hne
  unfold nearR nearB
  rw [h, hc, (ends_all h hne).1, (ends_all h hne).2, years_same h _ _ _ rfl, List.isEmpty_eq_false_iff.2 hne]
  simp only [Bool.true_and, Bool.not_false]
  generalize firstY rs = F at *
  have hall : ∀ r ∈ rs, r.lo ≤ lastY rs ∧ (r.hi ≤ lastY rs ∨ r.hi = 1000000) := (last_ge rs 1).2
  generalize lastY rs = L at *
  obtain ⟨n, hn⟩ : ∃ n : Nat, L + 401 - F + 1 = n + 1 := ⟨(L + 401 - F).toNat, by omega⟩
  rw [show (L + 402 - F + 1).toNat = n + 2 by omega, show (L + 401 - F + 1).toNat = n + 1 by omega, years_more]
  cases hv : nearerB (turnsL rs (F + n + 1)) (turnsL rs (F + n))
  · exact Bool.or_false _
  · rw [show F + (n : Int) + 1 = L + 2 + 400 by omega, show F + (n : Int) = L + 1 + 400 by omega, years_again ⟨by omega, by omega⟩ (fun r hm => by have := hall r hm; omega), years_again ⟨by omega, by omega⟩ (fun r hm => by have := hall r hm; omega), nearer_later] at hv
    rw [years_step rs (n + 1) (L + 1 - F).toNat F [] (by omega) (by rw [show F + ((L + 1 - F).toNat : Int) = L + 1 by omega, show L + 1 + 1 = L + 2 by omega]; exact hv)]
    rfl
end Go.Proofs.YtaffaobhcnnfnaaGreatDoor.R11
