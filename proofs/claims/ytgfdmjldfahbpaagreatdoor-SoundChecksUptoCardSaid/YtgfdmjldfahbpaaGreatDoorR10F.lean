/-
  The document's formats (analemmaref10.Format): the contract: it tells what the program's own tells. Conditions: texts of at most 2^47 bytes.
-/
import Derived.Test.YtgfdmjldfahbpaaGreatDoorR10
namespace Go.Proofs.YtgfdmjldfahbpaaGreatDoor.R10
open Go.RowKit Mem Plc Src

/-! ### Cuts at one byte -/
theorem index_at (c : UInt8) (s r : List UInt8) (h : c ∉ s) : Lib.index (s ++ c :: r) [c] = s.length := by
  induction s with
  | nil => simp [Lib.index, List.isPrefixOf]
  | cons b l ih =>
    have hb : c ≠ b := fun e => h (by simp [e])
    have ih := ih fun hm => h (by simp [hm])
    rw [List.cons_append, Lib.index, ih]
    have h1 : ([c] : List UInt8).isPrefixOf (b :: (l ++ c :: r)) = false := by simp [List.isPrefixOf, hb]
    have h2 : (((l.length : Nat) : Int) == -1) = false := by rw [beq_eq_false_iff_ne]; omega
    rw [h1, h2]
    simp
theorem index_out (c : UInt8) (s : List UInt8) (h : c ∉ s) : Lib.index s [c] = -1 := by
  induction s with
  | nil => rfl
  | cons b l ih =>
    have hb : c ≠ b := fun e => h (by simp [e])
    have ih := ih fun hm => h (by simp [hm])
    rw [Lib.index, ih]
    have h1 : ([c] : List UInt8).isPrefixOf (b :: l) = false := by simp [List.isPrefixOf, hb]
    rw [h1]
    rfl
theorem cut_at (c : UInt8) (s r : List UInt8) (h : c ∉ s) : Lib.cut (s ++ c :: r) [c] = (s, r, true) := by
  unfold Lib.cut
  rw [index_at c s r h, if_pos (by omega)]
  simp
theorem cut_out (c : UInt8) (s : List UInt8) (h : c ∉ s) : Lib.cut s [c] = (s, [], false) := by
  unfold Lib.cut
  rw [index_out c s h, if_neg (by omega)]
theorem contains_is (c : UInt8) (s : List UInt8) : Lib.contains s [c] = decide (c ∈ s) := by
  unfold Lib.contains
  by_cases h : c ∈ s
  · obtain ⟨a, b, rfl, ha⟩ := List.eq_append_cons_of_mem h
    rw [index_at c a b ha, decide_eq_true (by omega), decide_eq_true (by simp)]
  · rw [index_out c s h, decide_eq_false (by omega), decide_eq_false h]

/-! ### The document's word -/
def fmtAt (l : List UInt8) (i : Nat) : Bool := match l[i]? with
  | none => true
  | some c => if c = 37 then (match l[i + 1]? with | some d => sz d | none => false) else if c = 47 then !(decide (i = 0) || decide (i + 1 = l.length)) else okB [43, 45] c
def fmtR (l : List UInt8) : Bool := (List.range l.length).all (fmtAt l) && ((decide ((1 : Int) ≤ (l.length : Nat)) && decide (((l.length : Nat) : Int) ≤ 20)) && decide (l.count 37 + l.count 47 ≤ 1))
theorem ok4_is (c : UInt8) : okB [43, 45, 37, 47] c = true ↔ (okB [43, 45] c = true ∨ c = 37 ∨ c = 47) := by
  rw [ok_is, ok_is]
  simp only [List.contains_cons, List.contains_nil, Bool.or_false, Bool.or_eq_true, beq_iff_eq]
  constructor
  · rintro ((h | h) | h | h | h | h) <;> simp [h]
  · rintro (((h | h) | h | h) | h | h) <;> simp [h]
theorem at_mid {a b : List UInt8} {c : UInt8} : (a ++ c :: b)[a.length]? = some c ∧ (a ++ c :: b)[a.length + 1]? = b[0]? := by
  constructor
  · rw [List.getElem?_append_right (Nat.le_refl _)]; simp
  · rw [List.getElem?_append_right (by omega)]
    rw [show a.length + 1 - a.length = 1 by omega]
    simp
theorem only_mid {a b : List UInt8} {c : UInt8} (ha : c ∉ a) (hb : c ∉ b) {i : Nat} (h : (a ++ c :: b)[i]? = some c) : i = a.length := by
  rcases Nat.lt_trichotomy i a.length with h1 | h1 | h1
  · rw [List.getElem?_append_left h1] at h
    exact absurd (List.mem_of_getElem? h) ha
  · exact h1
  · rw [List.getElem?_append_right (by omega), show i - a.length = (i - a.length - 1) + 1 by omega, List.getElem?_cons_succ] at h
    exact absurd (List.mem_of_getElem? h) hb
theorem fmt_all {l : List UInt8} : (List.range l.length).all (fmtAt l) = true ↔ ∀ i, i < l.length → fmtAt l i = true := by
  rw [List.all_eq_true]
  simp only [List.mem_range]
theorem first_sz {b : List UInt8} : firstSz b = true ↔ ∃ d, b[0]? = some d ∧ sz d = true := by
  cases b with
  | nil => simp [firstSz]
  | cons d t => simp [firstSz]
theorem format_is (l : List UInt8) : formatB l = fmtR l := by
  by_cases hl : (1 : Int) ≤ (l.length : Nat) ∧ ((l.length : Nat) : Int) ≤ 20
  rotate_left
  · have h1 : formatB l = false := by
      unfold formatB madeB
      by_cases h0 : (1 : Int) ≤ (l.length : Nat)
      · rw [decide_eq_false (show ¬ ((l.length : Nat) : Int) ≤ 20 from fun e => hl ⟨h0, e⟩)]
        simp
      · have : l = [] := List.length_eq_zero_iff.1 (by omega)
        subst this
        rfl
    have h2 : fmtR l = false := by
      unfold fmtR
      by_cases h0 : (1 : Int) ≤ (l.length : Nat)
      · rw [decide_eq_false (show ¬ ((l.length : Nat) : Int) ≤ 20 from fun e => hl ⟨h0, e⟩)]
        simp
      · rw [decide_eq_false h0]
        simp
    rw [h1, h2]
  obtain ⟨hl1, hl2⟩ := hl
  have hne : l ≠ [] := fun e => by subst e; simp at hl1
  cases hall : l.all (okB [43, 45, 37, 47])
  · have h1 : formatB l = false := by
      unfold formatB madeB
      rw [hall]
      rfl
    have h2 : fmtR l = false := by
      rw [List.all_eq_false] at hall
      obtain ⟨c, hc, hf⟩ := hall
      obtain ⟨i, hi, rfl⟩ := List.getElem_of_mem hc
      have hno : ¬ (okB [43, 45] l[i] = true ∨ l[i] = 37 ∨ l[i] = 47) := fun e => hf ((ok4_is _).2 e)
      have : (List.range l.length).all (fmtAt l) = false := by
        rw [List.all_eq_false]
        refine ⟨i, List.mem_range.2 hi, ?_⟩
        unfold fmtAt
        rw [List.getElem?_eq_getElem hi]
        simp only
        rw [if_neg fun e => hno (.inr (.inl e)), if_neg fun e => hno (.inr (.inr e))]
        exact fun e => hno (.inl e)
      unfold fmtR
      rw [this]
      rfl
    rw [h1, h2]
  have hok : ∀ c ∈ l, okB [43, 45] c = true ∨ c = 37 ∨ c = 47 := fun c hc => (ok4_is c).1 (List.all_eq_true.1 hall c hc)
  have hmade : madeB l 20 [43, 45, 37, 47] = true := by
    unfold madeB
    rw [hall, decide_eq_true hl2]
    cases l with
    | nil => exact absurd rfl hne
    | cons _ _ => rfl
  unfold formatB fmtR
  rw [hmade, decide_eq_true hl1, decide_eq_true hl2]
  simp only [Bool.true_and, Bool.and_true]
  by_cases h37 : (37 : UInt8) ∈ l
  · obtain ⟨a, b, rfl, ha⟩ := List.eq_append_cons_of_mem h37
    rw [cut_at 37 a b ha]
    simp only [if_true]
    rw [contains_is, contains_is, Bool.eq_iff_iff]
    simp only [Bool.and_eq_true, Bool.not_eq_true', decide_eq_false_iff_not, decide_eq_true_eq, fmt_all, first_sz]
    have hcount : (a ++ 37 :: b).count 37 = b.count 37 + 1 := by
      rw [List.count_append, List.count_eq_zero_of_not_mem ha, List.count_cons_self]; omega
    constructor
    · rintro ⟨h47, hb, d, hd, hsz⟩
      refine ⟨fun i hi => ?_, ?_⟩
      · unfold fmtAt
        rw [List.getElem?_eq_getElem hi]
        simp only
        have hm : (a ++ 37 :: b)[i] ∈ a ++ 37 :: b := List.getElem_mem hi
        split
        · next e =>
          have := only_mid ha hb (i := i) (by rw [List.getElem?_eq_getElem hi, e])
          subst this
          rw [at_mid.2, hd]
          exact hsz
        · next e =>
          rw [if_neg fun e2 => h47 (by rw [← e2]; exact hm)]
          rcases hok _ hm with h | h | h
          · exact h
          · exact absurd h e
          · exact absurd (by rw [← h]; exact hm) h47
      · rw [hcount, List.count_eq_zero_of_not_mem hb, List.count_eq_zero_of_not_mem h47]; omega
    · rintro ⟨hf, hc⟩
      rw [hcount] at hc
      have hb : (37 : UInt8) ∉ b := fun hm => by have := List.count_pos_iff.2 hm; omega
      have h47 : (47 : UInt8) ∉ a ++ 37 :: b := fun hm => by have := List.count_pos_iff.2 hm; omega
      have hmid := hf a.length (by simp)
      unfold fmtAt at hmid
      rw [at_mid.1, at_mid.2] at hmid
      simp only [if_true] at hmid
      cases hd : b[0]? with
      | none => rw [hd] at hmid; cases hmid
      | some d => rw [hd] at hmid; exact ⟨h47, hb, d, rfl, hmid⟩
  · rw [cut_out 37 l h37]
    simp only [Bool.false_eq_true, if_false]
    by_cases h47 : (47 : UInt8) ∈ l
    · obtain ⟨a, b, rfl, ha⟩ := List.eq_append_cons_of_mem h47
      rw [cut_at 47 a b ha]
      simp only [Bool.not_true, Bool.false_or]
      rw [contains_is, Bool.eq_iff_iff]
      have hcount : (a ++ 47 :: b).count 47 = b.count 47 + 1 := by
        rw [List.count_append, List.count_eq_zero_of_not_mem ha, List.count_cons_self]; omega
      simp only [Bool.and_eq_true, Bool.not_eq_true', decide_eq_false_iff_not, decide_eq_true_eq, fmt_all, List.isEmpty_eq_false_iff]
      constructor
      · rintro ⟨hna, hnb, hb⟩
        refine ⟨fun i hi => ?_, ?_⟩
        · unfold fmtAt
          rw [List.getElem?_eq_getElem hi]
          simp only
          have hm : (a ++ 47 :: b)[i] ∈ a ++ 47 :: b := List.getElem_mem hi
          rw [if_neg fun e => h37 (by rw [← e]; exact hm)]
          split
          · next e =>
            have := only_mid ha hb (i := i) (by rw [List.getElem?_eq_getElem hi, e])
            subst this
            have h1 := List.length_pos_iff.2 hna
            have h2 := List.length_pos_iff.2 hnb
            simp
            exact ⟨hna, hnb⟩
          · next e =>
            rcases hok _ hm with h | h | h
            · exact h
            · exact absurd (by rw [← h]; exact hm) h37
            · exact absurd h e
        · rw [hcount, List.count_eq_zero_of_not_mem hb, List.count_eq_zero_of_not_mem h37]; omega
      · rintro ⟨hf, hc⟩
        rw [hcount] at hc
        have hb : (47 : UInt8) ∉ b := fun hm => by have := List.count_pos_iff.2 hm; omega
        have hmid := hf a.length (by simp)
        unfold fmtAt at hmid
        rw [at_mid.1] at hmid
        simp only [show ¬ ((47 : UInt8) = 37) from by decide, if_false, if_true] at hmid
        simp at hmid
        exact ⟨hmid.1, hmid.2, hb⟩
    · rw [cut_out 47 l h47]
      simp only [Bool.not_false, Bool.true_or]
      rw [Bool.eq_iff_iff]
      simp only [Bool.and_eq_true, fmt_all, decide_eq_true_eq, true_iff]
      refine ⟨fun i hi => ?_, by rw [List.count_eq_zero_of_not_mem h37, List.count_eq_zero_of_not_mem h47]; omega⟩
      unfold fmtAt
      rw [List.getElem?_eq_getElem hi]
      simp only
      have hm : l[i] ∈ l := List.getElem_mem hi
      rw [if_neg fun e => h37 (by rw [← e]; exact hm), if_neg fun e => h47 (by rw [← e]; exact hm)]
      rcases hok _ hm with h | h | h
      · exact h
      · exact absurd (by rw [← h]; exact hm) h37
      · exact absurd (by rw [← h]; exact hm) h47

/-! ### The walk -/
theorem count_succ {l : List UInt8} {k : Nat} (hk : k < l.length) (c : UInt8) : (l.take (k + 1)).count c = (l.take k).count c + if l[k] = c then 1 else 0 := by
  rw [List.take_succ_eq_append_getElem hk, List.count_append, List.count_singleton]
  simp
theorem byte_iff {c : UInt8} {n : Nat} (hn : n < 256) : c = UInt8.ofNat n ↔ ((c.toNat : Int) == (n : Int)) = true := by
  rw [beq_iff_eq, Int.natCast_inj, ← UInt8.toNat_inj, UInt8.toNat_ofNat', Nat.mod_eq_of_lt hn]
set_option maxHeartbeats 4000000 in
set_option maxRecDepth 100000 in
theorem format_any (s : ByteArray) (w : World) (hs : s.size ≤ 140737488355328) : Calls Tryz.prog 88 #[.string s] w fun e w' => e = .returned (.bool (formatB s.data.toList)) ∧ w' = w := by
  rw [format_is]
  obtain ⟨R, hR⟩ : ∃ R, fmtR s.data.toList = R := ⟨_, rfl⟩
  rw [hR]
  have HN : Hid (∀ k : Nat, k < s.size → fmtAt s.data.toList k = false → R = false) := fun k hk h => by
    rw [← hR]
    unfold fmtR
    have : (List.range s.data.toList.length).all (fmtAt s.data.toList) = false := by
      rw [List.all_eq_false]
      exact ⟨k, List.mem_range.2 (by rw [len_eq]; exact hk), by rw [h]; decide⟩
    rw [this]
    rfl
  have HE : Hid ((∀ j, j < s.size → fmtAt s.data.toList j = true) → R = ((decide ((1 : Int) ≤ (s.size : Nat)) && decide (((s.size : Nat) : Int) ≤ 20)) && decide (s.data.toList.count 37 + s.data.toList.count 47 ≤ 1))) := fun h => by
    rw [← hR]
    unfold fmtR
    rw [fmt_all.2 fun i hi => h i (by rw [len_eq] at hi; exact hi), Bool.true_and, len_eq]
  clear hR
  go_enter Tryz.func88, Tryz.ntmps88
  go_wp2_with fail
  go_loopw [3, 4, 5] (fun p q i wr => ∃ k a b : Nat, k ≤ s.size ∧ a + b ≤ k ∧ i = .int .i64 k ∧ p = .int .i64 a ∧ q = .int .i64 b ∧ (s.data.toList.take k).count 37 = a ∧ (s.data.toList.take k).count 47 = b ∧ (∀ j, j < k → fmtAt s.data.toList j = true) ∧ wr = w) (fun _ _ i _ => s.size - (intOf i).toNat)
  case atStart => exact ⟨0, 0, 0, Nat.zero_le _, Nat.zero_le _, rfl, rfl, rfl, rfl, rfl, fun j hj => absurd hj (Nat.not_lt_zero _), rfl⟩
  case round =>
    obtain ⟨k, a, b, hk, hab, rfl, rfl, rfl, hca, hcb, hall, rfl⟩ := hrel
    have Hall := Lib.hid hall
    clear hall
    by_cases hkn : k < s.size
    · have hkl : k < s.data.toList.length := by rw [len_eq]; exact hkn
      have e37 := count_succ hkl 37
      have e47 := count_succ hkl 47
      rw [hca] at e37
      rw [hcb] at e47
      have hgk : s.data.toList[k] = s[k]'hkn := rfl
      rw [hgk] at e37 e47
      have i37 : (s[k]'hkn) = 37 ↔ (((s[k]'hkn).toNat : Int) == 37) = true := byte_iff (n := 37) (by decide)
      have i47 : (s[k]'hkn) = 47 ↔ (((s[k]'hkn).toNat : Int) == 47) = true := byte_iff (n := 47) (by decide)
      have hat : fmtAt s.data.toList k = (if (s[k]'hkn) = 37 then (match s.data.toList[k + 1]? with | some d => sz d | none => false) else if (s[k]'hkn) = 47 then !(decide (k = 0) || decide (k + 1 = s.size)) else okB [43, 45] (s[k]'hkn)) := by
        unfold fmtAt
        rw [List.getElem?_eq_getElem hkl, len_eq]
        rfl
      have HNk := Lib.hid (HN.out k hkn)
      have HAll : Hid (fmtAt s.data.toList k = true → ∀ j, j < k + 1 → fmtAt s.data.toList j = true) := fun h j hj => by
        rcases Nat.lt_succ_iff_lt_or_eq.1 hj with h1 | rfl
        · exact Hall.out j h1
        · exact h
      have hw1 : wrap64 ((k : Int) + 1) = k + 1 := by unfold wrap64; omega
      rw [hat] at HNk HAll
      clear hca hcb hat hgk
      cases h37 : (((s[k]'hkn).toNat : Int) == 37)
      · have n37 : ¬ (s[k]'hkn) = 37 := fun e => by rw [i37.1 e] at h37; cases h37
        rw [if_neg n37] at e37 HNk HAll
        cases h47 : (((s[k]'hkn).toNat : Int) == 47)
        · have n47 : ¬ (s[k]'hkn) = 47 := fun e => by rw [i47.1 e] at h47; cases h47
          rw [if_neg n47] at e47 HNk HAll
          have hp := ok_is [43, 45] (s[k]'hkn)
          rw [has2] at hp
          rw [show ((43 : UInt8).toNat : Int) = 43 from rfl, show ((45 : UInt8).toNat : Int) = 45 from rfl] at hp
          generalize okB [43, 45] (s[k]'hkn) = ok at *
          have E37 := Lib.hid e37; have E47 := Lib.hid e47
          clear i37 i47 n37 n47 e37 e47
          have n3 : (((s[k]'hkn).toNat : Int) != 43) = !(((s[k]'hkn).toNat : Int) == 43) := rfl
          have n4 : (((s[k]'hkn).toNat : Int) != 45) = !(((s[k]'hkn).toNat : Int) == 45) := rfl
          cases h1 : letterI ((s[k]'hkn).toNat : Int) <;> cases h2 : digI ((s[k]'hkn).toNat : Int) <;> cases h3 : (((s[k]'hkn).toNat : Int) == 43) <;> cases h4 : (((s[k]'hkn).toNat : Int) == 45)
          all_goals rw [h1, h2, h3, h4] at hp
          all_goals rw [h3] at n3
          all_goals rw [h4] at n4
          all_goals simp only [Bool.not_false, Bool.not_true] at n3 n4
          all_goals simp only [Bool.or_false, Bool.or_true] at hp
          all_goals subst hp
          all_goals go_wp2_with (first
            | (go_at_call 87; refine (letter_any _ _).mono ?_; rintro e w1 ⟨rfl, rfl⟩; rw [h1])
            | (go_at_call 86; refine (digit_any _ _).mono ?_; rintro e w1 ⟨rfl, rfl⟩; rw [h2]))
          all_goals first
            | (refine ⟨⟨k + 1, a, b, by omega, by omega, by go_num, rfl, rfl, E37.out, E47.out, HAll.out (by trivial), trivial⟩, by simp [intOf]; omega⟩; done)
            | (go_ret; refine ⟨?_, rfl⟩; rw [HNk.out (by trivial)]; rfl)
        · have y47 : (s[k]'hkn) = 47 := i47.2 h47
          rw [if_pos y47] at e47 HNk HAll
          have E37 := Lib.hid e37; have E47 := Lib.hid e47
          clear i37 i47 n37 y47 e37 e47
          have hw2 : wrap64 ((s.size : Int) - 1) = s.size - 1 := by unfold wrap64; omega
          have hw3 : wrap64 ((b : Int) + 1) = b + 1 := by unfold wrap64; omega
          by_cases hk0 : k = 0
          · subst hk0
            have hr := HNk.out rfl
            subst hr
            go_wp2
            go_ret
            exact ⟨rfl, rfl⟩
          · have b0 : (((k : Nat) : Int) == 0) = false := by rw [beq_eq_false_iff_ne]; omega
            by_cases hke : k + 1 = s.size
            · have b1 : (((k : Nat) : Int) == (s.size : Int) - 1) = true := by rw [beq_iff_eq]; omega
              have hr := HNk.out (by rw [decide_eq_true hke, Bool.or_true]; rfl)
              subst hr
              clear hke
              go_wp2
              go_ret
              exact ⟨rfl, rfl⟩
            · have b1 : (((k : Nat) : Int) == (s.size : Int) - 1) = false := by rw [beq_eq_false_iff_ne]; omega
              have hA := HAll.out (by rw [decide_eq_false hke, decide_eq_false hk0]; rfl)
              have HA := Lib.hid hA
              clear hA hke hk0
              go_wp2
              exact ⟨⟨k + 1, a, b + 1, by omega, by omega, by go_num, rfl, by go_num, E37.out, E47.out, HA.out, trivial⟩, by simp [intOf]; omega⟩
      · have y37 : (s[k]'hkn) = 37 := i37.2 h37
        have n47 : ¬ (s[k]'hkn) = 47 := fun e => by rw [y37] at e; exact absurd e (by decide)
        rw [if_pos y37] at e37 HNk HAll
        rw [if_neg n47] at e47
        have E37 := Lib.hid e37; have E47 := Lib.hid e47
        clear i37 i47 y37 n47 e37 e47
        have hw3 : wrap64 ((a : Int) + 1) = a + 1 := by unfold wrap64; omega
        by_cases hke : k + 1 < s.size
        · have hge : decide (((s.size : Nat) : Int) ≤ (k : Int) + 1) = false := decide_eq_false (by omega)
          have hg1 : s.data.toList[k + 1]? = some (s[k + 1]'hke) := by
            rw [List.getElem?_eq_getElem (by rw [len_eq]; exact hke)]
            rfl
          rw [hg1] at HNk HAll
          simp only [sz] at HNk HAll
          clear hg1
          have n3 : (((s[k + 1]'hke).toNat : Int) != 115) = !(((s[k + 1]'hke).toNat : Int) == 115) := rfl
          have n4 : (((s[k + 1]'hke).toNat : Int) != 122) = !(((s[k + 1]'hke).toNat : Int) == 122) := rfl
          cases h3 : (((s[k + 1]'hke).toNat : Int) == 115) <;> cases h4 : (((s[k + 1]'hke).toNat : Int) == 122)
          all_goals rw [h3] at n3
          all_goals rw [h4] at n4
          all_goals rw [h3, h4] at HNk HAll
          all_goals simp only [Bool.not_false, Bool.not_true] at n3 n4
          all_goals go_wp2
          all_goals first
            | (refine ⟨⟨k + 1, a + 1, b, by omega, by omega, by go_num, by go_num, rfl, E37.out, E47.out, HAll.out (by trivial), trivial⟩, by simp [intOf]; omega⟩; done)
            | (go_ret; refine ⟨?_, rfl⟩; rw [HNk.out (by trivial)]; rfl)
        · have hge : decide (((s.size : Nat) : Int) ≤ (k : Int) + 1) = true := decide_eq_true (by omega)
          have hg1 : s.data.toList[k + 1]? = none := List.getElem?_eq_none (by rw [len_eq]; omega)
          rw [hg1] at HNk
          have hr := HNk.out rfl
          subst hr
          clear hg1 hke
          go_wp2
          go_ret
          exact ⟨rfl, rfl⟩
    · obtain rfl : k = s.size := by omega
      rw [show s.data.toList.take s.size = s.data.toList from List.take_of_length_le (by simp)] at hca hcb
      have hr := HE.out Hall.out
      rw [hca, hcb] at hr
      have hw3 : wrap64 ((a : Int) + b) = a + b := by unfold wrap64; omega
      have hdec : decide (((a : Int) + b) ≤ 1) = decide (a + b ≤ 1) := by
        rw [decide_eq_decide]; omega
      rw [← hdec] at hr
      clear hca hcb hdec HN HE Hall hkn hk
      cases h1 : decide ((1 : Int) ≤ (s.size : Nat)) <;> cases h2 : decide (((s.size : Nat) : Int) ≤ 20) <;> cases h3 : decide (((a : Int) + b) ≤ 1)
      all_goals rw [h1, h2, h3] at hr
      all_goals subst hr
      all_goals go_wp2
      all_goals go_ret
      all_goals exact ⟨rfl, rfl⟩
end Go.Proofs.YtgfdmjldfahbpaaGreatDoor.R10
