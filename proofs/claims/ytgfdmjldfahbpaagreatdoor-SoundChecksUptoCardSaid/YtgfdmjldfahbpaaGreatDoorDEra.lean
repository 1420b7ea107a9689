/-
  The document's word whether a source may be (analemmaref10: Era, bounded, Right): the program's own. Conditions: what the source's slices hold is read, the texts' lengths are bounded. wip/gen10.py wrote this text.
  The document's word whether a source may be (analemmaref10: bounded, Right): the program's own. Conditions: what the source's slices hold is read, the texts' lengths are bounded. wip/gen10b.py wrote this text.
-/
import Derived.Test.YtgfdmjldfahbpaaGreatDoorR10F
import Derived.Test.YtgfdmjldfahbpaaGreatDoorR09
import Derived.Test.YtgfdmjldfahbpaaGreatDoorSrc3
import Derived.Test.YtgfdmjldfahbpaaGreatDoorQuiet
namespace Go.Proofs.YtgfdmjldfahbpaaGreatDoor.D10
open Go.RowKit Mem Civ Mom Img Plc Rul Src

theorem eraB_bad {x : Era} (h : x.off ≤ -86400 ∨ 86400 ≤ x.off ∨ 43200 < x.save ∨ x.save < -43200 ∨ formatB x.format.data.toList = false ∨ x.kind < 0 ∨ 2 < x.kind ∨ (x.kind ≠ 1 ∧ x.save ≠ 0) ∨ (x.kind ≠ 2 ∧ x.rules.toList.isEmpty = false) ∨ (x.kind = 2 ∧ setB x.rules = false)) : eraB x = false := by
  cases he : eraB x
  · rfl
  · exfalso
    unfold eraB at he
    simp only [Bool.and_eq_true] at he
    obtain ⟨⟨h1, h2⟩, h3, _⟩ := he
    unfold Rgt.dayB at h1
    simp only [Bool.and_eq_true, decide_eq_true_eq] at h1
    unfold kindB savingB at h3
    rcases h with h | h | h | h | h | h | h | ⟨h, h'⟩ | ⟨h, h'⟩ | ⟨h, h'⟩
    · omega
    · omega
    · split at h3
      · simp at h3; omega
      · split at h3
        · simp at h3; omega
        · split at h3
          · simp at h3; omega
          · cases h3
    · split at h3
      · simp at h3; omega
      · split at h3
        · simp at h3; omega
        · split at h3
          · simp at h3; omega
          · cases h3
    · rw [h2] at h; cases h
    · rw [if_neg (by omega), if_neg (by omega), if_neg (by omega)] at h3; cases h3
    · rw [if_neg (by omega), if_neg (by omega), if_neg (by omega)] at h3; cases h3
    · rw [if_neg h] at h3
      split at h3
      · simp at h3; omega
      · split at h3
        · simp at h3; omega
        · cases h3
    · rw [h', Bool.and_false, Bool.and_false, if_neg h] at h3
      split at h3
      · cases h3
      · split at h3 <;> cases h3
    · rw [h', Bool.and_false, if_neg (by omega), if_neg (by omega), if_pos h] at h3; cases h3
theorem eraB_good {x : Era} (h1 : -86400 < x.off) (h2 : x.off < 86400) (h3 : x.save ≤ 43200) (h4 : -43200 ≤ x.save) (h5 : formatB x.format.data.toList = true)
    (h6 : (x.kind = 0 ∧ x.save = 0 ∧ x.rules.toList.isEmpty = true) ∨ (x.kind = 1 ∧ x.rules.toList.isEmpty = true) ∨ (x.kind = 2 ∧ x.save = 0 ∧ setB x.rules = true)) : eraB x = tillB x := by
  have hd : Rgt.dayB x.off = true := by unfold Rgt.dayB; rw [decide_eq_true h1, decide_eq_true h2]; rfl
  have hk : kindB x = true := by
    unfold kindB
    rcases h6 with ⟨a, b, c⟩ | ⟨a, c⟩ | ⟨a, b, c⟩
    · rw [if_pos a, b, c]; rfl
    · rw [if_neg (by omega), if_pos a, c]
      unfold savingB
      rw [decide_eq_true h4, decide_eq_true h3]; rfl
    · rw [if_neg (by omega), if_neg (by omega), if_pos a, b, c]; rfl
  unfold eraB
  rw [hd, h5, hk]; rfl
theorem till_no {x : Era} (h : x.till = true) (h1 : x.year < 1 ∨ 9999 < x.year ∨ spotB x.spot = false) : tillB x = false := by
  unfold tillB yearB
  rw [if_pos h]
  rcases h1 with h1 | h1 | h1
  · rw [decide_eq_false (by omega : ¬ (1 ≤ x.year))]; rfl
  · rw [decide_eq_false (by omega : ¬ (x.year ≤ 9999)), Bool.and_false]; rfl
  · rw [h1, Bool.and_false]
theorem till_yes {x : Era} (h : x.till = true) (h1 : 1 ≤ x.year) (h2 : x.year ≤ 9999) (h3 : spotB x.spot = true) : tillB x = true := by
  unfold tillB yearB
  rw [if_pos h, decide_eq_true h1, decide_eq_true h2, h3]; rfl
theorem still_is {x : Era} (h : x.till = false) : tillB x = (decide (x.year = 0) && decide (x.spot = ⟨0, 0, 0, 0, 0, 0⟩)) := by
  unfold tillB
  rw [if_neg (by rw [h]; decide)]

set_option maxHeartbeats 4000000 in
set_option maxRecDepth 100000 in
theorem era_any (x : Era) (w : World) (h1 : x.rules.size ≤ 2097152) (h2 : x.format.size ≤ 2097152) :
    Calls Tryz.prog 56 #[.agg x.cells.toArray] w fun e w' => e = .returned (.bool (eraB x)) ∧ Below w.heap.size w w' := by
  have hone := One.new w 45 x.cells.toArray
  have Hs := Lib.hid (fun z => R10.set_any x.rules z (by omega))
  have Hf := Lib.hid (fun z => R10.format_any x.format z (by omega))
  have Hp := Lib.hid (fun z => R09.right_any x.spot z)
  have heq := fun z => eq_spot x.spot ⟨0, 0, 0, 0, 0, 0⟩ z
  have hbad := @eraB_bad x
  have hgood := @eraB_good x
  have hno := @till_no x
  have hyes := @till_yes x
  have hstill := @still_is x
  clear h1 h2
  obtain ⟨R, hR⟩ : ∃ R, eraB x = R := ⟨_, rfl⟩
  rw [hR] at hbad hgood ⊢
  clear hR
  generalize tillB x = tb at *
  obtain ⟨x0, x1, x2, x3, x4, x5, x6, ⟨y0, y1, y2, y3, y4, y5⟩⟩ := x
  simp only [Era.cells, Spot.cells] at hone Hs Hf Hp heq hbad hgood hno hyes hstill ⊢
  generalize setB x3 = b3 at *
  generalize formatB x4.data.toList = b4 at *
  generalize spotB ⟨y0, y1, y2, y3, y4, y5⟩ = b7 at *
  generalize decide ((⟨y0, y1, y2, y3, y4, y5⟩ : Spot) = ⟨0, 0, 0, 0, 0, 0⟩) = b8 at *
  have e6 : (x6 == 0) = decide (x6 = 0) := by rw [Bool.eq_iff_iff]; simp
  generalize decide (x6 = 0) = b5 at *
  obtain ⟨W, hW⟩ : ∃ W, w.alloc (.cells #[.int .i64 x0, .int .i64 x1, .int .i64 x2, .string x3, .string x4, .bool x5, .int .i64 x6, .int .i64 y0, .int .i64 y1, .int .i64 y2, .int .i64 y3, .int .i64 y4, .int .i64 y5] 45) = W := ⟨_, rfl⟩
  rw [hW] at hone
  have HO := Lib.hid hone; have HBad := Lib.hid hbad; have HGood := Lib.hid hgood; have HNo := Lib.hid hno; have HYes := Lib.hid hyes; have HStill := Lib.hid hstill
  have c0 := fun i => hone.1.cell i
  clear hone hbad hgood hno hyes hstill
  go_enter Tryz.func56, Tryz.ntmps56
  by_cases k0 : x0 ≤ -86400
  · have kb0 : decide (x0 ≤ -86400) = true := decide_eq_true k0
    have hr : R = false := HBad.out (.inl (k0))
    subst hr
    clear HBad HGood HNo HYes HStill
    go_wp2_with (first
      | (go_at_call 88; refine (Hf.out _).mono ?_; rintro e w1 ⟨rfl, rfl⟩)
      | (go_at_call 53; refine (Hs.out _).mono ?_; rintro e w1 ⟨rfl, rfl⟩)
      | (go_at_call 52; refine (Hp.out _).mono ?_; rintro e w2 ⟨rfl, hw⟩; have HB2 := Lib.hid (HO.out.step (below_of_eq hw)); clear hw))
    first
      | (go_ret; exact ⟨rfl, HB2.out.2⟩)
      | (go_ret; exact ⟨rfl, HO.out.2⟩)
  · have kb0 : decide (x0 ≤ -86400) = false := decide_eq_false k0
    by_cases k1 : 86400 ≤ x0
    · have kb1 : decide (86400 ≤ x0) = true := decide_eq_true k1
      have hr : R = false := HBad.out (.inr (.inl (k1)))
      subst hr
      clear HBad HGood HNo HYes HStill
      go_wp2_with (first
        | (go_at_call 88; refine (Hf.out _).mono ?_; rintro e w1 ⟨rfl, rfl⟩)
        | (go_at_call 53; refine (Hs.out _).mono ?_; rintro e w1 ⟨rfl, rfl⟩)
        | (go_at_call 52; refine (Hp.out _).mono ?_; rintro e w2 ⟨rfl, hw⟩; have HB2 := Lib.hid (HO.out.step (below_of_eq hw)); clear hw))
      first
        | (go_ret; exact ⟨rfl, HB2.out.2⟩)
        | (go_ret; exact ⟨rfl, HO.out.2⟩)
    · have kb1 : decide (86400 ≤ x0) = false := decide_eq_false k1
      by_cases k2 : 43200 < x2
      · have kb2 : decide (43200 < x2) = true := decide_eq_true k2
        have hr : R = false := HBad.out (.inr (.inr (.inl (k2))))
        subst hr
        clear HBad HGood HNo HYes HStill
        go_wp2_with (first
          | (go_at_call 88; refine (Hf.out _).mono ?_; rintro e w1 ⟨rfl, rfl⟩)
          | (go_at_call 53; refine (Hs.out _).mono ?_; rintro e w1 ⟨rfl, rfl⟩)
          | (go_at_call 52; refine (Hp.out _).mono ?_; rintro e w2 ⟨rfl, hw⟩; have HB2 := Lib.hid (HO.out.step (below_of_eq hw)); clear hw))
        first
          | (go_ret; exact ⟨rfl, HB2.out.2⟩)
          | (go_ret; exact ⟨rfl, HO.out.2⟩)
      · have kb2 : decide (43200 < x2) = false := decide_eq_false k2
        by_cases k3 : x2 < -43200
        · have kb3 : decide (x2 < -43200) = true := decide_eq_true k3
          have hr : R = false := HBad.out (.inr (.inr (.inr (.inl (k3)))))
          subst hr
          clear HBad HGood HNo HYes HStill
          go_wp2_with (first
            | (go_at_call 88; refine (Hf.out _).mono ?_; rintro e w1 ⟨rfl, rfl⟩)
            | (go_at_call 53; refine (Hs.out _).mono ?_; rintro e w1 ⟨rfl, rfl⟩)
            | (go_at_call 52; refine (Hp.out _).mono ?_; rintro e w2 ⟨rfl, hw⟩; have HB2 := Lib.hid (HO.out.step (below_of_eq hw)); clear hw))
          first
            | (go_ret; exact ⟨rfl, HB2.out.2⟩)
            | (go_ret; exact ⟨rfl, HO.out.2⟩)
        · have kb3 : decide (x2 < -43200) = false := decide_eq_false k3
          cases b4
          · skip
            have hr : R = false := HBad.out (.inr (.inr (.inr (.inr (.inl (rfl))))))
            subst hr
            clear HBad HGood HNo HYes HStill
            go_wp2_with (first
              | (go_at_call 88; refine (Hf.out _).mono ?_; rintro e w1 ⟨rfl, rfl⟩)
              | (go_at_call 53; refine (Hs.out _).mono ?_; rintro e w1 ⟨rfl, rfl⟩)
              | (go_at_call 52; refine (Hp.out _).mono ?_; rintro e w2 ⟨rfl, hw⟩; have HB2 := Lib.hid (HO.out.step (below_of_eq hw)); clear hw))
            first
              | (go_ret; exact ⟨rfl, HB2.out.2⟩)
              | (go_ret; exact ⟨rfl, HO.out.2⟩)
          · skip
            rcases (by omega : x1 < 0 ∨ 2 < x1 ∨ x1 = 0 ∨ x1 = 1 ∨ x1 = 2) with n1 | n1 | rfl | rfl | rfl
            · have nb : decide (x1 < 0) = true := decide_eq_true n1
              have hr : R = false := HBad.out (.inr (.inr (.inr (.inr (.inr (.inl (n1)))))))
              subst hr
              clear HBad HGood HNo HYes HStill
              go_wp2_with (first
                | (go_at_call 88; refine (Hf.out _).mono ?_; rintro e w1 ⟨rfl, rfl⟩)
                | (go_at_call 53; refine (Hs.out _).mono ?_; rintro e w1 ⟨rfl, rfl⟩)
                | (go_at_call 52; refine (Hp.out _).mono ?_; rintro e w2 ⟨rfl, hw⟩; have HB2 := Lib.hid (HO.out.step (below_of_eq hw)); clear hw))
              first
                | (go_ret; exact ⟨rfl, HB2.out.2⟩)
                | (go_ret; exact ⟨rfl, HO.out.2⟩)
            · have nb : decide (x1 < 0) = false := decide_eq_false (by omega)
              have nb2 : decide (2 < x1) = true := decide_eq_true n1
              have hr : R = false := HBad.out (.inr (.inr (.inr (.inr (.inr (.inr (.inl (n1))))))))
              subst hr
              clear HBad HGood HNo HYes HStill
              go_wp2_with (first
                | (go_at_call 88; refine (Hf.out _).mono ?_; rintro e w1 ⟨rfl, rfl⟩)
                | (go_at_call 53; refine (Hs.out _).mono ?_; rintro e w1 ⟨rfl, rfl⟩)
                | (go_at_call 52; refine (Hp.out _).mono ?_; rintro e w2 ⟨rfl, hw⟩; have HB2 := Lib.hid (HO.out.step (below_of_eq hw)); clear hw))
              first
                | (go_ret; exact ⟨rfl, HB2.out.2⟩)
                | (go_ret; exact ⟨rfl, HO.out.2⟩)
            · by_cases hs : x2 = 0
              · subst hs
                cases hr3 : x3.toList.isEmpty
                · skip
                  have hr : R = false := HBad.out (.inr (.inr (.inr (.inr (.inr (.inr (.inr (.inr (.inl (⟨by decide, hr3⟩))))))))))
                  subst hr
                  clear HBad HGood HNo HYes HStill
                  go_wp2_with (first
                    | (go_at_call 88; refine (Hf.out _).mono ?_; rintro e w1 ⟨rfl, rfl⟩)
                    | (go_at_call 53; refine (Hs.out _).mono ?_; rintro e w1 ⟨rfl, rfl⟩)
                    | (go_at_call 52; refine (Hp.out _).mono ?_; rintro e w2 ⟨rfl, hw⟩; have HB2 := Lib.hid (HO.out.step (below_of_eq hw)); clear hw))
                  first
                    | (go_ret; exact ⟨rfl, HB2.out.2⟩)
                    | (go_ret; exact ⟨rfl, HO.out.2⟩)
                · skip
                  have hr : R = tb := HGood.out (by omega) (by omega) (by omega) (by omega) rfl (.inl ⟨rfl, rfl, hr3⟩)
                  subst hr
                  cases x5
                  · have ht := HStill.out rfl
                    subst ht
                    cases b5
                    · skip
                      clear HBad HGood HNo HYes HStill
                      go_wp2_with (first
                        | (go_at_call 88; refine (Hf.out _).mono ?_; rintro e w1 ⟨rfl, rfl⟩)
                        | (go_at_call 53; refine (Hs.out _).mono ?_; rintro e w1 ⟨rfl, rfl⟩)
                        | (go_at_call 52; refine (Hp.out _).mono ?_; rintro e w2 ⟨rfl, hw⟩; have HB2 := Lib.hid (HO.out.step (below_of_eq hw)); clear hw))
                      first
                        | (go_ret; exact ⟨rfl, HB2.out.2⟩)
                        | (go_ret; exact ⟨rfl, HO.out.2⟩)
                    · skip
                      clear HBad HGood HNo HYes HStill
                      go_wp2_with (first
                        | (go_at_call 88; refine (Hf.out _).mono ?_; rintro e w1 ⟨rfl, rfl⟩)
                        | (go_at_call 53; refine (Hs.out _).mono ?_; rintro e w1 ⟨rfl, rfl⟩)
                        | (go_at_call 52; refine (Hp.out _).mono ?_; rintro e w2 ⟨rfl, hw⟩; have HB2 := Lib.hid (HO.out.step (below_of_eq hw)); clear hw))
                      first
                        | (go_ret; exact ⟨rfl, HB2.out.2⟩)
                        | (go_ret; exact ⟨rfl, HO.out.2⟩)
                  · by_cases j1 : 1 ≤ x6
                    · have jb : decide (1 ≤ x6) = true := decide_eq_true j1
                      by_cases j2 : x6 ≤ 9999
                      · have jb2 : decide (x6 ≤ 9999) = true := decide_eq_true j2
                        cases b7
                        · have ht := HNo.out rfl (.inr (.inr rfl))
                          subst ht
                          clear HBad HGood HNo HYes HStill
                          go_wp2_with (first
                            | (go_at_call 88; refine (Hf.out _).mono ?_; rintro e w1 ⟨rfl, rfl⟩)
                            | (go_at_call 53; refine (Hs.out _).mono ?_; rintro e w1 ⟨rfl, rfl⟩)
                            | (go_at_call 52; refine (Hp.out _).mono ?_; rintro e w2 ⟨rfl, hw⟩; have HB2 := Lib.hid (HO.out.step (below_of_eq hw)); clear hw))
                          first
                            | (go_ret; exact ⟨rfl, HB2.out.2⟩)
                            | (go_ret; exact ⟨rfl, HO.out.2⟩)
                        · have ht := HYes.out rfl j1 j2 rfl
                          subst ht
                          clear HBad HGood HNo HYes HStill
                          go_wp2_with (first
                            | (go_at_call 88; refine (Hf.out _).mono ?_; rintro e w1 ⟨rfl, rfl⟩)
                            | (go_at_call 53; refine (Hs.out _).mono ?_; rintro e w1 ⟨rfl, rfl⟩)
                            | (go_at_call 52; refine (Hp.out _).mono ?_; rintro e w2 ⟨rfl, hw⟩; have HB2 := Lib.hid (HO.out.step (below_of_eq hw)); clear hw))
                          first
                            | (go_ret; exact ⟨rfl, HB2.out.2⟩)
                            | (go_ret; exact ⟨rfl, HO.out.2⟩)
                      · have jb2 : decide (x6 ≤ 9999) = false := decide_eq_false j2
                        have ht := HNo.out rfl (.inr (.inl (by omega)))
                        subst ht
                        clear HBad HGood HNo HYes HStill
                        go_wp2_with (first
                          | (go_at_call 88; refine (Hf.out _).mono ?_; rintro e w1 ⟨rfl, rfl⟩)
                          | (go_at_call 53; refine (Hs.out _).mono ?_; rintro e w1 ⟨rfl, rfl⟩)
                          | (go_at_call 52; refine (Hp.out _).mono ?_; rintro e w2 ⟨rfl, hw⟩; have HB2 := Lib.hid (HO.out.step (below_of_eq hw)); clear hw))
                        first
                          | (go_ret; exact ⟨rfl, HB2.out.2⟩)
                          | (go_ret; exact ⟨rfl, HO.out.2⟩)
                    · have jb : decide (1 ≤ x6) = false := decide_eq_false j1
                      have ht := HNo.out rfl (.inl (by omega))
                      subst ht
                      clear HBad HGood HNo HYes HStill
                      go_wp2_with (first
                        | (go_at_call 88; refine (Hf.out _).mono ?_; rintro e w1 ⟨rfl, rfl⟩)
                        | (go_at_call 53; refine (Hs.out _).mono ?_; rintro e w1 ⟨rfl, rfl⟩)
                        | (go_at_call 52; refine (Hp.out _).mono ?_; rintro e w2 ⟨rfl, hw⟩; have HB2 := Lib.hid (HO.out.step (below_of_eq hw)); clear hw))
                      first
                        | (go_ret; exact ⟨rfl, HB2.out.2⟩)
                        | (go_ret; exact ⟨rfl, HO.out.2⟩)
              · have hs2 : (x2 != 0) = true := by simpa using hs
                have hr : R = false := HBad.out (.inr (.inr (.inr (.inr (.inr (.inr (.inr (.inl (⟨by decide, hs⟩)))))))))
                subst hr
                clear HBad HGood HNo HYes HStill
                go_wp2_with (first
                  | (go_at_call 88; refine (Hf.out _).mono ?_; rintro e w1 ⟨rfl, rfl⟩)
                  | (go_at_call 53; refine (Hs.out _).mono ?_; rintro e w1 ⟨rfl, rfl⟩)
                  | (go_at_call 52; refine (Hp.out _).mono ?_; rintro e w2 ⟨rfl, hw⟩; have HB2 := Lib.hid (HO.out.step (below_of_eq hw)); clear hw))
                first
                  | (go_ret; exact ⟨rfl, HB2.out.2⟩)
                  | (go_ret; exact ⟨rfl, HO.out.2⟩)
            · cases hr3 : x3.toList.isEmpty
              · skip
                have hr : R = false := HBad.out (.inr (.inr (.inr (.inr (.inr (.inr (.inr (.inr (.inl (⟨by decide, hr3⟩))))))))))
                subst hr
                clear HBad HGood HNo HYes HStill
                go_wp2_with (first
                  | (go_at_call 88; refine (Hf.out _).mono ?_; rintro e w1 ⟨rfl, rfl⟩)
                  | (go_at_call 53; refine (Hs.out _).mono ?_; rintro e w1 ⟨rfl, rfl⟩)
                  | (go_at_call 52; refine (Hp.out _).mono ?_; rintro e w2 ⟨rfl, hw⟩; have HB2 := Lib.hid (HO.out.step (below_of_eq hw)); clear hw))
                first
                  | (go_ret; exact ⟨rfl, HB2.out.2⟩)
                  | (go_ret; exact ⟨rfl, HO.out.2⟩)
              · skip
                have hr : R = tb := HGood.out (by omega) (by omega) (by omega) (by omega) rfl (.inr (.inl ⟨rfl, hr3⟩))
                subst hr
                cases x5
                · have ht := HStill.out rfl
                  subst ht
                  cases b5
                  · skip
                    clear HBad HGood HNo HYes HStill
                    go_wp2_with (first
                      | (go_at_call 88; refine (Hf.out _).mono ?_; rintro e w1 ⟨rfl, rfl⟩)
                      | (go_at_call 53; refine (Hs.out _).mono ?_; rintro e w1 ⟨rfl, rfl⟩)
                      | (go_at_call 52; refine (Hp.out _).mono ?_; rintro e w2 ⟨rfl, hw⟩; have HB2 := Lib.hid (HO.out.step (below_of_eq hw)); clear hw))
                    first
                      | (go_ret; exact ⟨rfl, HB2.out.2⟩)
                      | (go_ret; exact ⟨rfl, HO.out.2⟩)
                  · skip
                    clear HBad HGood HNo HYes HStill
                    go_wp2_with (first
                      | (go_at_call 88; refine (Hf.out _).mono ?_; rintro e w1 ⟨rfl, rfl⟩)
                      | (go_at_call 53; refine (Hs.out _).mono ?_; rintro e w1 ⟨rfl, rfl⟩)
                      | (go_at_call 52; refine (Hp.out _).mono ?_; rintro e w2 ⟨rfl, hw⟩; have HB2 := Lib.hid (HO.out.step (below_of_eq hw)); clear hw))
                    first
                      | (go_ret; exact ⟨rfl, HB2.out.2⟩)
                      | (go_ret; exact ⟨rfl, HO.out.2⟩)
                · by_cases j1 : 1 ≤ x6
                  · have jb : decide (1 ≤ x6) = true := decide_eq_true j1
                    by_cases j2 : x6 ≤ 9999
                    · have jb2 : decide (x6 ≤ 9999) = true := decide_eq_true j2
                      cases b7
                      · have ht := HNo.out rfl (.inr (.inr rfl))
                        subst ht
                        clear HBad HGood HNo HYes HStill
                        go_wp2_with (first
                          | (go_at_call 88; refine (Hf.out _).mono ?_; rintro e w1 ⟨rfl, rfl⟩)
                          | (go_at_call 53; refine (Hs.out _).mono ?_; rintro e w1 ⟨rfl, rfl⟩)
                          | (go_at_call 52; refine (Hp.out _).mono ?_; rintro e w2 ⟨rfl, hw⟩; have HB2 := Lib.hid (HO.out.step (below_of_eq hw)); clear hw))
                        first
                          | (go_ret; exact ⟨rfl, HB2.out.2⟩)
                          | (go_ret; exact ⟨rfl, HO.out.2⟩)
                      · have ht := HYes.out rfl j1 j2 rfl
                        subst ht
                        clear HBad HGood HNo HYes HStill
                        go_wp2_with (first
                          | (go_at_call 88; refine (Hf.out _).mono ?_; rintro e w1 ⟨rfl, rfl⟩)
                          | (go_at_call 53; refine (Hs.out _).mono ?_; rintro e w1 ⟨rfl, rfl⟩)
                          | (go_at_call 52; refine (Hp.out _).mono ?_; rintro e w2 ⟨rfl, hw⟩; have HB2 := Lib.hid (HO.out.step (below_of_eq hw)); clear hw))
                        first
                          | (go_ret; exact ⟨rfl, HB2.out.2⟩)
                          | (go_ret; exact ⟨rfl, HO.out.2⟩)
                    · have jb2 : decide (x6 ≤ 9999) = false := decide_eq_false j2
                      have ht := HNo.out rfl (.inr (.inl (by omega)))
                      subst ht
                      clear HBad HGood HNo HYes HStill
                      go_wp2_with (first
                        | (go_at_call 88; refine (Hf.out _).mono ?_; rintro e w1 ⟨rfl, rfl⟩)
                        | (go_at_call 53; refine (Hs.out _).mono ?_; rintro e w1 ⟨rfl, rfl⟩)
                        | (go_at_call 52; refine (Hp.out _).mono ?_; rintro e w2 ⟨rfl, hw⟩; have HB2 := Lib.hid (HO.out.step (below_of_eq hw)); clear hw))
                      first
                        | (go_ret; exact ⟨rfl, HB2.out.2⟩)
                        | (go_ret; exact ⟨rfl, HO.out.2⟩)
                  · have jb : decide (1 ≤ x6) = false := decide_eq_false j1
                    have ht := HNo.out rfl (.inl (by omega))
                    subst ht
                    clear HBad HGood HNo HYes HStill
                    go_wp2_with (first
                      | (go_at_call 88; refine (Hf.out _).mono ?_; rintro e w1 ⟨rfl, rfl⟩)
                      | (go_at_call 53; refine (Hs.out _).mono ?_; rintro e w1 ⟨rfl, rfl⟩)
                      | (go_at_call 52; refine (Hp.out _).mono ?_; rintro e w2 ⟨rfl, hw⟩; have HB2 := Lib.hid (HO.out.step (below_of_eq hw)); clear hw))
                    first
                      | (go_ret; exact ⟨rfl, HB2.out.2⟩)
                      | (go_ret; exact ⟨rfl, HO.out.2⟩)
            · by_cases hs : x2 = 0
              · subst hs
                cases b3
                · skip
                  have hr : R = false := HBad.out (.inr (.inr (.inr (.inr (.inr (.inr (.inr (.inr (.inr (⟨rfl, rfl⟩))))))))))
                  subst hr
                  clear HBad HGood HNo HYes HStill
                  go_wp2_with (first
                    | (go_at_call 88; refine (Hf.out _).mono ?_; rintro e w1 ⟨rfl, rfl⟩)
                    | (go_at_call 53; refine (Hs.out _).mono ?_; rintro e w1 ⟨rfl, rfl⟩)
                    | (go_at_call 52; refine (Hp.out _).mono ?_; rintro e w2 ⟨rfl, hw⟩; have HB2 := Lib.hid (HO.out.step (below_of_eq hw)); clear hw))
                  first
                    | (go_ret; exact ⟨rfl, HB2.out.2⟩)
                    | (go_ret; exact ⟨rfl, HO.out.2⟩)
                · skip
                  have hr : R = tb := HGood.out (by omega) (by omega) (by omega) (by omega) rfl (.inr (.inr ⟨rfl, rfl, rfl⟩))
                  subst hr
                  cases x5
                  · have ht := HStill.out rfl
                    subst ht
                    cases b5
                    · skip
                      clear HBad HGood HNo HYes HStill
                      go_wp2_with (first
                        | (go_at_call 88; refine (Hf.out _).mono ?_; rintro e w1 ⟨rfl, rfl⟩)
                        | (go_at_call 53; refine (Hs.out _).mono ?_; rintro e w1 ⟨rfl, rfl⟩)
                        | (go_at_call 52; refine (Hp.out _).mono ?_; rintro e w2 ⟨rfl, hw⟩; have HB2 := Lib.hid (HO.out.step (below_of_eq hw)); clear hw))
                      first
                        | (go_ret; exact ⟨rfl, HB2.out.2⟩)
                        | (go_ret; exact ⟨rfl, HO.out.2⟩)
                    · skip
                      clear HBad HGood HNo HYes HStill
                      go_wp2_with (first
                        | (go_at_call 88; refine (Hf.out _).mono ?_; rintro e w1 ⟨rfl, rfl⟩)
                        | (go_at_call 53; refine (Hs.out _).mono ?_; rintro e w1 ⟨rfl, rfl⟩)
                        | (go_at_call 52; refine (Hp.out _).mono ?_; rintro e w2 ⟨rfl, hw⟩; have HB2 := Lib.hid (HO.out.step (below_of_eq hw)); clear hw))
                      first
                        | (go_ret; exact ⟨rfl, HB2.out.2⟩)
                        | (go_ret; exact ⟨rfl, HO.out.2⟩)
                  · by_cases j1 : 1 ≤ x6
                    · have jb : decide (1 ≤ x6) = true := decide_eq_true j1
                      by_cases j2 : x6 ≤ 9999
                      · have jb2 : decide (x6 ≤ 9999) = true := decide_eq_true j2
                        cases b7
                        · have ht := HNo.out rfl (.inr (.inr rfl))
                          subst ht
                          clear HBad HGood HNo HYes HStill
                          go_wp2_with (first
                            | (go_at_call 88; refine (Hf.out _).mono ?_; rintro e w1 ⟨rfl, rfl⟩)
                            | (go_at_call 53; refine (Hs.out _).mono ?_; rintro e w1 ⟨rfl, rfl⟩)
                            | (go_at_call 52; refine (Hp.out _).mono ?_; rintro e w2 ⟨rfl, hw⟩; have HB2 := Lib.hid (HO.out.step (below_of_eq hw)); clear hw))
                          first
                            | (go_ret; exact ⟨rfl, HB2.out.2⟩)
                            | (go_ret; exact ⟨rfl, HO.out.2⟩)
                        · have ht := HYes.out rfl j1 j2 rfl
                          subst ht
                          clear HBad HGood HNo HYes HStill
                          go_wp2_with (first
                            | (go_at_call 88; refine (Hf.out _).mono ?_; rintro e w1 ⟨rfl, rfl⟩)
                            | (go_at_call 53; refine (Hs.out _).mono ?_; rintro e w1 ⟨rfl, rfl⟩)
                            | (go_at_call 52; refine (Hp.out _).mono ?_; rintro e w2 ⟨rfl, hw⟩; have HB2 := Lib.hid (HO.out.step (below_of_eq hw)); clear hw))
                          first
                            | (go_ret; exact ⟨rfl, HB2.out.2⟩)
                            | (go_ret; exact ⟨rfl, HO.out.2⟩)
                      · have jb2 : decide (x6 ≤ 9999) = false := decide_eq_false j2
                        have ht := HNo.out rfl (.inr (.inl (by omega)))
                        subst ht
                        clear HBad HGood HNo HYes HStill
                        go_wp2_with (first
                          | (go_at_call 88; refine (Hf.out _).mono ?_; rintro e w1 ⟨rfl, rfl⟩)
                          | (go_at_call 53; refine (Hs.out _).mono ?_; rintro e w1 ⟨rfl, rfl⟩)
                          | (go_at_call 52; refine (Hp.out _).mono ?_; rintro e w2 ⟨rfl, hw⟩; have HB2 := Lib.hid (HO.out.step (below_of_eq hw)); clear hw))
                        first
                          | (go_ret; exact ⟨rfl, HB2.out.2⟩)
                          | (go_ret; exact ⟨rfl, HO.out.2⟩)
                    · have jb : decide (1 ≤ x6) = false := decide_eq_false j1
                      have ht := HNo.out rfl (.inl (by omega))
                      subst ht
                      clear HBad HGood HNo HYes HStill
                      go_wp2_with (first
                        | (go_at_call 88; refine (Hf.out _).mono ?_; rintro e w1 ⟨rfl, rfl⟩)
                        | (go_at_call 53; refine (Hs.out _).mono ?_; rintro e w1 ⟨rfl, rfl⟩)
                        | (go_at_call 52; refine (Hp.out _).mono ?_; rintro e w2 ⟨rfl, hw⟩; have HB2 := Lib.hid (HO.out.step (below_of_eq hw)); clear hw))
                      first
                        | (go_ret; exact ⟨rfl, HB2.out.2⟩)
                        | (go_ret; exact ⟨rfl, HO.out.2⟩)
              · have hs2 : (x2 != 0) = true := by simpa using hs
                have hr : R = false := HBad.out (.inr (.inr (.inr (.inr (.inr (.inr (.inr (.inl (⟨by decide, hs⟩)))))))))
                subst hr
                clear HBad HGood HNo HYes HStill
                go_wp2_with (first
                  | (go_at_call 88; refine (Hf.out _).mono ?_; rintro e w1 ⟨rfl, rfl⟩)
                  | (go_at_call 53; refine (Hs.out _).mono ?_; rintro e w1 ⟨rfl, rfl⟩)
                  | (go_at_call 52; refine (Hp.out _).mono ?_; rintro e w2 ⟨rfl, hw⟩; have HB2 := Lib.hid (HO.out.step (below_of_eq hw)); clear hw))
                first
                  | (go_ret; exact ⟨rfl, HB2.out.2⟩)
                  | (go_ret; exact ⟨rfl, HO.out.2⟩)
end Go.Proofs.YtgfdmjldfahbpaaGreatDoor.D10
namespace Go.Proofs.YtgfdmjldfahbpaaGreatDoor.D10
open Go.RowKit Mem Civ Mom Img Plc Rul Src

theorem ruleR_bad {r : Rule} (h : r.lo < 1 ∨ 9999 < r.lo ∨ r.hi < 1 ∨ (9999 < r.hi ∧ r.hi ≠ 1000000) ∨ spotB (spotOf r) = false ∨ 43200 < r.save ∨ r.save < -43200 ∨ setB r.name = false ∨ r.letter.toList = [45] ∨ (r.letter.toList ≠ [] ∧ madeB r.letter.data.toList 8 [43, 45] = false)) : ruleR r = false := by
  cases he : ruleR r
  · rfl
  · exfalso
    unfold ruleR yearB savingB letterB at he
    simp only [Bool.and_eq_true, Bool.or_eq_true, decide_eq_true_eq, Bool.not_eq_true', decide_eq_false_iff_not] at he
    obtain ⟨h1, ⟨h2, h3⟩, h4, h5, ⟨h6, h7⟩, h8⟩ := he
    rcases h with h | h | h | ⟨h, h'⟩ | h | h | h | h | h | ⟨h, h'⟩
    · omega
    · omega
    · omega
    · omega
    · rw [h5] at h; cases h
    · omega
    · omega
    · rw [h1] at h; cases h
    · rcases h8 with h8 | ⟨h8, _⟩
      · rw [h] at h8; cases h8
      · exact h8 h
    · rcases h8 with h8 | ⟨_, h8⟩
      · exact h h8
      · rw [h8] at h'; cases h'
theorem ruleR_good {r : Rule} (h1 : 1 ≤ r.lo) (h2 : r.lo ≤ 9999) (h3 : 1 ≤ r.hi) (h4 : r.hi ≤ 9999 ∨ r.hi = 1000000) (h5 : spotB (spotOf r) = true) (h6 : r.save ≤ 43200) (h7 : -43200 ≤ r.save) (h8 : setB r.name = true)
    (h9 : r.letter.toList = [] ∨ (r.letter.toList ≠ [45] ∧ madeB r.letter.data.toList 8 [43, 45] = true)) : ruleR r = true := by
  unfold ruleR yearB savingB letterB
  simp only [Bool.and_eq_true, Bool.or_eq_true, decide_eq_true_eq, Bool.not_eq_true', decide_eq_false_iff_not]
  refine ⟨h8, ⟨h1, h2⟩, ?_, h5, ⟨h7, h6⟩, h9⟩
  omega
theorem eras_step {es : List Era} {j : Nat} (hj : j < es.length) (h : erasOk es j = true) : erasOk es (j + 1) = (eraB es[j] && (es[j].till == decide (((j : Nat) : Int) < (es.length : Int) - 1))) := by
  rw [erasOk, h, List.getElem?_eq_getElem hj]
  rfl
theorem all_stop {α : Type} {p : α → Bool} {l : List α} {k : Nat} (hk : k < l.length) (h : p l[k] = false) : l.all p = false := Src.all_no p l k hk h
set_option maxHeartbeats 4000000 in
set_option maxRecDepth 100000 in
theorem bounded_any (s : Src) (A A2 A3 : Option Addr) (c c2 c3 : Nat) (w : World) (h : SrcOk s A A2 A3 w) :
    Calls Tryz.prog 38 #[.agg #[.slice A s.rules.length c, .slice A2 s.zones.length c2, .slice A3 s.links.length c3]] w fun e w' => e = .returned (.bool (srcB s)) ∧ Below w.heap.size w w' := by
  have hone := One.new w 26 #[.slice A s.rules.length c, .slice A2 s.zones.length c2, .slice A3 s.links.length c3]
  have hrr := h.rr; have hrz := h.rz; have hrl := h.rl; have hre := h.re; have nr := h.nr; have nz := h.nz; have nl := h.nl; have ne := h.ne; have tr := h.tr; have tz := h.tz; have te := h.te; have tl := h.tl
  clear h
  obtain ⟨Q, hQ⟩ : ∃ Q, srcB s = Q := ⟨_, rfl⟩
  rw [hQ]
  unfold srcB at hQ
  obtain ⟨rs, zs, ls⟩ := s
  simp only at hone hrr hrz hrl hre nr nz nl ne tr tz te tl hQ ⊢
  obtain ⟨W, hW⟩ : ∃ W, w.alloc (.cells #[.slice A rs.length c, .slice A2 zs.length c2, .slice A3 ls.length c3] 26) = W := ⟨_, rfl⟩
  rw [hW] at hone
  have HO := Lib.hid hone; have HR := Lib.hid hrr; have HZ := Lib.hid hrz; have HL := Lib.hid hrl; have HE := Lib.hid hre
  have HTr := Lib.hid tr; have HTz := Lib.hid tz; have HTe := Lib.hid te; have HTl := Lib.hid tl; have HNe := Lib.hid ne
  have c0 := fun i => hone.1.cell i
  clear hone hrr hrz hrl hre tr tz te tl ne
  go_enter Tryz.func38, Tryz.ntmps38
  by_cases brs : 200 < rs.length
  · have bbrs : decide ((200 : Int) < (rs.length : Nat)) = true := decide_eq_true (by omega)
    have hq : Q = false := by rw [← hQ, decide_eq_true brs]; simp
    subst hq
    go_wp2
    go_ret
    exact ⟨rfl, HO.out.2⟩
  have bbrs : decide ((200 : Int) < (rs.length : Nat)) = false := decide_eq_false (by omega)
  by_cases bzs : 50 < zs.length
  · have bbzs : decide ((50 : Int) < (zs.length : Nat)) = true := decide_eq_true (by omega)
    have hq : Q = false := by rw [← hQ, decide_eq_true bzs]; simp
    subst hq
    go_wp2
    go_ret
    exact ⟨rfl, HO.out.2⟩
  have bbzs : decide ((50 : Int) < (zs.length : Nat)) = false := decide_eq_false (by omega)
  by_cases bls : 100 < ls.length
  · have bbls : decide ((100 : Int) < (ls.length : Nat)) = true := decide_eq_true (by omega)
    have hq : Q = false := by rw [← hQ, decide_eq_true bls]; simp
    subst hq
    go_wp2
    go_ret
    exact ⟨rfl, HO.out.2⟩
  have bbls : decide ((100 : Int) < (ls.length : Nat)) = false := decide_eq_false (by omega)
  rw [decide_eq_false brs, decide_eq_false bzs, decide_eq_false bls] at hQ
  have hQ2 : (rs.all ruleR && (zs.all zoneB && ls.all linkB)) = Q := by rw [← hQ]; rfl
  have HQ := Lib.hid hQ2
  clear hQ hQ2
  go_wp2
  clear c0 bbrs bbzs bbls
  go_loopw [3] (fun i wr => ∃ k : Nat, k ≤ rs.length ∧ i = .int .i64 k ∧ (rs.take k).all ruleR = true ∧ One w w.heap.size 26 #[.slice A rs.length c, .slice A2 zs.length c2, .slice A3 ls.length c3] wr) (fun i _ => rs.length - (intOf i).toNat)
  case atStart => exact ⟨0, Nat.zero_le _, rfl, rfl, HO.out⟩
  case round =>
    clear HO
    obtain ⟨k, hk, rfl, hall, ho⟩ := hrel
    have HO := Lib.hid ho; have Hall := Lib.hid hall
    have c0 := fun i => ho.1.cell i
    clear ho hall
    by_cases hkn : k < rs.length
    · obtain ⟨ad, hA, hadb, a0, a1, a2, a3, a4, a5, a6, a7, a8, a9, a10⟩ := rule_cells (HR.out.below HO.out.2) hkn
      subst hA
      have hst : ruleR rs[k] = true → (rs.take (k + 1)).all ruleR = true := fun h => by rw [all_step _ _ _ hkn Hall.out]; exact h
      have hno : ruleR rs[k] = false → Q = false := fun h => by rw [← HQ.out, all_stop hkn h]; rfl
      have HNo := Lib.hid (fun h => hno (ruleR_bad h))
      have hgd := @ruleR_good rs[k]
      have HGood := Lib.hid (fun h1 h2 h3 h4 h5 h6 h7 h8 h9 => hst (hgd h1 h2 h3 h4 h5 h6 h7 h8 h9))
      obtain ⟨t1, t2⟩ := HTr.out rs[k] (List.getElem_mem hkn)
      have Hs := Lib.hid (fun z => R10.set_any rs[k].name z (by omega))
      have Hl := Lib.hid (fun z => R10.letters_any rs[k].letter z (by omega))
      have Hp := Lib.hid (fun z => R09.right_any (spotOf rs[k]) z)
      clear hst hno Hall t1 t2 hgd
      generalize rs[k] = r at *
      obtain ⟨r0, r1, r2, r3, r4, r5, r6, r7, r8, r9, r10⟩ := r
      simp only [spotOf, Spot.cells] at a0 a1 a2 a3 a4 a5 a6 a7 a8 a9 a10 HNo HGood Hs Hl Hp
      generalize setB r0 = b1 at *
      generalize spotB ⟨r3, r4, r5, r6, r7, r8⟩ = b5 at *
      generalize madeB r10.data.toList 8 [43, 45] = b9 at *
      have hxb := Blk.new wr 47 #[.string r0, .int .i64 r1, .int .i64 r2, .int .i64 r3, .int .i64 r4, .int .i64 r5, .int .i64 r6, .int .i64 r7, .int .i64 r8, .int .i64 r9, .string r10]
      have HX := Lib.hid hxb
      have HOx := Lib.hid (HO.out.step ((Below.refl _ _).alloc (Nat.le_refl _) (.cells #[.string r0, .int .i64 r1, .int .i64 r2, .int .i64 r3, .int .i64 r4, .int .i64 r5, .int .i64 r6, .int .i64 r7, .int .i64 r8, .int .i64 r9, .string r10] 47)))
      clear hxb
      by_cases k0 : r1 < 1
      · have k0b : decide (r1 < 1) = true := decide_eq_true k0
        have hr : Q = false := HNo.out (.inl (k0))
        subst hr
        clear HNo HGood HQ
        go_wp2_with (first
          | (go_at_call 52; refine (Hp.out _).mono ?_; rintro e w1 ⟨rfl, hw⟩; have hbw := below_of_eq hw; have HO1 := Lib.hid (HOx.out.step hbw); have c1 := fun i => (HX.out.below hbw HX.out.lt).cell i; clear hw hbw)
          | (go_at_call 53; refine (Hs.out _).mono ?_; rintro e w2 ⟨rfl, rfl⟩)
          | (go_at_call 54; refine (Hl.out _).mono ?_; rintro e w2 ⟨rfl, rfl⟩))
        first
          | (go_ret; exact ⟨rfl, HO1.out.2⟩)
          | (go_ret; exact ⟨rfl, HOx.out.2⟩)
      have k0b : decide (r1 < 1) = false := decide_eq_false k0
      by_cases k1 : 9999 < r1
      · have k1b : decide (9999 < r1) = true := decide_eq_true k1
        have hr : Q = false := HNo.out (.inr (.inl (k1)))
        subst hr
        clear HNo HGood HQ
        go_wp2_with (first
          | (go_at_call 52; refine (Hp.out _).mono ?_; rintro e w1 ⟨rfl, hw⟩; have hbw := below_of_eq hw; have HO1 := Lib.hid (HOx.out.step hbw); have c1 := fun i => (HX.out.below hbw HX.out.lt).cell i; clear hw hbw)
          | (go_at_call 53; refine (Hs.out _).mono ?_; rintro e w2 ⟨rfl, rfl⟩)
          | (go_at_call 54; refine (Hl.out _).mono ?_; rintro e w2 ⟨rfl, rfl⟩))
        first
          | (go_ret; exact ⟨rfl, HO1.out.2⟩)
          | (go_ret; exact ⟨rfl, HOx.out.2⟩)
      have k1b : decide (9999 < r1) = false := decide_eq_false k1
      by_cases k2 : r2 < 1
      · have k2b : decide (r2 < 1) = true := decide_eq_true k2
        have hr : Q = false := HNo.out (.inr (.inr (.inl (k2))))
        subst hr
        clear HNo HGood HQ
        go_wp2_with (first
          | (go_at_call 52; refine (Hp.out _).mono ?_; rintro e w1 ⟨rfl, hw⟩; have hbw := below_of_eq hw; have HO1 := Lib.hid (HOx.out.step hbw); have c1 := fun i => (HX.out.below hbw HX.out.lt).cell i; clear hw hbw)
          | (go_at_call 53; refine (Hs.out _).mono ?_; rintro e w2 ⟨rfl, rfl⟩)
          | (go_at_call 54; refine (Hl.out _).mono ?_; rintro e w2 ⟨rfl, rfl⟩))
        first
          | (go_ret; exact ⟨rfl, HO1.out.2⟩)
          | (go_ret; exact ⟨rfl, HOx.out.2⟩)
      have k2b : decide (r2 < 1) = false := decide_eq_false k2
      by_cases k3 : 9999 < r2
      · have k3b : decide (9999 < r2) = true := decide_eq_true k3
        by_cases k4 : r2 = 1000000
        · subst k4
          cases b5
          · skip
            have hr : Q = false := HNo.out (.inr (.inr (.inr (.inr (.inl (rfl))))))
            subst hr
            clear HNo HGood HQ
            go_wp2_with (first
              | (go_at_call 52; refine (Hp.out _).mono ?_; rintro e w1 ⟨rfl, hw⟩; have hbw := below_of_eq hw; have HO1 := Lib.hid (HOx.out.step hbw); have c1 := fun i => (HX.out.below hbw HX.out.lt).cell i; clear hw hbw)
              | (go_at_call 53; refine (Hs.out _).mono ?_; rintro e w2 ⟨rfl, rfl⟩)
              | (go_at_call 54; refine (Hl.out _).mono ?_; rintro e w2 ⟨rfl, rfl⟩))
            first
              | (go_ret; exact ⟨rfl, HO1.out.2⟩)
              | (go_ret; exact ⟨rfl, HOx.out.2⟩)
          by_cases k5 : 43200 < r9
          · have k5b : decide (43200 < r9) = true := decide_eq_true k5
            have hr : Q = false := HNo.out (.inr (.inr (.inr (.inr (.inr (.inl (k5)))))))
            subst hr
            clear HNo HGood HQ
            go_wp2_with (first
              | (go_at_call 52; refine (Hp.out _).mono ?_; rintro e w1 ⟨rfl, hw⟩; have hbw := below_of_eq hw; have HO1 := Lib.hid (HOx.out.step hbw); have c1 := fun i => (HX.out.below hbw HX.out.lt).cell i; clear hw hbw)
              | (go_at_call 53; refine (Hs.out _).mono ?_; rintro e w2 ⟨rfl, rfl⟩)
              | (go_at_call 54; refine (Hl.out _).mono ?_; rintro e w2 ⟨rfl, rfl⟩))
            first
              | (go_ret; exact ⟨rfl, HO1.out.2⟩)
              | (go_ret; exact ⟨rfl, HOx.out.2⟩)
          have k5b : decide (43200 < r9) = false := decide_eq_false k5
          by_cases k6 : r9 < -43200
          · have k6b : decide (r9 < -43200) = true := decide_eq_true k6
            have hr : Q = false := HNo.out (.inr (.inr (.inr (.inr (.inr (.inr (.inl (k6))))))))
            subst hr
            clear HNo HGood HQ
            go_wp2_with (first
              | (go_at_call 52; refine (Hp.out _).mono ?_; rintro e w1 ⟨rfl, hw⟩; have hbw := below_of_eq hw; have HO1 := Lib.hid (HOx.out.step hbw); have c1 := fun i => (HX.out.below hbw HX.out.lt).cell i; clear hw hbw)
              | (go_at_call 53; refine (Hs.out _).mono ?_; rintro e w2 ⟨rfl, rfl⟩)
              | (go_at_call 54; refine (Hl.out _).mono ?_; rintro e w2 ⟨rfl, rfl⟩))
            first
              | (go_ret; exact ⟨rfl, HO1.out.2⟩)
              | (go_ret; exact ⟨rfl, HOx.out.2⟩)
          have k6b : decide (r9 < -43200) = false := decide_eq_false k6
          cases b1
          · skip
            have hr : Q = false := HNo.out (.inr (.inr (.inr (.inr (.inr (.inr (.inr (.inl (rfl)))))))))
            subst hr
            clear HNo HGood HQ
            go_wp2_with (first
              | (go_at_call 52; refine (Hp.out _).mono ?_; rintro e w1 ⟨rfl, hw⟩; have hbw := below_of_eq hw; have HO1 := Lib.hid (HOx.out.step hbw); have c1 := fun i => (HX.out.below hbw HX.out.lt).cell i; clear hw hbw)
              | (go_at_call 53; refine (Hs.out _).mono ?_; rintro e w2 ⟨rfl, rfl⟩)
              | (go_at_call 54; refine (Hl.out _).mono ?_; rintro e w2 ⟨rfl, rfl⟩))
            first
              | (go_ret; exact ⟨rfl, HO1.out.2⟩)
              | (go_ret; exact ⟨rfl, HOx.out.2⟩)
          by_cases hl2 : r10.toList = [45]
          · have hl2b : (r10.toList == [45]) = true := by simpa using hl2
            have hl1b : r10.toList.isEmpty = false := by rw [hl2]; rfl
            skip
            have hr : Q = false := HNo.out (.inr (.inr (.inr (.inr (.inr (.inr (.inr (.inr (.inl (hl2))))))))))
            subst hr
            clear HNo HGood HQ
            go_wp2_with (first
              | (go_at_call 52; refine (Hp.out _).mono ?_; rintro e w1 ⟨rfl, hw⟩; have hbw := below_of_eq hw; have HO1 := Lib.hid (HOx.out.step hbw); have c1 := fun i => (HX.out.below hbw HX.out.lt).cell i; clear hw hbw)
              | (go_at_call 53; refine (Hs.out _).mono ?_; rintro e w2 ⟨rfl, rfl⟩)
              | (go_at_call 54; refine (Hl.out _).mono ?_; rintro e w2 ⟨rfl, rfl⟩))
            first
              | (go_ret; exact ⟨rfl, HO1.out.2⟩)
              | (go_ret; exact ⟨rfl, HOx.out.2⟩)
          have hl2b : (r10.toList == [45]) = false := by simpa using hl2
          by_cases hl1 : r10.toList = []
          · have hl1b : r10.toList.isEmpty = true := by rw [hl1]; rfl
            have hg := HGood.out (by omega) (by omega) (by omega) (.inr rfl) rfl (by omega) (by omega) rfl (.inl hl1)
            have HG := Lib.hid hg
            clear HNo HGood hg hl1 hl2
            go_wp2_with (first
              | (go_at_call 52; refine (Hp.out _).mono ?_; rintro e w1 ⟨rfl, hw⟩; have hbw := below_of_eq hw; have HO1 := Lib.hid (HOx.out.step hbw); have c1 := fun i => (HX.out.below hbw HX.out.lt).cell i; clear hw hbw)
              | (go_at_call 53; refine (Hs.out _).mono ?_; rintro e w2 ⟨rfl, rfl⟩)
              | (go_at_call 54; refine (Hl.out _).mono ?_; rintro e w2 ⟨rfl, rfl⟩))
            exact ⟨⟨k + 1, by omega, by go_num, HG.out, HO1.out⟩, by simp [intOf]; omega⟩
          have hl1b : r10.toList.isEmpty = false := by cases hh : r10.toList with | nil => exact absurd hh hl1 | cons a t => rfl
          cases b9
          · skip
            have hr : Q = false := HNo.out (.inr (.inr (.inr (.inr (.inr (.inr (.inr (.inr (.inr (⟨hl1, rfl⟩))))))))))
            subst hr
            clear HNo HGood HQ
            go_wp2_with (first
              | (go_at_call 52; refine (Hp.out _).mono ?_; rintro e w1 ⟨rfl, hw⟩; have hbw := below_of_eq hw; have HO1 := Lib.hid (HOx.out.step hbw); have c1 := fun i => (HX.out.below hbw HX.out.lt).cell i; clear hw hbw)
              | (go_at_call 53; refine (Hs.out _).mono ?_; rintro e w2 ⟨rfl, rfl⟩)
              | (go_at_call 54; refine (Hl.out _).mono ?_; rintro e w2 ⟨rfl, rfl⟩))
            first
              | (go_ret; exact ⟨rfl, HO1.out.2⟩)
              | (go_ret; exact ⟨rfl, HOx.out.2⟩)
          have hg := HGood.out (by omega) (by omega) (by omega) (.inr rfl) rfl (by omega) (by omega) rfl (.inr ⟨hl2, rfl⟩)
          have HG := Lib.hid hg
          clear HNo HGood hg hl1 hl2
          go_wp2_with (first
            | (go_at_call 52; refine (Hp.out _).mono ?_; rintro e w1 ⟨rfl, hw⟩; have hbw := below_of_eq hw; have HO1 := Lib.hid (HOx.out.step hbw); have c1 := fun i => (HX.out.below hbw HX.out.lt).cell i; clear hw hbw)
            | (go_at_call 53; refine (Hs.out _).mono ?_; rintro e w2 ⟨rfl, rfl⟩)
            | (go_at_call 54; refine (Hl.out _).mono ?_; rintro e w2 ⟨rfl, rfl⟩))
          exact ⟨⟨k + 1, by omega, by go_num, HG.out, HO1.out⟩, by simp [intOf]; omega⟩
        · have k4b : (r2 != 1000000) = true := by simpa using k4
          have hr : Q = false := HNo.out (.inr (.inr (.inr (.inl (⟨k3, k4⟩)))))
          subst hr
          clear HNo HGood HQ
          go_wp2_with (first
            | (go_at_call 52; refine (Hp.out _).mono ?_; rintro e w1 ⟨rfl, hw⟩; have hbw := below_of_eq hw; have HO1 := Lib.hid (HOx.out.step hbw); have c1 := fun i => (HX.out.below hbw HX.out.lt).cell i; clear hw hbw)
            | (go_at_call 53; refine (Hs.out _).mono ?_; rintro e w2 ⟨rfl, rfl⟩)
            | (go_at_call 54; refine (Hl.out _).mono ?_; rintro e w2 ⟨rfl, rfl⟩))
          first
            | (go_ret; exact ⟨rfl, HO1.out.2⟩)
            | (go_ret; exact ⟨rfl, HOx.out.2⟩)
      · have k3b : decide (9999 < r2) = false := decide_eq_false k3
        cases b5
        · skip
          have hr : Q = false := HNo.out (.inr (.inr (.inr (.inr (.inl (rfl))))))
          subst hr
          clear HNo HGood HQ
          go_wp2_with (first
            | (go_at_call 52; refine (Hp.out _).mono ?_; rintro e w1 ⟨rfl, hw⟩; have hbw := below_of_eq hw; have HO1 := Lib.hid (HOx.out.step hbw); have c1 := fun i => (HX.out.below hbw HX.out.lt).cell i; clear hw hbw)
            | (go_at_call 53; refine (Hs.out _).mono ?_; rintro e w2 ⟨rfl, rfl⟩)
            | (go_at_call 54; refine (Hl.out _).mono ?_; rintro e w2 ⟨rfl, rfl⟩))
          first
            | (go_ret; exact ⟨rfl, HO1.out.2⟩)
            | (go_ret; exact ⟨rfl, HOx.out.2⟩)
        by_cases k5 : 43200 < r9
        · have k5b : decide (43200 < r9) = true := decide_eq_true k5
          have hr : Q = false := HNo.out (.inr (.inr (.inr (.inr (.inr (.inl (k5)))))))
          subst hr
          clear HNo HGood HQ
          go_wp2_with (first
            | (go_at_call 52; refine (Hp.out _).mono ?_; rintro e w1 ⟨rfl, hw⟩; have hbw := below_of_eq hw; have HO1 := Lib.hid (HOx.out.step hbw); have c1 := fun i => (HX.out.below hbw HX.out.lt).cell i; clear hw hbw)
            | (go_at_call 53; refine (Hs.out _).mono ?_; rintro e w2 ⟨rfl, rfl⟩)
            | (go_at_call 54; refine (Hl.out _).mono ?_; rintro e w2 ⟨rfl, rfl⟩))
          first
            | (go_ret; exact ⟨rfl, HO1.out.2⟩)
            | (go_ret; exact ⟨rfl, HOx.out.2⟩)
        have k5b : decide (43200 < r9) = false := decide_eq_false k5
        by_cases k6 : r9 < -43200
        · have k6b : decide (r9 < -43200) = true := decide_eq_true k6
          have hr : Q = false := HNo.out (.inr (.inr (.inr (.inr (.inr (.inr (.inl (k6))))))))
          subst hr
          clear HNo HGood HQ
          go_wp2_with (first
            | (go_at_call 52; refine (Hp.out _).mono ?_; rintro e w1 ⟨rfl, hw⟩; have hbw := below_of_eq hw; have HO1 := Lib.hid (HOx.out.step hbw); have c1 := fun i => (HX.out.below hbw HX.out.lt).cell i; clear hw hbw)
            | (go_at_call 53; refine (Hs.out _).mono ?_; rintro e w2 ⟨rfl, rfl⟩)
            | (go_at_call 54; refine (Hl.out _).mono ?_; rintro e w2 ⟨rfl, rfl⟩))
          first
            | (go_ret; exact ⟨rfl, HO1.out.2⟩)
            | (go_ret; exact ⟨rfl, HOx.out.2⟩)
        have k6b : decide (r9 < -43200) = false := decide_eq_false k6
        cases b1
        · skip
          have hr : Q = false := HNo.out (.inr (.inr (.inr (.inr (.inr (.inr (.inr (.inl (rfl)))))))))
          subst hr
          clear HNo HGood HQ
          go_wp2_with (first
            | (go_at_call 52; refine (Hp.out _).mono ?_; rintro e w1 ⟨rfl, hw⟩; have hbw := below_of_eq hw; have HO1 := Lib.hid (HOx.out.step hbw); have c1 := fun i => (HX.out.below hbw HX.out.lt).cell i; clear hw hbw)
            | (go_at_call 53; refine (Hs.out _).mono ?_; rintro e w2 ⟨rfl, rfl⟩)
            | (go_at_call 54; refine (Hl.out _).mono ?_; rintro e w2 ⟨rfl, rfl⟩))
          first
            | (go_ret; exact ⟨rfl, HO1.out.2⟩)
            | (go_ret; exact ⟨rfl, HOx.out.2⟩)
        by_cases hl2 : r10.toList = [45]
        · have hl2b : (r10.toList == [45]) = true := by simpa using hl2
          have hl1b : r10.toList.isEmpty = false := by rw [hl2]; rfl
          skip
          have hr : Q = false := HNo.out (.inr (.inr (.inr (.inr (.inr (.inr (.inr (.inr (.inl (hl2))))))))))
          subst hr
          clear HNo HGood HQ
          go_wp2_with (first
            | (go_at_call 52; refine (Hp.out _).mono ?_; rintro e w1 ⟨rfl, hw⟩; have hbw := below_of_eq hw; have HO1 := Lib.hid (HOx.out.step hbw); have c1 := fun i => (HX.out.below hbw HX.out.lt).cell i; clear hw hbw)
            | (go_at_call 53; refine (Hs.out _).mono ?_; rintro e w2 ⟨rfl, rfl⟩)
            | (go_at_call 54; refine (Hl.out _).mono ?_; rintro e w2 ⟨rfl, rfl⟩))
          first
            | (go_ret; exact ⟨rfl, HO1.out.2⟩)
            | (go_ret; exact ⟨rfl, HOx.out.2⟩)
        have hl2b : (r10.toList == [45]) = false := by simpa using hl2
        by_cases hl1 : r10.toList = []
        · have hl1b : r10.toList.isEmpty = true := by rw [hl1]; rfl
          have hg := HGood.out (by omega) (by omega) (by omega) (.inl (by omega)) rfl (by omega) (by omega) rfl (.inl hl1)
          have HG := Lib.hid hg
          clear HNo HGood hg hl1 hl2
          go_wp2_with (first
            | (go_at_call 52; refine (Hp.out _).mono ?_; rintro e w1 ⟨rfl, hw⟩; have hbw := below_of_eq hw; have HO1 := Lib.hid (HOx.out.step hbw); have c1 := fun i => (HX.out.below hbw HX.out.lt).cell i; clear hw hbw)
            | (go_at_call 53; refine (Hs.out _).mono ?_; rintro e w2 ⟨rfl, rfl⟩)
            | (go_at_call 54; refine (Hl.out _).mono ?_; rintro e w2 ⟨rfl, rfl⟩))
          exact ⟨⟨k + 1, by omega, by go_num, HG.out, HO1.out⟩, by simp [intOf]; omega⟩
        have hl1b : r10.toList.isEmpty = false := by cases hh : r10.toList with | nil => exact absurd hh hl1 | cons a t => rfl
        cases b9
        · skip
          have hr : Q = false := HNo.out (.inr (.inr (.inr (.inr (.inr (.inr (.inr (.inr (.inr (⟨hl1, rfl⟩))))))))))
          subst hr
          clear HNo HGood HQ
          go_wp2_with (first
            | (go_at_call 52; refine (Hp.out _).mono ?_; rintro e w1 ⟨rfl, hw⟩; have hbw := below_of_eq hw; have HO1 := Lib.hid (HOx.out.step hbw); have c1 := fun i => (HX.out.below hbw HX.out.lt).cell i; clear hw hbw)
            | (go_at_call 53; refine (Hs.out _).mono ?_; rintro e w2 ⟨rfl, rfl⟩)
            | (go_at_call 54; refine (Hl.out _).mono ?_; rintro e w2 ⟨rfl, rfl⟩))
          first
            | (go_ret; exact ⟨rfl, HO1.out.2⟩)
            | (go_ret; exact ⟨rfl, HOx.out.2⟩)
        have hg := HGood.out (by omega) (by omega) (by omega) (.inl (by omega)) rfl (by omega) (by omega) rfl (.inr ⟨hl2, rfl⟩)
        have HG := Lib.hid hg
        clear HNo HGood hg hl1 hl2
        go_wp2_with (first
          | (go_at_call 52; refine (Hp.out _).mono ?_; rintro e w1 ⟨rfl, hw⟩; have hbw := below_of_eq hw; have HO1 := Lib.hid (HOx.out.step hbw); have c1 := fun i => (HX.out.below hbw HX.out.lt).cell i; clear hw hbw)
          | (go_at_call 53; refine (Hs.out _).mono ?_; rintro e w2 ⟨rfl, rfl⟩)
          | (go_at_call 54; refine (Hl.out _).mono ?_; rintro e w2 ⟨rfl, rfl⟩))
        exact ⟨⟨k + 1, by omega, by go_num, HG.out, HO1.out⟩, by simp [intOf]; omega⟩
    · obtain rfl : k = rs.length := by omega
      have hall := Hall.out
      rw [List.take_length] at hall
      have hq : (zs.all zoneB && ls.all linkB) = Q := by rw [← HQ.out, hall]; rfl
      have HQ2 := Lib.hid hq
      clear hall hq Hall HQ HR HTr
      go_wp2
      clear c0
      go_loopw [5] (fun i wr => ∃ k : Nat, k ≤ zs.length ∧ i = .int .i64 k ∧ (zs.take k).all zoneB = true ∧ One w w.heap.size 26 #[.slice A rs.length c, .slice A2 zs.length c2, .slice A3 ls.length c3] wr) (fun i _ => zs.length - (intOf i).toNat)
      case atStart => exact ⟨0, Nat.zero_le _, rfl, rfl, HO.out⟩
      case round =>
        clear HO
        obtain ⟨k, hk, rfl, hall, ho⟩ := hrel
        have HO := Lib.hid ho; have Hall := Lib.hid hall
        have c0 := fun i => ho.1.cell i
        clear ho hall
        by_cases hkn : k < zs.length
        · obtain ⟨ad, hA, hadb, a0, a1⟩ := zone_cells (HZ.out.below HO.out.2) hkn rfl
          subst hA
          have hmem := List.getElem_mem hkn
          have hst : zoneB zs[k] = true → (zs.take (k + 1)).all zoneB = true := fun h => by rw [all_step _ _ _ hkn Hall.out]; exact h
          have hno : zoneB zs[k] = false → Q = false := fun h => by rw [← HQ2.out, all_stop hkn h]; rfl
          have HSt := Lib.hid hst; have HNo := Lib.hid hno
          have t1 := HTz.out zs[k] hmem
          have Hpl := Lib.hid (fun z => R10.place_any zs[k].name z (by omega))
          have HRe := Lib.hid (HE.out zs[k] hmem)
          have hne := HNe.out zs[k] hmem
          have HTk := Lib.hid (HTe.out zs[k] hmem)
          clear hst hno Hall t1 hmem
          generalize zs[k] = zn at *
          obtain ⟨z0, es, Az, cz⟩ := zn
          simp only at a0 a1 HSt HNo Hpl HRe hne HTk
          unfold zoneB at HSt HNo
          simp only at HSt HNo
          generalize placeB z0 = pb at *
          have hxb := Blk.new wr 41 #[.string z0, .slice Az es.length cz]
          have HX := Lib.hid hxb
          have HOx := Lib.hid (HO.out.step ((Below.refl _ _).alloc (Nat.le_refl _) (.cells #[.string z0, .slice Az es.length cz] 41)))
          have cx := fun i => hxb.cell i
          clear hxb
          cases pb
          · have hq : Q = false := HNo.out rfl
            subst hq
            clear HSt HNo HQ2
            go_wp2_with (go_at_call 55; refine (Hpl.out _).mono ?_; rintro e w2 ⟨rfl, rfl⟩)
            go_ret
            exact ⟨rfl, HOx.out.2⟩
          by_cases l0 : es.length = 0
          · have l0b : decide (((es.length : Nat) : Int) < 1) = true := decide_eq_true (by omega)
            have hq : Q = false := HNo.out (by rw [l0]; rfl)
            subst hq
            clear HSt HNo HQ2 l0
            go_wp2_with (go_at_call 55; refine (Hpl.out _).mono ?_; rintro e w2 ⟨rfl, rfl⟩)
            go_ret
            exact ⟨rfl, HOx.out.2⟩
          have l0b : decide (((es.length : Nat) : Int) < 1) = false := decide_eq_false (by omega)
          have l0c : (((es.length : Nat) : Int) == 0) = false := by rw [beq_eq_false_iff_ne]; omega
          by_cases l1 : 40 < es.length
          · have l1b : decide ((40 : Int) < (es.length : Nat)) = true := decide_eq_true (by omega)
            have hq : Q = false := HNo.out (by rw [l1b, l0c]; rfl)
            subst hq
            clear HSt HNo HQ2 l0c
            go_wp2_with (go_at_call 55; refine (Hpl.out _).mono ?_; rintro e w2 ⟨rfl, rfl⟩)
            go_ret
            exact ⟨rfl, HOx.out.2⟩
          have l1b : decide ((40 : Int) < (es.length : Nat)) = false := decide_eq_false (by omega)
          rw [l1b, l0c] at HSt HNo
          have HSt2 : Hid (erasOk es es.length = true → (zs.take (k + 1)).all zoneB = true) := fun h => HSt.out (by rw [h]; rfl)
          have HNo2 : Hid (erasOk es es.length = false → Q = false) := fun h => HNo.out (by rw [h]; rfl)
          clear HSt HNo l0c
          go_wp2_with (go_at_call 55; refine (Hpl.out _).mono ?_; rintro e w2 ⟨rfl, rfl⟩)
          clear l0b l1b a0 a1 cx c0
          obtain ⟨bx, hbx⟩ : ∃ bx, bx = wr.heap.size := ⟨_, rfl⟩
          rw [← hbx] at HX ⊢
          generalize wr.alloc (.cells #[.string z0, .slice Az es.length cz] 41) = wx at *
          clear hbx HO
          go_loopw [7] (fun i wz => ∃ j : Nat, j ≤ es.length ∧ i = .int .i64 j ∧ erasOk es j = true ∧ One w w.heap.size 26 #[.slice A rs.length c, .slice (some ad) zs.length c2, .slice A3 ls.length c3] wz ∧ Blk wz bx 41 #[.string z0, .slice Az es.length cz]) (fun i _ => es.length - (intOf i).toNat)
          case atStart => exact ⟨0, Nat.zero_le _, rfl, rfl, HOx.out, HX.out⟩
          case round =>
            clear HOx HX
            obtain ⟨j, hj, rfl, hok, ho, hx⟩ := hrel
            have HO := Lib.hid ho; have HX := Lib.hid hx; have HOk := Lib.hid hok
            have cx := fun i => hx.cell i
            clear ho hx hok
            by_cases hjn : j < es.length
            · obtain ⟨ae, hAe, haeb, d0, d1, d2, d3, d4, d5, d6, d7, d8, d9, d10, d11, d12⟩ := era_cells (HRe.out.below HO.out.2) hjn rfl
              subst hAe
              have hest := eras_step hjn HOk.out
              have hbad : erasOk es (j + 1) = false → Q = false := fun h => HNo2.out (erasOk_no hjn h)
              have HBad := Lib.hid hbad; have HSe := Lib.hid hest
              obtain ⟨t3, t4⟩ := HTk.out es[j] (List.getElem_mem hjn)
              have HEr := Lib.hid (fun z => D10.era_any es[j] z t3 t4)
              have hcells := fun z (hb : Below w.heap.size w z) => era_cells (HRe.out.below hb) hjn rfl
              obtain ⟨Cls, hCls⟩ : ∃ C : World → Prop, C = fun z => One w w.heap.size 26 #[.slice A rs.length c, .slice (some ad) zs.length c2, .slice A3 ls.length c3] z ∧ Blk z bx 41 #[.string z0, .slice (some ae) es.length cz] := ⟨_, rfl⟩
              have hC : ∀ z, Cls z → One w w.heap.size 26 #[.slice A rs.length c, .slice (some ad) zs.length c2, .slice A3 ls.length c3] z ∧ Blk z bx 41 #[.string z0, .slice (some ae) es.length cz] := fun z h => by rw [hCls] at h; exact h
              have hstart : Cls wr.drew := by rw [hCls]; exact ⟨HO.out.drew, HX.out.drew⟩
              have inst : Nonempty (Qt.In Cls) := ⟨⟨_, hstart⟩⟩
              have zx : ∀ (z : Qt.In Cls) (i : Nat), z.w.cell? ⟨bx, i, none⟩ = #[.string z0, .slice (some ae) es.length cz][i]? := fun z i => (hC z.w z.h).2.cell i
              have ze : ∀ (z : Qt.In Cls), z.w.cell? (ae.add (j * 13)) = some (.int .i64 es[j].off) ∧ z.w.cell? ⟨(ae.add (j * 13)).block, (ae.add (j * 13)).off + 1, none⟩ = some (.int .i64 es[j].kind) ∧ z.w.cell? ⟨(ae.add (j * 13)).block, (ae.add (j * 13)).off + 2, none⟩ = some (.int .i64 es[j].save) ∧ z.w.cell? ⟨(ae.add (j * 13)).block, (ae.add (j * 13)).off + 3, none⟩ = some (.string es[j].rules) ∧ z.w.cell? ⟨(ae.add (j * 13)).block, (ae.add (j * 13)).off + 4, none⟩ = some (.string es[j].format) ∧ z.w.cell? ⟨(ae.add (j * 13)).block, (ae.add (j * 13)).off + 5, none⟩ = some (.bool es[j].till) ∧ z.w.cell? ⟨(ae.add (j * 13)).block, (ae.add (j * 13)).off + 6, none⟩ = some (.int .i64 es[j].year) ∧ z.w.cell? ⟨(ae.add (j * 13)).block, (ae.add (j * 13)).off + 7, none⟩ = some (.int .i64 es[j].spot.month) ∧ z.w.cell? ⟨(ae.add (j * 13)).block, (ae.add (j * 13)).off + 8, none⟩ = some (.int .i64 es[j].spot.kind) ∧ z.w.cell? ⟨(ae.add (j * 13)).block, (ae.add (j * 13)).off + 9, none⟩ = some (.int .i64 es[j].spot.weekday) ∧ z.w.cell? ⟨(ae.add (j * 13)).block, (ae.add (j * 13)).off + 10, none⟩ = some (.int .i64 es[j].spot.day) ∧ z.w.cell? ⟨(ae.add (j * 13)).block, (ae.add (j * 13)).off + 11, none⟩ = some (.int .i64 es[j].spot.time) ∧ z.w.cell? ⟨(ae.add (j * 13)).block, (ae.add (j * 13)).off + 12, none⟩ = some (.int .i64 es[j].spot.ref) := fun z => by
                obtain ⟨ae', e, _, q⟩ := hcells z.w (hC z.w z.h).1.2
                obtain rfl : ae = ae' := by injection e
                exact q
              have HCx := Lib.hid hC
              have HECl : Hid (∀ z, Cls z → Calls Tryz.prog 56 #[.agg es[j].cells.toArray] z fun e z' => e = .returned (.bool (eraB es[j])) ∧ Cls z') := fun z h =>
                (HEr.out z).mono fun e z' ⟨he, hb⟩ => ⟨he, by rw [hCls]; exact ⟨(hC z h).1.step hb, (hC z h).2.below hb (hC z h).2.lt⟩⟩
              have HS := Lib.hid hstart
              clear hC hstart hCls hcells hest hbad t3 t4 d0 d1 d2 d3 d4 d5 d6 d7 d8 d9 d10 d11 d12 HEr
              generalize eraB es[j] = eb at *
              generalize es[j] = y at *
              obtain ⟨y0, y1, y2, y3, y4, y5, y6, ⟨u0, u1, u2, u3, u4, u5⟩⟩ := y
              simp only [Era.cells] at ze HECl HSe
              have f0 := fun z => (ze z).1; have f1 := fun z => (ze z).2.1; have f2 := fun z => (ze z).2.2.1; have f3 := fun z => (ze z).2.2.2.1; have f4 := fun z => (ze z).2.2.2.2.1; have f5 := fun z => (ze z).2.2.2.2.2.1; have f6 := fun z => (ze z).2.2.2.2.2.2.1
              have f7 := fun z => (ze z).2.2.2.2.2.2.2.1; have f8 := fun z => (ze z).2.2.2.2.2.2.2.2.1; have f9 := fun z => (ze z).2.2.2.2.2.2.2.2.2.1; have f10 := fun z => (ze z).2.2.2.2.2.2.2.2.2.2.1; have f11 := fun z => (ze z).2.2.2.2.2.2.2.2.2.2.2.1; have f12 := fun z => (ze z).2.2.2.2.2.2.2.2.2.2.2.2
              clear ze
              have hlast : decide (((j : Nat) : Int) < (es.length : Int) - 1) = !((j : Int) == (es.length : Int) - 1) := by rw [Bool.eq_iff_iff]; simp; omega
              rw [hlast] at HSe
              clear hlast
              cases eb
              · have hq : Q = false := HBad.out (by rw [HSe.out]; rfl)
                subst hq
                clear HBad HSe HQ2 HSt2 HNo2
                cases y5 <;> cases hdl : ((j : Int) == (es.length : Int) - 1)
                all_goals
                  go_wp2
                  refine Qt.wp_region_cls Cls (by kernel_rfl) (by kernel_rfl) HS.out ?_
                  repeat (go_big_quiet_step (exact Qt.quiet_cls (HECl.out _ (Qt.In.h _))))
                  refine wpQuiet_nil ?_
                  rintro wq ⟨⟨w9, hq9⟩, e9⟩
                  have HX9 := Lib.hid (HCx.out wq (by rw [e9]; exact hq9))
                  clear hq9 e9 zx f0 f1 f2 f3 f4 f5 f6 f7 f8 f9 f10 f11 f12 HECl HCx HS inst
                  go_wp2
                  go_ret
                  exact ⟨rfl, HX9.out.1.2⟩
              · cases y5 <;> cases hdl : ((j : Int) == (es.length : Int) - 1) <;> rw [hdl] at HSe
                case false.false =>
                  have hq : Q = false := HBad.out (by rw [HSe.out]; rfl)
                  subst hq
                  clear HBad HSe HQ2 HSt2 HNo2
                  go_wp2
                  refine Qt.wp_region_cls Cls (by kernel_rfl) (by kernel_rfl) HS.out ?_
                  repeat (go_big_quiet_step (exact Qt.quiet_cls (HECl.out _ (Qt.In.h _))))
                  refine wpQuiet_nil ?_
                  rintro wq ⟨⟨w9, hq9⟩, e9⟩
                  have HX9 := Lib.hid (HCx.out wq (by rw [e9]; exact hq9))
                  clear hq9 e9 zx f0 f1 f2 f3 f4 f5 f6 f7 f8 f9 f10 f11 f12 HECl HCx HS inst
                  go_wp2
                  go_ret
                  exact ⟨rfl, HX9.out.1.2⟩
                case true.true =>
                  have hq : Q = false := HBad.out (by rw [HSe.out]; rfl)
                  subst hq
                  clear HBad HSe HQ2 HSt2 HNo2
                  go_wp2
                  refine Qt.wp_region_cls Cls (by kernel_rfl) (by kernel_rfl) HS.out ?_
                  repeat (go_big_quiet_step (exact Qt.quiet_cls (HECl.out _ (Qt.In.h _))))
                  refine wpQuiet_nil ?_
                  rintro wq ⟨⟨w9, hq9⟩, e9⟩
                  have HX9 := Lib.hid (HCx.out wq (by rw [e9]; exact hq9))
                  clear hq9 e9 zx f0 f1 f2 f3 f4 f5 f6 f7 f8 f9 f10 f11 f12 HECl HCx HS inst
                  go_wp2
                  go_ret
                  exact ⟨rfl, HX9.out.1.2⟩
                all_goals
                  have hok2 := HSe.out
                  have HOk2 : Hid (erasOk es (j + 1) = true) := hok2
                  clear hok2 HSe HBad
                  go_wp2
                  refine Qt.wp_region_cls Cls (by kernel_rfl) (by kernel_rfl) HS.out ?_
                  repeat (go_big_quiet_step (exact Qt.quiet_cls (HECl.out _ (Qt.In.h _))))
                  refine wpQuiet_nil ?_
                  rintro wq ⟨⟨w9, hq9⟩, e9⟩
                  have HX9 := Lib.hid (HCx.out wq (by rw [e9]; exact hq9))
                  clear hq9 e9 zx f0 f1 f2 f3 f4 f5 f6 f7 f8 f9 f10 f11 f12 HECl HCx HS inst
                  go_wp2
                  exact ⟨⟨j + 1, by omega, by go_num, HOk2.out, HX9.out.1, HX9.out.2⟩, by simp [intOf]; omega⟩
            · obtain rfl : j = es.length := by omega
              have hall2 := HSt2.out HOk.out
              have HAll2 := Lib.hid hall2
              clear hall2 HSt2 HNo2
              go_wp2
              exact ⟨⟨k + 1, by omega, by go_num, HAll2.out, HO.out⟩, by simp [intOf]; omega⟩
        · obtain rfl : k = zs.length := by omega
          have hall := Hall.out
          rw [List.take_length] at hall
          have hq : ls.all linkB = Q := by rw [← HQ2.out, hall]; rfl
          have HQ3 := Lib.hid hq
          clear hall hq Hall HQ2 HZ HTz HE HTe HNe
          go_wp2
          clear c0
          go_loopw [8] (fun i wr => ∃ k : Nat, k ≤ ls.length ∧ i = .int .i64 k ∧ (ls.take k).all linkB = true ∧ One w w.heap.size 26 #[.slice A rs.length c, .slice A2 zs.length c2, .slice A3 ls.length c3] wr) (fun i _ => ls.length - (intOf i).toNat)
          case atStart => exact ⟨0, Nat.zero_le _, rfl, rfl, HO.out⟩
          case round =>
            clear HO
            obtain ⟨k, hk, rfl, hall, ho⟩ := hrel
            have HO := Lib.hid ho; have Hall := Lib.hid hall
            have c0 := fun i => ho.1.cell i
            clear ho hall
            by_cases hkn : k < ls.length
            · obtain ⟨ad, hA, hadb, a0, a1⟩ := link_cells (HL.out.below HO.out.2) hkn rfl
              subst hA
              have hst : linkB ls[k] = true → (ls.take (k + 1)).all linkB = true := fun h => by rw [all_step _ _ _ hkn Hall.out]; exact h
              have hno : linkB ls[k] = false → Q = false := fun h => by rw [← HQ3.out, all_stop hkn h]
              have HSt := Lib.hid hst; have HNo := Lib.hid hno
              obtain ⟨t1, t2⟩ := HTl.out ls[k] (List.getElem_mem hkn)
              have Hp1 := Lib.hid (fun z => R10.place_any ls[k].target z (by omega))
              have Hp2 := Lib.hid (fun z => R10.place_any ls[k].name z (by omega))
              clear hst hno Hall t1 t2
              generalize ls[k] = l at *
              obtain ⟨l0, l1⟩ := l
              simp only at a0 a1 HSt HNo Hp1 Hp2
              unfold linkB at HSt HNo
              simp only at HSt HNo
              generalize placeB l0 = p0 at *
              generalize placeB l1 = p1 at *
              cases p0
              · have hq : Q = false := HNo.out rfl
                subst hq
                clear HSt HNo HQ3
                go_wp2_with (go_at_call 55; refine (Hp1.out _).mono ?_; rintro e w2 ⟨rfl, rfl⟩)
                go_ret
                exact ⟨rfl, HO.out.2⟩
              cases p1
              · have hq : Q = false := HNo.out rfl
                subst hq
                clear HSt HNo HQ3
                go_wp2_with (first
                  | (go_at_call 55; have tk := tok; refine (Hp2.out _).mono ?_; rintro e w2 ⟨rfl, rfl⟩)
                  | (go_at_call 55; refine (Hp1.out _).mono ?_; rintro e w2 ⟨rfl, rfl⟩; have tok : True := trivial))
                go_ret
                exact ⟨rfl, HO.out.2⟩
              · have hst := HSt.out rfl
                have HS2 := Lib.hid hst
                clear HSt HNo hst
                go_wp2_with (first
                  | (go_at_call 55; have tk := tok; refine (Hp2.out _).mono ?_; rintro e w2 ⟨rfl, rfl⟩)
                  | (go_at_call 55; refine (Hp1.out _).mono ?_; rintro e w2 ⟨rfl, rfl⟩; have tok : True := trivial))
                exact ⟨⟨k + 1, by omega, by go_num, HS2.out, HO.out⟩, by simp [intOf]; omega⟩
            · obtain rfl : k = ls.length := by omega
              have hall := Hall.out
              rw [List.take_length] at hall
              have hq : Q = true := by rw [← HQ3.out, hall]
              subst hq
              clear hall Hall
              go_wp2
              go_ret
              exact ⟨rfl, HO.out.2⟩
set_option maxRecDepth 100000 in
theorem right_any (s : Src) (A A2 A3 : Option Addr) (c c2 c3 : Nat) (w : World) (h : SrcOk s A A2 A3 w) :
    Calls Tryz.prog 16 #[.agg #[.slice A s.rules.length c, .slice A2 s.zones.length c2, .slice A3 s.links.length c3]] w fun e w' => e = .returned (.bool (srcB s)) ∧ Below w.heap.size w w' := by
  have HB := Lib.hid (fun z (hb : Below w.heap.size w z) => bounded_any s A A2 A3 c c2 c3 z (h.below hb))
  have hone := One.new w 26 #[.slice A s.rules.length c, .slice A2 s.zones.length c2, .slice A3 s.links.length c3]
  clear h
  obtain ⟨W, hW⟩ : ∃ W, w.alloc (.cells #[.slice A s.rules.length c, .slice A2 s.zones.length c2, .slice A3 s.links.length c3] 26) = W := ⟨_, rfl⟩
  rw [hW] at hone
  have HO := Lib.hid hone
  have c0 := fun i => hone.1.cell i
  clear hone
  go_enter Tryz.func16, Tryz.ntmps16
  go_wp2_with (go_at_call 38; refine (HB.out _ HO.out.2).mono ?_; rintro e w1 ⟨rfl, hb⟩; have HO1 := Lib.hid (HO.out.step hb); clear hb)
  go_ret
  exact ⟨rfl, HO1.out.2⟩
end Go.Proofs.YtgfdmjldfahbpaaGreatDoor.D10
