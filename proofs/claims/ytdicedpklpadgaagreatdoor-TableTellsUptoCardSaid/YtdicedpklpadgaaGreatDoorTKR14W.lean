/-
  The document's word that a table may be (analemmaref14.phase, Right): the contracts. Conditions: what the table's slices hold is read, the lengths are bounded.
-/
import Derived.Test.YtdicedpklpadgaaGreatDoorTJ3
import Derived.Test.YtdicedpklpadgaaGreatDoorTJ4
import Derived.Test.YtdicedpklpadgaaGreatDoorY28
import Derived.Test.YtdicedpklpadgaaGreatDoorTKR11Pc
set_option linter.all false
namespace Go.Proofs.YtdicedpklpadgaaGreatDoor.R14
open Go.RowKit Mem Img Plc Src Civ Mom Rul

set_option maxHeartbeats 2000000 in
set_option maxRecDepth 100000 in
theorem phase_any (p : Phase) (w : World) (hs : p.abbr.size ≤ 140737488355328) :
    Calls Tryz.prog 41 #[.agg #[.int .i64 p.off, .int .i64 p.save, .string p.abbr]] w fun e w' => e = .returned (.bool (Rgt.phaseB p)) ∧ w' = w.alloc (.cells #[.int .i64 p.off, .int .i64 p.save, .string p.abbr] 30) := by
  obtain ⟨off, save, s⟩ := p
  simp only at *
  go_enter Tryz.func41, Tryz.ntmps41
  obtain ⟨W, hW⟩ : ∃ W, w.alloc (.cells #[.int .i64 off, .int .i64 save, .string s] 30) = W := ⟨_, rfl⟩
  have cc : ∀ i, W.cell? ⟨w.heap.size, i, none⟩ = #[Value.int .i64 off, .int .i64 save, .string s][i]? := fun i => by rw [← hW]; exact (Blk.new w _ _).cell i
  go_wp2_with fail
  go_loopw [3] (fun i wr => ∃ k : Nat, k ≤ s.size ∧ i = .int .i64 k ∧ (s.data.toList.take k).all Rgt.byteOk = true ∧ wr = W) (fun i _ => s.size - (intOf i).toNat)
  case atStart => exact ⟨0, Nat.zero_le _, rfl, rfl, rfl⟩
  case round =>
    have HW := Lib.hid hW; clear hW
    obtain ⟨k, hk, rfl, hall, rfl⟩ := hrel
    have Hall := Lib.hid hall; clear hall
    by_cases hkn : k < s.size
    · obtain ⟨ok, hok⟩ : ∃ ok, Rgt.byteOk (s[k]'hkn) = ok := ⟨_, rfl⟩
      have Hok := Lib.hid hok
      simp only [Rgt.byteOk] at hok
      have e33 : decide (((s[k]'hkn).toNat : Int) ≤ 32) = decide (((s[k]'hkn).toNat : Int) < 33) := by rw [decide_eq_decide]; omega
      rw [e33] at hok
      clear e33
      cases h2 : decide (((s[k]'hkn).toNat : Int) < 33) <;> cases h3 : decide ((126 : Int) < (s[k]'hkn).toNat)
      all_goals rw [h2, h3] at hok
      all_goals simp at hok
      all_goals subst hok
      all_goals go_wp2
      all_goals first
        | (refine ⟨⟨k + 1, by omega, by go_num, all_succ (by simpa using hkn) Hall.out Hok.out, trivial⟩, by simp [intOf]; omega⟩; done)
        | (go_ret; refine ⟨?_, HW.out.symm⟩; rw [show Rgt.phaseB ⟨off, save, s⟩ = false from Rgt.phase_no (k := k) (by simpa using hkn) Hok.out]; rfl)
    · obtain rfl : k = s.size := by omega
      rw [show s.data.toList.take s.size = s.data.toList from List.take_of_length_le (by simp)] at Hall
      cases h0 : decide (-86400 < off) <;> cases h1 : decide (off < 86400) <;> cases h2 : decide (-43200 ≤ save) <;> cases h3 : decide (save ≤ 43200) <;> cases h4 : decide ((s.size : Int) ≤ 40)
      all_goals go_wp2_with fail
      all_goals go_ret
      all_goals refine ⟨?_, HW.out.symm⟩
      all_goals simp only [Rgt.phaseB, Rgt.dayB, Hall.out, h0, h1, h2, h3, h4, Bool.true_and]
      all_goals rfl

theorem hd_cases (x : Table) : (placeB x.name = false ∧ rightT x = false) ∨ (placeB x.name = true ∧ Rgt.phaseB x.first = false ∧ rightT x = false) ∨ (placeB x.name = true ∧ Rgt.phaseB x.first = true ∧ decide ((30000 : Int) < x.shifts.length) = true ∧ rightT x = false) ∨
    (placeB x.name = true ∧ Rgt.phaseB x.first = true ∧ decide ((30000 : Int) < x.shifts.length) = false ∧ decide ((2 : Int) < x.tail.length) = true ∧ rightT x = false) ∨
    (placeB x.name = true ∧ Rgt.phaseB x.first = true ∧ decide ((30000 : Int) < x.shifts.length) = false ∧ decide ((2 : Int) < x.tail.length) = false ∧ rightT x = (Rgt.shiftsB x && tailT x)) := by
  unfold rightT hdB
  generalize placeB x.name = a1
  generalize Rgt.phaseB x.first = a2
  generalize decide ((30000 : Int) < x.shifts.length) = a3
  generalize decide ((2 : Int) < x.tail.length) = a4
  generalize Rgt.shiftsB x = a5
  generalize tailT x = a6
  revert a1 a2 a3 a4 a5 a6
  decide
theorem shifts_no {x : Table} {k : Nat} (hk : k < x.shifts.length) (h : Rgt.okAt x.first x.till x.shifts k = false) : Rgt.shiftsB x = false := by
  unfold Rgt.shiftsB
  rw [List.all_eq_false]
  exact ⟨k, by simpa using hk, by rw [h]; decide⟩
theorem sec_prev (ss : List Shift) (j : Nat) (h : j + 1 < ss.length) : Rgt.secOk ss (j + 1) = !(decide (ss[j + 1].sec ≤ (ss[j]'(by omega)).sec)) := by
  simp only [Rgt.secOk, List.getElem?_eq_getElem h, List.getElem?_eq_getElem (show j < ss.length by omega)]
theorem ok_of (first : Phase) (till : Int) (ss : List Shift) (k : Nat) (hk : k < ss.length) : Rgt.okAt first till ss k = (Rgt.phaseB ss[k].ph && (!(decide (ss[k].ph = Rgt.hadAt first ss k)) && (!(decide (till ≤ ss[k].sec)) && Rgt.secOk ss k))) := by
  simp only [Rgt.okAt, List.getElem?_eq_getElem hk]
theorem had_of (first : Phase) (ss : List Shift) (k : Nat) (hk : k < ss.length) : Rgt.hadAt first ss (k + 1) = ss[k].ph := by
  simp only [Rgt.hadAt, List.getElem?_eq_getElem hk]
  rfl
theorem okAll (first : Phase) (till : Int) (ss : List Shift) (k : Nat) (h : (List.range k).all (Rgt.okAt first till ss) = true) (h2 : Rgt.okAt first till ss k = true) : (List.range (k + 1)).all (Rgt.okAt first till ss) = true := by
  rw [List.range_succ, List.all_append, h]
  simp [h2]
theorem lett_no {s : ByteArray} (h : (s.toList == [45]) = true) : lettT s = false := by unfold lettT; rw [h]; rfl
theorem lett_e {s : ByteArray} (h : (s.toList == [45]) = false) (h2 : s.toList.isEmpty = true) : lettT s = true := by unfold lettT; rw [h, h2]; rfl
theorem lett_m {s : ByteArray} (h : (s.toList == [45]) = false) (h2 : s.toList.isEmpty = false) : lettT s = madeB s.data.toList 8 [43, 45] := by unfold lettT; rw [h, h2]; rfl

theorem tl_cases (x : Table) : (((x.tail.length : Nat) : Int) == 0) = true ∧ (x.off == 0) = false ∧ tailT x = false ∨
    (((x.tail.length : Nat) : Int) == 0) = true ∧ (x.off == 0) = true ∧ tailT x = x.format.toList.isEmpty ∨
    (((x.tail.length : Nat) : Int) == 0) = false ∧ x.off ≤ -86400 ∧ tailT x = false ∨
    (((x.tail.length : Nat) : Int) == 0) = false ∧ -86400 < x.off ∧ 86400 ≤ x.off ∧ tailT x = false ∨
    (((x.tail.length : Nat) : Int) == 0) = false ∧ -86400 < x.off ∧ x.off < 86400 ∧ formatB x.format.data.toList = false ∧ tailT x = false ∨
    (((x.tail.length : Nat) : Int) == 0) = false ∧ -86400 < x.off ∧ x.off < 86400 ∧ formatB x.format.data.toList = true ∧ rulesB x.tail = false ∧ tailT x = false ∨
    (((x.tail.length : Nat) : Int) == 0) = false ∧ -86400 < x.off ∧ x.off < 86400 ∧ formatB x.format.data.toList = true ∧ rulesB x.tail = true ∧ tailT x = (x.tail.all (ruleT x.off) && !R11.nearR x.tail) := by
  unfold tailT
  by_cases h0 : x.tail.length = 0
  · have : (((x.tail.length : Nat) : Int) == 0) = true := by rw [beq_iff_eq]; omega
    rw [if_pos h0, this]
    cases h1 : x.off == 0
    · exact .inl ⟨rfl, rfl, rfl⟩
    · exact .inr (.inl ⟨rfl, rfl, rfl⟩)
  · have : (((x.tail.length : Nat) : Int) == 0) = false := by rw [beq_eq_false_iff_ne]; omega
    rw [if_neg h0, this]
    refine .inr (.inr ?_)
    unfold Rgt.dayB
    by_cases h1 : x.off ≤ -86400
    · exact .inl ⟨rfl, h1, by rw [decide_eq_false (show ¬ -86400 < x.off by omega)]; rfl⟩
    · by_cases h2 : 86400 ≤ x.off
      · exact .inr (.inl ⟨rfl, by omega, h2, by rw [decide_eq_false (show ¬ x.off < 86400 by omega), Bool.and_false]; rfl⟩)
      · rw [decide_eq_true (show -86400 < x.off by omega), decide_eq_true (show x.off < 86400 by omega)]
        refine .inr (.inr ?_)
        cases formatB x.format.data.toList
        · exact .inl ⟨rfl, by omega, by omega, rfl, rfl⟩
        · cases rulesB x.tail
          · exact .inr (.inl ⟨rfl, by omega, by omega, rfl, rfl, rfl⟩)
          · exact .inr (.inr ⟨rfl, by omega, by omega, rfl, rfl, rfl⟩)
theorem rt_cases (off : Int) (r : Rule) : (r.hi == 1000000) = false ∧ ruleT off r = false ∨
    (r.hi == 1000000) = true ∧ setB r.name = false ∧ ruleT off r = false ∨
    (r.hi == 1000000) = true ∧ setB r.name = true ∧ (r.letter.toList == [45]) = true ∧ ruleT off r = false ∨
    (r.hi == 1000000) = true ∧ setB r.name = true ∧ (r.letter.toList == [45]) = false ∧ r.letter.toList.isEmpty = true ∧ ruleT off r = Rgt.dayB (wrap64 (off + r.save)) ∨
    (r.hi == 1000000) = true ∧ setB r.name = true ∧ (r.letter.toList == [45]) = false ∧ r.letter.toList.isEmpty = false ∧ madeB r.letter.data.toList 8 [43, 45] = false ∧ ruleT off r = false ∨
    (r.hi == 1000000) = true ∧ setB r.name = true ∧ (r.letter.toList == [45]) = false ∧ r.letter.toList.isEmpty = false ∧ madeB r.letter.data.toList 8 [43, 45] = true ∧ ruleT off r = Rgt.dayB (wrap64 (off + r.save)) := by
  unfold ruleT lettT
  generalize (r.hi == 1000000) = a1
  generalize setB r.name = a2
  generalize (r.letter.toList == [45]) = a3
  generalize r.letter.toList.isEmpty = a4
  generalize madeB r.letter.data.toList 8 [43, 45] = a5
  generalize Rgt.dayB (wrap64 (off + r.save)) = a6
  revert a1 a2 a3 a4 a5 a6
  decide
theorem dy_cases (n : Int) : (n ≤ -86400 ∧ Rgt.dayB n = false) ∨ (-86400 < n ∧ 86400 ≤ n ∧ Rgt.dayB n = false) ∨ (-86400 < n ∧ n < 86400 ∧ Rgt.dayB n = true) := by
  unfold Rgt.dayB
  by_cases h1 : n ≤ -86400
  · exact .inl ⟨h1, by rw [decide_eq_false (show ¬ -86400 < n by omega)]; rfl⟩
  · by_cases h2 : 86400 ≤ n
    · exact .inr (.inl ⟨by omega, h2, by rw [decide_eq_false (show ¬ n < 86400 by omega), Bool.and_false]⟩)
    · exact .inr (.inr ⟨by omega, by omega, by rw [decide_eq_true (show -86400 < n by omega), decide_eq_true (show n < 86400 by omega)]; rfl⟩)
theorem blk_set3 {w5 : World} {h0 : Nat} {t : TypeId} {x y z : Value} (h : Blk w5 h0 t #[x, y, z]) (nq : Nat) (a b c : Value) :
    Blk ((((w5.drewN nq).setCell ⟨h0, 0, none⟩ a).setCell ⟨h0, 1, none⟩ b).setCell ⟨h0, 2, none⟩ c) h0 t #[a, b, c] := by
  simpa using (((h.drewN nq).set_ 0 a).set_ 1 b).set_ 2 c
theorem one_set3 {w w5 : World} {h0 nq : Nat} {CS : Array Value} (h : One w w.heap.size 33 CS w5) (hz : w.heap.size < h0) (a b c : Value) :
    One w w.heap.size 33 CS ((((w5.drewN nq).setCell ⟨h0, 0, none⟩ a).setCell ⟨h0, 1, none⟩ b).setCell ⟨h0, 2, none⟩ c) :=
  ⟨(((h.1.drewN nq).far (p := ⟨h0, 0, none⟩) (by show _ ≠ h0; omega) a).far (p := ⟨h0, 1, none⟩) (by show _ ≠ h0; omega) b).far (p := ⟨h0, 2, none⟩) (by show _ ≠ h0; omega) c,
    (((Civ.below_dr h.2).setCell (by show _ ≤ h0; omega) a).setCell (by show _ ≤ h0; omega) b).setCell (by show _ ≤ h0; omega) c⟩
set_option maxHeartbeats 4000000 in
set_option maxRecDepth 100000 in
theorem right_any (x : Table) (A A2 : Option Addr) (c c2 : Nat) (w : World) (h : TabOk x A A2 w) :
    Calls Tryz.prog 16 #[.agg (tabCells x A c A2 c2)] w fun e w' => e = .returned (.bool (rightT x)) ∧ Below w.heap.size w w' := by
  have hone := One.new w 33 (tabCells x A c A2 c2)
  have H := Lib.hid h
  have hname := h.name
  have hform := h.format
  have hfa := h.first.2.2
  have ns := h.ns
  have nt := h.nt
  clear h
  obtain ⟨R, hR⟩ : ∃ R, rightT x = R := ⟨_, rfl⟩
  rw [hR]
  have HR := Lib.hid hR
  clear hR
  simp only [tabCells] at hone ⊢
  obtain ⟨CS, hCS⟩ : ∃ CS : Array Value, #[.string x.name, .int .i64 x.first.off, .int .i64 x.first.save, .string x.first.abbr, .slice A x.shifts.length c, .int .i64 x.till, .slice A2 x.tail.length c2, .int .i64 x.off, .string x.format] = CS := ⟨_, rfl⟩
  have HCS := Lib.hid hCS
  obtain ⟨W, hW⟩ : ∃ W, w.alloc (.cells #[.string x.name, .int .i64 x.first.off, .int .i64 x.first.save, .string x.first.abbr, .slice A x.shifts.length c, .int .i64 x.till, .slice A2 x.tail.length c2, .int .i64 x.off, .string x.format] 33) = W := ⟨_, rfl⟩
  rw [hW] at hone
  have c0 := fun i => hone.1.cell i
  rw [hCS] at hone
  have HO := Lib.hid hone
  clear hone hCS
  go_enter Tryz.func16, Tryz.ntmps16
  have hcs := hd_cases x
  rw [HR.out] at hcs
  rcases hcs with ⟨h1, rfl⟩ | ⟨h1, h2, rfl⟩ | ⟨h1, h2, h3, rfl⟩ | ⟨h1, h2, h3, h4, rfl⟩ | ⟨h1, h2, h3, h4, h5⟩
  · go_wp2_with (go_at_call 40; refine (R10.place_any x.name _ (Nat.le_trans hname (by omega))).mono ?_; rintro e w1 ⟨rfl, rfl⟩; rw [h1])
    go_ret
    exact ⟨rfl, HO.out.2⟩
  · go_wp2_with (first
      | (go_at_call 40; refine (R10.place_any x.name _ (Nat.le_trans hname (by omega))).mono ?_; rintro e w1 ⟨rfl, rfl⟩; rw [h1])
      | (go_at_call 41; refine (phase_any x.first _ (Nat.le_trans hfa (by omega))).mono ?_; rintro e w2 ⟨rfl, hb2⟩; have HO := Lib.hid (HO.out.step (Rgt.below_of_alloc hb2)); clear hb2; rw [h2]))
    go_ret
    exact ⟨rfl, HO.out.2⟩
  · go_wp2_with (first
      | (go_at_call 40; refine (R10.place_any x.name _ (Nat.le_trans hname (by omega))).mono ?_; rintro e w1 ⟨rfl, rfl⟩; rw [h1])
      | (go_at_call 41; refine (phase_any x.first _ (Nat.le_trans hfa (by omega))).mono ?_; rintro e w2 ⟨rfl, hb2⟩; have HO := Lib.hid (HO.out.step (Rgt.below_of_alloc hb2)); clear hb2; have c1 := fun i => HO.out.1.cell i; rw [← HCS.out] at c1; rw [h2]))
    go_ret
    exact ⟨rfl, HO.out.2⟩
  · go_wp2_with (first
      | (go_at_call 40; refine (R10.place_any x.name _ (Nat.le_trans hname (by omega))).mono ?_; rintro e w1 ⟨rfl, rfl⟩; rw [h1])
      | (go_at_call 41; refine (phase_any x.first _ (Nat.le_trans hfa (by omega))).mono ?_; rintro e w2 ⟨rfl, hb2⟩; have HO := Lib.hid (HO.out.step (Rgt.below_of_alloc hb2)); clear hb2; have c1 := fun i => HO.out.1.cell i; rw [← HCS.out] at c1; rw [h2]))
    go_ret
    exact ⟨rfl, HO.out.2⟩
  · have H5 := Lib.hid h5
    have hnt : x.tail.length ≤ 1000 := by simp at h4; omega
    clear h5
    go_wp2_with (first
      | (go_at_call 40; refine (R10.place_any x.name _ (Nat.le_trans hname (by omega))).mono ?_; rintro e w1 ⟨rfl, rfl⟩; rw [h1])
      | (go_at_call 41; refine (phase_any x.first _ (Nat.le_trans hfa (by omega))).mono ?_; rintro e w2 ⟨rfl, hb2⟩; have HO := Lib.hid (HO.out.step (Rgt.below_of_alloc hb2)); clear hb2 c0; have c1 := fun i => HO.out.1.cell i; rw [← HCS.out] at c1; rw [h2]))
    clear c1 h1 h2 h3 h4 hW
    have hzw : w.heap.size < w2.heap.size := HO.out.1.lt
    obtain ⟨h0, hh0⟩ : ∃ h0, h0 = w2.heap.size := ⟨_, rfl⟩
    have hb0 := Blk.new w2 30 #[.int .i64 x.first.off, .int .i64 x.first.save, .string x.first.abbr]
    have HO3 := Lib.hid (HO.out.step ((Below.refl _ _).alloc (Nat.le_refl _) (.cells #[.int .i64 x.first.off, .int .i64 x.first.save, .string x.first.abbr] 30)))
    rw [← hh0] at hb0
    have HB0 := Lib.hid hb0
    have hzh : w.heap.size < h0 := by omega
    rw [← hh0]
    clear hb0 hh0 hzw HO
    go_loopw [4] (fun i wr => ∃ k : Nat, k ≤ x.shifts.length ∧ i = .int .i64 k ∧ (List.range k).all (Rgt.okAt x.first x.till x.shifts) = true ∧ Blk wr h0 30 (Rgt.hadAt x.first x.shifts k).cells.toArray ∧ One w w.heap.size 33 CS wr) (fun i _ => x.shifts.length - (intOf i).toNat)
    case atStart => exact ⟨0, Nat.zero_le _, rfl, rfl, HB0.out, HO3.out⟩
    case round =>
      clear HB0 HO3
      obtain ⟨k, hk, rfl, hall, hbk, hone⟩ := hrel
      have HAll := Lib.hid hall
      have HBk := Lib.hid hbk
      have HO := Lib.hid hone
      have c1 := fun i => hone.1.cell i
      rw [← HCS.out] at c1
      clear hall hbk hone
      by_cases hkn : k < x.shifts.length
      · have hok := ok_of x.first x.till x.shifts k hkn
        have hnx := had_of x.first x.shifts k hkn
        have HNo := Lib.hid (fun h : Rgt.okAt x.first x.till x.shifts k = false => show R = false by rw [H5.out, shifts_no hkn h, Bool.false_and])
        have HYes := Lib.hid (fun h : Rgt.okAt x.first x.till x.shifts k = true => okAll x.first x.till x.shifts k HAll.out h)
        obtain ⟨ad, rfl, hadb, a0, a1, a2, a3⟩ := shift_at (H.out.rs.below HO.out.2) hkn
        have hphs := (H.out.shifts _ (List.getElem_mem hkn)).2.2
        have hlw : w.heap.size < wr.heap.size := HO.out.1.lt
        have hlh : h0 < wr.heap.size := HBk.out.lt
        have hprev : ∀ j, (hj : k = j + 1) → (∀ w', Below w.heap.size w w' → w'.cell? (ad.add (j * 4)) = some (.int .i64 (x.shifts[j]'(by omega)).sec)) ∧ Rgt.secOk x.shifts k = !(decide ((x.shifts[k]'hkn).sec ≤ (x.shifts[j]'(by omega)).sec)) := fun j hj => by
          subst hj
          refine ⟨fun w' hb => ?_, sec_prev x.shifts j hkn⟩
          obtain ⟨ad', e, _, p0, _⟩ := shift_at (H.out.rs.below hb) (show j < x.shifts.length by omega)
          cases e
          exact p0
        have HPrev := Lib.hid hprev
        clear hprev
        obtain ⟨s, hs⟩ : ∃ s, s = x.shifts[k] := ⟨_, rfl⟩
        have HSk := Lib.hid hs
        rw [← hs] at hok hnx a0 a1 a2 a3 hphs
        clear hs
        obtain ⟨sec, ⟨po, ps, pa⟩⟩ := s
        generalize Rgt.hadAt x.first x.shifts k = hd at *
        obtain ⟨ho, hs, ha⟩ := hd
        have heq := Sam.eq_phase ⟨po, ps, pa⟩ ⟨ho, hs, ha⟩
        have hHB := HBk.out
        simp only [Phase.cells] at a0 a1 a2 a3 hphs hok hnx heq hHB
        have HBk := Lib.hid hHB
        have HOk := Lib.hid hok
        have HNx := Lib.hid hnx
        clear hok hnx hHB
        cases p1 : Rgt.phaseB ⟨po, ps, pa⟩
        · obtain rfl := HNo.out (by rw [HOk.out, p1]; rfl)
          clear heq
          go_wp2_with (go_at_call 41; refine (phase_any ⟨po, ps, pa⟩ _ (Nat.le_trans hphs (by omega))).mono ?_; rintro e w5 ⟨rfl, hb2⟩; have hb := Rgt.below_of_alloc hb2; have HS5 := Lib.hid ((Blk.new wr 83 #[.int .i64 sec, .int .i64 po, .int .i64 ps, .string pa]).below hb (by simp)); have HH5 := Lib.hid ((HBk.out.alloc (.cells #[.int .i64 sec, .int .i64 po, .int .i64 ps, .string pa] 83)).below hb (by simp; omega)); have HO5 := Lib.hid ((HO.out.step ((Below.refl _ _).alloc (Nat.le_refl _) (.cells #[.int .i64 sec, .int .i64 po, .int .i64 ps, .string pa] 83))).step hb); clear hb hb2; have cS := fun i => HS5.out.cell i; have cH := fun i => HH5.out.cell i; have fH := fun i => HH5.out.frozen i; have cT := fun i => HO5.out.1.cell i; rw [← HCS.out] at cT; rw [p1])
          go_ret
          exact ⟨rfl, HO5.out.2⟩
        · cases e1 : decide ((⟨po, ps, pa⟩ : Phase) = ⟨ho, hs, ha⟩)
          · rw [e1] at heq
            by_cases t1 : x.till ≤ sec
            · obtain rfl := HNo.out (by rw [HOk.out, p1, e1, decide_eq_true t1]; rfl)
              clear e1
              go_wp2_with (go_at_call 41; refine (phase_any ⟨po, ps, pa⟩ _ (Nat.le_trans hphs (by omega))).mono ?_; rintro e w5 ⟨rfl, hb2⟩; have hb := Rgt.below_of_alloc hb2; have HS5 := Lib.hid ((Blk.new wr 83 #[.int .i64 sec, .int .i64 po, .int .i64 ps, .string pa]).below hb (by simp)); have HH5 := Lib.hid ((HBk.out.alloc (.cells #[.int .i64 sec, .int .i64 po, .int .i64 ps, .string pa] 83)).below hb (by simp; omega)); have HO5 := Lib.hid ((HO.out.step ((Below.refl _ _).alloc (Nat.le_refl _) (.cells #[.int .i64 sec, .int .i64 po, .int .i64 ps, .string pa] 83))).step hb); clear hb hb2; have cS := fun i => HS5.out.cell i; have cH := fun i => HH5.out.cell i; have fH := fun i => HH5.out.frozen i; have cT := fun i => HO5.out.1.cell i; rw [← HCS.out] at cT; rw [p1])
              go_ret
              exact ⟨rfl, HO5.out.2⟩
            · have HOk2 := Lib.hid (show Rgt.okAt x.first x.till x.shifts k = Rgt.secOk x.shifts k by rw [HOk.out, p1, e1, decide_eq_false t1]; rfl)
              clear e1
              rcases Nat.eq_zero_or_pos k with hk0 | hk0
              · have HY := Lib.hid (HYes.out (by rw [HOk2.out, hk0]; rfl))
                have hk1 : ¬ 0 < k := by omega
                clear hk0
                go_wp2_with (go_at_call 41; refine (phase_any ⟨po, ps, pa⟩ _ (Nat.le_trans hphs (by omega))).mono ?_; rintro e w5 ⟨rfl, hb2⟩; have hb := Rgt.below_of_alloc hb2; have HS5 := Lib.hid ((Blk.new wr 83 #[.int .i64 sec, .int .i64 po, .int .i64 ps, .string pa]).below hb (by simp)); have HH5 := Lib.hid ((HBk.out.alloc (.cells #[.int .i64 sec, .int .i64 po, .int .i64 ps, .string pa] 83)).below hb (by simp; omega)); have HO5 := Lib.hid ((HO.out.step ((Below.refl _ _).alloc (Nat.le_refl _) (.cells #[.int .i64 sec, .int .i64 po, .int .i64 ps, .string pa] 83))).step hb); clear hb hb2; have cS := fun i => HS5.out.cell i; have cH := fun i => HH5.out.cell i; have fH := fun i => HH5.out.frozen i; have cT := fun i => HO5.out.1.cell i; rw [← HCS.out] at cT; rw [p1])
                go_quiet (fail)
                go_wp2_with fail
                exact ⟨⟨k + 1, by omega, by go_num, HY.out, by rw [HNx.out]; exact blk_set3 HH5.out nq _ _ _, one_set3 HO5.out hzh _ _ _⟩, by simp [intOf]; omega⟩
              · obtain ⟨j, rfl⟩ : ∃ j, k = j + 1 := ⟨k - 1, by omega⟩
                obtain ⟨p0, hso⟩ := HPrev.out j rfl
                rw [← HSk.out] at hso
                generalize (x.shifts[j]'(by omega)).sec = pj at *
                simp only at hso
                have P0 := Lib.hid p0
                clear p0
                have hj0 : (0 : Int) ≤ j := by omega
                have hj1 : (j : Int) < x.shifts.length := by omega
                by_cases s1 : sec ≤ pj
                · obtain rfl := HNo.out (by rw [HOk2.out, hso, decide_eq_true s1]; rfl)
                  clear hso
                  go_wp2_with (go_at_call 41; refine (phase_any ⟨po, ps, pa⟩ _ (Nat.le_trans hphs (by omega))).mono ?_; rintro e w5 ⟨rfl, hb2⟩; have hb := Rgt.below_of_alloc hb2; have HS5 := Lib.hid ((Blk.new wr 83 #[.int .i64 sec, .int .i64 po, .int .i64 ps, .string pa]).below hb (by simp)); have HH5 := Lib.hid ((HBk.out.alloc (.cells #[.int .i64 sec, .int .i64 po, .int .i64 ps, .string pa] 83)).below hb (by simp; omega)); have HO5 := Lib.hid ((HO.out.step ((Below.refl _ _).alloc (Nat.le_refl _) (.cells #[.int .i64 sec, .int .i64 po, .int .i64 ps, .string pa] 83))).step hb); clear hb hb2; have cS := fun i => HS5.out.cell i; have cH := fun i => HH5.out.cell i; have fH := fun i => HH5.out.frozen i; have cT := fun i => HO5.out.1.cell i; rw [← HCS.out] at cT; rw [p1])
                  have q0 := P0.out _ HO5.out.2
                  go_quiet (fail)
                  go_wp2_with fail
                  go_ret
                  exact ⟨rfl, Civ.below_dr HO5.out.2⟩
                · have HY := Lib.hid (HYes.out (by rw [HOk2.out, hso, decide_eq_false s1]; rfl))
                  clear hso
                  go_wp2_with (go_at_call 41; refine (phase_any ⟨po, ps, pa⟩ _ (Nat.le_trans hphs (by omega))).mono ?_; rintro e w5 ⟨rfl, hb2⟩; have hb := Rgt.below_of_alloc hb2; have HS5 := Lib.hid ((Blk.new wr 83 #[.int .i64 sec, .int .i64 po, .int .i64 ps, .string pa]).below hb (by simp)); have HH5 := Lib.hid ((HBk.out.alloc (.cells #[.int .i64 sec, .int .i64 po, .int .i64 ps, .string pa] 83)).below hb (by simp; omega)); have HO5 := Lib.hid ((HO.out.step ((Below.refl _ _).alloc (Nat.le_refl _) (.cells #[.int .i64 sec, .int .i64 po, .int .i64 ps, .string pa] 83))).step hb); clear hb hb2; have cS := fun i => HS5.out.cell i; have cH := fun i => HH5.out.cell i; have fH := fun i => HH5.out.frozen i; have cT := fun i => HO5.out.1.cell i; rw [← HCS.out] at cT; rw [p1])
                  have q0 := P0.out _ HO5.out.2
                  go_quiet (fail)
                  go_wp2_with fail
                  exact ⟨⟨j + 1 + 1, by omega, by go_num, HY.out, by rw [HNx.out]; exact blk_set3 HH5.out nq _ _ _, one_set3 HO5.out hzh _ _ _⟩, by simp [intOf]; omega⟩
          · obtain rfl := HNo.out (by rw [HOk.out, p1, e1]; rfl)
            rw [e1] at heq
            clear e1
            go_wp2_with (go_at_call 41; refine (phase_any ⟨po, ps, pa⟩ _ (Nat.le_trans hphs (by omega))).mono ?_; rintro e w5 ⟨rfl, hb2⟩; have hb := Rgt.below_of_alloc hb2; have HS5 := Lib.hid ((Blk.new wr 83 #[.int .i64 sec, .int .i64 po, .int .i64 ps, .string pa]).below hb (by simp)); have HH5 := Lib.hid ((HBk.out.alloc (.cells #[.int .i64 sec, .int .i64 po, .int .i64 ps, .string pa] 83)).below hb (by simp; omega)); have HO5 := Lib.hid ((HO.out.step ((Below.refl _ _).alloc (Nat.le_refl _) (.cells #[.int .i64 sec, .int .i64 po, .int .i64 ps, .string pa] 83))).step hb); clear hb hb2; have cS := fun i => HS5.out.cell i; have cH := fun i => HH5.out.cell i; have fH := fun i => HH5.out.frozen i; have cT := fun i => HO5.out.1.cell i; rw [← HCS.out] at cT; rw [p1])
            go_ret
            exact ⟨rfl, HO5.out.2⟩
      · obtain rfl : k = x.shifts.length := by omega
        have hR := H5.out
        rw [show Rgt.shiftsB x = true from HAll.out, Bool.true_and] at hR
        have htl := tl_cases x
        rw [← hR] at htl
        clear HAll H5 hR hkn
        rcases htl with ⟨h1, h2, rfl⟩ | ⟨h1, h2, h3⟩ | ⟨h1, h2, rfl⟩ | ⟨h1, h2, h3, rfl⟩ | ⟨h1, h2, h3, h4, rfl⟩ | ⟨h1, h2, h3, h4, h5, rfl⟩ | ⟨h1, h2, h3, h4, h5, h6⟩
        · go_wp2_with fail
          go_ret
          exact ⟨rfl, HO.out.2⟩
        · have H3 := Lib.hid h3
          clear h3
          go_wp2_with fail
          go_ret
          refine ⟨?_, HO.out.2⟩
          rw [H3.out]
          rfl
        · go_wp2_with fail
          go_ret
          exact ⟨rfl, HO.out.2⟩
        · go_wp2_with fail
          go_ret
          exact ⟨rfl, HO.out.2⟩
        · go_wp2_with (go_at_call 42; refine (R10.format_any x.format _ (Nat.le_trans hform (by omega))).mono ?_; rintro e w3 ⟨rfl, rfl⟩; rw [h4])
          go_ret
          exact ⟨rfl, HO.out.2⟩
        · have HRd := Lib.hid (H.out.rt.below HO.out.2)
          have HRg := Lib.hid (R11.right_any x.tail A2 c2 wr (HRd.out.more HO.out.2.size) nt)
          go_wp2_with (first
            | (go_at_call 42; refine (R10.format_any x.format _ (Nat.le_trans hform (by omega))).mono ?_; rintro e w3 ⟨rfl, rfl⟩; rw [h4])
            | (go_at_call 43; refine HRg.out.mono ?_; rintro e w4 ⟨rfl, hb⟩; rw [h5]; have HO := Lib.hid (HO.out.step hb); clear hb))
          go_ret
          exact ⟨rfl, HO.out.2⟩
        · have HRd := Lib.hid (H.out.rt.below HO.out.2)
          have HRg := Lib.hid (R11.right_any x.tail A2 c2 wr (HRd.out.more HO.out.2.size) nt)
          have H6 := Lib.hid h6
          have H5 := Lib.hid h5
          clear h6 h5
          go_wp2_with (first
            | (go_at_call 42; refine (R10.format_any x.format _ (Nat.le_trans hform (by omega))).mono ?_; rintro e w3 ⟨rfl, rfl⟩; rw [h4])
            | (go_at_call 43; refine HRg.out.mono ?_; rintro e w4 ⟨rfl, hb⟩; rw [H5.out]; have HO := Lib.hid (HO.out.step hb); clear hb c1; have c1 := fun i => HO.out.1.cell i; rw [← HCS.out] at c1))
          clear h1 h2 h3 h4 hk HBk HRd HRg
          go_loopw [6] (fun i wr => ∃ k : Nat, k ≤ x.tail.length ∧ i = .int .i64 k ∧ (x.tail.take k).all (ruleT x.off) = true ∧ One w w.heap.size 33 CS wr) (fun i _ => x.tail.length - (intOf i).toNat)
          case atStart => exact ⟨0, Nat.zero_le _, rfl, rfl, HO.out⟩
          case round =>
            clear HO c1
            obtain ⟨k, hk, rfl, hall, hone⟩ := hrel
            have HAll := Lib.hid hall
            have HO := Lib.hid hone
            have c1 := fun i => hone.1.cell i
            rw [← HCS.out] at c1
            have hlw : w.heap.size < wr.heap.size := hone.1.lt
            clear hall hone
            by_cases hkn : k < x.tail.length
            · obtain ⟨hrn, hrl⟩ := H.out.rules _ (List.getElem_mem hkn)
              obtain ⟨ad, rfl, hadb, a0, aj⟩ := rule_at (H.out.rt.below HO.out.2) hkn
              have HNo := Lib.hid (fun h : ruleT x.off x.tail[k] = false => show R = false by
                rw [H6.out, show x.tail.all (ruleT x.off) = false by rw [List.all_eq_false]; exact ⟨_, List.getElem_mem hkn, by rw [h]; decide⟩, Bool.false_and])
              have HYes := Lib.hid (fun h : ruleT x.off x.tail[k] = true => show (x.tail.take (k + 1)).all (ruleT x.off) = true by
                rw [List.take_succ_eq_append_getElem hkn, List.all_append, HAll.out]; simp [h])
              generalize x.tail[k] = r at *
              have hrt := rt_cases x.off r
              have hdy := dy_cases (wrap64 (x.off + r.save))
              obtain ⟨r0, r1, r2, r3, r4, r5, r6, r7, r8, r9, r10⟩ := r
              simp only at hrn hrl a0 hrt hdy
              have a1 := aj 1 (by omega) (by omega)
              have a2 := aj 2 (by omega) (by omega)
              have a3 := aj 3 (by omega) (by omega)
              have a4 := aj 4 (by omega) (by omega)
              have a5 := aj 5 (by omega) (by omega)
              have a6 := aj 6 (by omega) (by omega)
              have a7 := aj 7 (by omega) (by omega)
              have a8 := aj 8 (by omega) (by omega)
              have a9 := aj 9 (by omega) (by omega)
              have a10 := aj 10 (by omega) (by omega)
              simp only [Rule.cells, List.getElem?_cons_zero, List.getElem?_cons_succ] at a1 a2 a3 a4 a5 a6 a7 a8 a9 a10
              clear aj
              have HB := Lib.hid ((Below.refl wr.heap.size wr).alloc (Nat.le_refl _) (.cells #[.string r0, .int .i64 r1, .int .i64 r2, .int .i64 r3, .int .i64 r4, .int .i64 r5, .int .i64 r6, .int .i64 r7, .int .i64 r8, .int .i64 r9, .string r10] 59))
              rcases hrt with ⟨g1, gz⟩ | ⟨g1, g2, gz⟩ | ⟨g1, g2, g3, gz⟩ | ⟨g1, g2, g3, g4, gz⟩ | ⟨g1, g2, g3, g4, g5, gz⟩ | ⟨g1, g2, g3, g4, g5, gz⟩
              · have g1 : ¬ r2 = 1000000 := by simpa using g1
                obtain rfl := HNo.out gz
                clear gz hdy
                go_wp2_with fail
                go_ret
                exact ⟨rfl, (HO.out.step HB.out).2⟩
              · obtain rfl : r2 = 1000000 := by simpa using g1
                clear g1
                obtain rfl := HNo.out gz
                clear gz hdy
                go_wp2_with (first
                | (go_at_call 44; refine (R10.set_any r0 _ (Nat.le_trans hrn (by omega))).mono ?_; rintro e w5 ⟨rfl, rfl⟩; rw [g2])
                | (go_at_call 45; refine (R10.letters_any r10 _ (Nat.le_trans hrl (by omega))).mono ?_; rintro e w5 ⟨rfl, rfl⟩; rw [g5]))
                go_ret
                exact ⟨rfl, (HO.out.step HB.out).2⟩
              · obtain rfl : r2 = 1000000 := by simpa using g1
                clear g1
                obtain rfl := HNo.out gz
                clear gz hdy
                go_wp2_with (first
                | (go_at_call 44; refine (R10.set_any r0 _ (Nat.le_trans hrn (by omega))).mono ?_; rintro e w5 ⟨rfl, rfl⟩; rw [g2])
                | (go_at_call 45; refine (R10.letters_any r10 _ (Nat.le_trans hrl (by omega))).mono ?_; rintro e w5 ⟨rfl, rfl⟩; rw [g5]))
                go_ret
                exact ⟨rfl, (HO.out.step HB.out).2⟩
              · obtain rfl : r2 = 1000000 := by simpa using g1
                clear g1
                rcases hdy with ⟨d1, hd⟩ | ⟨d1, d2, hd⟩ | ⟨d1, d2, hd⟩
                · obtain rfl := HNo.out (gz.trans hd)
                  clear gz hd
                  go_wp2_with (first
                | (go_at_call 44; refine (R10.set_any r0 _ (Nat.le_trans hrn (by omega))).mono ?_; rintro e w5 ⟨rfl, rfl⟩; rw [g2])
                | (go_at_call 45; refine (R10.letters_any r10 _ (Nat.le_trans hrl (by omega))).mono ?_; rintro e w5 ⟨rfl, rfl⟩; rw [g5]))
                  go_ret
                  exact ⟨rfl, (HO.out.step HB.out).2⟩
                · obtain rfl := HNo.out (gz.trans hd)
                  clear gz hd
                  go_wp2_with (first
                | (go_at_call 44; refine (R10.set_any r0 _ (Nat.le_trans hrn (by omega))).mono ?_; rintro e w5 ⟨rfl, rfl⟩; rw [g2])
                | (go_at_call 45; refine (R10.letters_any r10 _ (Nat.le_trans hrl (by omega))).mono ?_; rintro e w5 ⟨rfl, rfl⟩; rw [g5]))
                  go_ret
                  exact ⟨rfl, (HO.out.step HB.out).2⟩
                · have HY := Lib.hid (HYes.out (gz.trans hd))
                  clear gz hd
                  go_wp2_with (first
                | (go_at_call 44; refine (R10.set_any r0 _ (Nat.le_trans hrn (by omega))).mono ?_; rintro e w5 ⟨rfl, rfl⟩; rw [g2])
                | (go_at_call 45; refine (R10.letters_any r10 _ (Nat.le_trans hrl (by omega))).mono ?_; rintro e w5 ⟨rfl, rfl⟩; rw [g5]))
                  exact ⟨⟨k + 1, by omega, by go_num, HY.out, HO.out.step HB.out⟩, by simp [intOf]; omega⟩
              · obtain rfl : r2 = 1000000 := by simpa using g1
                clear g1
                obtain rfl := HNo.out gz
                clear gz hdy
                go_wp2_with (first
                | (go_at_call 44; refine (R10.set_any r0 _ (Nat.le_trans hrn (by omega))).mono ?_; rintro e w5 ⟨rfl, rfl⟩; rw [g2])
                | (go_at_call 45; refine (R10.letters_any r10 _ (Nat.le_trans hrl (by omega))).mono ?_; rintro e w5 ⟨rfl, rfl⟩; rw [g5]))
                go_ret
                exact ⟨rfl, (HO.out.step HB.out).2⟩
              · obtain rfl : r2 = 1000000 := by simpa using g1
                clear g1
                rcases hdy with ⟨d1, hd⟩ | ⟨d1, d2, hd⟩ | ⟨d1, d2, hd⟩
                · obtain rfl := HNo.out (gz.trans hd)
                  clear gz hd
                  go_wp2_with (first
                | (go_at_call 44; refine (R10.set_any r0 _ (Nat.le_trans hrn (by omega))).mono ?_; rintro e w5 ⟨rfl, rfl⟩; rw [g2])
                | (go_at_call 45; refine (R10.letters_any r10 _ (Nat.le_trans hrl (by omega))).mono ?_; rintro e w5 ⟨rfl, rfl⟩; rw [g5]))
                  go_ret
                  exact ⟨rfl, (HO.out.step HB.out).2⟩
                · obtain rfl := HNo.out (gz.trans hd)
                  clear gz hd
                  go_wp2_with (first
                | (go_at_call 44; refine (R10.set_any r0 _ (Nat.le_trans hrn (by omega))).mono ?_; rintro e w5 ⟨rfl, rfl⟩; rw [g2])
                | (go_at_call 45; refine (R10.letters_any r10 _ (Nat.le_trans hrl (by omega))).mono ?_; rintro e w5 ⟨rfl, rfl⟩; rw [g5]))
                  go_ret
                  exact ⟨rfl, (HO.out.step HB.out).2⟩
                · have HY := Lib.hid (HYes.out (gz.trans hd))
                  clear gz hd
                  go_wp2_with (first
                | (go_at_call 44; refine (R10.set_any r0 _ (Nat.le_trans hrn (by omega))).mono ?_; rintro e w5 ⟨rfl, rfl⟩; rw [g2])
                | (go_at_call 45; refine (R10.letters_any r10 _ (Nat.le_trans hrl (by omega))).mono ?_; rintro e w5 ⟨rfl, rfl⟩; rw [g5]))
                  exact ⟨⟨k + 1, by omega, by go_num, HY.out, HO.out.step HB.out⟩, by simp [intOf]; omega⟩
            · obtain rfl : k = x.tail.length := by omega
              have hR := H6.out
              have hal := HAll.out
              rw [List.take_length] at hal
              rw [hal, Bool.true_and] at hR
              have HR2 := Lib.hid hR
              have HNe := Lib.hid (R11.near_any x.tail A2 c2 wr ((H.out.rt.below HO.out.2).more HO.out.2.size) hnt H5.out)
              clear hal hR HAll H6
              go_wp2_with (go_at_call 46; refine HNe.out.mono ?_; rintro e w5 ⟨rfl, hb⟩; have HO := Lib.hid (HO.out.step hb); clear hb)
              go_ret
              refine ⟨?_, HO.out.2⟩
              rw [HR2.out]
              rfl
end Go.Proofs.YtdicedpklpadgaaGreatDoor.R14
