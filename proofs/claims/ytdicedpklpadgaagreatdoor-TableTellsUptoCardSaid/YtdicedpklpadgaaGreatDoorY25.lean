/-
  Package sound: rules.Ahead answers for every era; the contract of Check. Conditions: what the source's slices hold is read; the cell of bytealg.MaxLen holds a number.
-/
import Derived.Test.YtdicedpklpadgaaGreatDoorY07
import Derived.Test.YtdicedpklpadgaaGreatDoorY24
set_option linter.all false
namespace Go.Proofs.YtdicedpklpadgaaGreatDoor.Snd
open Go.RowKit Mem Civ Mom Img Plc Rul Src Go.Maps

/-- The saving ahead of an era's end. -/
def svF (s : Src) (x : Era) : Int := ((Ahd.aheadO (setOf s.rules x) (endT x)).getD Ahd.noTurn).save
theorem endT_bd (x : Era) : -9223372036854775808 ≤ endT x ∧ endT x ≤ 9223372036854775807 := by
  unfold endT localO
  cases h : onO x.spot x.year with
  | none => simp
  | some n =>
    obtain ⟨⟨h1, h2⟩, h3, _⟩ := onO_bd h
    obtain ⟨_, _, _, _, h5, h6, _⟩ := h3
    simp only [Option.map_some, Option.getD_some]
    omega
theorem setOf_len (rs : List Rule) (x : Era) : (setOf rs x).length ≤ rs.length := by
  unfold setOf
  split
  · exact setL_len _ _
  · simp
theorem ea_any (s : Src) (hn : s.rules.length ≤ 1000000) : EA s (svF s) := fun zn _ x _ _ _ Ae ce z hr z2 hb => by
  refine (Ahd.ahead_any (setOf s.rules x) Ae ce (endT x) z2 ((hr.below hb).more hb.size) (Nat.le_trans (setOf_len _ _) hn) (endT_bd x).1 (endT_bd x).2).mono ?_
  rintro e w' ⟨rfl, hb2⟩
  unfold svF
  generalize (Ahd.aheadO (setOf s.rules x) (endT x)).isSome = b
  obtain ⟨t0, t1, t2, t3⟩ : Turn := (Ahd.aheadO (setOf s.rules x) (endT x)).getD Ahd.noTurn
  exact ⟨_, _, _, _, rfl, hb2⟩
theorem eq_flaw (a b : Flaw) (w : World) : (Op.equalIn 10000 52 (.agg a.cells.toArray) (.agg b.cells.toArray)).run Tryz.prog w = .ok (decide (a = b)) w := by
  cases a
  cases b
  simp [Flaw.cells, go_sem]
  repeat (split; skip)
  all_goals simp_all
def firstF : List Flaw → Flaw
  | [] => noFlaw
  | f :: t => if f = noFlaw then firstF t else f
def checkB (s : Src) : Flaw := if srcB s = true then firstF [ordersB s, setsB s, zonesB s (svF s), linksB s, targetsB s] else ⟨1, 0, 0, 0⟩
theorem check_results {w : World} {R0 : Nat} {a0 a1 a2 a3 : Value} (h : Blk w R0 52 #[a0, a1, a2, a3]) (tmps : Array Value) (ht : tmps[2]? = some (.pointer (some ⟨R0, 0, none⟩))) : (results Tryz.f22 tmps).run Tryz.prog w = .ok (.agg #[a0, a1, a2, a3]) w := by
  have hc := fun i => h.cell i
  simp [results, Tryz.results22, go_sem, hc, ht]
set_option maxHeartbeats 2000000 in
set_option maxRecDepth 100000 in
theorem check_any (s : Src) (A A2 A3 : Option Addr) (c c2 c3 : Nat) (m : Int) (w : World) (h : SrcOk s A A2 A3 w) (hm : w.cell? ⟨0, 0, none⟩ = some (.int .i64 m)) :
    Calls Tryz.prog 22 #[.agg #[.slice A s.rules.length c, .slice A2 s.zones.length c2, .slice A3 s.links.length c3]] w fun e w' => e = .returned (.agg (checkB s).cells.toArray) ∧ Below w.heap.size w w' := by
  have hR := fun z (hb : Below w.heap.size w z) => Src.right_any s A A2 A3 c c2 c3 m z (h.below hb) (cell_later hb hm)
  have h1 := fun z (hb : Below w.heap.size w z) => orders_any s A A2 A3 c c2 c3 z (h.below hb)
  have h2 := fun z (hb : Below w.heap.size w z) => sets_any s A A2 A3 c c2 c3 z (h.below hb)
  have h3 := fun (hs : srcB s = true) z (hb : Below w.heap.size w z) => zones_any s (svF s) A A2 A3 c c2 c3 m z (h.below hb) (cell_later hb hm) hs (ea_any s h.nr)
  have h4 := fun z (hb : Below w.heap.size w z) => links_any s A A2 A3 c c2 c3 z (h.below hb)
  have h5 := fun z (hb : Below w.heap.size w z) => targets_any s A A2 A3 c c2 c3 z (h.below hb)
  clear h hm
  obtain ⟨Q, hQ⟩ : ∃ Q, checkB s = Q := ⟨_, rfl⟩
  rw [hQ]
  unfold checkB at hQ
  generalize ordersB s = f1 at *
  generalize setsB s = f2 at *
  generalize zonesB s (svF s) = f3 at *
  generalize linksB s = f4 at *
  generalize targetsB s = f5 at *
  generalize srcB s = sb at *
  obtain ⟨rs, zs, ls⟩ := s
  simp only at hR h1 h2 h3 h4 h5 ⊢
  have hst := Two.start w #[.slice A rs.length c, .slice A2 zs.length c2, .slice A3 ls.length c3]
  obtain ⟨W, hW⟩ : ∃ W, (w.alloc (.cells #[.slice A rs.length c, .slice A2 zs.length c2, .slice A3 ls.length c3] 26)).alloc (.cells #[.int .i64 0, .int .i64 0, .int .i64 0, .int .i64 0] 52) = W := ⟨_, rfl⟩
  rw [hW] at hst
  have HT := Lib.hid hst; have HR := Lib.hid hR
  have c0 := fun i => hst.src.cell i
  cases sb
  · rw [if_neg (by decide)] at hQ
    subst hQ
    clear hst hR h1 h2 h3 h4 h5
    go_enter Tryz.func22, Tryz.ntmps22
    go_wp2_with (go_at_call 55; refine (HR.out _ HT.out.bel).mono ?_; rintro e w1 ⟨rfl, hb⟩; have ht := HT.out.step hb; have fR := fun i => ht.res.frozen i; have cR := fun i => ht.res.cell i; have HF := Lib.hid (ht.fill (.int .i64 1) (.int .i64 0) (.int .i64 0) (.int .i64 0)); clear hb ht)
    refine bodyPost_ret (check_results HF.out.res _ rfl) rfl ?_
    exact ⟨rfl, HF.out.bel⟩
  · rw [if_pos rfl] at hQ
    have h3' := h3 rfl
    have H1 := Lib.hid h1; have H2 := Lib.hid h2; have H3 := Lib.hid h3'; have H4 := Lib.hid h4; have H5 := Lib.hid h5; have HQ := Lib.hid hQ
    clear hst hR h1 h2 h3 h3' h4 h5 hQ
    go_enter Tryz.func22, Tryz.ntmps22
    go_wp2_with (go_at_call 55; refine (HR.out _ HT.out.bel).mono ?_; rintro e w1 ⟨rfl, hb⟩; have ht := HT.out.step hb; have HT1 := Lib.hid ht; clear hb ht c0)
    have HFb := Lib.hid (Blk.new w1 53 #[.func (.func 56) #[] #[], .func (.func 57) #[] #[], .func (.func 58) #[] #[], .func (.func 59) #[] #[], .func (.func 60) #[] #[]])
    have HT2 := Lib.hid (HT1.out.alloc (.cells #[.func (.func 56) #[] #[], .func (.func 57) #[] #[], .func (.func 58) #[] #[], .func (.func 59) #[] #[], .func (.func 60) #[] #[]] 53))
    obtain ⟨g, hg⟩ : ∃ g, g = w1.heap.size := ⟨_, rfl⟩
    rw [← hg] at HFb ⊢
    clear HT1 HT HR hW hg
    go_loopw [12] (fun i wr => ∃ k : Nat, k ≤ 5 ∧ i = .int .i64 k ∧ firstF ([f1, f2, f3, f4, f5].drop k) = Q ∧ Two w #[.slice A rs.length c, .slice A2 zs.length c2, .slice A3 ls.length c3] #[.int .i64 0, .int .i64 0, .int .i64 0, .int .i64 0] wr ∧ Blk wr g 53 #[.func (.func 56) #[] #[], .func (.func 57) #[] #[], .func (.func 58) #[] #[], .func (.func 59) #[] #[], .func (.func 60) #[] #[]]) (fun i _ => 5 - (intOf i).toNat)
    case atStart => exact ⟨0, by omega, rfl, HQ.out, HT2.out, HFb.out⟩
    case round =>
      clear HT2 HFb HQ
      obtain ⟨k, hk, rfl, hq, ht, hb⟩ := hrel
      have HT := Lib.hid ht; have HFb := Lib.hid hb
      have cg := fun i => hb.cell i
      have cs := fun i => ht.src.cell i
      clear ht hb
      rcases (by omega : k = 0 ∨ k = 1 ∨ k = 2 ∨ k = 3 ∨ k = 4 ∨ k = 5) with rfl | rfl | rfl | rfl | rfl | rfl
      · obtain ⟨a0, a1, a2, a3⟩ := f1
        simp only [Flaw.cells] at H1
        simp only [List.drop_zero, firstF] at hq
        by_cases e : (⟨a0, a1, a2, a3⟩ : Flaw) = noFlaw
        · rw [if_pos e] at hq
          have heq : ∀ z, (Op.equalIn 10000 52 (.agg #[.int .i64 a0, .int .i64 a1, .int .i64 a2, .int .i64 a3]) (.agg #[.int .i64 0, .int .i64 0, .int .i64 0, .int .i64 0])).run Tryz.prog z = .ok true z := fun z => by
            have h := eq_flaw ⟨a0, a1, a2, a3⟩ noFlaw z
            rw [decide_eq_true e] at h
            exact h
          have Hq := Lib.hid hq
          clear e hq
          go_wp2_with (go_at_call 56; refine (H1.out _ HT.out.bel).mono ?_; rintro e w4 ⟨rfl, hb⟩; have HT3 := Lib.hid (HT.out.step hb); have HFc := Lib.hid (HFb.out.below hb HFb.out.lt); clear hb)
          exact ⟨⟨1, by omega, rfl, Hq.out, HT3.out.alloc _, HFc.out.alloc _⟩, by simp [intOf]⟩
        · rw [if_neg e] at hq
          subst hq
          have heq : ∀ z, (Op.equalIn 10000 52 (.agg #[.int .i64 a0, .int .i64 a1, .int .i64 a2, .int .i64 a3]) (.agg #[.int .i64 0, .int .i64 0, .int .i64 0, .int .i64 0])).run Tryz.prog z = .ok false z := fun z => by
            have h := eq_flaw ⟨a0, a1, a2, a3⟩ noFlaw z
            rw [decide_eq_false e] at h
            exact h
          clear e
          go_wp2_with (go_at_call 56; refine (H1.out _ HT.out.bel).mono ?_; rintro e w4 ⟨rfl, hb⟩; have ht := (HT.out.step hb).alloc (.cells #[.int .i64 a0, .int .i64 a1, .int .i64 a2, .int .i64 a3] 52); have fR := fun i => ht.res.frozen i; have cR := fun i => ht.res.cell i; have HF := Lib.hid (ht.fill (.int .i64 a0) (.int .i64 a1) (.int .i64 a2) (.int .i64 a3)); clear hb ht)
          refine bodyPost_ret (check_results HF.out.res _ rfl) rfl ?_
          exact ⟨rfl, HF.out.bel⟩
      · obtain ⟨a0, a1, a2, a3⟩ := f2
        simp only [Flaw.cells] at H2
        simp only [List.drop_zero, List.drop_succ_cons, firstF] at hq
        by_cases e : (⟨a0, a1, a2, a3⟩ : Flaw) = noFlaw
        · rw [if_pos e] at hq
          have heq : ∀ z, (Op.equalIn 10000 52 (.agg #[.int .i64 a0, .int .i64 a1, .int .i64 a2, .int .i64 a3]) (.agg #[.int .i64 0, .int .i64 0, .int .i64 0, .int .i64 0])).run Tryz.prog z = .ok true z := fun z => by
            have h := eq_flaw ⟨a0, a1, a2, a3⟩ noFlaw z
            rw [decide_eq_true e] at h
            exact h
          have Hq := Lib.hid hq
          clear e hq
          go_wp2_with (go_at_call 57; refine (H2.out _ HT.out.bel).mono ?_; rintro e w4 ⟨rfl, hb⟩; have HT3 := Lib.hid (HT.out.step hb); have HFc := Lib.hid (HFb.out.below hb HFb.out.lt); clear hb)
          exact ⟨⟨2, by omega, rfl, Hq.out, HT3.out.alloc _, HFc.out.alloc _⟩, by simp [intOf]⟩
        · rw [if_neg e] at hq
          subst hq
          have heq : ∀ z, (Op.equalIn 10000 52 (.agg #[.int .i64 a0, .int .i64 a1, .int .i64 a2, .int .i64 a3]) (.agg #[.int .i64 0, .int .i64 0, .int .i64 0, .int .i64 0])).run Tryz.prog z = .ok false z := fun z => by
            have h := eq_flaw ⟨a0, a1, a2, a3⟩ noFlaw z
            rw [decide_eq_false e] at h
            exact h
          clear e
          go_wp2_with (go_at_call 57; refine (H2.out _ HT.out.bel).mono ?_; rintro e w4 ⟨rfl, hb⟩; have ht := (HT.out.step hb).alloc (.cells #[.int .i64 a0, .int .i64 a1, .int .i64 a2, .int .i64 a3] 52); have fR := fun i => ht.res.frozen i; have cR := fun i => ht.res.cell i; have HF := Lib.hid (ht.fill (.int .i64 a0) (.int .i64 a1) (.int .i64 a2) (.int .i64 a3)); clear hb ht)
          refine bodyPost_ret (check_results HF.out.res _ rfl) rfl ?_
          exact ⟨rfl, HF.out.bel⟩
      · obtain ⟨a0, a1, a2, a3⟩ := f3
        simp only [Flaw.cells] at H3
        simp only [List.drop_zero, List.drop_succ_cons, firstF] at hq
        by_cases e : (⟨a0, a1, a2, a3⟩ : Flaw) = noFlaw
        · rw [if_pos e] at hq
          have heq : ∀ z, (Op.equalIn 10000 52 (.agg #[.int .i64 a0, .int .i64 a1, .int .i64 a2, .int .i64 a3]) (.agg #[.int .i64 0, .int .i64 0, .int .i64 0, .int .i64 0])).run Tryz.prog z = .ok true z := fun z => by
            have h := eq_flaw ⟨a0, a1, a2, a3⟩ noFlaw z
            rw [decide_eq_true e] at h
            exact h
          have Hq := Lib.hid hq
          clear e hq
          go_wp2_with (go_at_call 58; refine (H3.out _ HT.out.bel).mono ?_; rintro e w4 ⟨rfl, hb⟩; have HT3 := Lib.hid (HT.out.step hb); have HFc := Lib.hid (HFb.out.below hb HFb.out.lt); clear hb)
          exact ⟨⟨3, by omega, rfl, Hq.out, HT3.out.alloc _, HFc.out.alloc _⟩, by simp [intOf]⟩
        · rw [if_neg e] at hq
          subst hq
          have heq : ∀ z, (Op.equalIn 10000 52 (.agg #[.int .i64 a0, .int .i64 a1, .int .i64 a2, .int .i64 a3]) (.agg #[.int .i64 0, .int .i64 0, .int .i64 0, .int .i64 0])).run Tryz.prog z = .ok false z := fun z => by
            have h := eq_flaw ⟨a0, a1, a2, a3⟩ noFlaw z
            rw [decide_eq_false e] at h
            exact h
          clear e
          go_wp2_with (go_at_call 58; refine (H3.out _ HT.out.bel).mono ?_; rintro e w4 ⟨rfl, hb⟩; have ht := (HT.out.step hb).alloc (.cells #[.int .i64 a0, .int .i64 a1, .int .i64 a2, .int .i64 a3] 52); have fR := fun i => ht.res.frozen i; have cR := fun i => ht.res.cell i; have HF := Lib.hid (ht.fill (.int .i64 a0) (.int .i64 a1) (.int .i64 a2) (.int .i64 a3)); clear hb ht)
          refine bodyPost_ret (check_results HF.out.res _ rfl) rfl ?_
          exact ⟨rfl, HF.out.bel⟩
      · obtain ⟨a0, a1, a2, a3⟩ := f4
        simp only [Flaw.cells] at H4
        simp only [List.drop_zero, List.drop_succ_cons, firstF] at hq
        by_cases e : (⟨a0, a1, a2, a3⟩ : Flaw) = noFlaw
        · rw [if_pos e] at hq
          have heq : ∀ z, (Op.equalIn 10000 52 (.agg #[.int .i64 a0, .int .i64 a1, .int .i64 a2, .int .i64 a3]) (.agg #[.int .i64 0, .int .i64 0, .int .i64 0, .int .i64 0])).run Tryz.prog z = .ok true z := fun z => by
            have h := eq_flaw ⟨a0, a1, a2, a3⟩ noFlaw z
            rw [decide_eq_true e] at h
            exact h
          have Hq := Lib.hid hq
          clear e hq
          go_wp2_with (go_at_call 59; refine (H4.out _ HT.out.bel).mono ?_; rintro e w4 ⟨rfl, hb⟩; have HT3 := Lib.hid (HT.out.step hb); have HFc := Lib.hid (HFb.out.below hb HFb.out.lt); clear hb)
          exact ⟨⟨4, by omega, rfl, Hq.out, HT3.out.alloc _, HFc.out.alloc _⟩, by simp [intOf]⟩
        · rw [if_neg e] at hq
          subst hq
          have heq : ∀ z, (Op.equalIn 10000 52 (.agg #[.int .i64 a0, .int .i64 a1, .int .i64 a2, .int .i64 a3]) (.agg #[.int .i64 0, .int .i64 0, .int .i64 0, .int .i64 0])).run Tryz.prog z = .ok false z := fun z => by
            have h := eq_flaw ⟨a0, a1, a2, a3⟩ noFlaw z
            rw [decide_eq_false e] at h
            exact h
          clear e
          go_wp2_with (go_at_call 59; refine (H4.out _ HT.out.bel).mono ?_; rintro e w4 ⟨rfl, hb⟩; have ht := (HT.out.step hb).alloc (.cells #[.int .i64 a0, .int .i64 a1, .int .i64 a2, .int .i64 a3] 52); have fR := fun i => ht.res.frozen i; have cR := fun i => ht.res.cell i; have HF := Lib.hid (ht.fill (.int .i64 a0) (.int .i64 a1) (.int .i64 a2) (.int .i64 a3)); clear hb ht)
          refine bodyPost_ret (check_results HF.out.res _ rfl) rfl ?_
          exact ⟨rfl, HF.out.bel⟩
      · obtain ⟨a0, a1, a2, a3⟩ := f5
        simp only [Flaw.cells] at H5
        simp only [List.drop_zero, List.drop_succ_cons, firstF] at hq
        by_cases e : (⟨a0, a1, a2, a3⟩ : Flaw) = noFlaw
        · rw [if_pos e] at hq
          have heq : ∀ z, (Op.equalIn 10000 52 (.agg #[.int .i64 a0, .int .i64 a1, .int .i64 a2, .int .i64 a3]) (.agg #[.int .i64 0, .int .i64 0, .int .i64 0, .int .i64 0])).run Tryz.prog z = .ok true z := fun z => by
            have h := eq_flaw ⟨a0, a1, a2, a3⟩ noFlaw z
            rw [decide_eq_true e] at h
            exact h
          have Hq := Lib.hid hq
          clear e hq
          go_wp2_with (go_at_call 60; refine (H5.out _ HT.out.bel).mono ?_; rintro e w4 ⟨rfl, hb⟩; have HT3 := Lib.hid (HT.out.step hb); have HFc := Lib.hid (HFb.out.below hb HFb.out.lt); clear hb)
          exact ⟨⟨5, by omega, rfl, Hq.out, HT3.out.alloc _, HFc.out.alloc _⟩, by simp [intOf]⟩
        · rw [if_neg e] at hq
          subst hq
          have heq : ∀ z, (Op.equalIn 10000 52 (.agg #[.int .i64 a0, .int .i64 a1, .int .i64 a2, .int .i64 a3]) (.agg #[.int .i64 0, .int .i64 0, .int .i64 0, .int .i64 0])).run Tryz.prog z = .ok false z := fun z => by
            have h := eq_flaw ⟨a0, a1, a2, a3⟩ noFlaw z
            rw [decide_eq_false e] at h
            exact h
          clear e
          go_wp2_with (go_at_call 60; refine (H5.out _ HT.out.bel).mono ?_; rintro e w4 ⟨rfl, hb⟩; have ht := (HT.out.step hb).alloc (.cells #[.int .i64 a0, .int .i64 a1, .int .i64 a2, .int .i64 a3] 52); have fR := fun i => ht.res.frozen i; have cR := fun i => ht.res.cell i; have HF := Lib.hid (ht.fill (.int .i64 a0) (.int .i64 a1) (.int .i64 a2) (.int .i64 a3)); clear hb ht)
          refine bodyPost_ret (check_results HF.out.res _ rfl) rfl ?_
          exact ⟨rfl, HF.out.bel⟩
      · simp only [List.drop_succ_cons, List.drop_nil, firstF] at hq
        subst hq
        have fR := fun i => HT.out.res.frozen i
        have cR := fun i => HT.out.res.cell i
        have HF := Lib.hid (HT.out.fill (.int .i64 0) (.int .i64 0) (.int .i64 0) (.int .i64 0))
        go_wp2_with fail
        refine bodyPost_ret (check_results HF.out.res _ rfl) rfl ?_
        exact ⟨rfl, HF.out.bel⟩
end Go.Proofs.YtdicedpklpadgaaGreatDoor.Snd
