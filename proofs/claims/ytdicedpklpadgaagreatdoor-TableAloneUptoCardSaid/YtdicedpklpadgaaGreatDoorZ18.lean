/-
  table.At: how clocks stand. Conditions: what the table's slices hold is read, the lengths are bounded; the cell of bytealg.MaxLen holds a number; an int64.
-/
import Derived.Test.YtdicedpklpadgaaGreatDoorZ12
import Derived.Test.YtdicedpklpadgaaGreatDoorZ13
import Derived.Test.YtdicedpklpadgaaGreatDoorZ17
namespace Go.Proofs.YtdicedpklpadgaaGreatDoor.Att
open Go.RowKit Mem Civ Mom Img Rul Rgt Src Rd Ahd Sch Abr

/-- Does a shift lie behind a second? -/
def shiftF (ss : List Shift) (t : Int) (i : Nat) : Bool := decide (t < ((ss[i]?).map (·.sec)).getD 0)
def shiftP (x : Table) (t : Int) : Phase := hadAt x.first x.shifts (searchF (shiftF x.shifts t) x.shifts.length 0 x.shifts.length)
def tailP (x : Table) (t : Int) : Phase := ⟨x.off + (forceP x.tail x.off t).1, (forceP x.tail x.off t).1, abbrB x.format (forceP x.tail x.off t).2 (x.off + (forceP x.tail x.off t).1) (forceP x.tail x.off t).1⟩
/-- How clocks stand by a table, and whether they do. -/
def atP (x : Table) (t : Int) : Phase × Bool :=
  if rightB x (tailB x) = true then (if x.till ≤ t ∧ x.tail.length ≠ 0 then tailP x t else shiftP x t, true) else (⟨0, 0, ⟨#[]⟩⟩, false)
theorem first_from {rs : List Rule} {t : Turn} (h : firstO rs = some t) : ∃ r ∈ rs, ∃ z, turnL z r = some t := by
  suffices key : ∀ (l : List Rule) (b : Option Turn), (∀ u, b = some u → ∃ r ∈ rs, ∃ z, turnL z r = some u) → (∀ r ∈ l, r ∈ rs) → ∀ u, l.foldl firstStep b = some u → ∃ r ∈ rs, ∃ z, turnL z r = some u from
    key rs none (fun u e => by cases e) (fun r hr => hr) t h
  intro l
  induction l with
  | nil => intro b hb _ u hu; exact hb u hu
  | cons a l ih =>
    intro b hb hl u hu
    rw [List.foldl_cons] at hu
    refine ih _ (fun v hv => ?_) (fun r hr => hl r (List.mem_cons_of_mem _ hr)) u hu
    unfold firstStep at hv
    cases ht : turnL a.lo a with
    | none => rw [ht] at hv; exact hb v hv
    | some x =>
      rw [ht] at hv
      simp only at hv
      have hx : ∃ r ∈ rs, ∃ z, turnL z r = some x := ⟨a, hl a List.mem_cons_self, _, ht⟩
      split at hv
      · cases b with
        | none => simp only [lessT] at hv; injection hv with hv; subst hv; exact hx
        | some y =>
          simp only [lessT] at hv
          split at hv
          · injection hv with hv; subst hv; exact hx
          · exact hb v hv
      · exact hb v hv
theorem force_ok (rs : List Rule) (off t : Int) (h : ∀ r ∈ rs, r.letter.size ≤ 2097152) : -43200 ≤ (forceP rs off t).1 ∧ (forceP rs off t).1 ≤ 43200 ∧ (forceP rs off t).2.size ≤ 2097152 := by
  unfold forceP
  split
  · next hr =>
    cases hx : latestL (fun x => decide (uniT rs off x ≤ t)) (yearI t) rs with
    | some x =>
      obtain ⟨r, hm, z, hz⟩ := latest_from hx
      obtain ⟨_, e1, e2, _⟩ := turnL_at hz
      have := rule_save hr.1 hm
      refine ⟨by simp only [giveO]; omega, by simp only [giveO]; omega, ?_⟩
      show x.letter.size ≤ _
      rw [e2]; exact h r hm
    | none =>
      refine ⟨by simp [giveO], by simp [giveO], ?_⟩
      show (firstP rs).size ≤ _
      unfold firstP
      cases hf : firstO rs with
      | none => decide
      | some x =>
        obtain ⟨r, hm, z, hz⟩ := first_from hf
        obtain ⟨_, _, e2, _⟩ := turnL_at hz
        show x.letter.size ≤ _
        rw [e2]; exact h r hm
  · exact ⟨by decide, by decide, by decide⟩
set_option maxHeartbeats 2000000 in
set_option maxRecDepth 100000 in
theorem at1_any (ss : List Shift) (A : Option Addr) (c : Nat) (v0 v1 v2 v3 v5 v6 v7 v8 : Value) (t : Int) (b0 b1 i : Nat) (w : World) (h : Reads w w.heap.size 4 A ss.length (ss.flatMap Shift.cells)) (hi : i < ss.length)
    (h0 : Blk w b0 33 #[v0, v1, v2, v3, .slice A ss.length c, v5, v6, v7, v8]) (h1 : w.cell? ⟨b1, 0, none⟩ = some (.int .i64 t)) :
    Calls Tryz.prog 39 #[.int .i64 i, .pointer (some ⟨b0, 0, none⟩), .pointer (some ⟨b1, 0, none⟩)] w fun e w' => e = .returned (.bool (shiftF ss t i)) ∧ Below w.heap.size w w' := by
  obtain ⟨ad, rfl, hadb, c0, c1, c2, c3⟩ := shift_at h hi
  have hq : shiftF ss t i = decide (t < ss[i].sec) := by unfold shiftF; rw [List.getElem?_eq_getElem hi]; rfl
  rw [hq]
  have d0 := fun j => h0.cell j
  clear h hq h0
  generalize ss[i] = s at *
  obtain ⟨sec, ph⟩ := s
  simp only at c0 ⊢
  clear c1 c2 c3
  go_enter Tryz.func39, Tryz.ntmps39
  go_wp2
  go_region
  go_wp2
  go_ret
  exact ⟨rfl, (Below.refl _ _).drew⟩
/-- What At's frame holds in memory: the table's box, the time's, the result's block. -/
structure As (w : World) (cs : Array Value) (t : Int) (W : World) : Prop where
  tb : Blk W w.heap.size 33 cs
  tt : Blk W (w.heap.size + 1) 2 #[.int .i64 t]
  ph : Blk W (w.heap.size + 1 + 1) 30 #[.int .i64 0, .int .i64 0, .string ⟨#[]⟩]
  bel : Below w.heap.size w W
theorem As.below {w W W' : World} {cs : Array Value} {t : Int} (h : As w cs t W) (hb : Below W.heap.size W W') : As w cs t W' :=
  ⟨h.tb.below hb h.tb.lt, h.tt.below hb h.tt.lt, h.ph.below hb h.ph.lt, h.bel.trans (hb.mono h.bel.size)⟩
theorem at_results {w : World} {R0 : Nat} {b : Bool} {a0 a1 a2 : Value} (h : Blk w R0 30 #[a0, a1, a2]) (tmps : Array Value) (ht : tmps[4]? = some (.pointer (some ⟨R0, 0, none⟩))) (h5 : tmps[5]? = some (.bool b)) :
    (results Tryz.f15 tmps).run Tryz.prog w = .ok (.tuple #[.agg #[a0, a1, a2], .bool b]) w := by
  have hc := fun i => h.cell i
  simp [results, Tryz.results15, go_sem, hc, ht, h5]
theorem right_t (x : Table) (A A2 : Option Addr) (c c2 : Nat) (m : Int) (w : World) (h : TabOk x A A2 w) (hm : w.cell? ⟨0, 0, none⟩ = some (.int .i64 m)) :
    Calls Tryz.prog 17 #[.agg (tabCells x A c A2 c2)] w fun e w' => e = .returned (.bool (rightB x (tailB x))) ∧ Below w.heap.size w w' :=
  Rgt.right_any x A A2 c c2 (tailB x) m w h.rs h.ns h.name h.first.2.2 (fun s hs => (h.shifts s hs).2.2) hm fun w1 hb => tail_any x A A2 c c2 m w1 (h.below hb) (cell_later hb hm)
theorem tail_day {x : Table} (h : tailB x = true) (h0 : x.tail.length ≠ 0) : -86400 < x.off ∧ x.off < 86400 := by
  unfold tailB at h
  split at h
  · next h1 => omega
  · simp only [Bool.and_eq_true, decide_eq_true_eq] at h
    obtain ⟨_, h1, h2, _⟩ := h
    simp only [srcB, tryOf, Bool.and_eq_true] at h2
    obtain ⟨_, h3, h4, _⟩ := h2
    simp only [List.all_cons, zoneB, Bool.and_eq_true, List.length_singleton, erasOk] at h4
    have h5 := h4.1.2.2.2.2
    simp only [List.getElem?_cons_zero, Bool.and_eq_true, eraB, eraOf] at h5
    have h6 := h5.1.1.1
    simp only [dayB, Bool.and_eq_true, decide_eq_true_eq] at h6
    omega
theorem le2 (n : Nat) : n ≤ n + 1 + 1 := by omega
set_option maxHeartbeats 8000000 in
set_option maxRecDepth 100000 in
theorem at_any (x : Table) (A A2 : Option Addr) (c c2 : Nat) (t m : Int) (w : World) (h : TabOk x A A2 w) (hm : w.cell? ⟨0, 0, none⟩ = some (.int .i64 m)) (ht1 : -9223372036854775808 ≤ t) (ht2 : t ≤ 9223372036854775807) :
    Calls Tryz.prog 15 #[.agg (tabCells x A c A2 c2), .int .i64 t] w fun e w' => e = .returned (.tuple #[.agg #[.int .i64 (atP x t).1.off, .int .i64 (atP x t).1.save, .string (atP x t).1.abbr], .bool (atP x t).2]) ∧ Below w.heap.size w w' := by
  have hns := h.ns
  have hR := fun z (hb : Below w.heap.size w z) => right_t x A A2 c c2 m z (h.below hb) (cell_later hb hm)
  have hF := fun z (hb : Below w.heap.size w z) => force_any x.tail A2 c2 x.off t z (h.below hb).rt h.nt ht1 ht2
  have hfo := force_ok x.tail x.off t (fun r hr => (h.rules r hr).2)
  have hAb := fun (ho : -86400 < x.off ∧ x.off < 86400) z (hb : Below w.heap.size w z) => abbr_any x.format (forceP x.tail x.off t).2 (x.off + (forceP x.tail x.off t).1) (forceP x.tail x.off t).1 m z h.format hfo.2.2 (by omega) (by omega) (cell_later hb hm)
  have hSr := fun z (hz : As w (tabCells x A c A2 c2) t z) => search_any x.shifts.length 39 #[.pointer (some ⟨w.heap.size, 0, none⟩), .pointer (some ⟨w.heap.size + 1, 0, none⟩)] (shiftF x.shifts t) z h.ns (enters_of Tryz.func39 (by kernel_rfl) rfl)
    (fun i z2 hi hb2 => at1_any x.shifts A c _ _ _ _ _ _ _ _ t w.heap.size (w.heap.size + 1) i z2 (h.below (hz.below hb2).bel).rs hi (hz.below hb2).tb ((hz.below hb2).tt.cell 0))
  have hse := search_le (shiftF x.shifts t) x.shifts.length 0 x.shifts.length (Nat.zero_le _)
  have hsh := fun (j : Nat) (hj : j < x.shifts.length) z (hb : Below w.heap.size w z) => shift_at (h.below hb).rs hj
  have htd := fun (hr : rightB x (tailB x) = true) (h0 : x.tail.length ≠ 0) => tail_day (by simp only [rightB, Bool.and_eq_true] at hr; exact hr.1.2.2.2) h0
  obtain ⟨b0, b1, b2, hbw, hsz⟩ := box3 w 33 2 30 (tabCells x A c A2 c2) #[.int .i64 t] #[.int .i64 0, .int .i64 0, .string ⟨#[]⟩]
  simp only [tabCells] at *
  obtain ⟨W, hW⟩ : ∃ W, ((w.alloc (.cells #[.string x.name, .int .i64 x.first.off, .int .i64 x.first.save, .string x.first.abbr, .slice A x.shifts.length c, .int .i64 x.till, .slice A2 x.tail.length c2, .int .i64 x.off, .string x.format] 33)).alloc (.cells #[.int .i64 t] 2)).alloc (.cells #[.int .i64 0, .int .i64 0, .string ⟨#[]⟩] 30) = W := ⟨_, rfl⟩
  rw [hW] at b0 b1 b2 hbw hsz
  have HO : Hid (As w #[.string x.name, .int .i64 x.first.off, .int .i64 x.first.save, .string x.first.abbr, .slice A x.shifts.length c, .int .i64 x.till, .slice A2 x.tail.length c2, .int .i64 x.off, .string x.format] t W) := ⟨b0, b1, b2, hbw⟩
  have c0 := fun i => HO.out.tb.cell i
  unfold atP tailP shiftP
  have HR := Lib.hid hR; have HF := Lib.hid hF; have HFo := Lib.hid hfo; have HAb := Lib.hid hAb; have HSr := Lib.hid hSr; have HSe := Lib.hid hse; have HSh := Lib.hid hsh; have HTd := Lib.hid htd
  clear h hR hF hfo hAb hSr hse hsh htd b0 b1 b2 hbw hm
  obtain ⟨rb, hrb⟩ : ∃ rb, rightB x (tailB x) = rb := ⟨_, rfl⟩
  rw [hrb] at HR HTd ⊢
  clear hrb
  cases rb
  · rw [if_neg (by decide)]
    clear HF HFo HAb HSr HSe HSh HTd
    go_enter Tryz.func15, Tryz.ntmps15
    go_wp2_with (go_at_call 17; refine (HR.out _ HO.out.bel).mono ?_; rintro e w1 ⟨rfl, hb⟩; have HO1 := Lib.hid (HO.out.below hb); have d2 := fun i => HO1.out.ph.cell i; have f2 := fun i => HO1.out.ph.frozen i; clear hb)
    refine bodyPost_ret (at_results (((HO1.out.ph.set_ 0 (.int .i64 0)).set_ 1 (.int .i64 0)).set_ 2 (.string ⟨#[]⟩)) _ rfl rfl) rfl ?_
    exact ⟨rfl, (((HO1.out.bel.setCell (le2 _) _).setCell (le2 _) _).setCell (le2 _) _)⟩
  · rw [if_pos rfl]
    by_cases hc : x.till ≤ t ∧ x.tail.length ≠ 0
    · rw [if_pos hc]
      have hd := HTd.out rfl hc.2
      have ha := HAb.out hd
      have c1b : decide (x.till ≤ t) = true := decide_eq_true hc.1
      have c2b : decide (0 < x.tail.length) = true := decide_eq_true (by have := hc.2; omega)
      have hfb := HFo.out
      generalize (forceP x.tail x.off t).1 = sv at *
      generalize (forceP x.tail x.off t).2 = lt at *
      have hw : -9223372036854775808 ≤ x.off + sv ∧ x.off + sv ≤ 9223372036854775807 := by omega
      generalize abbrB x.format lt (x.off + sv) sv = ab at *
      have HA2 := Lib.hid ha
      clear HAb HSr HSe HSh HTd hc ha HFo
      obtain ⟨hf1, hf2, _⟩ := hfb
      go_enter Tryz.func15, Tryz.ntmps15
      go_wp2_with (first
        | (go_at_call 17; refine (HR.out _ HO.out.bel).mono ?_; rintro e w1 ⟨rfl, hb⟩; have HO1 := Lib.hid (HO.out.below hb); have d0 := fun i => HO1.out.tb.cell i; have d1 := fun i => HO1.out.tt.cell i; clear hb)
        | (go_at_call 37; refine (HF.out _ HO1.out.bel).mono ?_; rintro e w2 ⟨rfl, hb⟩; have HO2 := Lib.hid (HO1.out.below hb); have e0 := fun i => HO2.out.tb.cell i; clear hb d0 d1)
        | (go_at_call 31; refine (HA2.out _ HO2.out.bel).mono ?_; rintro e w3 ⟨rfl, hb⟩; have HO3 := Lib.hid (HO2.out.below hb); have d2 := fun i => HO3.out.ph.cell i; have f2 := fun i => HO3.out.ph.frozen i; clear hb))
      refine bodyPost_ret (at_results (((HO3.out.ph.set_ 0 (.int .i64 (x.off + sv))).set_ 1 (.int .i64 sv)).set_ 2 (.string ab)) _ rfl rfl) rfl ?_
      exact ⟨rfl, (((HO3.out.bel.setCell (le2 _) _).setCell (le2 _) _).setCell (le2 _) _)⟩
    · rw [if_neg hc]
      clear HF HFo HAb HTd
      generalize hN : searchF (shiftF x.shifts t) x.shifts.length 0 x.shifts.length = N at *
      clear hN
      have hcase : (∃ b, decide (x.till ≤ t) = true ∧ decide (0 < x.tail.length) = false ∧ b = true) ∨ (∃ b, decide (x.till ≤ t) = false ∧ decide (0 < x.tail.length) = b) := by
        by_cases h1 : x.till ≤ t
        · exact .inl ⟨true, decide_eq_true h1, decide_eq_false (by
            have : ¬ x.tail.length ≠ 0 := fun h2 => hc ⟨h1, h2⟩
            omega), rfl⟩
        · exact .inr ⟨_, decide_eq_false h1, rfl⟩
      have hk : ∃ K : Int, (N : Int) = K := ⟨_, rfl⟩
      obtain ⟨K, hK⟩ := hk
      rw [hK] at HSr
      cases N with
      | zero =>
        obtain rfl : K = 0 := by omega
        simp only [hadAt]
        clear HSe HSh hc hK
        obtain ⟨_, q1, q2, _⟩ | ⟨b, q1, q2⟩ := hcase
        all_goals try cases b
        all_goals
          go_enter Tryz.func15, Tryz.ntmps15
          go_wp2_with (first
            | (go_at_call 17; refine (HR.out _ HO.out.bel).mono ?_; rintro e w1 ⟨rfl, hb⟩; have HO1 := Lib.hid (HO.out.below hb); have d0 := fun i => HO1.out.tb.cell i; have d1 := fun i => HO1.out.tt.cell i; clear hb)
            | (go_at_call 38; refine (HSr.out _ HO1.out).mono ?_; rintro e w2 ⟨rfl, hb⟩; have HO2 := Lib.hid (HO1.out.below hb); have e0 := fun i => HO2.out.tb.cell i; have d2 := fun i => HO2.out.ph.cell i; have f2 := fun i => HO2.out.ph.frozen i; clear hb d0 d1))
          refine bodyPost_ret (at_results (((HO2.out.ph.set_ 0 (.int .i64 x.first.off)).set_ 1 (.int .i64 x.first.save)).set_ 2 (.string x.first.abbr)) _ rfl rfl) rfl ?_
          exact ⟨rfl, (((HO2.out.bel.setCell (le2 _) _).setCell (le2 _) _).setCell (le2 _) _)⟩
      | succ j =>
        have hj : j < x.shifts.length := HSe.out
        obtain rfl : K = (j : Int) + 1 := by omega
        have hsh := HSh.out j hj
        have hg : hadAt x.first x.shifts (j + 1) = (x.shifts[j]'hj).ph := by simp only [hadAt, List.getElem?_eq_getElem hj]; rfl
        rw [hg]
        have hKb : ((j : Int) + 1 == 0) = false := by simp; omega
        have hwj : wrap64 (j : Int) = (j : Int) := by unfold wrap64; omega
        generalize (x.shifts[j]'hj) = s at *
        obtain ⟨sec, ⟨po, ps, pa⟩⟩ := s
        simp only at hsh ⊢
        have hj2 := hj
        clear HSe HSh hc hK hg hj2
        obtain ⟨ad, hA, hadb, _⟩ := hsh w (Below.refl _ _)
        subst hA
        have HSh := Lib.hid hsh
        clear hsh
        obtain ⟨_, q1, q2, _⟩ | ⟨b, q1, q2⟩ := hcase
        all_goals try cases b
        all_goals
          go_enter Tryz.func15, Tryz.ntmps15
          go_wp2_with (first
            | (go_at_call 17; refine (HR.out _ HO.out.bel).mono ?_; rintro e w1 ⟨rfl, hb⟩; have HO1 := Lib.hid (HO.out.below hb); have d0 := fun i => HO1.out.tb.cell i; have d1 := fun i => HO1.out.tt.cell i; clear hb)
            | (go_at_call 38; refine (HSr.out _ HO1.out).mono ?_; rintro e w2 ⟨rfl, hb⟩; have HO2 := Lib.hid (HO1.out.below hb); have e0 := fun i => HO2.out.tb.cell i; have d2 := fun i => HO2.out.ph.cell i; have f2 := fun i => HO2.out.ph.frozen i; have hs2 := HSh.out _ HO2.out.bel; obtain ⟨ad2, hA2, _, s0, s1, s2, s3⟩ := hs2; injection hA2 with hA2; subst hA2; have s2' : w2.cell? ⟨(ad.add (j * 4)).block, (ad.add (j * 4)).off + 1 + 1, none⟩ = some (.int .i64 ps) := s2; have s3' : w2.cell? ⟨(ad.add (j * 4)).block, (ad.add (j * 4)).off + 1 + 2, none⟩ = some (.string pa) := s3; clear hb d0 d1 s2 s3))
          refine bodyPost_ret (at_results (((HO2.out.ph.set_ 0 (.int .i64 po)).set_ 1 (.int .i64 ps)).set_ 2 (.string pa)) _ rfl rfl) rfl ?_
          exact ⟨rfl, (((HO2.out.bel.setCell (le2 _) _).setCell (le2 _) _).setCell (le2 _) _)⟩
end Go.Proofs.YtdicedpklpadgaaGreatDoor.Att
