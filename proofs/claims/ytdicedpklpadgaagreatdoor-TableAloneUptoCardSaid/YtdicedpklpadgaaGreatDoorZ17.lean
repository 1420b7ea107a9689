/-
  The contract of table.tail, at every table. Conditions: what the table's slices hold is read, their lengths are bounded; the cell of bytealg.MaxLen holds a number.
-/
import Derived.Test.YtdicedpklpadgaaGreatDoorZ10
import Derived.Test.YtdicedpklpadgaaGreatDoorZ16
namespace Go.Proofs.YtdicedpklpadgaaGreatDoor.Src
open Go.RowKit Mem Civ Mom Img Plc Rul

def eraOf (x : Table) : Era := ⟨x.off, 0, 0, ⟨#[]⟩, x.format, false, 0, ⟨0, 0, 0, 0, 0, 0⟩⟩
def tryOf (x : Table) : Src := ⟨x.tail, [⟨x.name, [eraOf x], none, 0⟩], []⟩
def tailR (off : Int) (r : Rule) : Bool := (r.hi == 1000000) && Rgt.dayB (wrap64 (off + r.save))
/-- Whether a table's tail may be. -/
def tailB (x : Table) : Bool :=
  if x.tail.length = 0 then (x.off == 0) && x.format.toList.isEmpty
  else x.tail.all (tailR x.off) && (decide (x.tail.length ≤ 2) && (srcB (tryOf x) && !nearB x.tail))
theorem srcOk_try {x : Table} {A A2 : Option Addr} {w w' : World} (h : TabOk x A A2 w) (hb : Below w.heap.size w w') {g g2 c : Nat}
    (hg : Blk w' g 57 (eraOf x).cells.toArray) (hg2 : Blk w' g2 49 #[.string x.name, .slice (some ⟨g, 0, none⟩) 1 c]) :
    SrcOk ⟨x.tail, [⟨x.name, [eraOf x], some ⟨g, 0, none⟩, c⟩], []⟩ A2 (some ⟨g2, 0, none⟩) none w' := by
  have e1 : ∀ (b j : Nat), (⟨b, 0, none⟩ : Addr).add j = ⟨b, j, none⟩ := fun b j => by unfold Addr.add; split <;> simp_all
  refine ⟨(h.rt.below hb).more hb.size, ⟨rfl, fun _ => ⟨_, rfl, hg2.lt, fun j u hu => ?_⟩⟩, Reads.none_, ?_, h.nt, by simp, by simp, by simp, h.rules, by simp; exact h.name, ?_, by simp⟩
  · rw [e1, hg2.cell j]
    change [Value.string x.name, Value.slice (some ⟨g, 0, none⟩) 1 c][j]? = some u at hu
    simpa using hu
  · intro z hz
    simp only [List.mem_singleton] at hz
    subst hz
    refine ⟨rfl, fun _ => ⟨_, rfl, hg.lt, fun j u hu => ?_⟩⟩
    rw [e1, hg.cell j]
    have e2 : List.flatMap Era.cells [eraOf x] = (eraOf x).cells := by simp
    rw [e2] at hu
    simpa using hu
  · intro z hz e he
    simp only [List.mem_singleton] at hz
    subst hz
    simp only [List.mem_singleton] at he
    subst he
    exact ⟨Nat.zero_le _, h.format⟩
set_option maxHeartbeats 2000000 in
set_option maxRecDepth 100000 in
theorem tail_any (x : Table) (A A2 : Option Addr) (c c2 : Nat) (m : Int) (w : World) (h : TabOk x A A2 w) (hm : w.cell? ⟨0, 0, none⟩ = some (.int .i64 m)) :
    Calls Tryz.prog 49 #[.agg (tabCells x A c A2 c2)] w fun e w' => e = .returned (.bool (tailB x)) ∧ Below w.heap.size w w' := by
  have hone := One.new w 33 (tabCells x A c A2 c2)
  have H := Lib.hid h; have HM := Lib.hid hm
  have nt := h.nt
  clear h hm
  obtain ⟨Q, hQ⟩ : ∃ Q, tailB x = Q := ⟨_, rfl⟩
  rw [hQ]
  unfold tailB at hQ
  have hts : ∀ g cc, srcB ⟨x.tail, [⟨x.name, [eraOf x], some ⟨g, 0, none⟩, cc⟩], []⟩ = srcB (tryOf x) := fun _ _ => rfl
  have HTs := Lib.hid hts
  clear hts
  have HNear := Lib.hid (fun z (hb : Below w.heap.size w z) => near_any x.tail A2 c2 z ((H.out.rt.below hb).more hb.size) nt)
  simp only [tabCells] at hone ⊢
  obtain ⟨W, hW⟩ : ∃ W, w.alloc (.cells #[.string x.name, .int .i64 x.first.off, .int .i64 x.first.save, .string x.first.abbr, .slice A x.shifts.length c, .int .i64 x.till, .slice A2 x.tail.length c2, .int .i64 x.off, .string x.format] 33) = W := ⟨_, rfl⟩
  rw [hW] at hone
  have HO := Lib.hid hone
  have c0 := fun i => hone.1.cell i
  clear hone
  go_enter Tryz.func49, Tryz.ntmps49
  by_cases h0 : x.tail.length = 0
  · rw [if_pos h0] at hQ
    have h0b : (((x.tail.length : Nat) : Int) == 0) = true := by rw [h0]; rfl
    clear h0
    cases h1 : (x.off == 0)
    · rw [h1] at hQ
      have hq : Q = false := hQ.symm
      subst hq
      clear hQ
      go_wp2
      go_ret
      exact ⟨rfl, HO.out.2⟩
    · cases h2 : x.format.toList.isEmpty
      · rw [h1, h2] at hQ
        have hq : Q = false := hQ.symm
        subst hq
        clear hQ
        go_wp2
        go_ret
        exact ⟨rfl, HO.out.2⟩
      · rw [h1, h2] at hQ
        have hq : Q = true := hQ.symm
        subst hq
        clear hQ
        go_wp2
        go_ret
        exact ⟨rfl, HO.out.2⟩
  · rw [if_neg h0] at hQ
    have HQ := Lib.hid hQ
    clear hQ
    have h0b : (((x.tail.length : Nat) : Int) == 0) = false := by rw [beq_eq_false_iff_ne]; omega
    go_wp2_with fail
    clear c0
    obtain ⟨CS, hCS⟩ : ∃ CS : Array Value, #[.string x.name, .int .i64 x.first.off, .int .i64 x.first.save, .string x.first.abbr, .slice A x.shifts.length c, .int .i64 x.till, .slice A2 x.tail.length c2, .int .i64 x.off, .string x.format] = CS := ⟨_, rfl⟩
    rw [hCS] at HO
    have HCS := Lib.hid hCS
    clear hCS
    go_loopw [21] (fun i wr => ∃ k : Nat, k ≤ x.tail.length ∧ i = .int .i64 k ∧ (x.tail.take k).all (tailR x.off) = true ∧ One w w.heap.size 33 CS wr) (fun i _ => x.tail.length - (intOf i).toNat)
    case atStart => exact ⟨0, Nat.zero_le _, rfl, rfl, HO.out⟩
    case round =>
      obtain ⟨k, hk, rfl, hall, hone⟩ := hrel
      have Hall := Lib.hid hall; have HOr := Lib.hid hone
      clear hall hone HO
      obtain ⟨wo, rfl⟩ : ∃ wo : World, wo = wr := ⟨_, rfl⟩
      have c0 := fun i => HOr.out.1.cell i
      rw [← HCS.out] at c0
      by_cases hkn : k < x.tail.length
      · obtain ⟨ad, hA, hadb, a0, a1, a2, a3, a4, a5, a6, a7, a8, a9, a10⟩ := rule_cells (H.out.rt.below HOr.out.2) hkn
        subst hA
        have hst := all_step (tailR x.off) x.tail k hkn Hall.out
        have hno := all_no (tailR x.off) x.tail k hkn
        generalize hr : x.tail[k] = r at *
        have htr : tailR x.off r = ((r.hi == 1000000) && Rgt.dayB (wrap64 (x.off + r.save))) := rfl
        have Hst := Lib.hid hst; have Hno := Lib.hid hno; have Htr := Lib.hid htr
        clear hst hno htr hr
        generalize tailR x.off r = b at *
        obtain ⟨r0, r1, r2, r3, r4, r5, r6, r7, r8, r9, r10⟩ := r
        simp only at a0 a1 a2 a3 a4 a5 a6 a7 a8 a9 a10 Htr
        have hbx := (Below.refl wo.heap.size wo).alloc (Nat.le_refl _) (.cells #[.string r0, .int .i64 r1, .int .i64 r2, .int .i64 r3, .int .i64 r4, .int .i64 r5, .int .i64 r6, .int .i64 r7, .int .i64 r8, .int .i64 r9, .string r10] 59)
        have hox := HOr.out.step hbx
        have HOx := Lib.hid hox
        have c1 := fun i => hox.1.cell i
        rw [← HCS.out] at c1
        have cr := fun i => (Blk.new wo 59 #[.string r0, .int .i64 r1, .int .i64 r2, .int .i64 r3, .int .i64 r4, .int .i64 r5, .int .i64 r6, .int .i64 r7, .int .i64 r8, .int .i64 r9, .string r10]).cell i
        have Hd := Lib.hid (fun z => Rgt.day_any (wrap64 (x.off + r9)) z)
        clear hbx hox
        generalize Rgt.dayB (wrap64 (x.off + r9)) = b2 at *
        by_cases h1 : r2 = 1000000
        rotate_left
        · have h1b : (r2 == 1000000) = false := by simpa using h1
          have hq : Q = false := by rw [← HQ.out, Hno.out (by rw [Htr.out, h1b]; rfl), Bool.false_and]
          subst hq
          clear HQ Hno Hst Htr
          go_wp2_with (go_at_call 99; refine (Hd.out _).mono ?_; rintro e w2 ⟨rfl, rfl⟩)
          go_ret
          exact ⟨rfl, HOx.out.2⟩
        · subst h1
          cases b2
          · have hq : Q = false := by rw [← HQ.out, Hno.out (by rw [Htr.out]; rfl), Bool.false_and]
            subst hq
            clear HQ Hno Hst Htr
            go_wp2_with (go_at_call 99; refine (Hd.out _).mono ?_; rintro e w2 ⟨rfl, rfl⟩)
            go_ret
            exact ⟨rfl, HOx.out.2⟩
          · have hst2 : (x.tail.take (k + 1)).all (tailR x.off) = true := by rw [Hst.out, Htr.out]; rfl
            have Hst2 := Lib.hid hst2
            clear Hno Hst Htr hst2
            go_wp2_with (go_at_call 99; refine (Hd.out _).mono ?_; rintro e w2 ⟨rfl, rfl⟩)
            exact ⟨⟨k + 1, by omega, by go_num, Hst2.out, HOx.out⟩, by simp [intOf]; omega⟩
      · obtain rfl : k = x.tail.length := by omega
        have hq := HQ.out
        rw [List.take_length] at Hall
        rw [Hall.out, Bool.true_and] at hq
        have hq2 : Q = (decide (x.tail.length ≤ 2) && (srcB (tryOf x) && !nearB x.tail)) := hq.symm
        have HQ2 := Lib.hid hq2
        clear hq hq2 HQ
        have hbE := (Below.refl wo.heap.size wo).alloc (Nat.le_refl _) (.cells (eraOf x).cells.toArray 57)
        have hE := Blk.new wo 57 (eraOf x).cells.toArray
        have hbZ := hbE.alloc hbE.size (.cells #[.string x.name, .slice (some ⟨wo.heap.size, 0, none⟩) 1 1] 49)
        have hZ := Blk.new (wo.alloc (.cells (eraOf x).cells.toArray 57)) 49 #[.string x.name, .slice (some ⟨wo.heap.size, 0, none⟩) 1 1]
        have hE2 := hE.alloc (.cells #[.string x.name, .slice (some ⟨wo.heap.size, 0, none⟩) 1 1] 49)
        rw [show (wo.alloc (.cells (eraOf x).cells.toArray 57)).heap.size = wo.heap.size + 1 from by simp] at hZ
        have hbS := hbZ.alloc hbZ.size (.cells #[.slice A2 x.tail.length c2, .slice (some ⟨wo.heap.size + 1, 0, none⟩) 1 1, .slice none 0 0] 26)
        have hS := Blk.new ((wo.alloc (.cells (eraOf x).cells.toArray 57)).alloc (.cells #[.string x.name, .slice (some ⟨wo.heap.size, 0, none⟩) 1 1] 49)) 26 #[.slice A2 x.tail.length c2, .slice (some ⟨wo.heap.size + 1, 0, none⟩) 1 1, .slice none 0 0]
        rw [show ((wo.alloc (.cells (eraOf x).cells.toArray 57)).alloc (.cells #[.string x.name, .slice (some ⟨wo.heap.size, 0, none⟩) 1 1] 49)).heap.size = wo.heap.size + 1 + 1 from by simp] at hS
        have hE3 := hE2.alloc (.cells #[.slice A2 x.tail.length c2, .slice (some ⟨wo.heap.size + 1, 0, none⟩) 1 1, .slice none 0 0] 26)
        have hZ3 := hZ.alloc (.cells #[.slice A2 x.tail.length c2, .slice (some ⟨wo.heap.size + 1, 0, none⟩) 1 1, .slice none 0 0] 26)
        simp only [eraOf, Era.cells] at hbE hbZ hbS hS hE3 hZ3
        obtain ⟨W3, hW3⟩ : ∃ W3, ((wo.alloc (.cells #[.int .i64 x.off, .int .i64 0, .int .i64 0, .string ⟨#[]⟩, .string x.format, .bool false, .int .i64 0, .int .i64 0, .int .i64 0, .int .i64 0, .int .i64 0, .int .i64 0, .int .i64 0] 57)).alloc (.cells #[.string x.name, .slice (some ⟨wo.heap.size, 0, none⟩) 1 1] 49)).alloc (.cells #[.slice A2 x.tail.length c2, .slice (some ⟨wo.heap.size + 1, 0, none⟩) 1 1, .slice none 0 0] 26) = W3 := ⟨_, rfl⟩
        rw [hW3] at hbS hS hE3 hZ3
        have fS := fun i => hS.frozen i
        have cS3 := fun i => hS.cell i
        have hS4 := hS.set_ 2 (.slice none 0 0)
        simp only [List.setIfInBounds_toArray, List.set_cons_succ, List.set_cons_zero] at hS4
        have hE4 := hE3.far (p := ⟨wo.heap.size + 1 + 1, 2, none⟩) (by show wo.heap.size ≠ wo.heap.size + 1 + 1; omega) (.slice none 0 0)
        have hZ4 := hZ3.far (p := ⟨wo.heap.size + 1 + 1, 2, none⟩) (by show wo.heap.size + 1 ≠ wo.heap.size + 1 + 1; omega) (.slice none 0 0)
        have hbS4 := hbS.setCell (p := ⟨wo.heap.size + 1 + 1, 2, none⟩) (by show wo.heap.size ≤ wo.heap.size + 1 + 1; omega) (.slice none 0 0)
        have hO3' := HOr.out.step hbS
        have cT' := fun i => hO3'.1.cell i
        rw [← HCS.out] at cT'
        obtain ⟨W4, hW4⟩ : ∃ W4, W3.setCell ⟨wo.heap.size + 1 + 1, 2, none⟩ (.slice none 0 0) = W4 := ⟨_, rfl⟩
        rw [hW4] at hS4 hE4 hZ4 hbS4
        have hO3 := HOr.out.step hbS4
        have cS := fun i => hS4.cell i
        have cT := fun i => hO3.1.cell i
        rw [← HCS.out] at cT
        have hm3 := cell_later hO3.2 HM.out
        have hsk := srcOk_try H.out hO3.2 (g := wo.heap.size) (g2 := wo.heap.size + 1) (c := 1) hE4 hZ4
        have HRt := Lib.hid (right_any _ A2 (some ⟨wo.heap.size + 1, 0, none⟩) none c2 1 0 m W4 hsk hm3)
        rw [HTs.out] at HRt
        have HO3 := Lib.hid hO3
        have HS4 := Lib.hid hS4
        clear hbE hE hbZ hZ hE2 hbS hS hE3 hZ3 hO3 hO3' hm3 hsk hS4 hE4 hZ4 hbS4
        simp only [List.length_singleton, List.length_nil] at HRt
        generalize srcB (tryOf x) = b1 at *
        generalize nearB x.tail = b2 at *
        by_cases h2 : x.tail.length ≤ 2
        · rw [decide_eq_true h2] at HQ2
          cases b1
          · have hq : Q = false := HQ2.out
            subst hq
            clear HQ2
            go_wp2_with (go_at_call 55; refine HRt.out.mono ?_; rintro e w5 ⟨rfl, hb⟩; have HB5 := Lib.hid (HO3.out.step hb); clear hb)
            go_ret
            exact ⟨rfl, HB5.out.2⟩
          · have hq : Q = !b2 := HQ2.out
            subst hq
            clear HQ2
            go_wp2_with (first
              | (go_at_call 55; refine HRt.out.mono ?_; rintro e w5 ⟨rfl, hb⟩; have HB5 := Lib.hid (HO3.out.step hb); have ct5 := fun i => (HO3.out.step hb).1.cell i; rw [← HCS.out] at ct5; clear hb)
              | (go_at_call 100; refine (HNear.out _ HB5.out.2).mono ?_; rintro e w6 ⟨rfl, hb⟩; have HB6 := Lib.hid (HB5.out.step hb); clear hb))
            go_ret
            exact ⟨rfl, HB6.out.2⟩
        · rw [decide_eq_false h2] at HQ2
          have hq : Q = false := HQ2.out
          subst hq
          clear HQ2
          go_wp2_with fail
          go_ret
          exact ⟨rfl, HO3.out.2⟩
/-- table.tail answers at every table. -/
theorem tail_is (m : Int) : Rd.TailIs (fun _ => True) tailB m := fun x A A2 c c2 w _ h hm => tail_any x A A2 c c2 m w h hm
end Go.Proofs.YtdicedpklpadgaaGreatDoor.Src
