/-
  The walk of the law ImageBack. Conditions: the cell of bytealg.MaxLen holds a number; what the table's slices hold is read, the lengths are bounded; int64s.
-/
import Derived.Test.YtpbojebnghcndaaGreatDoorAtc
import Derived.Test.YtpbojebnghcndaaGreatDoorBck
import Derived.Test.YtpbojebnghcndaaGreatDoorAlive
import Derived.Test.YtpbojebnghcndaaGreatDoorYrs
namespace Go.Proofs.YtpbojebnghcndaaGreatDoor.LBk
open Go.RowKit Mem Img Rgt Src Rd Att

def zeroT : Table := ⟨⟨#[]⟩, ⟨0, 0, ⟨#[]⟩⟩, [], 0, [], 0, ⟨#[]⟩⟩
theorem in0 : In64 0 := by unfold In64; omega
theorem ok_zero (w : World) : TabOk zeroT none none w :=
  ⟨Reads.none_, Reads.none_, Nat.zero_le _, Nat.zero_le _, Nat.zero_le _, Nat.zero_le _, ⟨in0, in0, Nat.zero_le _⟩, (fun _ h => nomatch h), (fun _ h => nomatch h)⟩
theorem load_p (s : ByteArray) (m : Int) (z : World) (hs : s.size ≤ 8388608) (hm : z.cell? ⟨0, 0, none⟩ = some (.int .i64 m)) :
    Calls Tryz.prog 19 #[.string s] z fun e w' => ∃ A c A2 c2, e = .returned (.tuple #[.agg (tabCells ((loadM tailB s.data.toList).getD zeroT) A c A2 c2), .int .i64 (if (loadM tailB s.data.toList).isSome = true then 0 else 18)]) ∧ TabOk ((loadM tailB s.data.toList).getD zeroT) A A2 w' ∧ Below z.heap.size z w' := by
  have h := load_any tailB s.data.toList m z (by rw [len_toList]; omega) hm (fun _ => True) (tail_is m) (fun _ _ _ => trivial)
  rw [Bck.bytes_back] at h
  refine h.mono ?_
  generalize loadM tailB s.data.toList = R
  rintro e w' ⟨hb, h⟩
  cases R with
  | none => exact ⟨none, 0, none, 0, h, ok_zero _, hb⟩
  | some x =>
    obtain ⟨A, c, A2, c2, h1, h2⟩ := h
    exact ⟨A, c, A2, c2, h1, h2, hb⟩
theorem load_right {l : List UInt8} {y : Table} (h : loadM tailB l = some y) : rightB y (tailB y) = true ∧ img y = l := by
  unfold loadM at h
  cases hr : readM l with
  | none => rw [hr] at h; cases h
  | some p =>
    rw [hr, Option.bind_some] at h
    split at h
    · next hc =>
      injection h with h
      subst h
      exact hc
    · cases h
theorem at_same (x : Table) (t : Int) (h : rightB x (tailB x) = true) : (atP x t).2 = true := by
  unfold atP
  rw [if_pos h]
theorem load_zero {l : List UInt8} (h : (loadM tailB l).isSome = false) : (loadM tailB l).getD zeroT = zeroT := by
  cases hl : loadM tailB l with
  | none => rfl
  | some y => rw [hl] at h; cases h
theorem load_yes {l : List UInt8} (h : (loadM tailB l).isSome = true) : rightB ((loadM tailB l).getD zeroT) (tailB ((loadM tailB l).getD zeroT)) = true ∧ img ((loadM tailB l).getD zeroT) = l := by
  cases hl : loadM tailB l with
  | none => rw [hl] at h; cases h
  | some y => exact load_right hl
set_option maxHeartbeats 8000000 in
set_option maxRecDepth 100000 in
theorem backs (x : Table) (A A2 : Option Addr) (c c2 : Nat) (s : ByteArray) (t m : Int) (w : World) (h : TabOk x A A2 w) (hm : w.cell? ⟨0, 0, none⟩ = some (.int .i64 m)) (hti : In64 x.till) (hsi : ∀ s ∈ x.shifts, In64 s.sec) (_ : s.size ≤ 2097152) (ht : In64 t) :
    Calls Tryz.prog 3 #[.agg (tabCells x A c A2 c2), .string s, .int .i64 t] w fun e w' => e = .returned (.bool true) ∧ Below w.heap.size w w' := by
  have HA := Lib.hid (fun z (hb : Below w.heap.size w z) => Alv.alive_any m z (cell_later hb hm))
  have HY := Lib.hid (fun z (hb : Below w.heap.size w z) => Yrs.years_any x A A2 c c2 z (h.below hb))
  have HS := Lib.hid (fun z (hb : Below w.heap.size w z) => Img.save_any x A A2 c c2 (tailB x) m z (h.below hb) (cell_later hb hm) fun w1 hw1 => tail_any x A A2 c c2 m w1 (h.below (hb.trans (hw1.mono hb.size))) (cell_later (hb.trans (hw1.mono hb.size)) hm))
  have HL := Lib.hid (fun (l : ByteArray) (hl : l.size ≤ 8388608) z (hb : Below w.heap.size w z) => load_p l m z hl (cell_later hb hm))
  have HAt := Lib.hid (fun z (hb : Below w.heap.size w z) => at_any x A A2 c c2 t m z (h.below hb) (cell_later hb hm) ht.1 (by have := ht.2; omega))
  have HB := Lib.hid (fun (hr : rightB x (tailB x) = true) => Bck.load_back x hr hti hsi)
  have HLen := Lib.hid (fun (hr : rightB x (tailB x) = true) => Tur.img_len (n := 30000) hr (by simp only [rightB, Bool.and_eq_true, Bool.not_eq_true', decide_eq_false_iff_not] at hr; have := hr.1.2.2.1; omega))
  have hone := Civ.One.new w 27 (tabCells x A c A2 c2)
  simp only [tabCells] at hone HY HS HAt ⊢
  obtain ⟨W, hW⟩ : ∃ W, w.alloc (.cells #[.string x.name, .int .i64 x.first.off, .int .i64 x.first.save, .string x.first.abbr, .slice A x.shifts.length c, .int .i64 x.till, .slice A2 x.tail.length c2, .int .i64 x.off, .string x.format] 27) = W := ⟨_, rfl⟩
  rw [hW] at hone
  have HO := Lib.hid hone
  have c0 := fun i => hone.1.cell i
  clear hone
  by_cases hs : s.size ≤ 20000
  rotate_left
  · have hsb : decide ((20000 : Int) < (s.size : Nat)) = true := decide_eq_true (by omega)
    clear hs
    go_enter Tryz.func3, Tryz.ntmps3
    go_wp2_with (first
      | (go_at_call 16; refine (HY.out _ HO.out.2).mono ?_; rintro e w1 ⟨yb, rfl, hyb, hb⟩; have HB1 := Lib.hid (HO.out.step hb); have d1 := fun i => (HO.out.step hb).1.cell i; clear hb hyb HO c0; cases yb)
      | (go_at_call 17; refine (HA.out _ HB1.out.2).mono ?_; rintro e w2 ⟨rfl, hb⟩; have HB2 := Lib.hid (HB1.out.step hb); clear hb))
    all_goals go_ret
    all_goals exact ⟨rfl, HB2.out.2⟩
  · have hsb : decide ((20000 : Int) < (s.size : Nat)) = false := decide_eq_false (by omega)
    have HLs := Lib.hid (fun z (hb : Below w.heap.size w z) => HL.out s (by omega) z hb)
    have HLb := Lib.hid (fun (hr : rightB x (tailB x) = true) z (hb : Below w.heap.size w z) => HL.out ⟨(img x).toArray⟩ (by show (img x).length ≤ _; have := HLen.out hr; omega) z hb)
    have HLd := Lib.hid (fun (hr : rightB x (tailB x) = true) => show loadM tailB (⟨(img x).toArray⟩ : ByteArray).data.toList = some x from HB.out hr)
    have HP := Lib.hid (fun (hr : rightB x (tailB x) = true) => at_same x t hr)
    have HTx := Lib.hid (fun z (hb : Below w.heap.size w z) => h.below hb)
    have HAy := Lib.hid (fun A1 c1 A3 c3 z (hk : TabOk x A1 A3 z) (hb : Below w.heap.size w z) => at_any x A1 A3 c1 c3 t m z hk (cell_later hb hm) ht.1 (by have := ht.2; omega))
    have HSxy := Lib.hid (fun A1 c1 A3 c3 z (hx : TabOk x A A2 z) (hk : TabOk x A1 A3 z) => (by have := Sam.same_any x x A A2 A1 A3 c c2 c1 c3 z hx hk; rw [decide_eq_true rfl] at this; exact this : Calls Tryz.prog 21 #[.agg (tabCells x A c A2 c2), .agg (tabCells x A1 c1 A3 c3)] z fun e w' => e = .returned (.bool true) ∧ Below z.heap.size z w'))
    have HMm := Lib.hid (fun z (hb : Below w.heap.size w z) => cell_later hb hm)
    have hz := load_zero (l := s.data.toList)
    have hy := load_yes (l := s.data.toList)
    clear hs h hm HB HLen HL
    generalize (loadM tailB s.data.toList).getD zeroT = y at *
    generalize (loadM tailB s.data.toList).isSome = ok at *
    have HSv := Lib.hid (fun A1 c1 A3 c3 z (hk : TabOk y A1 A3 z) (hb : Below w.heap.size w z) => Img.save_any y A1 A3 c1 c3 (tailB y) m z hk (HMm.out z hb) fun w1 hw1 => tail_any y A1 A3 c1 c3 m w1 (hk.below hw1) (HMm.out w1 (hb.trans (hw1.mono hb.size))))
    have HRy := Lib.hid (fun A1 c1 A3 c3 z (hk : TabOk y A1 A3 z) (hb : Below w.heap.size w z) => right_t y A1 A3 c1 c3 m z hk (HMm.out z hb))
    have HSm := Lib.hid (fun A1 c1 A3 c3 z (hk : TabOk y A1 A3 z) => Sam.same_any y zeroT A1 A3 none none c1 c3 0 0 z hk (ok_zero z))
    have HZ := Lib.hid hz; have HYy := Lib.hid hy
    clear hz hy
    generalize (⟨(img x).toArray⟩ : ByteArray) = l at *
    obtain ⟨rb, hrb⟩ : ∃ rb, rightB x (tailB x) = rb := ⟨_, rfl⟩
    rw [hrb] at HS HLb HLd HP
    clear hrb
    go_enter Tryz.func3, Tryz.ntmps3
    cases rb
    · go_upto_if 34 with (first
        | (go_at_call 16; refine (HY.out _ HO.out.2).mono ?_; rintro e w1 ⟨yb, rfl, hyb, hb⟩; have HB1 := Lib.hid (HO.out.step hb); have d1 := fun i => (HO.out.step hb).1.cell i; clear hb hyb HO c0; cases yb)
        | (go_at_call 17; refine (HA.out _ HB1.out.2).mono ?_; rintro e w2 ⟨rfl, hb⟩; have HB2 := Lib.hid (HB1.out.step hb); clear hb)
        | (go_at_call 18; refine (HS.out _ HB1.out.2).mono ?_; rintro e w2 ⟨rfl, hb⟩; have HB2x := Lib.hid (HB1.out.step hb); have d2 := fun i => (HB1.out.step hb).1.cell i; clear hb))
      · go_ret
        exact ⟨rfl, HB2.out.2⟩
      · go_cut [] (fun wx => Rgt.One w w.heap.size 27 #[.string x.name, .int .i64 x.first.off, .int .i64 x.first.save, .string x.first.abbr, .slice A x.shifts.length c, .int .i64 x.till, .slice A2 x.tail.length c2, .int .i64 x.off, .string x.format] wx)
        case first =>
          go_wp2_with fail
          go_meet
          exact HB2x.out
        case rest =>
          have HC := Lib.hid hcut
          clear hcut
          simp only [tabCells, zeroT, List.length_nil] at HLs HSv HRy HSm
          cases ok
          · have hq := decide_eq_true (HZ.out rfl)
            simp only [zeroT] at hq
            rw [hq] at HSm
            clear hq
            go_wp2_with (first
              | (go_at_call 19; refine (HLs.out _ HC.out.2).mono ?_; rintro e w3 ⟨A1, c1, A3, c3, rfl, hk, hb⟩; have HX := Lib.hid (Blk.new w3 27 #[.string y.name, .int .i64 y.first.off, .int .i64 y.first.save, .string y.first.abbr, .slice A1 y.shifts.length c1, .int .i64 y.till, .slice A3 y.tail.length c3, .int .i64 y.off, .string y.format]); have hb2 := hb.alloc hb.size (.cells #[.string y.name, .int .i64 y.first.off, .int .i64 y.first.save, .string y.first.abbr, .slice A1 y.shifts.length c1, .int .i64 y.till, .slice A3 y.tail.length c3, .int .i64 y.off, .string y.format] 27); have HK := Lib.hid (hk.below ((Below.refl _ _).alloc (Nat.le_refl _) (.cells #[.string y.name, .int .i64 y.first.off, .int .i64 y.first.save, .string y.first.abbr, .slice A1 y.shifts.length c1, .int .i64 y.till, .slice A3 y.tail.length c3, .int .i64 y.off, .string y.format] 27))); have HC2 := Lib.hid (HC.out.step hb2); clear hk hb hb2)
              | (go_at_call 17; refine (HA.out _ HC2.out.2).mono ?_; rintro e w4 ⟨rfl, hb⟩; have hx := HX.out.below hb HX.out.lt; have cx := fun i => hx.cell i; have HK2 := Lib.hid (HK.out.below hb); have HC3 := Lib.hid (HC2.out.step hb); clear hb hx)
              | (go_at_call 21; refine (HSm.out _ _ _ _ _ HK2.out).mono ?_; rintro e w5 ⟨rfl, hb⟩; have HC4 := Lib.hid (HC3.out.step hb); clear hb))
            go_ret
            exact ⟨rfl, HC4.out.2⟩
          · have hr := (HYy.out rfl).1
            have hi : (⟨(img y).toArray⟩ : ByteArray) = s := by rw [(HYy.out rfl).2, Bck.bytes_back]
            rw [hr, hi] at HSv
            rw [hr] at HRy
            clear hr hi
            go_wp2_with (first
              | (go_at_call 19; refine (HLs.out _ HC.out.2).mono ?_; rintro e w3 ⟨A1, c1, A3, c3, rfl, hk, hb⟩; have HX := Lib.hid (Blk.new w3 27 #[.string y.name, .int .i64 y.first.off, .int .i64 y.first.save, .string y.first.abbr, .slice A1 y.shifts.length c1, .int .i64 y.till, .slice A3 y.tail.length c3, .int .i64 y.off, .string y.format]); have hb2 := hb.alloc hb.size (.cells #[.string y.name, .int .i64 y.first.off, .int .i64 y.first.save, .string y.first.abbr, .slice A1 y.shifts.length c1, .int .i64 y.till, .slice A3 y.tail.length c3, .int .i64 y.off, .string y.format] 27); have HK := Lib.hid (hk.below ((Below.refl _ _).alloc (Nat.le_refl _) (.cells #[.string y.name, .int .i64 y.first.off, .int .i64 y.first.save, .string y.first.abbr, .slice A1 y.shifts.length c1, .int .i64 y.till, .slice A3 y.tail.length c3, .int .i64 y.off, .string y.format] 27))); have HC2 := Lib.hid (HC.out.step hb2); clear hk hb hb2)
              | (go_at_call 18; refine (HSv.out _ _ _ _ _ HK.out HC2.out.2).mono ?_; rintro e w4 ⟨rfl, hb⟩; have HX2 := Lib.hid (HX.out.below hb HX.out.lt); have HK2 := Lib.hid (HK.out.below hb); have HC3 := Lib.hid (HC2.out.step hb); clear hb)
              | (go_at_call 17; refine (HA.out _ HC3.out.2).mono ?_; rintro e w5 ⟨rfl, hb⟩; have hx := HX2.out.below hb HX2.out.lt; have cx := fun i => hx.cell i; have HK3 := Lib.hid (HK2.out.below hb); have HC4 := Lib.hid (HC3.out.step hb); clear hb hx)
              | (go_at_call 22; refine (HRy.out _ _ _ _ _ HK3.out HC4.out.2).mono ?_; rintro e w6 ⟨rfl, hb⟩; have HC5 := Lib.hid (HC4.out.step hb); clear hb))
            go_ret
            exact ⟨rfl, HC5.out.2⟩
    · go_upto_if 34 with (first
        | (go_at_call 16; refine (HY.out _ HO.out.2).mono ?_; rintro e w1 ⟨yb, rfl, hyb, hb⟩; have HB1 := Lib.hid (HO.out.step hb); have d1 := fun i => (HO.out.step hb).1.cell i; clear hb hyb HO c0; cases yb)
        | (go_at_call 17; refine (HA.out _ HB1.out.2).mono ?_; rintro e w2 ⟨rfl, hb⟩; have HB2 := Lib.hid (HB1.out.step hb); clear hb)
        | (go_at_call 18; refine (HS.out _ HB1.out.2).mono ?_; rintro e w2 ⟨rfl, hb⟩; have HB2x := Lib.hid (HB1.out.step hb); have d2 := fun i => (HB1.out.step hb).1.cell i; clear hb))
      · go_ret
        exact ⟨rfl, HB2.out.2⟩
      · go_cut [] (fun wx => Rgt.One w w.heap.size 27 #[.string x.name, .int .i64 x.first.off, .int .i64 x.first.save, .string x.first.abbr, .slice A x.shifts.length c, .int .i64 x.till, .slice A2 x.tail.length c2, .int .i64 x.off, .string x.format] wx)
        case first =>
          have hld := HLd.out trivial
          have hlb := HLb.out trivial
          have hp := HP.out trivial
          simp only [hld] at hlb
          simp only [tabCells, Option.getD_some, Option.isSome_some, if_true] at hlb HAy HSxy
          rw [hp] at HAt HAy
          have HLx := Lib.hid hlb
          clear hld hlb hp HLd HLb HP HLs HSv HRy HSm HZ HYy
          generalize (atP x t).1 = ph at *
          obtain ⟨p0, p1, p2⟩ := ph
          have heq := fun z => Sam.eq_phase ⟨p0, p1, p2⟩ ⟨p0, p1, p2⟩ z
          simp only [Phase.cells, decide_true] at heq
          simp only at HAt HAy
          go_wp2_with (go_at_call 19; refine (HLx.out _ HB2x.out.2).mono ?_; rintro e w3 ⟨A1, c1, A3, c3, rfl, hk, hb⟩; have HY1 := Lib.hid (Blk.new w3 27 #[.string x.name, .int .i64 x.first.off, .int .i64 x.first.save, .string x.first.abbr, .slice A1 x.shifts.length c1, .int .i64 x.till, .slice A3 x.tail.length c3, .int .i64 x.off, .string x.format]); have hb2 := hb.alloc hb.size (.cells #[.string x.name, .int .i64 x.first.off, .int .i64 x.first.save, .string x.first.abbr, .slice A1 x.shifts.length c1, .int .i64 x.till, .slice A3 x.tail.length c3, .int .i64 x.off, .string x.format] 27); have HK := Lib.hid (hk.below ((Below.refl _ _).alloc (Nat.le_refl _) (.cells #[.string x.name, .int .i64 x.first.off, .int .i64 x.first.save, .string x.first.abbr, .slice A1 x.shifts.length c1, .int .i64 x.till, .slice A3 x.tail.length c3, .int .i64 x.off, .string x.format] 27))); have hx1 := HB2x.out.step hb2; have d1 := fun i => hx1.1.cell i; have HX1 := Lib.hid hx1; clear hk hb hb2 hx1 d2)
          go_at_call 20
          refine (HAt.out _ HX1.out.2).mono ?_
          rintro e w4 ⟨rfl, hb⟩
          have hb4 := hb.alloc hb.size (.cells #[.int .i64 p0, .int .i64 p1, .string p2] 23)
          have HP1 := Lib.hid (Blk.new w4 23 #[.int .i64 p0, .int .i64 p1, .string p2])
          have HY4 := Lib.hid (HY1.out.below hb4 HY1.out.lt)
          have HX4 := Lib.hid (HX1.out.step hb4)
          have HK4 := Lib.hid (HK.out.below hb4)
          have y4 := fun i => HY4.out.cell i
          clear hb hb4 d1 HY1 HX1 HK HB2x
          go_wp2_with fail
          go_at_call 20
          refine (HAy.out _ _ _ _ _ HK4.out HX4.out.2).mono ?_
          rintro e w5 ⟨rfl, hb⟩
          have hb5 := hb.alloc hb.size (.cells #[.int .i64 p0, .int .i64 p1, .string p2] 23)
          have HQ5 := Lib.hid (Blk.new w5 23 #[.int .i64 p0, .int .i64 p1, .string p2])
          have HP5 := Lib.hid (HP1.out.below hb5 HP1.out.lt)
          have HY5 := Lib.hid (HY4.out.below hb5 HY4.out.lt)
          have HX5 := Lib.hid (HX4.out.step hb5)
          have HK5 := Lib.hid (HK4.out.below hb5)
          have y5 := fun i => HY5.out.cell i
          have x5 := fun i => HX5.out.1.cell i
          clear hb hb5 y4 HP1 HY4 HX4 HK4
          go_wp2_with (go_at_call 21; refine (HSxy.out _ _ _ _ _ (HTx.out _ HX5.out.2) HK5.out).mono ?_; rintro e w6 ⟨rfl, hb⟩; have p6 := fun i => (HP5.out.below hb HP5.out.lt).cell i; have q6 := fun i => (HQ5.out.below hb HQ5.out.lt).cell i; have HX6 := Lib.hid (HX5.out.step hb); clear hb x5 y5)
          go_meet
          exact HX6.out
        case rest =>
          have HC := Lib.hid hcut
          clear hcut
          simp only [tabCells, zeroT, List.length_nil] at HLs HSv HRy HSm
          cases ok
          · have hq := decide_eq_true (HZ.out rfl)
            simp only [zeroT] at hq
            rw [hq] at HSm
            clear hq
            go_wp2_with (first
              | (go_at_call 19; refine (HLs.out _ HC.out.2).mono ?_; rintro e w3 ⟨A1, c1, A3, c3, rfl, hk, hb⟩; have HX := Lib.hid (Blk.new w3 27 #[.string y.name, .int .i64 y.first.off, .int .i64 y.first.save, .string y.first.abbr, .slice A1 y.shifts.length c1, .int .i64 y.till, .slice A3 y.tail.length c3, .int .i64 y.off, .string y.format]); have hb2 := hb.alloc hb.size (.cells #[.string y.name, .int .i64 y.first.off, .int .i64 y.first.save, .string y.first.abbr, .slice A1 y.shifts.length c1, .int .i64 y.till, .slice A3 y.tail.length c3, .int .i64 y.off, .string y.format] 27); have HK := Lib.hid (hk.below ((Below.refl _ _).alloc (Nat.le_refl _) (.cells #[.string y.name, .int .i64 y.first.off, .int .i64 y.first.save, .string y.first.abbr, .slice A1 y.shifts.length c1, .int .i64 y.till, .slice A3 y.tail.length c3, .int .i64 y.off, .string y.format] 27))); have HC2 := Lib.hid (HC.out.step hb2); clear hk hb hb2)
              | (go_at_call 17; refine (HA.out _ HC2.out.2).mono ?_; rintro e w4 ⟨rfl, hb⟩; have hx := HX.out.below hb HX.out.lt; have cx := fun i => hx.cell i; have HK2 := Lib.hid (HK.out.below hb); have HC3 := Lib.hid (HC2.out.step hb); clear hb hx)
              | (go_at_call 21; refine (HSm.out _ _ _ _ _ HK2.out).mono ?_; rintro e w5 ⟨rfl, hb⟩; have HC4 := Lib.hid (HC3.out.step hb); clear hb))
            go_ret
            exact ⟨rfl, HC4.out.2⟩
          · have hr := (HYy.out rfl).1
            have hi : (⟨(img y).toArray⟩ : ByteArray) = s := by rw [(HYy.out rfl).2, Bck.bytes_back]
            rw [hr, hi] at HSv
            rw [hr] at HRy
            clear hr hi
            go_wp2_with (first
              | (go_at_call 19; refine (HLs.out _ HC.out.2).mono ?_; rintro e w3 ⟨A1, c1, A3, c3, rfl, hk, hb⟩; have HX := Lib.hid (Blk.new w3 27 #[.string y.name, .int .i64 y.first.off, .int .i64 y.first.save, .string y.first.abbr, .slice A1 y.shifts.length c1, .int .i64 y.till, .slice A3 y.tail.length c3, .int .i64 y.off, .string y.format]); have hb2 := hb.alloc hb.size (.cells #[.string y.name, .int .i64 y.first.off, .int .i64 y.first.save, .string y.first.abbr, .slice A1 y.shifts.length c1, .int .i64 y.till, .slice A3 y.tail.length c3, .int .i64 y.off, .string y.format] 27); have HK := Lib.hid (hk.below ((Below.refl _ _).alloc (Nat.le_refl _) (.cells #[.string y.name, .int .i64 y.first.off, .int .i64 y.first.save, .string y.first.abbr, .slice A1 y.shifts.length c1, .int .i64 y.till, .slice A3 y.tail.length c3, .int .i64 y.off, .string y.format] 27))); have HC2 := Lib.hid (HC.out.step hb2); clear hk hb hb2)
              | (go_at_call 18; refine (HSv.out _ _ _ _ _ HK.out HC2.out.2).mono ?_; rintro e w4 ⟨rfl, hb⟩; have HX2 := Lib.hid (HX.out.below hb HX.out.lt); have HK2 := Lib.hid (HK.out.below hb); have HC3 := Lib.hid (HC2.out.step hb); clear hb)
              | (go_at_call 17; refine (HA.out _ HC3.out.2).mono ?_; rintro e w5 ⟨rfl, hb⟩; have hx := HX2.out.below hb HX2.out.lt; have cx := fun i => hx.cell i; have HK3 := Lib.hid (HK2.out.below hb); have HC4 := Lib.hid (HC3.out.step hb); clear hb hx)
              | (go_at_call 22; refine (HRy.out _ _ _ _ _ HK3.out HC4.out.2).mono ?_; rintro e w6 ⟨rfl, hb⟩; have HC5 := Lib.hid (HC4.out.step hb); clear hb))
            go_ret
            exact ⟨rfl, HC5.out.2⟩
end Go.Proofs.YtpbojebnghcndaaGreatDoor.LBk
