/-
  The walk of the law ImageReads. Conditions: the cell of bytealg.MaxLen holds a number.
-/
import Derived.Test.YtaffaobhcnnfnaaGreatDoorR15R
import Derived.Test.YtaffaobhcnnfnaaGreatDoorSm14
import Derived.Test.YtaffaobhcnnfnaaGreatDoorAlive
import Derived.Test.YtaffaobhcnnfnaaGreatDoorTail
namespace Go.Proofs.YtaffaobhcnnfnaaGreatDoor.LRd
open Go.RowKit Mem Img Rgt Src Rd R15

def zeroT : Table := ⟨⟨#[]⟩, ⟨0, 0, ⟨#[]⟩⟩, [], 0, [], 0, ⟨#[]⟩⟩
theorem in0 : In64 0 := by unfold In64; omega
theorem ok_zero (w : World) : TabOk zeroT none none w :=
  ⟨Reads.none_, Reads.none_, Nat.zero_le _, Nat.zero_le _, Nat.zero_le _, Nat.zero_le _, ⟨in0, in0, Nat.zero_le _⟩, (fun _ h => nomatch h), (fun _ h => nomatch h)⟩
theorem load_p (s : ByteArray) (m : Int) (z : World) (hs : s.size ≤ 4000) (hm : z.cell? ⟨0, 0, none⟩ = some (.int .i64 m)) :
    Calls Tryz.prog 12 #[.string s] z fun e w' => ∃ A c A2 c2, e = .returned (.tuple #[.agg (tabCells ((loadM tailB s.data.toList).getD zeroT) A c A2 c2), .int .i64 (if (loadM tailB s.data.toList).isSome = true then 0 else 18)]) ∧ TabOk ((loadM tailB s.data.toList).getD zeroT) A A2 w' ∧ Below z.heap.size z w' := by
  have h := load_any tailB s.data.toList m z (by rw [len_toList]; omega) hm (fun _ => True) (tail_is m) (fun _ _ _ => trivial)
  rw [Bck.bytes_back] at h
  refine h.mono ?_
  generalize loadM tailB s.data.toList = R
  rintro e w' ⟨hb, h⟩
  cases R with
  | none => exact ⟨none, 0, none, 0, h, ok_zero _, hb⟩
  | some x =>
    obtain ⟨A, c, A2, c2, h1, h2⟩ := h
    exact ⟨A, c, A2, c2, h1, h2, hb⟩
theorem load_x (s : ByteArray) (z : World) (hs : s.size ≤ 4000) :
    Calls Tryz.prog 13 #[.string s] z fun e w' => ∃ A c A2 c2, e = .returned (.tuple #[.agg (tabCells ((loadM tailB s.data.toList).getD zeroT) A c A2 c2), .bool (loadM tailB s.data.toList).isSome]) ∧ TabOk ((loadM tailB s.data.toList).getD zeroT) A A2 w' ∧ Below z.heap.size z w' := by
  refine (load_q s z hs).mono ?_
  generalize loadM tailB s.data.toList = R
  rintro e w' ⟨hb, h⟩
  cases R with
  | none => exact ⟨none, 0, none, 0, h, ok_zero _, hb⟩
  | some x =>
    obtain ⟨A, c, A2, c2, h1, h2⟩ := h
    exact ⟨A, c, A2, c2, h1, h2, hb⟩

set_option maxHeartbeats 4000000 in
set_option maxRecDepth 100000 in
theorem reads (s : ByteArray) (m : Int) (w : World) (hm : w.cell? ⟨0, 0, none⟩ = some (.int .i64 m)) :
    Calls Tryz.prog 4 #[.string s] w fun e w' => e = .returned (.bool true) ∧ Below w.heap.size w w' := by
  have HA := Lib.hid (fun z (hb : Below w.heap.size w z) => Alv.alive_any m z (cell_later hb hm))
  by_cases h : 4000 < s.size
  · have hsb : decide ((4000 : Int) < (s.size : Nat)) = true := decide_eq_true (by omega)
    clear hm h
    go_enter Tryz.func4, Tryz.ntmps4
    go_wp2_with (go_at_call 9; refine (HA.out _ (Below.refl _ _)).mono ?_; rintro e w1 ⟨rfl, hb⟩; have HB := Lib.hid hb; clear hb)
    go_ret
    exact ⟨rfl, HB.out⟩
  · have hsb : decide ((4000 : Int) < (s.size : Nat)) = false := decide_eq_false (by omega)
    have HL := Lib.hid (fun z (hb : Below w.heap.size w z) => load_p s m z (by omega) (cell_later hb hm))
    have HQ := Lib.hid (fun z => load_x s z (by omega))
    clear hm h
    generalize (loadM tailB s.data.toList).getD zeroT = x at *
    generalize (loadM tailB s.data.toList).isSome = b at *
    have HS := Lib.hid (fun A c A2 c2 A' c' A2' c2' z => Sam.same14 x A A2 A' A2' c c2 c' c2' z)
    simp only [tabCells] at HL HQ HS
    go_enter Tryz.func4, Tryz.ntmps4
    cases b
    all_goals go_wp2_with (first
      | (go_at_call 12; refine (HL.out _ (Below.refl _ _)).mono ?_; rintro e w1 ⟨A, c, A2, c2, rfl, hok, hb⟩; have HO1 := Lib.hid (hok.below ((Below.refl _ _).alloc (Nat.le_refl _) (.cells #[.string x.name, .int .i64 x.first.off, .int .i64 x.first.save, .string x.first.abbr, .slice A x.shifts.length c, .int .i64 x.till, .slice A2 x.tail.length c2, .int .i64 x.off, .string x.format] 27))); have HB1 := Lib.hid (hb.alloc hb.size (.cells #[.string x.name, .int .i64 x.first.off, .int .i64 x.first.save, .string x.first.abbr, .slice A x.shifts.length c, .int .i64 x.till, .slice A2 x.tail.length c2, .int .i64 x.off, .string x.format] 27)); have HX1 := Lib.hid (Blk.new w1 27 #[.string x.name, .int .i64 x.first.off, .int .i64 x.first.save, .string x.first.abbr, .slice A x.shifts.length c, .int .i64 x.till, .slice A2 x.tail.length c2, .int .i64 x.off, .string x.format]); clear hok hb)
      | (go_at_call 13; refine (HQ.out _).mono ?_; rintro e w2 ⟨A', c', A2', c2', rfl, hok, hb⟩; have hb2 := hb.alloc hb.size (.cells #[.string x.name, .int .i64 x.first.off, .int .i64 x.first.save, .string x.first.abbr, .slice A' x.shifts.length c', .int .i64 x.till, .slice A2' x.tail.length c2', .int .i64 x.off, .string x.format] 27); have HO2 := Lib.hid (hok.below ((Below.refl _ _).alloc (Nat.le_refl _) (.cells #[.string x.name, .int .i64 x.first.off, .int .i64 x.first.save, .string x.first.abbr, .slice A' x.shifts.length c', .int .i64 x.till, .slice A2' x.tail.length c2', .int .i64 x.off, .string x.format] 27))); have HO3 := Lib.hid (HO1.out.below hb2); have HX2 := Lib.hid (HX1.out.below hb2 HX1.out.lt); have HY2 := Lib.hid (Blk.new w2 27 #[.string x.name, .int .i64 x.first.off, .int .i64 x.first.save, .string x.first.abbr, .slice A' x.shifts.length c', .int .i64 x.till, .slice A2' x.tail.length c2', .int .i64 x.off, .string x.format]); have HB2 := Lib.hid (HB1.out.trans (hb2.mono HB1.out.size)); clear hok hb hb2 HO1 HX1 HB1)
      | (go_at_call 9; refine (HA.out _ HB2.out).mono ?_; rintro e w3 ⟨rfl, hb⟩; have bX := HX2.out.below hb HX2.out.lt; have bY := HY2.out.below hb HY2.out.lt; have cX := fun i => bX.cell i; have cY := fun i => bY.cell i; have HO4 := Lib.hid (HO2.out.below hb); have HO5 := Lib.hid (HO3.out.below hb); have HB3 := Lib.hid (HB2.out.trans (hb.mono HB2.out.size)); clear bX bY hb HX2 HY2 HO2 HO3 HB2)
      | (go_at_call 14; refine (HS.out _ _ _ _ _ _ _ _ _ HO5.out HO4.out).mono ?_; rintro e w4 ⟨rfl, hb⟩; have HB4 := Lib.hid (HB3.out.trans (hb.mono HB3.out.size)); clear hb HO4 HO5))
    all_goals go_ret
    all_goals exact ⟨rfl, HB4.out⟩
end Go.Proofs.YtaffaobhcnnfnaaGreatDoor.LRd
