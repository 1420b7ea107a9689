/-
  The walk of the law ImageWrites. Conditions: the cell of bytealg.MaxLen holds a number; what the table's slices hold is read, the lengths are bounded.
-/
import Derived.Test.YtaffaobhcnnfnaaGreatDoorR14W
import Derived.Test.YtaffaobhcnnfnaaGreatDoorR15S
import Derived.Test.YtaffaobhcnnfnaaGreatDoorTur
namespace Go.Proofs.YtaffaobhcnnfnaaGreatDoor.LWr
open Go.RowKit Mem Img Rgt Src Rd R15

set_option maxHeartbeats 4000000 in
set_option maxRecDepth 100000 in
theorem writes (x : Table) (A A2 : Option Addr) (c c2 : Nat) (m : Int) (w : World) (h : TabOk x A A2 w) (hm : w.cell? ⟨0, 0, none⟩ = some (.int .i64 m)) :
    Calls Tryz.prog 3 #[.agg (tabCells x A c A2 c2)] w fun e w' => e = .returned (.bool true) ∧ Below w.heap.size w w' := by
  have HA := Lib.hid (fun z (hb : Below w.heap.size w z) => Alv.alive_any m z (cell_later hb hm))
  have HY := Lib.hid (fun z (hb : Below w.heap.size w z) => Yrs.years_any x A A2 c c2 z (h.below hb))
  have HS := Lib.hid (fun z (hb : Below w.heap.size w z) => Img.save_any x A A2 c c2 (tailB x) m z (h.below hb) (cell_later hb hm) fun w1 hw1 => tail_any x A A2 c c2 m w1 (h.below (hb.trans (hw1.mono hb.size))) (cell_later (hb.trans (hw1.mono hb.size)) hm))
  have HR := Lib.hid (fun z (hb : Below w.heap.size w z) => R15.save_any x A A2 c c2 (rightB x (tailB x)) z (h.below hb) fun w1 hw1 => by
    rw [← R14.right_is]
    exact R14.right_any x A A2 c c2 w1 (h.below (hb.trans (hw1.mono hb.size))))
  have hone := Civ.One.new w 27 (tabCells x A c A2 c2)
  clear h hm
  simp only [tabCells] at hone HY HS HR ⊢
  obtain ⟨W, hW⟩ : ∃ W, w.alloc (.cells #[.string x.name, .int .i64 x.first.off, .int .i64 x.first.save, .string x.first.abbr, .slice A x.shifts.length c, .int .i64 x.till, .slice A2 x.tail.length c2, .int .i64 x.off, .string x.format] 27) = W := ⟨_, rfl⟩
  rw [hW] at hone
  have HO := Lib.hid hone
  have c0 := fun i => hone.1.cell i
  clear hone
  change Hid (∀ z, Below w.heap.size w z → Calls Tryz.prog 10 _ z (fun e w' => e = .returned (.tuple (if rightB x (tailB x) = true then #[.string (bs (img x)), .int .i64 0] else #[.string ⟨#[]⟩, .int .i64 1])) ∧ Below z.heap.size z w')) at HS
  generalize Rgt.rightB x (tailB x) = rb at *
  generalize bs (img x) = l at *
  go_enter Tryz.func3, Tryz.ntmps3
  by_cases hs : x.shifts.length ≤ 400
  rotate_left
  · have hsb : decide ((400 : Int) < (x.shifts.length : Nat)) = true := decide_eq_true (by omega)
    clear hs
    go_wp2_with (first
      | (go_at_call 8; refine (HY.out _ HO.out.2).mono ?_; rintro e w1 ⟨yb, rfl, hyb, hb⟩; have HB1 := Lib.hid (HO.out.step hb); have c1 := fun i => (HO.out.step hb).1.cell i; clear hb hyb HO c0; cases yb)
      | (go_at_call 9; refine (HA.out _ HB1.out.2).mono ?_; rintro e w2 ⟨rfl, hb⟩; have HB2 := Lib.hid (HB1.out.step hb); clear hb))
    all_goals go_ret
    all_goals exact ⟨rfl, HB2.out.2⟩
  · have hsb : decide ((400 : Int) < (x.shifts.length : Nat)) = false := decide_eq_false (by omega)
    clear hs
    cases rb
    all_goals go_wp2_with (first
      | (go_at_call 8; refine (HY.out _ HO.out.2).mono ?_; rintro e w1 ⟨yb, rfl, hyb, hb⟩; have HB1 := Lib.hid (HO.out.step hb); have c1 := fun i => (HO.out.step hb).1.cell i; clear hb hyb HO c0; cases yb)
      | (go_at_call 10; refine (HS.out _ HB1.out.2).mono ?_; rintro e w2 ⟨rfl, hb⟩; have HB2 := Lib.hid (HB1.out.step hb); have c2 := fun i => (HB1.out.step hb).1.cell i; clear hb)
      | (go_at_call 11; refine (HR.out _ HB2.out.2).mono ?_; rintro e w3 ⟨rfl, hb⟩; have HB1 := Lib.hid (HB2.out.step hb); clear hb)
      | (go_at_call 9; refine (HA.out _ HB1.out.2).mono ?_; rintro e w4 ⟨rfl, hb⟩; have HB3 := Lib.hid (HB1.out.step hb); clear hb))
    all_goals go_ret
    all_goals exact ⟨rfl, HB3.out.2⟩
end Go.Proofs.YtaffaobhcnnfnaaGreatDoor.LWr
