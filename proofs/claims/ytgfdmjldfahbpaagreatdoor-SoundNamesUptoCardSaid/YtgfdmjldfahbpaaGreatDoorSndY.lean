/-
  Package sound: the contract of day. Conditions: none.
-/
import Derived.Test.YtgfdmjldfahbpaaGreatDoorSndX
namespace Go.Proofs.YtgfdmjldfahbpaaGreatDoor.Snd
open Go.RowKit Mem Civ Mom Img Plc Rul Src Go.Maps

theorem day_any (n : Int) (w : World) : Calls Tryz.prog 70 #[.int .i64 n] w fun e w' => e = .returned (.bool (Rgt.dayB n)) ∧ w' = w := by
  unfold Rgt.dayB
  go_enter Tryz.func70, Tryz.ntmps70
  cases h1 : decide (-86400 < n) <;> cases h2 : decide (n < 86400)
  all_goals go_wp2_with fail
  all_goals go_ret
  all_goals exact ⟨rfl, rfl⟩
theorem era1_any (r : Rule) (off : Int) (b : Nat) (w : World) (hc : w.cell? ⟨b, 0, none⟩ = some (.int .i64 off)) :
    Calls Tryz.prog 69 #[.agg r.cells.toArray, .pointer (some ⟨b, 0, none⟩)] w fun e w' => e = .returned (.bool (!Rgt.dayB (wrap64 (off + r.save)))) ∧ Below w.heap.size w w' := by
  have HD := Lib.hid (fun n z => day_any n z)
  have hone := One.new w 47 r.cells.toArray
  obtain ⟨x0, x1, x2, x3, x4, x5, x6, x7, x8, x9, x10⟩ := r
  simp only [Rule.cells] at hone ⊢
  obtain ⟨W, hW⟩ : ∃ W, w.alloc (.cells #[.string x0, .int .i64 x1, .int .i64 x2, .int .i64 x3, .int .i64 x4, .int .i64 x5, .int .i64 x6, .int .i64 x7, .int .i64 x8, .int .i64 x9, .string x10] 47) = W := ⟨_, rfl⟩
  rw [hW] at hone
  have c2 : W.cell? ⟨b, 0, none⟩ = some (.int .i64 off) := cell_later hone.2 hc
  have HO := Lib.hid hone
  have c0 := fun i => hone.1.cell i
  clear hone hc
  go_enter Tryz.func69, Tryz.ntmps69
  go_wp2_with (go_at_call 70; refine (HD.out _ _).mono ?_; rintro e w1 ⟨rfl, rfl⟩)
  go_ret
  exact ⟨rfl, HO.out.2⟩
end Go.Proofs.YtgfdmjldfahbpaaGreatDoor.Snd
