/-
  The walk of the law SoundChecks. Conditions: the cell of bytealg.MaxLen holds a number; what the source's slices hold is read, the lengths are bounded.
-/
import Derived.Test.YtgfdmjldfahbpaaGreatDoorAl13
import Derived.Test.YtgfdmjldfahbpaaGreatDoorD13C
namespace Go.Proofs.YtgfdmjldfahbpaaGreatDoor.Lw13
open Go.RowKit Mem Civ Img Rul Src Snd

theorem cells3k {w W : World} {b : Nat} {t : TypeId} {a0 a1 a2 : Value} (h : One w b t #[a0, a1, a2] W) : W.cell? ⟨b, 0, none⟩ = some a0 ∧ W.cell? ⟨b, 1, none⟩ = some a1 ∧ W.cell? ⟨b, 2, none⟩ = some a2 := ⟨h.1.cell 0, h.1.cell 1, h.1.cell 2⟩
set_option maxHeartbeats 4000000 in
set_option maxRecDepth 100000 in
theorem checks (s : Src) (A A2 A3 : Option Addr) (c c2 c3 : Nat) (m : Int) (w : World) (h : SrcOk s A A2 A3 w) (hm : w.cell? ⟨0, 0, none⟩ = some (.int .i64 m)) :
    Calls Tryz.prog 3 #[.agg #[.slice A s.rules.length c, .slice A2 s.zones.length c2, .slice A3 s.links.length c3]] w fun e w' => e = .returned (.bool true) ∧ Below w.heap.size w w' := by
  have HA := Lib.hid (fun z (hb : Below w.heap.size w z) => Snd.alive_any m z (cell_later hb hm))
  have HG := Lib.hid (fun z (hb : Below w.heap.size w z) => light_any s A A2 A3 c c2 c3 z (h.below hb))
  have HC := Lib.hid (fun z (hb : Below w.heap.size w z) => check_any s A A2 A3 c c2 c3 m z (h.below hb) (cell_later hb hm))
  have HD := Lib.hid (fun z (hb : Below w.heap.size w z) => rcheck_any s A A2 A3 c c2 c3 z (h.below hb))
  have heq := fun z => eq_flaw (checkB s) (checkB s) z
  rw [decide_eq_true rfl] at heq
  obtain ⟨⟨a0, a1, a2, a3⟩, hq⟩ : ∃ q, checkB s = q := ⟨_, rfl⟩
  rw [hq] at HC HD heq
  simp only [Flaw.cells] at HC HD heq
  clear h hm hq
  have hone := One.new w 26 #[.slice A s.rules.length c, .slice A2 s.zones.length c2, .slice A3 s.links.length c3]
  obtain ⟨W, hW⟩ : ∃ W, w.alloc (.cells #[.slice A s.rules.length c, .slice A2 s.zones.length c2, .slice A3 s.links.length c3] 26) = W := ⟨_, rfl⟩
  rw [hW] at hone
  have HO := Lib.hid hone
  have c0 := fun i => hone.1.cell i
  clear hone
  go_enter Tryz.func3, Tryz.ntmps3
  go_wp2_with (first
    | (go_at_call 7; refine (HG.out _ HO.out.2).mono ?_; rintro e w1 ⟨lb, rfl, hlp, hb⟩; have ho := HO.out.step hb; have HO1 := Lib.hid ho; clear hb ho hlp c0; cases lb)
    | (go_at_call 8; refine (HA.out _ HO1.out.2).mono ?_; rintro e w4 ⟨rfl, hb⟩; have HO4 := Lib.hid (HO1.out.step hb); clear hb))
  · go_ret
    exact ⟨rfl, HO4.out.2⟩
  · have hd3 := HO1.out.drew
    have k0 := cells3k hd3
    have HD3 := Lib.hid hd3
    clear hd3
    go_region_held3 (fun w' => w'.cell? ⟨w.heap.size, 0, none⟩ = some (.slice A s.rules.length c) ∧ w'.cell? ⟨w.heap.size, 1, none⟩ = some (.slice A2 s.zones.length c2) ∧ w'.cell? ⟨w.heap.size, 2, none⟩ = some (.slice A3 s.links.length c3)) (first | assumption | (simp [*]; done))
      (first
      | (go_at_call 8; refine (HA.out _ HD3.out.2).mono ?_; rintro e w4 ⟨rfl, hb⟩; have HO4 := Lib.hid (HD3.out.step hb); have kk := cells3k HO4.out; clear hb)
      | (go_at_call 9; refine (HC.out _ HO4.out.2).mono ?_; rintro e w5 ⟨rfl, hb⟩; have HO5 := Lib.hid (HO4.out.step hb); have kk5 := cells3k HO5.out; clear hb)
      | (go_at_call 10; refine (HD.out _ HO5.out.2).mono ?_; rintro e w6 ⟨rfl, hb⟩; have HO6 := Lib.hid (HO5.out.step hb); have kk6 := cells3k HO6.out; clear hb))
    go_wp2
    go_ret
    exact ⟨rfl, HO6.out.2⟩
end Go.Proofs.YtgfdmjldfahbpaaGreatDoor.Lw13
