/-
  Package eras: the contract of End. Conditions: the source may be; what its slices hold is read; rules.Ahead answers.
-/
import Derived.Test.YtgfdmjldfahbpaaGreatDoorSndW
namespace Go.Proofs.YtgfdmjldfahbpaaGreatDoor.Snd
open Go.RowKit Mem Civ Mom Img Plc Rul Src Go.Maps

set_option maxHeartbeats 2000000 in
set_option maxRecDepth 100000 in
theorem eend_no (s : Src) (A A2 A3 : Option Addr) (c c2 c3 : Nat) (m : Int) (i : Nat) (w : World) (h : SrcOk s A A2 A3 w) (hm : w.cell? ⟨0, 0, none⟩ = some (.int .i64 m)) (hs : srcB s = true) (hi : i < s.zones.length) :
    Calls Tryz.prog 71 #[.agg #[.slice A s.rules.length c, .slice A2 s.zones.length c2, .slice A3 s.links.length c3], .int .i64 i, .int .i64 (-1)] w fun e w' => e = .returned (.tuple #[.int .i64 0, .bool false]) ∧ Below w.heap.size w w' := by
  have hF := fun z (hb : Below w.heap.size w z) => find_no s A A2 A3 c c2 c3 m i z (h.below hb) (cell_later hb hm) hs hi
  clear h hm hs hi
  obtain ⟨rs, zs, ls⟩ := s
  simp only [noEra] at hF ⊢
  have hone := One.new w 26 #[.slice A rs.length c, .slice A2 zs.length c2, .slice A3 ls.length c3]
  obtain ⟨W, hW⟩ : ∃ W, w.alloc (.cells #[.slice A rs.length c, .slice A2 zs.length c2, .slice A3 ls.length c3] 26) = W := ⟨_, rfl⟩
  rw [hW] at hone
  have HO := Lib.hid hone; have HF := Lib.hid hF
  have c0 := fun i => hone.1.cell i
  clear hone hF
  go_enter Tryz.func71, Tryz.ntmps71
  go_wp2_with (go_at_call 102; refine (HF.out _ HO.out.2).mono ?_; rintro e w1 ⟨rfl, hb⟩; have HO1 := Lib.hid (HO.out.step hb); clear hb)
  go_ret2
  exact ⟨rfl, HO1.out.2.alloc HO1.out.2.size _⟩
set_option maxHeartbeats 2000000 in
set_option maxRecDepth 100000 in
theorem eend_yes (s : Src) (A A2 A3 : Option Addr) (c c2 c3 : Nat) (m sv : Int) (i j : Nat) (w : World) (h : SrcOk s A A2 A3 w) (hm : w.cell? ⟨0, 0, none⟩ = some (.int .i64 m)) (hs : srcB s = true) (hi : i < s.zones.length) (hj : j < (s.zones[i]'hi).eras.length) (x : Era) (hx : x = (s.zones[i]'hi).eras[j]'hj)
    (hA : x.till = true → x.kind = 2 → ∀ Ae ce z, Reads z z.heap.size 11 Ae (setOf s.rules x).length ((setOf s.rules x).flatMap Rule.cells) → AheadAt Ae (setOf s.rules x).length ce (endT x) sv z) :
    Calls Tryz.prog 71 #[.agg #[.slice A s.rules.length c, .slice A2 s.zones.length c2, .slice A3 s.links.length c3], .int .i64 i, .int .i64 j] w fun e w' => e = .returned (endO x sv) ∧ Below w.heap.size w w' := by
  have hF := fun z (hb : Below w.heap.size w z) => find_yes s A A2 A3 c c2 c3 m i j z (h.below hb) (cell_later hb hm) hs hi hj
  rw [← hx] at hF
  have hEnd := fun Ae ce z (hr : Reads z z.heap.size 11 Ae (setOf s.rules x).length ((setOf s.rules x).flatMap Rule.cells)) => end_any x Ae (setOf s.rules x).length ce sv z (fun h1 h2 => hA h1 h2 Ae ce z hr)
  clear h hm hs hx hA
  generalize setOf s.rules x = L at *
  have hq : ∃ r b, endO x sv = .tuple #[.int .i64 r, .bool b] := by
    unfold endO
    split
    · exact ⟨_, _, rfl⟩
    · exact ⟨_, _, rfl⟩
  obtain ⟨r, b, hq⟩ := hq
  rw [hq] at hEnd ⊢
  obtain ⟨x0, x1, x2, x3, x4, x5, x6, ⟨y0, y1, y2, y3, y4, y5⟩⟩ := x
  simp only [eraV] at hF hEnd
  have HEnd := Lib.hid hEnd
  have hone := One.new w 26 #[.slice A s.rules.length c, .slice A2 s.zones.length c2, .slice A3 s.links.length c3]
  obtain ⟨W, hW⟩ : ∃ W, w.alloc (.cells #[.slice A s.rules.length c, .slice A2 s.zones.length c2, .slice A3 s.links.length c3] 26) = W := ⟨_, rfl⟩
  rw [hW] at hone
  have HO := Lib.hid hone; have HF := Lib.hid hF
  have c0 := fun i => hone.1.cell i
  clear hone hF hEnd hq
  go_enter Tryz.func71, Tryz.ntmps71
  go_wp2_with (first
    | (go_at_call 102; refine (HF.out _ HO.out.2).mono ?_; rintro e w1 ⟨Ae, ce, rfl, hrd, hb⟩; have HO1 := Lib.hid (HO.out.step hb); have HRd := Lib.hid hrd; clear hb hrd)
    | (go_at_call 103; refine (HEnd.out _ _ _ ((HRd.out.below ((Below.refl _ _).alloc (Nat.le_refl _) _)).more (by simp))).mono ?_; rintro e w2 ⟨rfl, hb⟩; have HB2 := Lib.hid ((HO1.out.2.alloc HO1.out.2.size _).trans (hb.mono (by have := HO1.out.2.size; simp; omega))); clear hb))
  go_ret2
  exact ⟨rfl, HB2.out⟩
end Go.Proofs.YtgfdmjldfahbpaaGreatDoor.Snd
