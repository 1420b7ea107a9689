/-
  Package eras: the contract of find. Conditions: the source may be; what its slices hold is read.
-/
import Derived.Test.YtgfdmjldfahbpaaGreatDoorSndB
namespace Go.Proofs.YtgfdmjldfahbpaaGreatDoor.Snd
open Go.RowKit Mem Civ Mom Img Plc Rul Src Go.Maps

theorem find_results {w : World} {R0 : Nat} {b : Bool} {a0 a1 a2 a3 a4 a5 a6 a7 a8 a9 a10 a11 a12 a13 : Value} (h : Blk w R0 113 #[a0, a1, a2, a3, a4, a5, a6, a7, a8, a9, a10, a11, a12, a13]) (tmps : Array Value) (ht : tmps[6]? = some (.pointer (some ⟨R0, 0, none⟩))) (h7 : tmps[7]? = some (.bool b)) : (results Tryz.f102 tmps).run Tryz.prog w = .ok (.tuple #[.agg #[a0, a1, a2, a3, a4, a5, a6, a7, a8, a9, a10, a11, a12, a13], .bool b]) w := by
  have hc := fun i => h.cell i
  simp [results, Tryz.results102, go_sem, hc, ht, h7]
def noEra : Array Value := #[.int .i64 0, .int .i64 0, .int .i64 0, .string ⟨#[]⟩, .string ⟨#[]⟩, .bool false, .int .i64 0, .int .i64 0, .int .i64 0, .int .i64 0, .int .i64 0, .int .i64 0, .int .i64 0, .slice none 0 0]
set_option maxHeartbeats 2000000 in
set_option maxRecDepth 100000 in
theorem find_no (s : Src) (A A2 A3 : Option Addr) (c c2 c3 : Nat) (m : Int) (i : Nat) (w : World) (h : SrcOk s A A2 A3 w) (hm : w.cell? ⟨0, 0, none⟩ = some (.int .i64 m)) (hs : srcB s = true) (hi : i < s.zones.length) :
    Calls Tryz.prog 102 #[.agg #[.slice A s.rules.length c, .slice A2 s.zones.length c2, .slice A3 s.links.length c3], .int .i64 i, .int .i64 (-1)] w fun e w' => e = .returned (.tuple #[.agg noEra, .bool false]) ∧ Below w.heap.size w w' := by
  have hR := fun z (hb : Below w.heap.size w z) => Src.right_any s A A2 A3 c c2 c3 m z (h.below hb) (cell_later hb hm)
  have nz := h.nz
  rw [hs] at hR
  clear h hm hs
  obtain ⟨rs, zs, ls⟩ := s
  unfold noEra
  simp only at hR nz hi ⊢
  have hb2 := box2 w 26 113 #[.slice A rs.length c, .slice A2 zs.length c2, .slice A3 ls.length c3] #[.int .i64 0, .int .i64 0, .int .i64 0, .string ⟨#[]⟩, .string ⟨#[]⟩, .bool false, .int .i64 0, .int .i64 0, .int .i64 0, .int .i64 0, .int .i64 0, .int .i64 0, .int .i64 0, .slice none 0 0]
  obtain ⟨W, hW⟩ : ∃ W, (w.alloc (.cells #[.slice A rs.length c, .slice A2 zs.length c2, .slice A3 ls.length c3] 26)).alloc (.cells #[.int .i64 0, .int .i64 0, .int .i64 0, .string ⟨#[]⟩, .string ⟨#[]⟩, .bool false, .int .i64 0, .int .i64 0, .int .i64 0, .int .i64 0, .int .i64 0, .int .i64 0, .int .i64 0, .slice none 0 0] 113) = W := ⟨_, rfl⟩
  rw [hW] at hb2
  obtain ⟨b0, b1, hbw, hsz⟩ := hb2
  have HB0 := Lib.hid b0; have HB1 := Lib.hid b1; have HBw := Lib.hid hbw; have HR := Lib.hid hR
  have c0 := fun i => b0.cell i
  have hd : decide (((i : Nat) : Int) < 0) = false := decide_eq_false (by omega)
  have hd2 : decide (((zs.length : Nat) : Int) ≤ (i : Nat)) = false := decide_eq_false (by omega)
  clear b0 b1 hbw hR hsz
  go_enter Tryz.func102, Tryz.ntmps102
  go_wp2_with (first
    | (go_at_call 17; refine (HR.out _ HBw.out).mono ?_; rintro e w1 ⟨rfl, hb⟩; have hx0 := HB0.out.below hb HB0.out.lt; have c1 := fun i => hx0.cell i; have HX1 := Lib.hid (HB1.out.below hb HB1.out.lt); have HBx := Lib.hid (HBw.out.trans (hb.mono HBw.out.size)); clear hb hx0)
    | (refine wpList_store_row rfl 113 (.tmp 6) (.tmp 37) rfl (w.heap.size + 1) #[.int .i64 0, .int .i64 0, .int .i64 0, .string ⟨#[]⟩, .string ⟨#[]⟩, .bool false, .int .i64 0, .int .i64 0, .int .i64 0, .int .i64 0, .int .i64 0, .int .i64 0, .int .i64 0, .slice none 0 0] rfl rfl 113 _ HX1.out size_era rfl era_cells1 ?_))
  refine bodyPost_ret (find_results (row_to HX1.out) _ rfl rfl) rfl ?_
  exact ⟨rfl, HBx.out.grown (grown_row _ _ _) HBx.out.size (fun k e => by injection e with e; omega)⟩
end Go.Proofs.YtgfdmjldfahbpaaGreatDoor.Snd
