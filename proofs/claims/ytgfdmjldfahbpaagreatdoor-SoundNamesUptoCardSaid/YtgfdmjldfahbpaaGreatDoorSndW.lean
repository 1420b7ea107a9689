/-
  Package eras: the contract of find where there is an era. Conditions: the source may be; what its slices hold is read.
-/
import Derived.Test.YtgfdmjldfahbpaaGreatDoorSndD
namespace Go.Proofs.YtgfdmjldfahbpaaGreatDoor.Snd
open Go.RowKit Mem Civ Mom Img Plc Rul Src Go.Maps

/-- A row of cells being filled, beside a set's own row. -/
structure Fl (w : World) (X : Nat) (cs : Array Value) (A : Option Addr) (n : Nat) (xs : List Value) (wr : World) : Prop where
  blk : Blk wr X 113 cs
  bel : Below w.heap.size w wr
  rd : Reads wr wr.heap.size 11 A n xs
theorem Fl.set {w wr : World} {X n : Nat} {cs : Array Value} {A : Option Addr} {xs : List Value} (h : Fl w X cs A n xs wr) (hX : w.heap.size ≤ X) (hn : NewB (X + 1) A n) (i : Nat) (u : Value) : Fl w X (cs.setIfInBounds i u) A n xs (wr.setCell ⟨X, i, none⟩ u) := by
  refine ⟨h.blk.set_ i u, h.bel.setCell hX u, ?_⟩
  have hr : Reads (wr.setCell ⟨X, i, none⟩ u) wr.heap.size 11 A n xs := ⟨h.rd.1, fun h0 => by
    obtain ⟨ad, e, hb, hc⟩ := h.rd.2 h0
    obtain ⟨b, e2, hx⟩ := hn h0
    rw [e] at e2
    injection e2 with e2
    refine ⟨ad, e, hb, fun j v hv => ?_⟩
    rw [← hc j v hv]
    have hbk : (ad.add j).block = b := by rw [block_of_add, e2]
    exact World.cell?_of_block (w := wr) (Below.heap_setCell wr ⟨X, i, none⟩ u _ (by rw [hbk]; show b ≠ X; omega))⟩
  exact hr.more (by simp)
set_option maxHeartbeats 2000000 in
set_option maxRecDepth 100000 in
theorem find_yes (s : Src) (A A2 A3 : Option Addr) (c c2 c3 : Nat) (m : Int) (i j : Nat) (w : World) (h : SrcOk s A A2 A3 w) (hm : w.cell? ⟨0, 0, none⟩ = some (.int .i64 m)) (hs : srcB s = true) (hi : i < s.zones.length) (hj : j < (s.zones[i]'hi).eras.length) :
    Calls Tryz.prog 102 #[.agg #[.slice A s.rules.length c, .slice A2 s.zones.length c2, .slice A3 s.links.length c3], .int .i64 i, .int .i64 j] w fun e w' =>
      ∃ Ae ce, e = .returned (.tuple #[.agg (eraV ((s.zones[i]'hi).eras[j]'hj) Ae (setOf s.rules ((s.zones[i]'hi).eras[j]'hj)).length ce), .bool true]) ∧ Reads w' w'.heap.size 11 Ae (setOf s.rules ((s.zones[i]'hi).eras[j]'hj)).length ((setOf s.rules ((s.zones[i]'hi).eras[j]'hj)).flatMap Rule.cells) ∧ Below w.heap.size w w' := by
  have hR := fun z (hb : Below w.heap.size w z) => Src.right_any s A A2 A3 c c2 c3 m z (h.below hb) (cell_later hb hm)
  have hOf := fun x z (hb : Below w.heap.size w z) => of_any s A A2 A3 c c2 c3 x z (h.below hb)
  have nz := h.nz; have hrz := h.rz
  have hre := h.re (s.zones[i]'hi) (List.getElem_mem hi)
  rw [hs] at hR
  clear h hm hs
  obtain ⟨rs, zs, ls⟩ := s
  simp only at hR hOf nz hrz hre hi hj ⊢
  obtain ⟨az, hA2, hazb, z0, z1⟩ := zone_cells hrz hi rfl
  subst hA2
  obtain ⟨ae, hAe, haeb, e0, e1, e2, e3, e4, e5, e6, e7, e8, e9, e10, e11, e12⟩ := era_cells hre hj rfl
  rw [hAe] at z1
  obtain ⟨N, hN⟩ : ∃ N, N = (zs[i]'hi).eras.length := ⟨_, rfl⟩
  obtain ⟨x, hx⟩ : ∃ x, x = (zs[i]'hi).eras[j]'hj := ⟨_, rfl⟩
  rw [← hN] at z1 hj
  rw [← hx] at e0 e1 e2 e3 e4 e5 e6 e7 e8 e9 e10 e11 e12 ⊢
  have HOf := Lib.hid (hOf x)
  obtain ⟨cz, hcz⟩ : ∃ cz, cz = (zs[i]'hi).c := ⟨_, rfl⟩
  rw [← hcz] at z1
  clear hN hx hcz hOf hre hrz hAe z0
  obtain ⟨x0, x1, x2, x3, x4, x5, x6, ⟨y0, y1, y2, y3, y4, y5⟩⟩ := x
  simp only [eraV] at HOf e0 e1 e2 e3 e4 e5 e6 e7 e8 e9 e10 e11 e12 ⊢
  generalize setOf rs _ = L at *
  have hb2 := box2 w 26 113 #[.slice A rs.length c, .slice (some az) zs.length c2, .slice A3 ls.length c3] #[.int .i64 0, .int .i64 0, .int .i64 0, .string ⟨#[]⟩, .string ⟨#[]⟩, .bool false, .int .i64 0, .int .i64 0, .int .i64 0, .int .i64 0, .int .i64 0, .int .i64 0, .int .i64 0, .slice none 0 0]
  obtain ⟨W, hW⟩ : ∃ W, (w.alloc (.cells #[.slice A rs.length c, .slice (some az) zs.length c2, .slice A3 ls.length c3] 26)).alloc (.cells #[.int .i64 0, .int .i64 0, .int .i64 0, .string ⟨#[]⟩, .string ⟨#[]⟩, .bool false, .int .i64 0, .int .i64 0, .int .i64 0, .int .i64 0, .int .i64 0, .int .i64 0, .int .i64 0, .slice none 0 0] 113) = W := ⟨_, rfl⟩
  rw [hW] at hb2
  obtain ⟨b0, b1, hbw, hsz⟩ := hb2
  have HB0 := Lib.hid b0; have HB1 := Lib.hid b1; have HBw := Lib.hid hbw; have HR := Lib.hid hR
  have c0 := fun i => b0.cell i
  have hd : decide (((i : Nat) : Int) < 0) = false := decide_eq_false (by omega)
  have hd2 : decide (((zs.length : Nat) : Int) ≤ (i : Nat)) = false := decide_eq_false (by omega)
  have hd3 : decide (((j : Nat) : Int) < 0) = false := decide_eq_false (by omega)
  have hd4 : decide (((N : Nat) : Int) ≤ (j : Nat)) = false := decide_eq_false (by omega)
  have hk : ∀ (z : World) (p : Addr) (u : Value), Below w.heap.size w z → p.block < w.heap.size → w.cell? p = some u → z.cell? p = some u := fun z p u hb hp hc => (hb.cell hp).trans hc
  have HZ := Lib.hid (fun (z : World) (hb : Below w.heap.size w z) => hk z _ _ hb (by rw [block_of_add]; exact hazb) z1)
  have HEr := Lib.hid (fun (z : World) (hb : Below w.heap.size w z) => And.intro (hk z _ _ hb (by rw [block_of_add]; exact haeb) e0) (And.intro (hk z _ _ hb (by rw [block_of_add]; exact haeb) e1) (And.intro (hk z _ _ hb (by rw [block_of_add]; exact haeb) e2) (And.intro (hk z _ _ hb (by rw [block_of_add]; exact haeb) e3) (And.intro (hk z _ _ hb (by rw [block_of_add]; exact haeb) e4) (And.intro (hk z _ _ hb (by rw [block_of_add]; exact haeb) e5) (And.intro (hk z _ _ hb (by rw [block_of_add]; exact haeb) e6) (And.intro (hk z _ _ hb (by rw [block_of_add]; exact haeb) e7) (And.intro (hk z _ _ hb (by rw [block_of_add]; exact haeb) e8) (And.intro (hk z _ _ hb (by rw [block_of_add]; exact haeb) e9) (And.intro (hk z _ _ hb (by rw [block_of_add]; exact haeb) e10) (And.intro (hk z _ _ hb (by rw [block_of_add]; exact haeb) e11) (hk z _ _ hb (by rw [block_of_add]; exact haeb) e12)))))))))))))
  clear b0 b1 hbw hR hsz hk z1 e0 e1 e2 e3 e4 e5 e6 e7 e8 e9 e10 e11 e12
  go_enter Tryz.func102, Tryz.ntmps102
  go_upto_region 3 with (go_at_call 17; refine (HR.out _ HBw.out).mono ?_; rintro e w1 ⟨rfl, hb⟩; have hx0 := HB0.out.below hb HB0.out.lt; have c1 := fun i => hx0.cell i; have HX0 := Lib.hid hx0; have HX1 := Lib.hid (HB1.out.below hb HB1.out.lt); have hbx := HBw.out.trans (hb.mono HBw.out.size); have z1 := HZ.out _ hbx; have HBx := Lib.hid hbx; clear hb hx0 hbx)
  obtain ⟨e0, e1, e2, e3, e4, e5, e6, e7, e8, e9, e10, e11, e12⟩ := HEr.out _ HBx.out
  have Hz := Lib.hid HX1.out.lt
  clear HZ HEr HR c0
  go_region_law (go_simp; go_at_call 123; refine (HOf.out _ HBx.out.drew).mono ?_; rintro e wA ⟨Ae, ce, rfl, hrd, hnb, hb⟩; have hx1 := HX1.out.drew.below hb HX1.out.drew.lt; have fA := fun i => hx1.frozen i; have cA := fun i => hx1.cell i; have HXA := Lib.hid hx1; have HRd := Lib.hid hrd; have HNb := Lib.hid hnb; have HBA := Lib.hid (HBx.out.drew.trans (hb.mono HBx.out.drew.size)); clear hx1 hrd hnb hb)
  all_goals
    have HF0 : Fl w (w.heap.size + 1) _ Ae L.length _ wA := ⟨HXA.out, HBA.out, HRd.out⟩
    have hX : w.heap.size ≤ w.heap.size + 1 := Nat.le_succ _
    have hn : NewB (w.heap.size + 1 + 1) Ae L.length := fun h0 => by
      obtain ⟨b, e1, h1⟩ := HNb.out h0
      have := Hz.out
      exact ⟨b, e1, Nat.le_trans (by simp; omega) h1⟩
    have hf := ((((((((((((((HF0.set hX hn 0 (.int .i64 x0)).set hX hn 1 (.int .i64 x1)).set hX hn 2 (.int .i64 x2)).set hX hn 3 (.string x3)).set hX hn 4 (.string x4)).set hX hn 5 (.bool x5)).set hX hn 6 (.int .i64 x6)).set hX hn 7 (.int .i64 y0)).set hX hn 8 (.int .i64 y1)).set hX hn 9 (.int .i64 y2)).set hX hn 10 (.int .i64 y3)).set hX hn 11 (.int .i64 y4)).set hX hn 12 (.int .i64 y5)).set hX hn 13 (.slice Ae L.length ce))
    simp only [List.setIfInBounds_toArray, List.set_cons_succ, List.set_cons_zero] at hf
    have HF := Lib.hid hf
    clear hf HF0 hn hX fA cA
    go_wp2
    refine bodyPost_ret (find_results HF.out.blk _ rfl rfl) rfl ?_
    exact ⟨Ae, ce, rfl, HF.out.rd, HF.out.bel⟩
end Go.Proofs.YtgfdmjldfahbpaaGreatDoor.Snd
