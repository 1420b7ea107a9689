/-
  Package sound: the contract of era, whatever eras.End answers. Conditions: what the source's slices hold is read.
-/
import Derived.Test.YtgfdmjldfahbpaaGreatDoorSndI
namespace Go.Proofs.YtgfdmjldfahbpaaGreatDoor.Snd
open Go.RowKit Mem Civ Mom Img Plc Rul Src Go.Maps

def eraE (rs : List Rule) (x : Era) (a : Int) (had : Bool) (b : Int) (has : Bool) : Int :=
  if x.kind = 2 ∧ (setL rs x.rules).length = 0 then 8
  else if x.kind = 2 ∧ farB x.off (setL rs x.rules) = true then 11
  else if Rgt.dayB (wrap64 (x.off + x.save)) = false then 11
  else if had = true ∧ has = true ∧ b ≤ a then 16 else 0
def EndAt (s : Src) (A A2 A3 : Option Addr) (c c2 c3 : Nat) (i k : Int) (a : Int) (had : Bool) (w : World) : Prop :=
  ∀ z, Below w.heap.size w z → Calls Tryz.prog 71 #[.agg #[.slice A s.rules.length c, .slice A2 s.zones.length c2, .slice A3 s.links.length c3], .int .i64 i, .int .i64 k] z fun e w' => e = .returned (.tuple #[.int .i64 a, .bool had]) ∧ Below z.heap.size z w'
set_option maxHeartbeats 2000000 in
set_option maxRecDepth 100000 in
theorem era_any (s : Src) (A A2 A3 : Option Addr) (c c2 c3 : Nat) (x : Era) (i k a b : Int) (had has : Bool) (w : World) (h : SrcOk s A A2 A3 w)
    (hP : EndAt s A A2 A3 c c2 c3 i (wrap64 (k - 1)) a had w) (hQ : EndAt s A A2 A3 c c2 c3 i k b has w) :
    Calls Tryz.prog 45 #[.agg #[.slice A s.rules.length c, .slice A2 s.zones.length c2, .slice A3 s.links.length c3], .int .i64 i, .int .i64 k, .agg x.cells.toArray] w fun e w' => e = .returned (.int .i64 (eraE s.rules x a had b has)) ∧ Below w.heap.size w w' := by
  have hE := fun nm z (hb : Below w.heap.size w z) => eset_any s A A2 A3 c c2 c3 nm z (h.below hb)
  have nr := h.nr
  have hD := fun z => day_any (wrap64 (x.off + x.save)) z
  clear h
  obtain ⟨rs, zs, ls⟩ := s
  obtain ⟨x0, x1, x2, x3, x4, x5, x6, ⟨y0, y1, y2, y3, y4, y5⟩⟩ := x
  simp only [EndAt, Era.cells] at hP hQ hE nr hD ⊢
  have hEs := hE x3
  have hll : (setL rs x3).length ≤ 1000000 := Nat.le_trans (setL_len _ _) nr
  unfold eraE
  simp only
  obtain ⟨l, hl⟩ : ∃ l, l = setL rs x3 := ⟨_, rfl⟩
  rw [← hl] at hEs hll ⊢
  obtain ⟨q, hq⟩ : ∃ q, q = farB x0 l := ⟨_, rfl⟩
  have hF := fun (b : Nat) (Av : Option Addr) (cv : Nat) z hr hc => far_any x0 b l Av cv z hr hll hc
  obtain ⟨d, hd⟩ : ∃ d, d = Rgt.dayB (wrap64 (x0 + x2)) := ⟨_, rfl⟩
  rw [← hq] at hF ⊢
  rw [← hd] at hD ⊢
  have hb2 := box2 w 26 45 #[.slice A rs.length c, .slice A2 zs.length c2, .slice A3 ls.length c3] #[.int .i64 x0, .int .i64 x1, .int .i64 x2, .string x3, .string x4, .bool x5, .int .i64 x6, .int .i64 y0, .int .i64 y1, .int .i64 y2, .int .i64 y3, .int .i64 y4, .int .i64 y5]
  obtain ⟨W, hW⟩ : ∃ W, (w.alloc (.cells #[.slice A rs.length c, .slice A2 zs.length c2, .slice A3 ls.length c3] 26)).alloc (.cells #[.int .i64 x0, .int .i64 x1, .int .i64 x2, .string x3, .string x4, .bool x5, .int .i64 x6, .int .i64 y0, .int .i64 y1, .int .i64 y2, .int .i64 y3, .int .i64 y4, .int .i64 y5] 45) = W := ⟨_, rfl⟩
  rw [hW] at hb2
  obtain ⟨b0, b1, hbw, hsz⟩ := hb2
  have HP := Lib.hid hP; have HQ := Lib.hid hQ; have HE := Lib.hid hEs; have HF := Lib.hid hF; have HD := Lib.hid hD
  have HB0 := Lib.hid b0; have HB1 := Lib.hid b1; have HBw := Lib.hid hbw
  have c0 := fun i => b0.cell i
  have c1 := fun i => b1.cell i
  clear hP hQ hE hEs hF hD b0 b1 hbw hsz hl hq hd
  go_enter Tryz.func45, Tryz.ntmps45
  by_cases h2 : x1 = 2
  · subst h2
    by_cases h0 : l.length = 0
    · rw [if_pos ⟨rfl, h0⟩]
      have e0 : (((l.length : Nat) : Int) == 0) = true := by simp [h0]
      clear h0
      go_wp2_with (go_at_call 42; refine (HE.out _ HBw.out).mono ?_; rintro e w1 ⟨v, rfl, hown, hb⟩; obtain ⟨Av, cv, rfl⟩ := own_slice hown; have HBx := Lib.hid (HBw.out.trans (hb.mono HBw.out.size)); clear hb hown)
      go_ret
      exact ⟨rfl, HBx.out⟩
    · rw [if_neg (fun h => h0 h.2)]
      have e0 : (((l.length : Nat) : Int) == 0) = false := by simp; intro h; exact h0 (by rw [h]; rfl)
      clear h0
      cases q
      · rw [if_neg (fun h => by cases h.2)]
        cases d
        · rw [if_pos rfl]
          go_wp2_with (first
            | (go_at_call 42; refine (HE.out _ HBw.out).mono ?_; rintro e w1 ⟨v, rfl, hown, hb⟩; obtain ⟨Av, cv, rfl⟩ := own_slice hown; have HRl := Lib.hid (Reads.of_own hown); have hx1 := HB1.out.below hb HB1.out.lt; have d1 := fun i => hx1.cell i; have HBx := Lib.hid (HBw.out.trans (hb.mono HBw.out.size)); have HX1 := Lib.hid hx1; clear hb hown hx1)
            | (go_at_call 68; refine (HF.out _ _ _ _ HRl.out (HX1.out.cell 0)).mono ?_; rintro e w2 ⟨rfl, hb⟩; have hx1 := HX1.out.below hb HX1.out.lt; have d2 := fun i => hx1.cell i; have HBy := Lib.hid (HBx.out.trans (hb.mono HBx.out.size)); clear hb hx1)
            | (go_at_call 70; refine (HD.out _).mono ?_; rintro e w3 ⟨rfl, rfl⟩))
          go_ret
          exact ⟨rfl, HBy.out⟩
        · rw [if_neg (by decide)]
          cases had <;> cases has
          rotate_right
          · go_wp2_with (first
            | (go_at_call 42; refine (HE.out _ HBw.out).mono ?_; rintro e w1 ⟨v, rfl, hown, hb⟩; obtain ⟨Av, cv, rfl⟩ := own_slice hown; have HRl := Lib.hid (Reads.of_own hown); have hx0 := HB0.out.below hb HB0.out.lt; have hx1 := HB1.out.below hb HB1.out.lt; have d0 := fun i => hx0.cell i; have d1 := fun i => hx1.cell i; have HBx := Lib.hid (HBw.out.trans (hb.mono HBw.out.size)); have HX0 := Lib.hid hx0; have HX1 := Lib.hid hx1; clear hb hown hx1 hx0)
            | (go_at_call 68; refine (HF.out _ _ _ _ HRl.out (HX1.out.cell 0)).mono ?_; rintro e w2 ⟨rfl, hb⟩; have hx0 := HX0.out.below hb HX0.out.lt; have hx1 := HX1.out.below hb HX1.out.lt; have f0 := fun i => hx0.cell i; have f1 := fun i => hx1.cell i; have HBy := Lib.hid (HBx.out.trans (hb.mono HBx.out.size)); have HY0 := Lib.hid hx0; clear hb hx1 hx0)
            | (go_at_call 70; refine (HD.out _).mono ?_; rintro e w3 ⟨rfl, rfl⟩)
            | (go_at_call 71; have tk := tok; refine (HQ.out _ HBz.out).mono ?_; rintro e w5 ⟨rfl, hb⟩; have HBu := Lib.hid (HBz.out.trans (hb.mono HBz.out.size)); clear hb)
            | (go_at_call 71; refine (HP.out _ HBy.out).mono ?_; rintro e w4 ⟨rfl, hb⟩; have hx0 := HY0.out.below hb HY0.out.lt; have g0 := fun i => hx0.cell i; have HBz := Lib.hid (HBy.out.trans (hb.mono HBy.out.size)); have tok : True := trivial; clear hb hx0))
            all_goals go_ret
            all_goals exact ⟨by simp_all, HBu.out⟩
          all_goals
            go_wp2_with (first
            | (go_at_call 42; refine (HE.out _ HBw.out).mono ?_; rintro e w1 ⟨v, rfl, hown, hb⟩; obtain ⟨Av, cv, rfl⟩ := own_slice hown; have HRl := Lib.hid (Reads.of_own hown); have hx0 := HB0.out.below hb HB0.out.lt; have hx1 := HB1.out.below hb HB1.out.lt; have d0 := fun i => hx0.cell i; have d1 := fun i => hx1.cell i; have HBx := Lib.hid (HBw.out.trans (hb.mono HBw.out.size)); have HX0 := Lib.hid hx0; have HX1 := Lib.hid hx1; clear hb hown hx1 hx0)
            | (go_at_call 68; refine (HF.out _ _ _ _ HRl.out (HX1.out.cell 0)).mono ?_; rintro e w2 ⟨rfl, hb⟩; have hx0 := HX0.out.below hb HX0.out.lt; have hx1 := HX1.out.below hb HX1.out.lt; have f0 := fun i => hx0.cell i; have f1 := fun i => hx1.cell i; have HBy := Lib.hid (HBx.out.trans (hb.mono HBx.out.size)); have HY0 := Lib.hid hx0; clear hb hx1 hx0)
            | (go_at_call 70; refine (HD.out _).mono ?_; rintro e w3 ⟨rfl, rfl⟩)
            | (go_at_call 71; have tk := tok; refine (HQ.out _ HBz.out).mono ?_; rintro e w5 ⟨rfl, hb⟩; have HBu := Lib.hid (HBz.out.trans (hb.mono HBz.out.size)); clear hb)
            | (go_at_call 71; refine (HP.out _ HBy.out).mono ?_; rintro e w4 ⟨rfl, hb⟩; have hx0 := HY0.out.below hb HY0.out.lt; have g0 := fun i => hx0.cell i; have HBz := Lib.hid (HBy.out.trans (hb.mono HBy.out.size)); have tok : True := trivial; clear hb hx0))
            all_goals go_ret
            all_goals exact ⟨by simp_all, HBu.out⟩
      · rw [if_pos ⟨rfl, rfl⟩]
        go_wp2_with (first
          | (go_at_call 42; refine (HE.out _ HBw.out).mono ?_; rintro e w1 ⟨v, rfl, hown, hb⟩; obtain ⟨Av, cv, rfl⟩ := own_slice hown; have HRl := Lib.hid (Reads.of_own hown); have hx1 := HB1.out.below hb HB1.out.lt; have d1 := fun i => hx1.cell i; have HBx := Lib.hid (HBw.out.trans (hb.mono HBw.out.size)); have HX1 := Lib.hid hx1; clear hb hown hx1)
          | (go_at_call 68; refine (HF.out _ _ _ _ HRl.out (HX1.out.cell 0)).mono ?_; rintro e w2 ⟨rfl, hb⟩; have HBy := Lib.hid (HBx.out.trans (hb.mono HBx.out.size)); clear hb))
        go_ret
        exact ⟨rfl, HBy.out⟩
  · have h2b : (x1 == 2) = false := by simp [h2]
    rw [if_neg (fun h => h2 h.1), if_neg (fun h => h2 h.1)]
    clear h2
    cases d
    · rw [if_pos rfl]
      go_wp2_with (go_at_call 70; refine (HD.out _).mono ?_; rintro e w3 ⟨rfl, rfl⟩)
      go_ret
      exact ⟨rfl, HBw.out⟩
    · rw [if_neg (by decide)]
      cases had <;> cases has
      rotate_right
      · go_wp2_with (first
            | (go_at_call 70; refine (HD.out _).mono ?_; rintro e w3 ⟨rfl, rfl⟩)
            | (go_at_call 71; have tk := tok; refine (HQ.out _ HBz.out).mono ?_; rintro e w5 ⟨rfl, hb⟩; have HBu := Lib.hid (HBz.out.trans (hb.mono HBz.out.size)); clear hb)
            | (go_at_call 71; refine (HP.out _ HBw.out).mono ?_; rintro e w4 ⟨rfl, hb⟩; have hx0 := HB0.out.below hb HB0.out.lt; have g0 := fun i => hx0.cell i; have HBz := Lib.hid (HBw.out.trans (hb.mono HBw.out.size)); have tok : True := trivial; clear hb hx0))
        all_goals go_ret
        all_goals exact ⟨by simp_all, HBu.out⟩
      all_goals
        go_wp2_with (first
            | (go_at_call 70; refine (HD.out _).mono ?_; rintro e w3 ⟨rfl, rfl⟩)
            | (go_at_call 71; have tk := tok; refine (HQ.out _ HBz.out).mono ?_; rintro e w5 ⟨rfl, hb⟩; have HBu := Lib.hid (HBz.out.trans (hb.mono HBz.out.size)); clear hb)
            | (go_at_call 71; refine (HP.out _ HBw.out).mono ?_; rintro e w4 ⟨rfl, hb⟩; have hx0 := HB0.out.below hb HB0.out.lt; have g0 := fun i => hx0.cell i; have HBz := Lib.hid (HBw.out.trans (hb.mono HBw.out.size)); have tok : True := trivial; clear hb hx0))
        all_goals go_ret
        all_goals exact ⟨by simp_all, HBu.out⟩
end Go.Proofs.YtgfdmjldfahbpaaGreatDoor.Snd
