/-
  The document's sets and an era's end (analemmaref12: Set, End). Conditions: what the source's slices hold is read; right rules; the era's clock is one of three.
-/
import Derived.Test.YtgfdmjldfahbpaaGreatDoorSndV
import Derived.Test.YtgfdmjldfahbpaaGreatDoorAhD
namespace Go.Proofs.YtgfdmjldfahbpaaGreatDoor.Snd
open Go.RowKit Mem Civ Mom Img Plc Rul Src Go.Maps

set_option maxHeartbeats 1000000 in
set_option maxRecDepth 100000 in
theorem rset_any (s : Src) (A A2 A3 : Option Addr) (c c2 c3 : Nat) (nm : ByteArray) (w : World) (h : SrcOk s A A2 A3 w) :
    Calls Tryz.prog 26 #[.agg #[.slice A s.rules.length c, .slice A2 s.zones.length c2, .slice A3 s.links.length c3], .string nm] w fun e w' => ∃ v, e = .returned v ∧ w'.ownsRow w.heap.size 47 11 v (setL s.rules nm).length ((setL s.rules nm).flatMap Rule.cells) ∧ Below w.heap.size w w' := by
  obtain ⟨i1, hi1, hy0, hy1, hy2⟩ := info_parts info_rule
  have hrr := h.rr; have nr := h.nr
  clear h
  obtain ⟨rs, zs, ls⟩ := s
  simp only at hrr nr ⊢
  have hone := One.new w 26 #[.slice A rs.length c, .slice A2 zs.length c2, .slice A3 ls.length c3]
  obtain ⟨W, hW⟩ : ∃ W, w.alloc (.cells #[.slice A rs.length c, .slice A2 zs.length c2, .slice A3 ls.length c3] 26) = W := ⟨_, rfl⟩
  rw [hW] at hone
  have hsz : W.heap.size = w.heap.size + 1 := by rw [← hW]; simp
  have HO := Lib.hid hone; have HR := Lib.hid hrr; have HSz := Lib.hid hsz
  clear hone hrr hsz
  go_enter Tryz.func26, Tryz.ntmps26
  go_wp2_with fail
  go_loopw [5, 6] (fun v i wr => ∃ k : Nat, k ≤ rs.length ∧ i = .int .i64 k ∧ wr.ownsRow W.heap.size 47 11 v (setL (rs.take k) nm).length ((setL (rs.take k) nm).flatMap Rule.cells) ∧ Below W.heap.size W wr) (fun _ i _ => rs.length - (intOf i).toNat)
  case atStart => exact ⟨0, Nat.zero_le _, rfl, World.ownsRow_nil _ _ _ _, Below.refl _ _⟩
  case round =>
    obtain ⟨k, hk, rfl, hown, hb⟩ := hrel
    have hsl := setL_len (rs.take k) nm
    rw [List.length_take] at hsl
    have ho := HO.out.step hb
    have c0 := fun i => ho.1.cell i
    have HOw := Lib.hid hown; have HB := Lib.hid hb; have Hsz := Lib.hid hb.size; have HOr := Lib.hid ho
    clear hown hb ho
    by_cases hkn : k < rs.length
    · obtain ⟨ad, hA, hadb, a0, a1, a2, a3, a4, a5, a6, a7, a8, a9, a10⟩ := rule_cells (HR.out.below HOr.out.2) hkn
      subst hA
      have hst := setL_step (nm := nm) hkn
      have hbq := tl_beq rs[k].name nm
      have HSt := Lib.hid hst
      clear hst
      generalize rs[k] = x at *
      obtain ⟨x0, x1, x2, x3, x4, x5, x6, x7, x8, x9, x10⟩ := x
      simp only at a0 a1 a2 a3 a4 a5 a6 a7 a8 a9 a10 HSt hbq
      have m1 : (setL (rs.take k) nm).length + 1 ≤ maxLen := by unfold maxLen; omega
      have m2 : ((setL (rs.take k) nm).length + 1) * 104 ≤ 140737488355328 := by omega
      have M1 := Lib.hid m1; have M2 := Lib.hid m2
      clear m1 m2 hsl
      cases hd : decide (x0 = nm)
      · rw [hd] at HSt hbq
        go_wp2_with fail
        refine ⟨⟨k + 1, by omega, by go_num, ?_, HB.out⟩, by simp [intOf]; omega⟩
        rw [HSt.out]
        simp only [Bool.false_eq_true, if_false]
        exact HOw.out
      · rw [hd] at HSt hbq
        generalize setL (rs.take k) nm = l1 at *
        go_wp2_with ((at_builtin; refine wpList_append1g wr rfl (.tmp 22) (.tmp 28) 22 rfl W.heap.size 47 i1 _ 11 104 Tryz.underlying22 hi1 hy0 hy1 hy2 rfl (by decide) _ l1.length (l1.flatMap Rule.cells) rfl HOw.out (by simp [Act.eval]) rfl one_rule M1.out M2.out Hsz.out ?_; intro v' wB hown8 hg8; have HO2 := Lib.hid hown8; have HB2 := Lib.hid ((HB.out.alloc Hsz.out _).grown hg8 (by have := Hsz.out; simp; omega) (fun j hj => (HOw.out.lt j hj).1)); clear hown8 hg8))
        refine ⟨⟨k + 1, by omega, by go_num, ?_, HB2.out⟩, by simp [intOf]; omega⟩
        rw [HSt.out]
        simp only [if_true, List.length_append, List.flatMap_append, List.length_cons, List.length_nil, List.flatMap_cons, List.flatMap_nil, List.append_nil]
        exact HO2.out
    · obtain rfl : k = rs.length := by omega
      have hb := HOr.out.2
      have ho2 := HOw.out
      rw [List.take_length] at ho2
      have HO2 := Lib.hid (own_base ho2 (by have := HSz.out; omega : w.heap.size ≤ W.heap.size))
      clear ho2
      go_wp2_with fail
      go_ret
      exact ⟨_, rfl, HO2.out, HOr.out.2⟩
theorem set_right {rs : List Rule} (h : rulesB rs = true) (nm : ByteArray) : rulesB (setL rs nm) = true := by
  unfold rulesB at h ⊢
  rw [List.all_eq_true] at h ⊢
  exact fun r hr => h r (List.mem_filter.1 hr).1
/-- The document's turn ahead of an era's end: its saving is the program's. -/
theorem rahead_c (s : Src) (x : Era) (hk : x.kind = 2) (hn : s.rules.length ≤ 1000000) (hs : rulesB s.rules = true) (Ae : Option Addr) (ce : Nat) (z : World) (hr : Reads z z.heap.size 11 Ae (setL s.rules x.rules).length ((setL s.rules x.rules).flatMap Rule.cells)) :
    Calls Tryz.prog 74 #[.slice Ae (setL s.rules x.rules).length ce, .int .i64 (endT x)] z fun e w' => ∃ (a0 a1 : Int) (a3 : ByteArray) (b : Bool), e = .returned (.tuple #[.agg #[.int .i64 a0, .int .i64 a1, .int .i64 (svF s x), .string a3], .bool b]) ∧ Below z.heap.size z w' := by
  refine (Ahd.refAhead_any (setL s.rules x.rules) Ae ce (endT x) z hr (Nat.le_trans (setL_len _ _) hn) (set_right hs _) (endT_bd x).1 (endT_bd x).2).mono ?_
  rintro e w' ⟨rfl, hb2⟩
  unfold svF setOf
  rw [if_pos hk, Ahd.aheadD_is (set_right hs _)]
  generalize (Ahd.aheadO (setL s.rules x.rules) (endT x)).isSome = b
  obtain ⟨t0, t1, t2, t3⟩ : Turn := (Ahd.aheadO (setL s.rules x.rules) (endT x)).getD Ahd.noTurn
  exact ⟨_, _, _, _, rfl, hb2⟩
set_option maxHeartbeats 2000000 in
set_option maxRecDepth 100000 in
theorem rend_any (s : Src) (A A2 A3 : Option Addr) (c c2 c3 : Nat) (x : Era) (w : World) (h : SrcOk s A A2 A3 w) (hs : rulesB s.rules = true) (hr : 0 ≤ x.spot.ref ∧ x.spot.ref ≤ 2) :
    Calls Tryz.prog 49 #[.agg #[.slice A s.rules.length c, .slice A2 s.zones.length c2, .slice A3 s.links.length c3], .agg x.cells.toArray] w fun e w' => e = .returned (.int .i64 (endI x (svF s x))) ∧ Below w.heap.size w w' := by
  have hb2 := box2 w 26 45 #[.slice A s.rules.length c, .slice A2 s.zones.length c2, .slice A3 s.links.length c3] x.cells.toArray
  have HL := Lib.hid (fun z => R09.local_any x.spot x.year z)
  have HS := Lib.hid (fun z (hb : Below w.heap.size w z) => rset_any s A A2 A3 c c2 c3 x.rules z (h.below hb))
  have HA := Lib.hid (fun hk => rahead_c s x hk h.nr hs)
  have nr := h.nr
  clear h hs
  obtain ⟨T, hT⟩ : ∃ T, endT x = T := ⟨_, rfl⟩
  obtain ⟨S, hS⟩ : ∃ S, svF s x = S := ⟨_, rfl⟩
  unfold endI endA savI
  rw [hT, hS] at HA
  rw [hT, hS]
  obtain ⟨q, hq⟩ : ∃ q, (localO x.spot x.year).isSome = q := ⟨_, rfl⟩
  have hd : dayV (localO x.spot x.year) = .tuple #[.int .i64 T, .bool q] := by
    rw [← hT, ← hq]
    unfold endT
    cases localO x.spot x.year <;> rfl
  rw [hd] at HL
  clear hd hq hT hS
  obtain ⟨rs, zs, ls⟩ := s
  obtain ⟨x0, x1, x2, x3, x4, x5, x6, ⟨y0, y1, y2, y3, y4, y5⟩⟩ := x
  simp only [Era.cells, Spot.cells] at hb2 HL HS HA nr hr ⊢
  obtain ⟨W, hW⟩ : ∃ W, (w.alloc (.cells #[.slice A rs.length c, .slice A2 zs.length c2, .slice A3 ls.length c3] 26)).alloc (.cells #[.int .i64 x0, .int .i64 x1, .int .i64 x2, .string x3, .string x4, .bool x5, .int .i64 x6, .int .i64 y0, .int .i64 y1, .int .i64 y2, .int .i64 y3, .int .i64 y4, .int .i64 y5] 45) = W := ⟨_, rfl⟩
  rw [hW] at hb2
  obtain ⟨b0, b1, hbw, hsz⟩ := hb2
  have HB0 := Lib.hid b0; have HB1 := Lib.hid b1; have HBw := Lib.hid hbw
  have c1 := fun i => b1.cell i
  clear b0 b1 hbw
  go_enter Tryz.func49, Tryz.ntmps49
  rcases (by omega : y5 = 2 ∨ y5 = 1 ∨ y5 = 0) with rfl | rfl | rfl
  · clear HA HS
    go_wp2_with (go_at_call 73; refine (HL.out _).mono ?_; rintro e w1 ⟨rfl, hb⟩; have hx1 := HB1.out.below hb HB1.out.lt; have c2 := fun i => hx1.cell i; have HBx := Lib.hid (HBw.out.trans (hb.mono HBw.out.size)); clear hb hx1)
    go_ret
    exact ⟨rfl, HBx.out⟩
  · clear HA HS
    go_wp2_with (go_at_call 73; refine (HL.out _).mono ?_; rintro e w1 ⟨rfl, hb⟩; have hx1 := HB1.out.below hb HB1.out.lt; have c2 := fun i => hx1.cell i; have HBx := Lib.hid (HBw.out.trans (hb.mono HBw.out.size)); clear hb hx1)
    go_ret
    exact ⟨rfl, HBx.out⟩
  · by_cases hk : x1 = 2
    · subst hk
      have HA2 := Lib.hid (HA.out rfl)
      clear HA
      go_wp2_with (first
        | (go_at_call 73; refine (HL.out _).mono ?_; rintro e w1 ⟨rfl, hb⟩; have hx0 := HB0.out.below hb HB0.out.lt; have hx1 := HB1.out.below hb HB1.out.lt; have c2 := fun i => hx1.cell i; have d2 := fun i => hx0.cell i; have HX0 := Lib.hid hx0; have HX1 := Lib.hid hx1; have HBx := Lib.hid (HBw.out.trans (hb.mono HBw.out.size)); clear hb hx0 hx1)
        | (go_at_call 26; refine (HS.out _ HBx.out).mono ?_; rintro e w2 ⟨v, rfl, hown, hb⟩; obtain ⟨Av, cv, rfl⟩ := own_slice hown; have hx1 := HX1.out.below hb HX1.out.lt; have HRv := Lib.hid (Reads.of_own hown); have HY1 := Lib.hid hx1; have HBy := Lib.hid (HBx.out.trans (hb.mono HBx.out.size)); clear hb hx1 hown)
        | (go_at_call 74; refine (HA2.out _ _ _ HRv.out).mono ?_; rintro e w3 ⟨a0, a1, a3, b, rfl, hb⟩; have hx1 := HY1.out.below hb HY1.out.lt; have c3 := fun o i => (hx1.alloc o).cell i; have HBz := Lib.hid (HBy.out.trans (hb.mono HBy.out.size)); clear hb hx1))
      go_ret
      exact ⟨rfl, HBz.out.alloc HBz.out.size _⟩
    · have hkb : (x1 == 2) = false := by simp [hk]
      simp only [if_neg hk]
      clear HA HS hk
      go_wp2_with (go_at_call 73; refine (HL.out _).mono ?_; rintro e w1 ⟨rfl, hb⟩; have hx1 := HB1.out.below hb HB1.out.lt; have c2 := fun i => hx1.cell i; have HBx := Lib.hid (HBw.out.trans (hb.mono HBw.out.size)); clear hb hx1)
      go_ret
      exact ⟨rfl, HBx.out⟩
end Go.Proofs.YtgfdmjldfahbpaaGreatDoor.Snd
