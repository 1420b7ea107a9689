/-
  The contracts of the reference's whole numbers, last part: both, Quotient, Euclid. Conditions: the arguments are numbers of 64 bits.
-/
import Derived.Test.YtnjdbkgdinlhfaaRefZ7x
namespace Go.Proofs.Ytnjdbkgdinlhfaa.RefZ
open Go.RowKit Mem Dig Chk

def bothR (q r : Int) : Int := if In64 q then fitV r else 0

set_option maxRecDepth 100000 in
theorem both_any (n1 n2 : Bool) (A B : Option Addr) (n m c d : Nat) (xs ys : List Int) (x y : Int) (L M : Nat) (w : World) (ha : ZD w n1 A n c xs x L) (hb : ZD w n2 B m d ys y M) (hL : L ≤ 1000000) (hM : M ≤ 1000000) :
    Calls Try.prog 36 #[.agg #[.bool n1, .slice A n c], .agg #[.bool n2, .slice B m d]] w fun e w' => e = .returned (.tuple #[.int .i64 (fitV x), .int .i64 (bothR x y), .int .i64 (fitE x)]) ∧ Below w.heap.size w w' := by
  have hbx := box2 w 29 29 #[.bool n1, .slice A n c] #[.bool n2, .slice B m d]
  go_enter Try.func36, Try.ntmps36
  have Ha := Lib.hid ha; have Hb := Lib.hid hb; have Hbx := Lib.hid hbx; clear ha hb hbx
  go_wp2_with fail
  generalize (w.alloc (Obj.cells #[Value.bool n1, Value.slice A n c] 29)).alloc (Obj.cells #[Value.bool n2, Value.slice B m d] 29) = W at *
  obtain ⟨hb0, hb1, hbel, hsz⟩ := Hbx.out
  refine (told_any _ _ _ _ _ _ _ W (Ha.out.below hbel) hL).mono ?_
  rintro e w1 ⟨rfl, hc1⟩
  have Hbel : Hid (Below w.heap.size w w1) := hbel.trans (hc1.mono hbel.size)
  have HB := Lib.hid ((Hb.out.below hbel).below hc1)
  have q2 : w1.cell? ⟨w.heap.size + 1, 0, none⟩ = some (.bool n2) := cell_later hc1 (hb1.cell 0)
  have q3 : w1.cell? ⟨w.heap.size + 1, 1, none⟩ = some (.slice B m d) := cell_later hc1 (hb1.cell 1)
  clear hb0 hb1 hbel hsz hc1 Ha Hb Hbx
  go_wp2_with fail
  refine (told_any _ _ _ _ _ _ _ w1 HB.out hM).mono ?_
  rintro e w2 ⟨rfl, hc2⟩
  have Hbel2 : Hid (Below w.heap.size w w2) := Hbel.out.trans (hc2.mono Hbel.out.size)
  clear hc2 q2 q3 HB
  by_cases hx : In64 x
  · have e1 := fitE_yes hx
    have e2 : bothR x y = fitV y := if_pos hx
    have g : (fitE x != 0) = false := by rw [e1]; rfl
    have E1 := Lib.hid e1; have E2 := Lib.hid e2
    clear e1 e2 hx
    go_wp2
    go_ret3
    rw [E1.out, E2.out]
    exact ⟨rfl, Hbel2.out⟩
  · have e1 := fitE_no hx
    have e2 : bothR x y = 0 := if_neg hx
    have e3 := fitV_no hx
    have g : (fitE x != 0) = true := by rw [e1]; rfl
    have E2 := Lib.hid e2; have E3 := Lib.hid e3
    clear e1 e2 e3 hx
    go_wp2
    go_ret3
    rw [E2.out, E3.out]
    exact ⟨rfl, Hbel2.out⟩

theorem fmod_side (a b : Int) : (0 < b → 0 ≤ a.fmod b ∧ a.fmod b < b) ∧ (b < 0 → b < a.fmod b ∧ a.fmod b ≤ 0) := by
  refine ⟨fun h => ⟨Int.fmod_nonneg_of_pos a h, Int.fmod_lt_of_pos a h⟩, fun h => ?_⟩
  have g1 := Int.fmod_nonneg_of_pos (-a) (show 0 < -b by omega)
  have g2 := Int.fmod_lt_of_pos (-a) (show 0 < -b by omega)
  have e : a.fmod b = -((-a).fmod (-b)) := by rw [Int.neg_fmod_neg]; omega
  omega
theorem quot_in (a b q r : Int) (ha : In64 a) (hs : ¬ (a = -9223372036854775808 ∧ b = -1)) (h : b * q + r = a) (hr : r.natAbs < b.natAbs) : In64 q := by
  unfold In64 at ha ⊢
  rcases Int.lt_trichotomy b 0 with h0 | h0 | h0
  · by_cases h1 : b = -1
    · subst h1; omega
    · refine ⟨Int.not_lt.mp fun h2 => ?_, Int.not_lt.mp fun h2 => ?_⟩
      · have h3 := Int.mul_le_mul_of_nonpos_left (Int.le_of_lt h0) (show q ≤ -9223372036854775809 by omega)
        omega
      · have h3 := Int.mul_le_mul_of_nonpos_left (Int.le_of_lt h0) (show 9223372036854775808 ≤ q by omega)
        omega
  · omega
  · refine ⟨Int.not_lt.mp fun h2 => ?_, Int.not_lt.mp fun h2 => ?_⟩
    · have h3 := Int.mul_le_mul_of_nonneg_left (show q ≤ -9223372036854775809 by omega) (Int.le_of_lt h0)
      omega
    · have h3 := Int.mul_le_mul_of_nonneg_left (show 9223372036854775808 ≤ q by omega) (Int.le_of_lt h0)
      omega
theorem fmod_bound (a b : Int) (h : b ≠ 0) : (a.fmod b).natAbs < b.natAbs := by have := fmod_side a b; omega
theorem quo_facts {a b : Int} (ha : In64 a) (hb : In64 b) (h0 : b ≠ 0) :
    fitV (a.fdiv b) = divV a b ∧ bothR (a.fdiv b) (a.fmod b) = divR a b ∧ fitE (a.fdiv b) = mayE a b := by
  by_cases hs : a = -9223372036854775808 ∧ b = -1
  · obtain ⟨rfl, rfl⟩ := hs
    decide
  · have hm : mayE a b = 0 := by unfold mayE; rw [if_neg h0, if_neg hs]
    have h1 := Int.mul_fdiv_add_fmod a b
    have h2 := fmod_bound a b h0
    have hq : In64 (a.fdiv b) := quot_in a b _ _ ha hs h1 h2
    have hr : In64 (a.fmod b) := by unfold In64 at hb ⊢; omega
    exact ⟨by rw [fitV_yes hq, divV, if_pos hm], by rw [bothR, if_pos hq, fitV_yes hr, divR, if_pos hm], by rw [fitE_yes hq, hm]⟩
theorem euc_facts {a b : Int} (ha : In64 a) (hb : In64 b) (h0 : b ≠ 0) (q r : Int) (h : (a.fmod b < 0 ∧ q = a.fdiv b + 1 ∧ r = a.fmod b - b) ∨ (0 ≤ a.fmod b ∧ q = a.fdiv b ∧ r = a.fmod b)) :
    fitV q = eucV a b ∧ bothR q r = eucR a b ∧ fitE q = mayE a b := by
  by_cases hs : a = -9223372036854775808 ∧ b = -1
  · obtain ⟨rfl, rfl⟩ := hs
    rcases h with ⟨h, _, _⟩ | ⟨_, rfl, rfl⟩
    · exact absurd h (by decide)
    · decide
  · have hm : mayE a b = 0 := by unfold mayE; rw [if_neg h0, if_neg hs]
    have h1 := Int.mul_fdiv_add_fmod a b
    have h2 := fmod_side a b
    have he : a / b = q ∧ a % b = r := by
      refine ediv_of a b q r ?_ ?_
      · rcases h with ⟨_, rfl, rfl⟩ | ⟨_, rfl, rfl⟩
        · rw [Int.mul_add]; omega
        · omega
      · omega
    have h3 := Int.mul_ediv_add_emod a b
    have h4 : (a % b).natAbs < b.natAbs := by omega
    have hq : In64 (a / b) := quot_in a b _ _ ha hs h3 h4
    have hr : In64 (a % b) := by unfold In64 at hb ⊢; omega
    rw [← he.1, ← he.2]
    exact ⟨by rw [fitV_yes hq, eucV, if_pos hm], by rw [bothR, if_pos hq, fitV_yes hr, eucR, if_pos hm], by rw [fitE_yes hq, hm]⟩

set_option maxRecDepth 100000 in
theorem quotient_any (a b : Int) (w : World) (ha : In64 a) (hb : In64 b) :
    Calls Try.prog 23 #[.int .i64 a, .int .i64 b] w fun e w' => e = .returned (.tuple #[.int .i64 (divV a b), .int .i64 (divR a b), .int .i64 (mayE a b)]) ∧ Below w.heap.size w w' := by
  have a0 := ha.1; have a1 := ha.2; have b0 := hb.1; have b1 := hb.2
  by_cases h0 : b = 0
  · have e1 : divV a b = 0 := by simp [divV, mayE, h0]
    have e2 : divR a b = 0 := by simp [divR, mayE, h0]
    have e3 : mayE a b = 3 := by simp [mayE, h0]
    have E1 := Lib.hid e1; have E2 := Lib.hid e2; have E3 := Lib.hid e3
    have g : (b == 0) = true := by simpa using h0
    clear e1 e2 e3 h0 ha hb
    go_enter Try.func23, Try.ntmps23
    go_wp2
    go_ret3
    rw [E1.out, E2.out, E3.out]
    exact ⟨rfl, Below.refl _ _⟩
  · have g : (b == 0) = false := by simpa using h0
    have hf := quo_facts ha hb h0
    have HF := Lib.hid hf
    clear hf ha hb
    go_enter Try.func23, Try.ntmps23
    go_wp2_with fail
    refine (of_any a w a0 a1).mono ?_
    rintro e w1 ⟨v, rfl, ⟨g1, A1, k1, c1, d1, rfl, hz1⟩, hb1⟩
    go_wp2_with fail
    refine (of_any b w1 b0 b1).mono ?_
    rintro e w2 ⟨v, rfl, ⟨g2, A2, k2, c2, d2, rfl, hz2⟩, hb2⟩
    have hz1' := hz1.below hb2
    have L2 := hb1.trans (hb2.mono hb1.size)
    go_wp2_with fail
    refine (divx_any _ _ _ _ _ _ _ _ _ _ _ _ _ _ w2 hz1' hz2 (by omega) (by omega) h0).mono ?_
    rintro e w3 ⟨v1, v2, rfl, ⟨g3, A3, k3, c3, d3, rfl, hz3⟩, ⟨g4, A4, k4, c4, d4, rfl, hz4⟩, hb3⟩
    have L3 := L2.trans (hb3.mono L2.size)
    have hbx := box2 w3 29 29 #[.bool g3, .slice A3 k3 c3] #[.bool g4, .slice A4 k4 c4]
    have HBX := Lib.hid hbx
    clear hz1 hz1' hz2 hb1 hb2 hb3 L2 hbx
    go_wp2_with fail
    generalize (w3.alloc (Obj.cells #[Value.bool g3, Value.slice A3 k3 c3] 29)).alloc (Obj.cells #[Value.bool g4, Value.slice A4 k4 c4] 29) = W at *
    obtain ⟨_, _, hbel, _⟩ := HBX.out
    refine (both_any _ _ _ _ _ _ _ _ _ _ _ _ _ _ W (hz3.below hbel) (hz4.below hbel) (by omega) (by omega)).mono ?_
    rintro e w4 ⟨rfl, hb4⟩
    have L4 : Hid (Below w.heap.size w w4) := (L3.trans (hbel.mono L3.size)).trans (hb4.mono (L3.trans (hbel.mono L3.size)).size)
    clear hb4 hbel
    go_wp2
    go_ret3
    rw [HF.out.1, HF.out.2.1, HF.out.2.2]
    exact ⟨rfl, L4.out⟩

theorem ZD.neg_iff {w : World} {neg : Bool} {A : Option Addr} {n c : Nat} {ds : List Int} {z : Int} {L : Nat} (h : ZD w neg A n c ds z L) : (neg = true ∧ z < 0) ∨ (neg = false ∧ 0 ≤ z) := by
  rcases h.sign with ⟨hn, hz⟩ | ⟨_, hn, hz⟩ | ⟨_, hn, hz⟩
  · refine .inr ⟨h.sgn (List.eq_nil_of_length_eq_zero (by rw [h.sl.len, hn])), by omega⟩
  · exact .inl ⟨hn, hz⟩
  · exact .inr ⟨hn, by omega⟩

set_option maxRecDepth 100000 in
set_option maxHeartbeats 4000000 in
theorem euclidz_any (a b : Int) (w : World) (ha : In64 a) (hb : In64 b) :
    Calls Try.prog 25 #[.int .i64 a, .int .i64 b] w fun e w' => e = .returned (.tuple #[.int .i64 (eucV a b), .int .i64 (eucR a b), .int .i64 (mayE a b)]) ∧ Below w.heap.size w w' := by
  have a0 := ha.1; have a1 := ha.2; have b0 := hb.1; have b1 := hb.2
  by_cases h0 : b = 0
  · have e1 : eucV a b = 0 := by simp [eucV, mayE, h0]
    have e2 : eucR a b = 0 := by simp [eucR, mayE, h0]
    have e3 : mayE a b = 3 := by simp [mayE, h0]
    have E1 := Lib.hid e1; have E2 := Lib.hid e2; have E3 := Lib.hid e3
    have g : (b == 0) = true := by simpa using h0
    clear e1 e2 e3 h0 ha hb
    go_enter Try.func25, Try.ntmps25
    go_wp2
    go_ret3
    rw [E1.out, E2.out, E3.out]
    exact ⟨rfl, Below.refl _ _⟩
  · have g : (b == 0) = false := by simpa using h0
    have hf := euc_facts ha hb h0
    have HF := Lib.hid hf
    clear hf ha hb
    go_enter Try.func25, Try.ntmps25
    go_wp2_with fail
    refine (of_any a w a0 a1).mono ?_
    rintro e w1 ⟨v, rfl, ⟨g1, A1, k1, c1, d1, rfl, hz1⟩, hb1⟩
    go_wp2_with fail
    refine (of_any b w1 b0 b1).mono ?_
    rintro e w2 ⟨v, rfl, ⟨g2, A2, k2, c2, d2, rfl, hz2⟩, hb2⟩
    have hz1' := hz1.below hb2
    have L2 := hb1.trans (hb2.mono hb1.size)
    go_wp2_with fail
    refine (divx_any _ _ _ _ _ _ _ _ _ _ _ _ _ _ w2 hz1' hz2 (by omega) (by omega) h0).mono ?_
    rintro e w3 ⟨v1, v2, rfl, ⟨g3, A3, k3, c3, d3, rfl, hz3⟩, ⟨g4, A4, k4, c4, d4, rfl, hz4⟩, hb3⟩
    have L3 := L2.trans (hb3.mono L2.size)
    have hbx := box2 w3 29 29 #[.bool g3, .slice A3 k3 c3] #[.bool g4, .slice A4 k4 c4]
    have HBX := Lib.hid hbx
    clear hz1 hz1' hz2 hb1 hb2 hb3 L2 hbx
    have hs4 := hz4.neg_iff
    obtain ⟨hq3, hq4, hbel, hsz⟩ := HBX.out
    clear HBX
    have HQ : Hid (Var ((w3.alloc (Obj.cells #[Value.bool g3, Value.slice A3 k3 c3] 29)).alloc (Obj.cells #[Value.bool g4, Value.slice A4 k4 c4] 29)) w3.heap.size g3 A3 k3 c3 d3 (a.fdiv b) (6 + 1000 + 64 * 6)) := ⟨hq3, hz3.below hbel⟩
    have HR : Hid (Var ((w3.alloc (Obj.cells #[Value.bool g3, Value.slice A3 k3 c3] 29)).alloc (Obj.cells #[Value.bool g4, Value.slice A4 k4 c4] 29)) (w3.heap.size + 1) g4 A4 k4 c4 d4 (a.fmod b) (6 + 1000 + 64 * 6)) := ⟨hq4, hz4.below hbel⟩
    have LW : Hid (Below w.heap.size w ((w3.alloc (Obj.cells #[Value.bool g3, Value.slice A3 k3 c3] 29)).alloc (Obj.cells #[Value.bool g4, Value.slice A4 k4 c4] 29))) := L3.trans (hbel.mono L3.size)
    have hw3 : w.heap.size ≤ w3.heap.size := L3.size
    clear hq3 hq4 hbel hsz hz3 hz4 L3
    rcases hs4 with ⟨rfl, hneg⟩ | ⟨rfl, hneg⟩
    · have HF2 := Lib.hid (HF.out (a.fdiv b + 1) (a.fmod b - b) (.inl ⟨hneg, rfl, rfl⟩))
      clear HF hneg
      go_wp2_with fail
      generalize (w3.alloc (Obj.cells #[Value.bool g3, Value.slice A3 k3 c3] 29)).alloc (Obj.cells #[Value.bool true, Value.slice A4 k4 c4] 29) = W at *
      go_cut [] (fun wx => ∃ (g : Bool) (A' : Option Addr) (k' c' : Nat) (d' : List Int), Var wx w3.heap.size g A' k' c' d' (a.fdiv b + 1) 2000 ∧ Var wx (w3.heap.size + 1) true A4 k4 c4 d4 (a.fmod b) (6 + 1000 + 64 * 6) ∧ Below w.heap.size w wx)
      case first =>
        have HQa : Hid (Var W.drew w3.heap.size g3 A3 k3 c3 d3 (a.fdiv b) (6 + 1000 + 64 * 6)) := HQ.out.below (below_drew _)
        have HRa : Hid (Var W.drew (w3.heap.size + 1) true A4 k4 c4 d4 (a.fmod b) (6 + 1000 + 64 * 6)) := HR.out.below (below_drew _)
        have HLa : Hid (Below w.heap.size w W.drew) := LW.out.drew
        obtain ⟨q0, q1, q2, q3⟩ := HQa.out.cells
        go_region_with (first
          | (go_at_call 29; refine (ofU_any 1 W.drew (by omega) (by omega)).mono ?_; rintro e wa ⟨v, rfl, ⟨gf, Af, kf, cf, df, rfl, hzf⟩, hbg⟩; have HQb := Lib.hid (HQa.out.below hbg); have HRb := Lib.hid (HRa.out.below hbg); have HLb := Lib.hid (HLa.out.trans (hbg.mono HLa.out.size)); obtain ⟨u0, u1, u2, u3⟩ := HQb.out.cells)
          | (go_at_call 15; refine (add_any _ _ _ _ _ _ _ _ _ _ _ _ _ _ wa HQb.out.zd hzf (by omega) (by omega)).mono ?_; rintro e wb ⟨v, rfl, ⟨gg, Ag, kg, cg, dg', rfl, hzg⟩, hbh⟩; have HQc := Lib.hid (HQb.out.below hbh); have HRc := Lib.hid (HRb.out.below hbh); have HLc := Lib.hid (HLb.out.trans (hbh.mono HLb.out.size)); obtain ⟨v0, v1, v2, v3⟩ := HQc.out.cells))
        all_goals
          go_wp2_with fail
          go_meet
          exact ⟨gg, Ag, kg, cg, dg', (Var.mine hzg HQc.out.blk).more (by omega), HRc.out.put HQc.out.blk (by omega) _ _, (HLc.out.setCell hw3 _).setCell hw3 _⟩
      case rest =>
        obtain ⟨g5, A5, k5, c5, d5, hq, hr, hl⟩ := hcut
        clear HQ HR LW
        have HQ := Lib.hid hq; have HR := Lib.hid hr; have HL := Lib.hid hl
        clear hq hr hl
        go_wp2_with fail
        go_cut [] (fun wx => ∃ (g : Bool) (A' : Option Addr) (k' c' : Nat) (d' : List Int), Var wx w3.heap.size g5 A5 k5 c5 d5 (a.fdiv b + 1) 2000 ∧ Var wx (w3.heap.size + 1) g A' k' c' d' (a.fmod b - b) 2000 ∧ Below w.heap.size w wx)
        case first =>
          have HQa : Hid (Var wc.drew w3.heap.size g5 A5 k5 c5 d5 (a.fdiv b + 1) 2000) := HQ.out.below (below_drew _)
          have HRa : Hid (Var wc.drew (w3.heap.size + 1) true A4 k4 c4 d4 (a.fmod b) (6 + 1000 + 64 * 6)) := HR.out.below (below_drew _)
          have HLa : Hid (Below w.heap.size w wc.drew) := HL.out.drew
          obtain ⟨q0, q1, q2, q3⟩ := HRa.out.cells
          go_region_with (first
            | (go_at_call 13; refine (of_any b wc.drew b0 b1).mono ?_; rintro e wa ⟨v, rfl, ⟨gf, Af, kf, cf, df, rfl, hzf⟩, hbg⟩; have HQb := Lib.hid (HQa.out.below hbg); have HRb := Lib.hid (HRa.out.below hbg); have HLb := Lib.hid (HLa.out.trans (hbg.mono HLa.out.size)); obtain ⟨u0, u1, u2, u3⟩ := HRb.out.cells)
            | (go_at_call 17; refine (sub_any _ _ _ _ _ _ _ _ _ _ _ _ _ _ wa HRb.out.zd hzf (by omega) (by omega)).mono ?_; rintro e wb ⟨v, rfl, ⟨gg, Ag, kg, cg, dg', rfl, hzg⟩, hbh⟩; have HQc := Lib.hid (HQb.out.below hbh); have HRc := Lib.hid (HRb.out.below hbh); have HLc := Lib.hid (HLb.out.trans (hbh.mono HLb.out.size)); obtain ⟨v0, v1, v2, v3⟩ := HRc.out.cells))
          all_goals
            go_wp2_with fail
            go_meet
            exact ⟨gg, Ag, kg, cg, dg', HQc.out.put HRc.out.blk (by omega) _ _, (Var.mine hzg HRc.out.blk).more (by omega), (HLc.out.setCell (by dsimp only; omega) _).setCell (by dsimp only; omega) _⟩
        case rest =>
          obtain ⟨g6, A6, k6, c6, d6, hq, hr, hl⟩ := hcut
          clear HQ HR HL
          obtain ⟨s0, s1, s2, s3⟩ := hq.cells
          obtain ⟨r0, r1, r2, r3⟩ := hr.cells
          have HQ := Lib.hid hq; have HR := Lib.hid hr; have HL := Lib.hid hl
          clear hq hr hl
          go_wp2_with fail
          refine (both_any _ _ _ _ _ _ _ _ _ _ _ _ _ _ wc HQ.out.zd HR.out.zd (by omega) (by omega)).mono ?_
          rintro e w4 ⟨rfl, hb4⟩
          have L4 : Hid (Below w.heap.size w w4) := HL.out.trans (hb4.mono HL.out.size)
          clear hb4
          go_wp2
          go_ret3
          rw [HF2.out.1, HF2.out.2.1, HF2.out.2.2]
          exact ⟨rfl, L4.out⟩
    · have HF2 := Lib.hid (HF.out (a.fdiv b) (a.fmod b) (.inr ⟨hneg, rfl, rfl⟩))
      clear HF hneg
      go_wp2_with fail
      generalize (w3.alloc (Obj.cells #[Value.bool g3, Value.slice A3 k3 c3] 29)).alloc (Obj.cells #[Value.bool false, Value.slice A4 k4 c4] 29) = W at *
      refine (both_any _ _ _ _ _ _ _ _ _ _ _ _ _ _ W HQ.out.zd HR.out.zd (by omega) (by omega)).mono ?_
      rintro e w4 ⟨rfl, hb4⟩
      have L4 : Hid (Below w.heap.size w w4) := LW.out.trans (hb4.mono LW.out.size)
      clear hb4
      go_wp2
      go_ret3
      rw [HF2.out.1, HF2.out.2.1, HF2.out.2.2]
      exact ⟨rfl, L4.out⟩
end Go.Proofs.Ytnjdbkgdinlhfaa.RefZ
