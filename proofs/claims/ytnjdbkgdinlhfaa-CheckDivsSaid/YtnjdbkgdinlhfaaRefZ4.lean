/-
  The contracts of the reference's whole numbers, fourth part: Fits, Told. Conditions: the numbers are Z values whose digits lie in memory, of a bounded length.
-/
import Derived.Test.YtnjdbkgdinlhfaaRefZ3
import Derived.Test.YtnjdbkgdinlhfaaChk
namespace Go.Proofs.Ytnjdbkgdinlhfaa.RefZ
open Go.RowKit Mem Dig Chk

def decIn (z : Int) : Bool := decide (In64 z)

set_option maxRecDepth 100000 in
set_option maxHeartbeats 4000000 in
/-- The test ahead of the loop, and what stands behind it. -/
theorem fits_any (neg : Bool) (A : Option Addr) (n c : Nat) (ds : List Int) (z : Int) (L : Nat) (w : World) (h : ZD w neg A n c ds z L) (hL : L ≤ 1000000) :
    Calls Try.prog 26 #[.agg #[.bool neg, .slice A n c]] w fun e w' => e = .returned (.tuple #[.int .i64 (fitV z), .bool (decIn z)]) ∧ Below w.heap.size w w' := by
  have hbx := box1 w 29 #[.bool neg, .slice A n c]
  have hcp := h.sl.cap
  have hcm := h.sl.capm
  unfold maxLen at hcm
  go_enter Try.func26, Try.ntmps26
  have Ha := Lib.hid h; have Hbx := Lib.hid hbx; clear h hbx
  go_wp2_with fail
  generalize w.alloc (Obj.cells #[Value.bool neg, Value.slice A n c] 29) = W at *
  obtain ⟨hb0, hbel, hsz⟩ := Hbx.out
  have HA : Hid (ZD W.drew neg A n c ds z L) := (Ha.out.below hbel).below (below_drew W)
  have HB : Hid (Below w.heap.size w W.drew) := hbel.drew
  have q0 : W.drew.cell? ⟨w.heap.size, 0, none⟩ = some (.bool neg) := hb0.cell 0
  have q1 : W.drew.cell? ⟨w.heap.size, 1, none⟩ = some (.slice A n c) := hb0.cell 1
  clear hbel Hbx hb0 Ha
  have hszd : w.heap.size < W.drew.heap.size := hsz
  by_cases h1 : two 63 ≤ z
  · have t1 : decide (0 ≤ cmpI z (two 63)) = true := by
      rcases cmpI_cases z (two 63) with ⟨h, e⟩ | ⟨h, e⟩ | ⟨h, e⟩ <;> rw [e] <;> first | rfl | omega
    have hni : ¬ In64 z := by rw [two_63] at h1; unfold In64; omega
    have e1 := fitV_no hni
    have e2 : decIn z = false := decide_eq_false hni
    have E1 := Lib.hid e1; have E2 := Lib.hid e2
    clear e1 e2 h1 hni
    go_region_with (first
        | (go_at_call 38; refine (power_any 63 W.drew (by omega)).mono ?_; rintro e w1 ⟨v, rfl, ⟨neg1, A1, k1, c1, ds1, rfl, hz1⟩, hb1⟩; have HA1 : Hid (ZD w1 neg A n c ds z L) := HA.out.below hb1; have HB1 : Hid (Below w.heap.size w w1) := HB.out.trans (hb1.mono (by omega)); have k0 : w1.cell? ⟨w.heap.size, 0, none⟩ = some (.bool neg) := cell_later hb1 q0; have k1 : w1.cell? ⟨w.heap.size, 1, none⟩ = some (.slice A n c) := cell_later hb1 q1)
        | (go_at_call 37; refine (cmp_any neg neg1 A A1 n _ c c1 ds ds1 z (two 63) L (63 + 4) w1 HA1.out hz1 hL (by omega)).mono ?_; rintro e w2 ⟨rfl, hb2⟩; have HB2 : Hid (Below w.heap.size w w2) := HB1.out.trans (hb2.mono HB1.out.size)))
    all_goals
      go_wp2
      go_ret2
      rw [E1.out, E2.out]
      exact ⟨rfl, HB2.out⟩
  · have t1 : decide (0 ≤ cmpI z (two 63)) = false := by
      rcases cmpI_cases z (two 63) with ⟨h, e⟩ | ⟨h, e⟩ | ⟨h, e⟩ <;> rw [e] <;> first | rfl | omega
    by_cases h2 : z < -two 63
    · have t2 : decide (cmpI z (-two 63) < 0) = true := by
        rcases cmpI_cases z (-two 63) with ⟨h, e⟩ | ⟨h, e⟩ | ⟨h, e⟩ <;> rw [e] <;> first | rfl | omega
      have hni : ¬ In64 z := by rw [two_63] at h2; unfold In64; omega
      have e1 := fitV_no hni
      have e2 : decIn z = false := decide_eq_false hni
      have E1 := Lib.hid e1; have E2 := Lib.hid e2
      clear e1 e2 h1 hni h2
      go_region_held3 (fun w' => w'.cell? ⟨w.heap.size, 0, none⟩ = some (.bool neg) ∧ w'.cell? ⟨w.heap.size, 1, none⟩ = some (.slice A n c)) ((simp [*]; done))
      (first
        | (go_at_call 38; have tk := tokC; refine (power_any 63 w2 (by omega)).mono ?_; rintro e w3 ⟨v, rfl, ⟨neg3, A3, k3, c3, ds3, rfl, hz3⟩, hb3⟩; have HA3 : Hid (ZD w3 neg A n c ds z L) := HA2.out.below hb3; have HB3 : Hid (Below w.heap.size w w3) := HB2.out.trans (hb3.mono HB2.out.size); have kk3 := keep2 (by assumption) hb3)
        | (go_at_call 38; refine (power_any 63 W.drew (by omega)).mono ?_; rintro e w1 ⟨v, rfl, ⟨neg1, A1, k1, c1, ds1, rfl, hz1⟩, hb1⟩; have HA1 : Hid (ZD w1 neg A n c ds z L) := HA.out.below hb1; have HB1 : Hid (Below w.heap.size w w1) := HB.out.trans (hb1.mono HB.out.size); have kk := keep2 (by assumption) hb1)
        | (go_at_call 19; refine (neg_any neg3 A3 k3 c3 ds3 (two 63) (63 + 4) w3 hz3).mono ?_; rintro e w4 ⟨v, rfl, ⟨neg4, A4, k4, c4, ds4, rfl, hz4⟩, hb4⟩; have HA4 : Hid (ZD w4 neg A n c ds z L) := HA3.out.below hb4; have HB4 : Hid (Below w.heap.size w w4) := HB3.out.trans (hb4.mono HB3.out.size); have kk4 := keep2 (by assumption) hb4; have tokN : True := trivial)
        | (go_at_call 37; have tk := tokN; refine (cmp_any neg neg4 A A4 n k4 c c4 ds ds4 z (-two 63) L (63 + 4) w4 HA4.out hz4 hL (by omega)).mono ?_; rintro e w5 ⟨rfl, hb5⟩; have HB5 : Hid (Below w.heap.size w w5) := HB4.out.trans (hb5.mono HB4.out.size); have HA5 : Hid (ZD w5 neg A n c ds z L) := HA4.out.below hb5; have kk5 := keep2 (by assumption) hb5)
        | (go_at_call 37; refine (cmp_any neg neg1 A A1 n k1 c c1 ds ds1 z (two 63) L (63 + 4) w1 HA1.out hz1 hL (by omega)).mono ?_; rintro e w2 ⟨rfl, hb2⟩; have HB2 : Hid (Below w.heap.size w w2) := HB1.out.trans (hb2.mono HB1.out.size); have HA2 : Hid (ZD w2 neg A n c ds z L) := HA1.out.below hb2; have kk2 := keep2 (by assumption) hb2; have tokC : True := trivial))
      go_wp2
      go_ret2
      rw [E1.out, E2.out]
      exact ⟨rfl, HB5.out⟩
    · have t2 : decide (cmpI z (-two 63) < 0) = false := by
        rcases cmpI_cases z (-two 63) with ⟨h, e⟩ | ⟨h, e⟩ | ⟨h, e⟩ <;> rw [e] <;> first | rfl | omega
      have hni : In64 z := by rw [two_63] at h1 h2; unfold In64; omega
      have e1 := fitV_yes hni
      have e2 : decIn z = true := decide_eq_true hni
      have E1 := Lib.hid e1; have E2 := Lib.hid e2; have E3 := Lib.hid hni
      clear e1 e2 h1 hni h2
      go_region_held3 (fun w' => w'.cell? ⟨w.heap.size, 0, none⟩ = some (.bool neg) ∧ w'.cell? ⟨w.heap.size, 1, none⟩ = some (.slice A n c)) ((simp [*]; done))
      (first
        | (go_at_call 38; have tk := tokC; refine (power_any 63 w2 (by omega)).mono ?_; rintro e w3 ⟨v, rfl, ⟨neg3, A3, k3, c3, ds3, rfl, hz3⟩, hb3⟩; have HA3 : Hid (ZD w3 neg A n c ds z L) := HA2.out.below hb3; have HB3 : Hid (Below w.heap.size w w3) := HB2.out.trans (hb3.mono HB2.out.size); have kk3 := keep2 (by assumption) hb3)
        | (go_at_call 38; refine (power_any 63 W.drew (by omega)).mono ?_; rintro e w1 ⟨v, rfl, ⟨neg1, A1, k1, c1, ds1, rfl, hz1⟩, hb1⟩; have HA1 : Hid (ZD w1 neg A n c ds z L) := HA.out.below hb1; have HB1 : Hid (Below w.heap.size w w1) := HB.out.trans (hb1.mono HB.out.size); have kk := keep2 (by assumption) hb1)
        | (go_at_call 19; refine (neg_any neg3 A3 k3 c3 ds3 (two 63) (63 + 4) w3 hz3).mono ?_; rintro e w4 ⟨v, rfl, ⟨neg4, A4, k4, c4, ds4, rfl, hz4⟩, hb4⟩; have HA4 : Hid (ZD w4 neg A n c ds z L) := HA3.out.below hb4; have HB4 : Hid (Below w.heap.size w w4) := HB3.out.trans (hb4.mono HB3.out.size); have kk4 := keep2 (by assumption) hb4; have tokN : True := trivial)
        | (go_at_call 37; have tk := tokN; refine (cmp_any neg neg4 A A4 n k4 c c4 ds ds4 z (-two 63) L (63 + 4) w4 HA4.out hz4 hL (by omega)).mono ?_; rintro e w5 ⟨rfl, hb5⟩; have HB5 : Hid (Below w.heap.size w w5) := HB4.out.trans (hb5.mono HB4.out.size); have HA5 : Hid (ZD w5 neg A n c ds z L) := HA4.out.below hb5; have kk5 := keep2 (by assumption) hb5)
        | (go_at_call 37; refine (cmp_any neg neg1 A A1 n k1 c c1 ds ds1 z (two 63) L (63 + 4) w1 HA1.out hz1 hL (by omega)).mono ?_; rintro e w2 ⟨rfl, hb2⟩; have HB2 : Hid (Below w.heap.size w w2) := HB1.out.trans (hb2.mono HB1.out.size); have HA2 : Hid (ZD w2 neg A n c ds z L) := HA1.out.below hb2; have kk2 := keep2 (by assumption) hb2; have tokC : True := trivial))
      have r0 := kk5.1
      have r1 := kk5.2
      clear t1 t2 q0 q1 hb1 hb2 hb3 hb4 hb5 hz1 hz3 hz4
      go_wp2
      have HZ5 := HA5.out
      have hdz := HZ5.canon.1
      have hln := HZ5.sl.len
      have hval := HZ5.val
      have Hd := Lib.hid hdz; have Hln := Lib.hid hln; have Hval := Lib.hid hval; have HS := Lib.hid HZ5.sl
      clear HZ5 hdz hln hval HA5 HA4 HA3 HA2 HA1 HA kk kk2 kk3 kk4 kk5
      have hn0 : 0 ≤ (n : Int) := Int.natCast_nonneg _
      go_loop [4, 5] (fun v i => ∃ k : Nat, k ≤ n ∧ i = .int .i64 ((k : Int) - 1) ∧ v = .int .i64 (sg neg * dval (ds.drop k))) (fun _ i => (intOf i + 1).toNat)
      case atStart => exact ⟨n, Nat.le_refl _, rfl, by rw [List.drop_eq_nil_of_le (by rw [Hln.out]; exact Nat.le_refl _)]; simp [dval_nil]⟩
      case round =>
        obtain ⟨k, hk, rfl, rfl⟩ := hrel
        by_cases hk0 : 0 < k
        · obtain ⟨k, rfl⟩ : ∃ j, k = j + 1 := ⟨k - 1, by omega⟩
          obtain ⟨ad, rfl, hcell⟩ := HS.out.cell (k := k) (by omega)
          have hdg := Hd.out.at_ k
          have hstep := dval_drop (ds := ds) (k := k) (by rw [Hln.out]; omega)
          have hle := dval_drop_le Hd.out k
          have hnn := dval_nonneg (Hd.out.drop (k + 1))
          obtain ⟨q, hq⟩ : ∃ q, dval (ds.drop (k + 1)) = q := ⟨_, rfl⟩
          obtain ⟨x, hx⟩ : ∃ x, dg ds k = x := ⟨_, rfl⟩
          have hi := E3.out
          unfold In64 at hi
          rw [hq, hx] at hstep
          rw [hq] at hnn
          rw [hx] at hdg hcell
          rw [hstep] at hle
          have Hst := Lib.hid hstep; have Hq := Lib.hid hq
          clear hstep hx
          cases neg
          · have hz : z = dval ds := by rw [Hval.out, sg_false]
            have b1 : q * 65536 + x ≤ 9223372036854775807 := by omega
            have b2 : q * 65536 ≤ 9223372036854775807 := by omega
            rw [hq, sg_false]
            clear hi hz hq hle
            go_wp2
            go_round
            case rel => exact ⟨k, by omega, by go_num, by rw [Hst.out, sg_false]; go_num⟩
            case measure => simp [intOf]
          · have hz : z = -dval ds := by rw [Hval.out, sg_true]
            have b1 : -9223372036854775808 ≤ -q * 65536 + -x := by omega
            have b2 : -9223372036854775808 ≤ -q * 65536 := by omega
            rw [hq, sg_true]
            clear hi hz hq hle
            go_wp2
            go_round
            case rel => exact ⟨k, by omega, by go_num, by rw [Hst.out, sg_true]; go_num⟩
            case measure => simp [intOf]
        · obtain rfl : k = 0 := by omega
          go_wp2
          go_ret2
          rw [E1.out, E2.out, Hval.out]
          exact ⟨rfl, HB5.out⟩

set_option maxRecDepth 100000 in
theorem told_any (neg : Bool) (A : Option Addr) (n c : Nat) (ds : List Int) (z : Int) (L : Nat) (w : World) (h : ZD w neg A n c ds z L) (hL : L ≤ 1000000) :
    Calls Try.prog 11 #[.agg #[.bool neg, .slice A n c]] w fun e w' => e = .returned (.tuple #[.int .i64 (fitV z), .int .i64 (fitE z)]) ∧ Below w.heap.size w w' := by
  have hbx := box1 w 29 #[.bool neg, .slice A n c]
  go_enter Try.func11, Try.ntmps11
  have Ha := Lib.hid h; have Hbx := Lib.hid hbx; clear h hbx
  go_wp2_with fail
  generalize w.alloc (Obj.cells #[Value.bool neg, Value.slice A n c] 29) = W at *
  obtain ⟨hb0, hbel, hsz⟩ := Hbx.out
  refine (fits_any neg A n c ds z L W (Ha.out.below hbel) hL).mono ?_
  rintro e w1 ⟨rfl, hb1⟩
  have Hb : Hid (Below w.heap.size w w1) := hbel.trans (hb1.mono hbel.size)
  clear hb0 hbel hb1 Hbx Ha
  cases hz : decIn z
  · have hni : ¬ In64 z := by unfold decIn at hz; simpa using hz
    have e1 := fitV_no hni
    have e2 := fitE_no hni
    have E1 := Lib.hid e1; have E2 := Lib.hid e2
    clear e1 e2 hni
    go_wp2
    go_ret2
    rw [E1.out, E2.out]
    exact ⟨rfl, Hb.out⟩
  · have hni : In64 z := by unfold decIn at hz; simpa using hz
    have e2 := fitE_yes hni
    have E2 := Lib.hid e2
    clear e2 hni
    go_wp2
    go_ret2
    rw [E2.out]
    exact ⟨rfl, Hb.out⟩
end Go.Proofs.Ytnjdbkgdinlhfaa.RefZ
