/-
  The document's phases (package analemmaref12): sign, twice, Told, Abbr, Phase. Conditions: bounded texts and offsets.
  The document's sign, twice, Told, Abbr (package analemmaref12). Conditions: bounded texts and offsets.
-/
import Derived.Test.YtdicedpklpadgaaGreatDoorY17
import Derived.Lib.RabinKarpLaws
import Derived.Test.YtdicedpklpadgaaGreatDoorTKR11Pc
import Derived.Test.YtdicedpklpadgaaGreatDoorY02
import Derived.Test.YtdicedpklpadgaaGreatDoorY01
set_option linter.all false
section
namespace Go.Proofs.YtdicedpklpadgaaGreatDoor.Cmq
open Go.RowKit Mem Img Abr

theorem replace1_hit {s old new : List UInt8} {i : Nat} (h : Lib.index s old = i) : Lib.replace s old new 1 = s.take i ++ new ++ s.drop (i + old.length) := by
  unfold Lib.replace
  split
  · next he =>
    have he : old = new := by simpa using he
    subst he
    rcases Lib.index_spec s old with ⟨h1, _⟩ | ⟨j, h1, h2, h3, _⟩
    · omega
    · obtain rfl : i = j := by omega
      unfold Lib.occAt at h3
      obtain ⟨t, ht⟩ := List.isPrefixOf_iff_prefix.1 h3
      have hd : s.drop (i + old.length) = t := by
        rw [← List.drop_drop, ← ht, List.drop_left]
      rw [hd, List.append_assoc, ht, List.take_append_drop]
  · have hc : 1 ≤ Lib.count s old := by
      unfold Lib.count Lib.countFrom
      rw [if_neg (by rw [h, beq_iff_eq]; omega)]
      omega
    have hn : Lib.replaceNum s old 1 = 1 := by
      unfold Lib.replaceNum
      rw [if_neg (by omega)]
      rfl
    rw [hn, Lib.replaceK_hit _ _ _ _ _ h]
    rfl
theorem pre_eq (f : ByteArray) (i : Nat) : (⟨(f.data.toList.take i).toArray⟩ : ByteArray) = f.extract 0 i := by
  rw [Lib.extract_eq]
  simp
theorem suf_eq (f : ByteArray) (i : Nat) : (⟨(f.data.toList.drop i).toArray⟩ : ByteArray) = f.extract i f.size := by
  rw [Lib.extract_eq]
  congr 2
  rw [List.take_of_length_le]
  rw [List.length_drop, ← Lib.size_eq]
  exact Nat.le_refl _
theorem mk_app (a b : List UInt8) : (⟨(a ++ b).toArray⟩ : ByteArray) = ⟨a.toArray⟩ ++ ⟨b.toArray⟩ := by
  refine ByteArray.ext ?_
  rw [ByteArray.data_append]
  simp
theorem rep_eq {f new : ByteArray} {old : List UInt8} {i : Nat} (h : Lib.index f.data.toList old = i) : (⟨(Lib.replace f.data.toList old new.data.toList 1).toArray⟩ : ByteArray) = f.extract 0 i ++ new ++ f.extract (i + old.length) f.size := by
  rw [replace1_hit h, mk_app, mk_app, pre_eq, suf_eq, Lib.mk_data]
section
variable {f l : ByteArray} {off save : Int} {i : Nat}
theorem abbr_s (h : Lib.index f.data.toList [37, 115] = i) : abbrB f l off save = f.extract 0 i ++ l ++ f.extract (i + 2) f.size := by
  unfold abbrB Lib.contains
  rw [if_pos (by rw [h]; exact decide_eq_true (by omega)), rep_eq h]
  rfl
theorem abbr_z (h0 : Lib.index f.data.toList [37, 115] = -1) (h : Lib.index f.data.toList [37, 122] = i) : abbrB f l off save = f.extract 0 i ++ toldB off ++ f.extract (i + 2) f.size := by
  unfold abbrB Lib.contains
  rw [if_neg (by rw [h0]; decide), if_pos (by rw [h]; exact decide_eq_true (by omega)), rep_eq h]
  rfl
theorem abbr_no (h0 : Lib.index f.data.toList [37, 115] = -1) (h1 : Lib.index f.data.toList [37, 122] = -1) (h : Lib.index f.data.toList [47] = -1) : abbrB f l off save = f := by
  unfold abbrB Lib.contains Lib.cut
  have hc : ¬ 0 ≤ Lib.index f.data.toList [47] := by omega
  rw [if_neg (by rw [h0]; decide), if_neg (by rw [h1]; decide)]
  simp only [if_neg hc, Bool.false_and, Bool.false_eq_true, if_false]
theorem abbr_a (h0 : Lib.index f.data.toList [37, 115] = -1) (h1 : Lib.index f.data.toList [37, 122] = -1) (h : Lib.index f.data.toList [47] = i) (hs : save = 0) : abbrB f l off save = f.extract 0 i := by
  unfold abbrB Lib.contains Lib.cut
  rw [if_neg (by rw [h0]; decide), if_neg (by rw [h1]; decide), if_pos (show 0 ≤ Lib.index f.data.toList [47] by omega), if_neg (by simp [hs]), h]
  exact pre_eq f i
theorem abbr_b (h0 : Lib.index f.data.toList [37, 115] = -1) (h1 : Lib.index f.data.toList [37, 122] = -1) (h : Lib.index f.data.toList [47] = i) (hs : save ≠ 0) : abbrB f l off save = f.extract (i + 1) f.size := by
  unfold abbrB Lib.contains Lib.cut
  rw [if_neg (by rw [h0]; decide), if_neg (by rw [h1]; decide), if_pos (show 0 ≤ Lib.index f.data.toList [47] by omega), if_pos (by simp [hs]), h]
  exact suf_eq f (i + 1)
end
end Go.Proofs.YtdicedpklpadgaaGreatDoor.Cmq
end
section
namespace Go.Proofs.YtdicedpklpadgaaGreatDoor.Cmq
open Go.RowKit Mem Civ Img Abr

set_option maxHeartbeats 2000000 in
set_option maxRecDepth 100000 in
theorem sign_any (s t : ByteArray) (w : World) (hs : s.size ≤ 2097152) (h0 : 0 < t.size) (ht : t.size ≤ 2097152) :
    Calls Tryz.prog 150 #[.string s, .string t] w fun e w' => e = .returned (.int .i64 (Lib.index s.data.toList t.data.toList)) ∧ w' = w := by
  have hno : ∀ j, s.size < j + t.size → Lib.occAt s.data.toList t.data.toList j = false := fun j hj => by
    cases ho : Lib.occAt s.data.toList t.data.toList j
    · rfl
    · exfalso
      rcases Lib.occAt_room ho with h | h
      · rw [← Lib.size_eq, ← Lib.size_eq] at h
        omega
      · have h2 : t.size = 0 := by rw [Lib.size_eq, h]; rfl
        omega
  have HNo := Lib.hid hno
  clear hno
  go_enter Tryz.func150, Tryz.ntmps150
  go_wp2
  go_loop [5] (fun i => ∃ k : Nat, i = .int .i64 k ∧ k ≤ s.size + 1 ∧ ∀ j, j < k → Lib.occAt s.data.toList t.data.toList j = false) (fun i => s.size + 2 - (intOf i).toNat)
  case atStart => exact ⟨0, rfl, by omega, fun j h => by omega⟩
  case round =>
    obtain ⟨k, rfl, hk, hpre⟩ := hrel
    have HPre := Lib.hid hpre
    clear hpre
    by_cases hkn : k + t.size ≤ s.size
    · have hle : decide ((k : Int) + (t.size : Nat) ≤ (s.size : Nat)) = true := decide_eq_true (by omega)
      have hp := (Lib.occ_of_piece s t k hkn).symm
      cases ho : Lib.occAt s.data.toList t.data.toList k
      · rw [ho] at hp
        have HO := Lib.hid ho
        clear ho
        go_wp2
        go_round
        case rel => exact ⟨k + 1, by go_num, by omega, fun j hj => by
          rcases Nat.lt_or_ge j k with h | h
          · exact HPre.out j h
          · obtain rfl : j = k := by omega
            exact HO.out⟩
        case measure => simp [intOf]; omega
      · rw [ho] at hp
        have HI : Hid (Lib.index s.data.toList t.data.toList = (k : Int)) := Lib.index_first (by rw [← Lib.size_eq]; omega) ho HPre.out
        clear ho
        go_wp2
        go_ret
        exact ⟨by rw [HI.out]; rfl, rfl⟩
    · have hle : decide ((k : Int) + (t.size : Nat) ≤ (s.size : Nat)) = false := decide_eq_false (by omega)
      have HI : Hid (Lib.index s.data.toList t.data.toList = -1) := Lib.index_none fun j hj => by
        rcases Nat.lt_or_ge j k with h | h
        · exact HPre.out j h
        · exact HNo.out j (by omega)
      go_wp2
      go_ret
      exact ⟨by rw [HI.out]; rfl, rfl⟩
theorem dig_one {n : Int} (h0 : 0 ≤ n) (h1 : n ≤ 9) (w : World) : (convert 157 9 (.slice (some ⟨w.heap.size, 0, none⟩) 1 1)).run Tryz.prog (w.alloc (.cells #[.int .u8 (48 + n)] 5)) = .ok (.string ⟨#[digB n]⟩) (w.alloc (.cells #[.int .u8 (48 + n)] 5)) := by
  have h := dig_text (n := n) w
  rw [show n % 10 = n from by omega] at h
  exact h
theorem zero_two {n : Int} (h0 : 0 ≤ n) (h1 : n ≤ 9) : (⟨#[48]⟩ : ByteArray) ++ ⟨#[digB n]⟩ = twoB n := by
  unfold twoB
  rw [show n / 10 % 10 = 0 from by omega, show n % 10 = n from by omega]
  rfl
theorem two_two (n : Int) (h : n / 10 ≤ 9) (h0 : 0 ≤ n) : (⟨#[digB (n / 10)]⟩ : ByteArray) ++ ⟨#[digB (n % 10)]⟩ = twoB n := by
  unfold twoB
  rw [show n / 10 % 10 = n / 10 from by omega]
  rfl
theorem one_none (b : UInt8) : (⟨#[b]⟩ : ByteArray) ++ ⟨#[]⟩ = ⟨#[b]⟩ := rfl
set_option maxHeartbeats 2000000 in
set_option maxRecDepth 100000 in
theorem twice_pos (n : Int) (w : World) (h0 : 0 ≤ n) (h1 : n ≤ 99) :
    Calls Tryz.prog 186 #[.int .i64 n] w fun e w' => e = .returned (.string (twoB n)) ∧ Below w.heap.size w w' := by
  have g1 : decide (-10 < n) = true := decide_eq_true (by omega)
  have g3 : decide (n < 0) = false := decide_eq_false (by omega)
  go_enter Tryz.func186, Tryz.ntmps186
  by_cases h9 : n < 10
  · have g2 : decide (n < 10) = true := decide_eq_true h9
    have hc := dig_one (n := n) h0 (by omega) w
    have he := zero_two (n := n) h0 (by omega)
    have HB := Lib.hid ((Below.refl w.heap.size w).alloc (Nat.le_refl _) (.cells #[.int .u8 (48 + n)] 5))
    go_wp2
    go_ret
    exact ⟨rfl, HB.out⟩
  · have g2 : decide (n < 10) = false := decide_eq_false h9
    go_wp2
    go_loopw [0, 3] (fun s0 s3 wr => Below w.heap.size w wr ∧ ((s0 = .int .i64 n ∧ s3 = .string ⟨#[]⟩) ∨ (s0 = .int .i64 (n / 10) ∧ s3 = .string ⟨#[digB (n % 10)]⟩) ∨ (s0 = .int .i64 0 ∧ s3 = .string (twoB n))))
      (fun s0 _ _ => (intOf s0).toNat)
    case atStart => exact ⟨Below.refl _ _, .inl ⟨rfl, rfl⟩⟩
    case round =>
      obtain ⟨hb, ⟨rfl, rfl⟩ | ⟨rfl, rfl⟩ | ⟨rfl, rfl⟩⟩ := hrel
      · have HB := Lib.hid (hb.alloc hb.size (.cells #[.int .u8 (48 + n % 10)] 5))
        have hc := dig_text (n := n) wr
        have e1 : n.tmod 10 = n % 10 := Int.tmod_eq_emod_of_nonneg h0
        have e2 : n.tdiv 10 = n / 10 := Int.tdiv_eq_ediv_of_nonneg h0
        have g4 : decide (n % 10 < 0) = false := decide_eq_false (by omega)
        have g5 : (n == 0) = false := by simp; omega
        have e3 := one_none (digB (n % 10))
        clear hb
        go_wp2
        exact ⟨⟨HB.out, .inr (.inl ⟨rfl, rfl⟩)⟩, by simp [intOf]; omega⟩
      · have HB := Lib.hid (hb.alloc hb.size (.cells #[.int .u8 (48 + n / 10)] 5))
        have hc := dig_one (n := n / 10) (by omega) (by omega) wr
        have e1 : (n / 10).tmod 10 = n / 10 := by rw [Int.tmod_eq_emod_of_nonneg (by omega)]; omega
        have e2 : (n / 10).tdiv 10 = 0 := by rw [Int.tdiv_eq_ediv_of_nonneg (by omega)]; omega
        have g4 : decide (n / 10 < 0) = false := decide_eq_false (by omega)
        have g5 : (n / 10 == 0) = false := by simp; omega
        have e3 := two_two n (by omega) h0
        clear hb
        go_wp2
        exact ⟨⟨HB.out, .inr (.inr ⟨rfl, rfl⟩)⟩, by simp [intOf]; omega⟩
      · go_wp2
        go_ret
        exact ⟨rfl, hb⟩
set_option maxHeartbeats 2000000 in
set_option maxRecDepth 100000 in
theorem twice_neg (n : Int) (w : World) (h0 : 0 < n) (h1 : n ≤ 99) :
    Calls Tryz.prog 186 #[.int .i64 (-n)] w fun e w' => e = .returned (.string (twoB n)) ∧ Below w.heap.size w w' := by
  have g3 : decide (-n < 0) = true := decide_eq_true (by omega)
  have g2 : decide (-n < 10) = true := decide_eq_true (by omega)
  go_enter Tryz.func186, Tryz.ntmps186
  by_cases h9 : n < 10
  · have g1 : decide (-10 < -n) = true := decide_eq_true (by omega)
    have hc := dig_one (n := n) (by omega) (by omega) w
    have he := zero_two (n := n) (by omega) (by omega)
    have hw : wrap64 (- -n) = n := by unfold wrap64; omega
    have HB := Lib.hid ((Below.refl w.heap.size w).alloc (Nat.le_refl _) (.cells #[.int .u8 (48 + n)] 5))
    go_wp2
    go_ret
    exact ⟨rfl, HB.out⟩
  · have g1 : decide (-10 < -n) = false := decide_eq_false (by omega)
    go_wp2
    go_loopw [0, 3] (fun s0 s3 wr => Below w.heap.size w wr ∧ ((s0 = .int .i64 (-n) ∧ s3 = .string ⟨#[]⟩) ∨ (s0 = .int .i64 (-(n / 10)) ∧ s3 = .string ⟨#[digB (n % 10)]⟩) ∨ (s0 = .int .i64 0 ∧ s3 = .string (twoB n))))
      (fun s0 _ _ => (intOf s0).natAbs)
    case atStart => exact ⟨Below.refl _ _, .inl ⟨rfl, rfl⟩⟩
    case round =>
      obtain ⟨hb, ⟨rfl, rfl⟩ | ⟨rfl, rfl⟩ | ⟨rfl, rfl⟩⟩ := hrel
      · have HB := Lib.hid (hb.alloc hb.size (.cells #[.int .u8 (48 + n % 10)] 5))
        have hc := dig_text (n := n) wr
        have e1 : (-n).tmod 10 = -(n % 10) := by rw [Int.neg_tmod, Int.tmod_eq_emod_of_nonneg (by omega)]
        have e2 : (-n).tdiv 10 = -(n / 10) := by rw [Int.neg_tdiv, Int.tdiv_eq_ediv_of_nonneg (by omega)]
        have g5 : (-n == 0) = false := by simp; omega
        have e3 := one_none (digB (n % 10))
        have e4 : - -(n % 10) = n % 10 := Int.neg_neg _
        clear hb
        by_cases hz : n % 10 = 0
        · have g4 : decide (-(n % 10) < 0) = false := decide_eq_false (by omega)
          have g6 : -(n % 10) = n % 10 := by omega
          rw [g6] at e1 g4
          clear hz g6 e4
          go_wp2
          exact ⟨⟨HB.out, .inr (.inl ⟨rfl, rfl⟩)⟩, by simp [intOf]; omega⟩
        · have g4 : decide (-(n % 10) < 0) = true := decide_eq_true (by omega)
          go_wp2
          exact ⟨⟨HB.out, .inr (.inl ⟨rfl, rfl⟩)⟩, by simp [intOf]; omega⟩
      · have HB := Lib.hid (hb.alloc hb.size (.cells #[.int .u8 (48 + n / 10)] 5))
        have hc := dig_one (n := n / 10) (by omega) (by omega) wr
        have e1 : (-(n / 10)).tmod 10 = -(n / 10) := by rw [Int.neg_tmod, Int.tmod_eq_emod_of_nonneg (by omega)]; omega
        have e2 : (-(n / 10)).tdiv 10 = 0 := by rw [Int.neg_tdiv, Int.tdiv_eq_ediv_of_nonneg (by omega)]; omega
        have g4 : decide (-(n / 10) < 0) = true := decide_eq_true (by omega)
        have g5 : (-(n / 10) == 0) = false := by simp; omega
        have e3 := two_two n (by omega) (by omega)
        have e4 : - -(n / 10) = n / 10 := Int.neg_neg _
        clear hb
        go_wp2
        exact ⟨⟨HB.out, .inr (.inr ⟨rfl, rfl⟩)⟩, by simp [intOf]; omega⟩
      · go_wp2
        go_ret
        exact ⟨rfl, hb⟩
set_option maxHeartbeats 2000000 in
set_option maxRecDepth 100000 in
theorem rtold_any (n : Int) (w : World) (h0 : -359999 ≤ n) (h1 : n ≤ 359999) :
    Calls Tryz.prog 151 #[.int .i64 n] w fun e w' => e = .returned (.string (toldB n)) ∧ Below w.heap.size w w' := by
  unfold toldB
  have HB := Lib.hid (Below.refl w.heap.size w)
  rcases Int.lt_or_le n 0 with hn | hn
  · rw [if_pos hn]
    obtain ⟨k, rfl⟩ : ∃ k, n = -k := ⟨-n, by omega⟩
    rw [Int.neg_neg]
    have HT := Lib.hid (fun (k : Int) z (a : 0 ≤ k) (b : k ≤ 99) => (show Calls Tryz.prog 186 #[.int .i64 (-k)] z fun e w' => e = .returned (.string (twoB k)) ∧ Below z.heap.size z w' from by
      rcases Int.lt_or_eq_of_le a with h | h
      · exact twice_neg k z h b
      · subst h; exact twice_pos 0 z (by omega) (by omega)))
    have e1 : (-k).tdiv 3600 = -(k / 3600) := by rw [Int.neg_tdiv, Int.tdiv_eq_ediv_of_nonneg (by omega)]
    have e2 : (-k).tmod 3600 = -(k % 3600) := by rw [Int.neg_tmod, Int.tmod_eq_emod_of_nonneg (by omega)]
    have e3 : (-(k % 3600)).tdiv 60 = -(k / 60 % 60) := by rw [Int.neg_tdiv, Int.tdiv_eq_ediv_of_nonneg (by omega)]; omega
    have e4 : (-k).tmod 60 = -(k % 60) := by rw [Int.neg_tmod, Int.tmod_eq_emod_of_nonneg (by omega)]
    have hnb : decide (-k < 0) = true := decide_eq_true hn
    have q1 : 0 ≤ k / 3600 ∧ k / 3600 ≤ 99 := by omega
    have q2 : 0 ≤ k / 60 % 60 ∧ k / 60 % 60 ≤ 99 := by omega
    have q3 : 0 ≤ k % 60 ∧ k % 60 ≤ 99 := by omega
    have hm : (-(k % 3600) == 0) = ((k / 60 % 60 == 0) && (k % 60 == 0)) := by
      rw [Bool.eq_iff_iff]; simp; omega
    have hs : (-(k % 60) == 0) = (k % 60 == 0) := by rw [Bool.eq_iff_iff]; simp
    unfold partsB
    generalize k / 3600 = h at *
    generalize k / 60 % 60 = m at *
    generalize k % 60 = s at *
    have q4 : 0 ≤ k % 3600 ∧ k % 3600 ≤ 3599 := by omega
    generalize k % 3600 = r at *
    have t1 := fun z => HT.out h z q1.1 q1.2
    have t2 := fun z => HT.out m z q2.1 q2.2
    have t3 := fun z => HT.out s z q3.1 q3.2
    obtain ⟨a1, hA1⟩ : ∃ a, -h = a := ⟨_, rfl⟩
    obtain ⟨a2, hA2⟩ : ∃ a, -m = a := ⟨_, rfl⟩
    obtain ⟨a3, hA3⟩ : ∃ a, -s = a := ⟨_, rfl⟩
    obtain ⟨a4, hA4⟩ : ∃ a, -r = a := ⟨_, rfl⟩
    obtain ⟨K, hK⟩ : ∃ a, -k = a := ⟨_, rfl⟩
    have u1 : wrap64 a1 = a1 := by unfold wrap64; omega
    have u2 : wrap64 a2 = a2 := by unfold wrap64; omega
    have u3 : wrap64 a3 = a3 := by unfold wrap64; omega
    have u4 : wrap64 a4 = a4 := by unfold wrap64; omega
    rw [hA1] at t1
    rw [hA2] at t2
    rw [hA3] at t3
    simp only [hA1, hA2, hA3, hA4, hK] at e1 e2 e3 e4 hm hs hnb ⊢
    have T1 := Lib.hid t1; have T2 := Lib.hid t2; have T3 := Lib.hid t3
    clear q1 q2 q3 q4 t1 t2 t3 hA1 hA2 hA3 hA4 hK HT hn
    cases hm2 : (m == 0) <;> cases hs2 : (s == 0) <;> rw [hm2, hs2] at hm <;> rw [hs2] at hs <;> simp only [Bool.and_true, Bool.and_false] at hm
    all_goals
      go_enter Tryz.func151, Tryz.ntmps151
      go_wp2_with (first
        | (go_at_call 186; refine (T1.out _).mono ?_; rintro e w1 ⟨rfl, hb⟩; have HB := Lib.hid (HB.out.trans (hb.mono HB.out.size)); clear hb T1)
        | (go_at_call 186; refine (T2.out _).mono ?_; rintro e w1 ⟨rfl, hb⟩; have HB := Lib.hid (HB.out.trans (hb.mono HB.out.size)); clear hb T2)
        | (go_at_call 186; refine (T3.out _).mono ?_; rintro e w1 ⟨rfl, hb⟩; have HB := Lib.hid (HB.out.trans (hb.mono HB.out.size)); clear hb T3))
      go_ret
      exact ⟨rfl, HB.out⟩
  · rw [if_neg (by omega)]
    have e1 : n.tdiv 3600 = n / 3600 := Int.tdiv_eq_ediv_of_nonneg (by omega)
    have e2 : n.tmod 3600 = n % 3600 := Int.tmod_eq_emod_of_nonneg (by omega)
    have e3 : (n % 3600).tdiv 60 = n / 60 % 60 := by rw [Int.tdiv_eq_ediv_of_nonneg (by omega)]; omega
    have e4 : n.tmod 60 = n % 60 := Int.tmod_eq_emod_of_nonneg (by omega)
    have hnb : decide (n < 0) = false := decide_eq_false (by omega)
    have t1 := fun z => twice_pos (n / 3600) z (by omega) (by omega)
    have t2 := fun z => twice_pos (n / 60 % 60) z (by omega) (by omega)
    have t3 := fun z => twice_pos (n % 60) z (by omega) (by omega)
    have hm : (n % 3600 == 0) = ((n / 60 % 60 == 0) && (n % 60 == 0)) := by
      rw [Bool.eq_iff_iff]; simp; omega
    have u1 : wrap64 (n / 3600) = n / 3600 := by unfold wrap64; omega
    have u2 : wrap64 (n / 60 % 60) = n / 60 % 60 := by unfold wrap64; omega
    have u3 : wrap64 (n % 60) = n % 60 := by unfold wrap64; omega
    have u4 : wrap64 (n % 3600) = n % 3600 := by unfold wrap64; omega
    unfold partsB
    generalize hG1 : n / 3600 = h at *
    generalize hG2 : n / 60 % 60 = m at *
    generalize hG3 : n % 60 = s at *
    generalize hG4 : n % 3600 = r at *
    have T1 := Lib.hid t1; have T2 := Lib.hid t2; have T3 := Lib.hid t3
    clear t1 t2 t3 hn hG1 hG2 hG3 hG4 h0 h1
    cases hm2 : (m == 0) <;> cases hs2 : (s == 0) <;> rw [hm2, hs2] at hm <;> simp only [Bool.and_true, Bool.and_false] at hm
    all_goals
      go_enter Tryz.func151, Tryz.ntmps151
      go_wp2_with (first
        | (go_at_call 186; refine (T1.out _).mono ?_; rintro e w1 ⟨rfl, hb⟩; have HB := Lib.hid (HB.out.trans (hb.mono HB.out.size)); clear hb T1)
        | (go_at_call 186; refine (T2.out _).mono ?_; rintro e w1 ⟨rfl, hb⟩; have HB := Lib.hid (HB.out.trans (hb.mono HB.out.size)); clear hb T2)
        | (go_at_call 186; refine (T3.out _).mono ?_; rintro e w1 ⟨rfl, hb⟩; have HB := Lib.hid (HB.out.trans (hb.mono HB.out.size)); clear hb T3))
      go_ret
      exact ⟨rfl, HB.out⟩
set_option maxHeartbeats 2000000 in
set_option maxRecDepth 100000 in
theorem rabbr_any (f l : ByteArray) (off save : Int) (w : World) (hf : f.size ≤ 2097152) (hl : l.size ≤ 2097152) (h0 : -359999 ≤ off) (h1 : off ≤ 359999) :
    Calls Tryz.prog 102 #[.string f, .string l, .int .i64 off, .int .i64 save] w fun e w' => e = .returned (.string (abbrB f l off save)) ∧ Below w.heap.size w w' := by
  have S1 := fun z => sign_any f ⟨#[37, 115]⟩ z hf (by decide) (by decide)
  have S2 := fun z => sign_any f ⟨#[37, 122]⟩ z hf (by decide) (by decide)
  have S3 := fun z => sign_any f ⟨#[47]⟩ z hf (by decide) (by decide)
  have r2 : ∀ {c : List UInt8} {i : Nat}, c ≠ [] → Lib.occAt f.data.toList c i = true → i + c.length ≤ f.size := fun hc ho => by
    rcases Lib.occAt_room ho with h | h
    · rw [Lib.size_eq]; exact h
    · exact absurd h hc
  rcases Lib.index_spec f.data.toList [37, 115] with ⟨i1, _⟩ | ⟨i, i1, _, ho, _⟩
  · have T := Lib.hid (fun z => rtold_any off z h0 h1)
    change ∀ z, Calls _ _ _ z fun e w' => e = .returned (.int .i64 (Lib.index f.data.toList [37, 115])) ∧ w' = z at S1
    rw [i1] at S1
    rcases Lib.index_spec f.data.toList [37, 122] with ⟨i2, _⟩ | ⟨i, i2, _, ho, _⟩
    · change ∀ z, Calls _ _ _ z fun e w' => e = .returned (.int .i64 (Lib.index f.data.toList [37, 122])) ∧ w' = z at S2
      rw [i2] at S2
      rcases Lib.index_spec f.data.toList [47] with ⟨i3, _⟩ | ⟨i, i3, _, ho, _⟩
      · change ∀ z, Calls _ _ _ z fun e w' => e = .returned (.int .i64 (Lib.index f.data.toList [47])) ∧ w' = z at S3
        rw [i3] at S3
        rw [abbr_no i1 i2 i3]
        have P1 := Lib.hid S1; have P2 := Lib.hid S2; have P3 := Lib.hid S3
        clear S1 S2 S3 r2 i1 i2 i3
        go_enter Tryz.func102, Tryz.ntmps102
        go_wp2_with (first
          | (go_at_call 150; refine (P1.out _).mono ?_; rintro e w1 ⟨rfl, rfl⟩; clear P1)
          | (go_at_call 150; refine (P2.out _).mono ?_; rintro e w1 ⟨rfl, rfl⟩; clear P2)
          | (go_at_call 150; refine (P3.out _).mono ?_; rintro e w1 ⟨rfl, rfl⟩; clear P3))
        go_ret
        exact ⟨rfl, Below.refl _ _⟩
      · change ∀ z, Calls _ _ _ z fun e w' => e = .returned (.int .i64 (Lib.index f.data.toList [47])) ∧ w' = z at S3
        rw [i3] at S3
        have hi := r2 (by simp) ho
        simp only [List.length_cons, List.length_nil] at hi
        have P1 := Lib.hid S1; have P2 := Lib.hid S2; have P3 := Lib.hid S3
        clear S1 S2 S3 r2 ho
        by_cases hs : save = 0
        · rw [abbr_a i1 i2 i3 hs]
          subst hs
          clear i1 i2 i3
          go_enter Tryz.func102, Tryz.ntmps102
          go_wp2_with (first
            | (go_at_call 150; refine (P1.out _).mono ?_; rintro e w1 ⟨rfl, rfl⟩; clear P1)
            | (go_at_call 150; refine (P2.out _).mono ?_; rintro e w1 ⟨rfl, rfl⟩; clear P2)
            | (go_at_call 150; refine (P3.out _).mono ?_; rintro e w1 ⟨rfl, rfl⟩; clear P3))
          go_ret
          exact ⟨rfl, Below.refl _ _⟩
        · rw [abbr_b i1 i2 i3 hs]
          have hsb : (save == 0) = false := by simp [hs]
          clear i1 i2 i3
          go_enter Tryz.func102, Tryz.ntmps102
          go_wp2_with (first
            | (go_at_call 150; refine (P1.out _).mono ?_; rintro e w1 ⟨rfl, rfl⟩; clear P1)
            | (go_at_call 150; refine (P2.out _).mono ?_; rintro e w1 ⟨rfl, rfl⟩; clear P2)
            | (go_at_call 150; refine (P3.out _).mono ?_; rintro e w1 ⟨rfl, rfl⟩; clear P3))
          go_ret
          exact ⟨rfl, Below.refl _ _⟩
    · change ∀ z, Calls _ _ _ z fun e w' => e = .returned (.int .i64 (Lib.index f.data.toList [37, 122])) ∧ w' = z at S2
      rw [i2] at S2
      have hi := r2 (by simp) ho
      simp only [List.length_cons, List.length_nil] at hi
      have hsz : (toldB off).size ≤ 7 := told_size off
      have P1 := Lib.hid S1; have P2 := Lib.hid S2
      rw [abbr_z i1 i2]
      clear S1 S2 S3 r2 ho i1 i2
      have inst : Nonempty (Qt.In (Below w.heap.size w)) := ⟨⟨_, Below.refl _ _⟩⟩
      have TC : Hid (∀ z, Below w.heap.size w z → Calls Tryz.prog 151 #[.int .i64 off] z fun e z' => e = .returned (.string (toldB off)) ∧ Below w.heap.size w z') := fun z h => (T.out z).mono fun e z' ⟨he, hb⟩ => ⟨he, h.trans (hb.mono h.size)⟩
      generalize toldB off = td at *
      go_enter Tryz.func102, Tryz.ntmps102
      go_wp2_with (first
        | (go_at_call 150; refine (P1.out _).mono ?_; rintro e w1 ⟨rfl, rfl⟩; clear P1)
        | (go_at_call 150; refine (P2.out _).mono ?_; rintro e w1 ⟨rfl, rfl⟩; clear P2))
      have hw2 : IntKind.i64.wrap ((i : Int) + 2) = (i : Int) + 2 := by rw [IntKind.wrap_i64]; omega
      refine Qt.wp_region_cls (Below w1.heap.size w1) (by kernel_rfl) (by kernel_rfl) (below_dr (n := 1) (Below.refl _ _)) ?_
      repeat (go_big_quiet_step ((go_at_call 151; exact Qt.quiet_cls (TC.out _ (Qt.In.h _)))))
      refine wpQuiet_nil ?_
      rintro wq ⟨⟨w9, hq⟩, e9⟩
      have HX : Hid (Below w1.heap.size w1 wq) := by rw [e9]; exact hq
      clear hq e9 inst TC
      go_wp2
      go_ret
      exact ⟨rfl, HX.out⟩
  · change ∀ z, Calls _ _ _ z fun e w' => e = .returned (.int .i64 (Lib.index f.data.toList [37, 115])) ∧ w' = z at S1
    rw [i1] at S1
    have hi := r2 (by simp) ho
    simp only [List.length_cons, List.length_nil] at hi
    have P1 := Lib.hid S1
    rw [abbr_s i1]
    clear S1 S2 S3 r2 ho i1
    go_enter Tryz.func102, Tryz.ntmps102
    go_wp2_with (go_at_call 150; refine (P1.out _).mono ?_; rintro e w1 ⟨rfl, rfl⟩; clear P1)
    go_region
    go_wp2
    go_ret
    exact ⟨rfl, (Below.refl _ _).drew⟩
end Go.Proofs.YtdicedpklpadgaaGreatDoor.Cmq
end
