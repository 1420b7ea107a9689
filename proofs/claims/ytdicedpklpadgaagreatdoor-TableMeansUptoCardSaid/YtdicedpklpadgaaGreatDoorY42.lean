/-
  The document's phases (package analemmaref12): sign, twice, Told, Abbr, Phase. Conditions: bounded texts and offsets.
  The document's sign, twice, Told, Abbr (package analemmaref12). Conditions: bounded texts and offsets.
  The document's sets and an era's end (analemmaref12: Set, End). Conditions: what the source's slices hold is read; right rules; the era's clock is one of three.
-/
import Derived.Test.YtdicedpklpadgaaGreatDoorY36
import Derived.Lib.RabinKarpLaws
import Derived.Test.YtdicedpklpadgaaGreatDoorY25
import Derived.Test.YtdicedpklpadgaaGreatDoorY14
set_option linter.all false
section
namespace Go.Proofs.YtdicedpklpadgaaGreatDoor.Cmq
open Go.RowKit Mem Civ Mom Img Plc Rul Ahd Trn Src Snd Att Rgt Abr

theorem replace1_hit {s old new : List UInt8} {i : Nat} (h : Lib.index s old = i) : Lib.replace s old new 1 = s.take i ++ new ++ s.drop (i + old.length) := by
  unfold Lib.replace
  split
  · next he =>
    have he : old = new := by simpa using he
    subst he
    rcases Lib.index_spec s old with ⟨h1, _⟩ | ⟨j, h1, h2, h3, _⟩
    · omega
    · obtain rfl : i = j := by omega
      unfold Lib.occAt at h3
      obtain ⟨t, ht⟩ := List.isPrefixOf_iff_prefix.1 h3
      have hd : s.drop (i + old.length) = t := by
        rw [← List.drop_drop, ← ht, List.drop_left]
      rw [hd, List.append_assoc, ht, List.take_append_drop]
  · have hc : 1 ≤ Lib.count s old := by
      unfold Lib.count Lib.countFrom
      rw [if_neg (by rw [h, beq_iff_eq]; omega)]
      omega
    have hn : Lib.replaceNum s old 1 = 1 := by
      unfold Lib.replaceNum
      rw [if_neg (by omega)]
      rfl
    rw [hn, Lib.replaceK_hit _ _ _ _ _ h]
    rfl
theorem pre_eq (f : ByteArray) (i : Nat) : (⟨(f.data.toList.take i).toArray⟩ : ByteArray) = f.extract 0 i := by
  rw [Lib.extract_eq]
  simp
theorem suf_eq (f : ByteArray) (i : Nat) : (⟨(f.data.toList.drop i).toArray⟩ : ByteArray) = f.extract i f.size := by
  rw [Lib.extract_eq]
  congr 2
  rw [List.take_of_length_le]
  rw [List.length_drop, ← Lib.size_eq]
  exact Nat.le_refl _
theorem mk_app (a b : List UInt8) : (⟨(a ++ b).toArray⟩ : ByteArray) = ⟨a.toArray⟩ ++ ⟨b.toArray⟩ := by
  refine ByteArray.ext ?_
  rw [ByteArray.data_append]
  simp
theorem rep_eq {f new : ByteArray} {old : List UInt8} {i : Nat} (h : Lib.index f.data.toList old = i) : (⟨(Lib.replace f.data.toList old new.data.toList 1).toArray⟩ : ByteArray) = f.extract 0 i ++ new ++ f.extract (i + old.length) f.size := by
  rw [replace1_hit h, mk_app, mk_app, pre_eq, suf_eq, Lib.mk_data]
section
variable {f l : ByteArray} {off save : Int} {i : Nat}
theorem abbr_s (h : Lib.index f.data.toList [37, 115] = i) : abbrB f l off save = f.extract 0 i ++ l ++ f.extract (i + 2) f.size := by
  unfold abbrB Lib.contains
  rw [if_pos (by rw [h]; exact decide_eq_true (by omega)), rep_eq h]
  rfl
theorem abbr_z (h0 : Lib.index f.data.toList [37, 115] = -1) (h : Lib.index f.data.toList [37, 122] = i) : abbrB f l off save = f.extract 0 i ++ toldB off ++ f.extract (i + 2) f.size := by
  unfold abbrB Lib.contains
  rw [if_neg (by rw [h0]; decide), if_pos (by rw [h]; exact decide_eq_true (by omega)), rep_eq h]
  rfl
theorem abbr_no (h0 : Lib.index f.data.toList [37, 115] = -1) (h1 : Lib.index f.data.toList [37, 122] = -1) (h : Lib.index f.data.toList [47] = -1) : abbrB f l off save = f := by
  unfold abbrB Lib.contains Lib.cut
  have hc : ¬ 0 ≤ Lib.index f.data.toList [47] := by omega
  rw [if_neg (by rw [h0]; decide), if_neg (by rw [h1]; decide)]
  simp only [if_neg hc, Bool.false_and, Bool.false_eq_true, if_false]
theorem abbr_a (h0 : Lib.index f.data.toList [37, 115] = -1) (h1 : Lib.index f.data.toList [37, 122] = -1) (h : Lib.index f.data.toList [47] = i) (hs : save = 0) : abbrB f l off save = f.extract 0 i := by
  unfold abbrB Lib.contains Lib.cut
  rw [if_neg (by rw [h0]; decide), if_neg (by rw [h1]; decide), if_pos (show 0 ≤ Lib.index f.data.toList [47] by omega), if_neg (by simp [hs]), h]
  exact pre_eq f i
theorem abbr_b (h0 : Lib.index f.data.toList [37, 115] = -1) (h1 : Lib.index f.data.toList [37, 122] = -1) (h : Lib.index f.data.toList [47] = i) (hs : save ≠ 0) : abbrB f l off save = f.extract (i + 1) f.size := by
  unfold abbrB Lib.contains Lib.cut
  rw [if_neg (by rw [h0]; decide), if_neg (by rw [h1]; decide), if_pos (show 0 ≤ Lib.index f.data.toList [47] by omega), if_pos (by simp [hs]), h]
  exact suf_eq f (i + 1)
end
end Go.Proofs.YtdicedpklpadgaaGreatDoor.Cmq
end
section
namespace Go.Proofs.YtdicedpklpadgaaGreatDoor.Cmq
open Go.RowKit Mem Civ Mom Img Plc Rul Ahd Trn Src Snd Att Rgt Abr

set_option maxHeartbeats 2000000 in
set_option maxRecDepth 100000 in
theorem sign_any (s t : ByteArray) (w : World) (hs : s.size ≤ 2097152) (h0 : 0 < t.size) (ht : t.size ≤ 2097152) :
    Calls Tryz.prog 150 #[.string s, .string t] w fun e w' => e = .returned (.int .i64 (Lib.index s.data.toList t.data.toList)) ∧ w' = w := by
  have hno : ∀ j, s.size < j + t.size → Lib.occAt s.data.toList t.data.toList j = false := fun j hj => by
    cases ho : Lib.occAt s.data.toList t.data.toList j
    · rfl
    · exfalso
      rcases Lib.occAt_room ho with h | h
      · rw [← Lib.size_eq, ← Lib.size_eq] at h
        omega
      · have h2 : t.size = 0 := by rw [Lib.size_eq, h]; rfl
        omega
  have HNo := Lib.hid hno
  clear hno
  go_enter Tryz.func150, Tryz.ntmps150
  go_wp2
  go_loop [5] (fun i => ∃ k : Nat, i = .int .i64 k ∧ k ≤ s.size + 1 ∧ ∀ j, j < k → Lib.occAt s.data.toList t.data.toList j = false) (fun i => s.size + 2 - (intOf i).toNat)
  case atStart => exact ⟨0, rfl, by omega, fun j h => by omega⟩
  case round =>
    obtain ⟨k, rfl, hk, hpre⟩ := hrel
    have HPre := Lib.hid hpre
    clear hpre
    by_cases hkn : k + t.size ≤ s.size
    · have hle : decide ((k : Int) + (t.size : Nat) ≤ (s.size : Nat)) = true := decide_eq_true (by omega)
      have hp := (Lib.occ_of_piece s t k hkn).symm
      cases ho : Lib.occAt s.data.toList t.data.toList k
      · rw [ho] at hp
        have HO := Lib.hid ho
        clear ho
        go_wp2
        go_round
        case rel => exact ⟨k + 1, by go_num, by omega, fun j hj => by
          rcases Nat.lt_or_ge j k with h | h
          · exact HPre.out j h
          · obtain rfl : j = k := by omega
            exact HO.out⟩
        case measure => simp [intOf]; omega
      · rw [ho] at hp
        have HI : Hid (Lib.index s.data.toList t.data.toList = (k : Int)) := Lib.index_first (by rw [← Lib.size_eq]; omega) ho HPre.out
        clear ho
        go_wp2
        go_ret
        exact ⟨by rw [HI.out]; rfl, rfl⟩
    · have hle : decide ((k : Int) + (t.size : Nat) ≤ (s.size : Nat)) = false := decide_eq_false (by omega)
      have HI : Hid (Lib.index s.data.toList t.data.toList = -1) := Lib.index_none fun j hj => by
        rcases Nat.lt_or_ge j k with h | h
        · exact HPre.out j h
        · exact HNo.out j (by omega)
      go_wp2
      go_ret
      exact ⟨by rw [HI.out]; rfl, rfl⟩
theorem dig_one {n : Int} (h0 : 0 ≤ n) (h1 : n ≤ 9) (w : World) : (convert 157 9 (.slice (some ⟨w.heap.size, 0, none⟩) 1 1)).run Tryz.prog (w.alloc (.cells #[.int .u8 (48 + n)] 5)) = .ok (.string ⟨#[digB n]⟩) (w.alloc (.cells #[.int .u8 (48 + n)] 5)) := by
  have h := dig_text (n := n) w
  rw [show n % 10 = n from by omega] at h
  exact h
theorem zero_two {n : Int} (h0 : 0 ≤ n) (h1 : n ≤ 9) : (⟨#[48]⟩ : ByteArray) ++ ⟨#[digB n]⟩ = twoB n := by
  unfold twoB
  rw [show n / 10 % 10 = 0 from by omega, show n % 10 = n from by omega]
  rfl
theorem two_two (n : Int) (h : n / 10 ≤ 9) (h0 : 0 ≤ n) : (⟨#[digB (n / 10)]⟩ : ByteArray) ++ ⟨#[digB (n % 10)]⟩ = twoB n := by
  unfold twoB
  rw [show n / 10 % 10 = n / 10 from by omega]
  rfl
theorem one_none (b : UInt8) : (⟨#[b]⟩ : ByteArray) ++ ⟨#[]⟩ = ⟨#[b]⟩ := rfl
set_option maxHeartbeats 2000000 in
set_option maxRecDepth 100000 in
theorem twice_pos (n : Int) (w : World) (h0 : 0 ≤ n) (h1 : n ≤ 99) :
    Calls Tryz.prog 186 #[.int .i64 n] w fun e w' => e = .returned (.string (twoB n)) ∧ Below w.heap.size w w' := by
  have g1 : decide (-10 < n) = true := decide_eq_true (by omega)
  have g3 : decide (n < 0) = false := decide_eq_false (by omega)
  go_enter Tryz.func186, Tryz.ntmps186
  by_cases h9 : n < 10
  · have g2 : decide (n < 10) = true := decide_eq_true h9
    have hc := dig_one (n := n) h0 (by omega) w
    have he := zero_two (n := n) h0 (by omega)
    have HB := Lib.hid ((Below.refl w.heap.size w).alloc (Nat.le_refl _) (.cells #[.int .u8 (48 + n)] 5))
    go_wp2
    go_ret
    exact ⟨rfl, HB.out⟩
  · have g2 : decide (n < 10) = false := decide_eq_false h9
    go_wp2
    go_loopw [0, 3] (fun s0 s3 wr => Below w.heap.size w wr ∧ ((s0 = .int .i64 n ∧ s3 = .string ⟨#[]⟩) ∨ (s0 = .int .i64 (n / 10) ∧ s3 = .string ⟨#[digB (n % 10)]⟩) ∨ (s0 = .int .i64 0 ∧ s3 = .string (twoB n))))
      (fun s0 _ _ => (intOf s0).toNat)
    case atStart => exact ⟨Below.refl _ _, .inl ⟨rfl, rfl⟩⟩
    case round =>
      obtain ⟨hb, ⟨rfl, rfl⟩ | ⟨rfl, rfl⟩ | ⟨rfl, rfl⟩⟩ := hrel
      · have HB := Lib.hid (hb.alloc hb.size (.cells #[.int .u8 (48 + n % 10)] 5))
        have hc := dig_text (n := n) wr
        have e1 : n.tmod 10 = n % 10 := Int.tmod_eq_emod_of_nonneg h0
        have e2 : n.tdiv 10 = n / 10 := Int.tdiv_eq_ediv_of_nonneg h0
        have g4 : decide (n % 10 < 0) = false := decide_eq_false (by omega)
        have g5 : (n == 0) = false := by simp; omega
        have e3 := one_none (digB (n % 10))
        clear hb
        go_wp2
        exact ⟨⟨HB.out, .inr (.inl ⟨rfl, rfl⟩)⟩, by simp [intOf]; omega⟩
      · have HB := Lib.hid (hb.alloc hb.size (.cells #[.int .u8 (48 + n / 10)] 5))
        have hc := dig_one (n := n / 10) (by omega) (by omega) wr
        have e1 : (n / 10).tmod 10 = n / 10 := by rw [Int.tmod_eq_emod_of_nonneg (by omega)]; omega
        have e2 : (n / 10).tdiv 10 = 0 := by rw [Int.tdiv_eq_ediv_of_nonneg (by omega)]; omega
        have g4 : decide (n / 10 < 0) = false := decide_eq_false (by omega)
        have g5 : (n / 10 == 0) = false := by simp; omega
        have e3 := two_two n (by omega) h0
        clear hb
        go_wp2
        exact ⟨⟨HB.out, .inr (.inr ⟨rfl, rfl⟩)⟩, by simp [intOf]; omega⟩
      · go_wp2
        go_ret
        exact ⟨rfl, hb⟩
set_option maxHeartbeats 2000000 in
set_option maxRecDepth 100000 in
theorem twice_neg (n : Int) (w : World) (h0 : 0 < n) (h1 : n ≤ 99) :
    Calls Tryz.prog 186 #[.int .i64 (-n)] w fun e w' => e = .returned (.string (twoB n)) ∧ Below w.heap.size w w' := by
  have g3 : decide (-n < 0) = true := decide_eq_true (by omega)
  have g2 : decide (-n < 10) = true := decide_eq_true (by omega)
  go_enter Tryz.func186, Tryz.ntmps186
  by_cases h9 : n < 10
  · have g1 : decide (-10 < -n) = true := decide_eq_true (by omega)
    have hc := dig_one (n := n) (by omega) (by omega) w
    have he := zero_two (n := n) (by omega) (by omega)
    have hw : wrap64 (- -n) = n := by unfold wrap64; omega
    have HB := Lib.hid ((Below.refl w.heap.size w).alloc (Nat.le_refl _) (.cells #[.int .u8 (48 + n)] 5))
    go_wp2
    go_ret
    exact ⟨rfl, HB.out⟩
  · have g1 : decide (-10 < -n) = false := decide_eq_false (by omega)
    go_wp2
    go_loopw [0, 3] (fun s0 s3 wr => Below w.heap.size w wr ∧ ((s0 = .int .i64 (-n) ∧ s3 = .string ⟨#[]⟩) ∨ (s0 = .int .i64 (-(n / 10)) ∧ s3 = .string ⟨#[digB (n % 10)]⟩) ∨ (s0 = .int .i64 0 ∧ s3 = .string (twoB n))))
      (fun s0 _ _ => (intOf s0).natAbs)
    case atStart => exact ⟨Below.refl _ _, .inl ⟨rfl, rfl⟩⟩
    case round =>
      obtain ⟨hb, ⟨rfl, rfl⟩ | ⟨rfl, rfl⟩ | ⟨rfl, rfl⟩⟩ := hrel
      · have HB := Lib.hid (hb.alloc hb.size (.cells #[.int .u8 (48 + n % 10)] 5))
        have hc := dig_text (n := n) wr
        have e1 : (-n).tmod 10 = -(n % 10) := by rw [Int.neg_tmod, Int.tmod_eq_emod_of_nonneg (by omega)]
        have e2 : (-n).tdiv 10 = -(n / 10) := by rw [Int.neg_tdiv, Int.tdiv_eq_ediv_of_nonneg (by omega)]
        have g5 : (-n == 0) = false := by simp; omega
        have e3 := one_none (digB (n % 10))
        have e4 : - -(n % 10) = n % 10 := Int.neg_neg _
        clear hb
        by_cases hz : n % 10 = 0
        · have g4 : decide (-(n % 10) < 0) = false := decide_eq_false (by omega)
          have g6 : -(n % 10) = n % 10 := by omega
          rw [g6] at e1 g4
          clear hz g6 e4
          go_wp2
          exact ⟨⟨HB.out, .inr (.inl ⟨rfl, rfl⟩)⟩, by simp [intOf]; omega⟩
        · have g4 : decide (-(n % 10) < 0) = true := decide_eq_true (by omega)
          go_wp2
          exact ⟨⟨HB.out, .inr (.inl ⟨rfl, rfl⟩)⟩, by simp [intOf]; omega⟩
      · have HB := Lib.hid (hb.alloc hb.size (.cells #[.int .u8 (48 + n / 10)] 5))
        have hc := dig_one (n := n / 10) (by omega) (by omega) wr
        have e1 : (-(n / 10)).tmod 10 = -(n / 10) := by rw [Int.neg_tmod, Int.tmod_eq_emod_of_nonneg (by omega)]; omega
        have e2 : (-(n / 10)).tdiv 10 = 0 := by rw [Int.neg_tdiv, Int.tdiv_eq_ediv_of_nonneg (by omega)]; omega
        have g4 : decide (-(n / 10) < 0) = true := decide_eq_true (by omega)
        have g5 : (-(n / 10) == 0) = false := by simp; omega
        have e3 := two_two n (by omega) (by omega)
        have e4 : - -(n / 10) = n / 10 := Int.neg_neg _
        clear hb
        go_wp2
        exact ⟨⟨HB.out, .inr (.inr ⟨rfl, rfl⟩)⟩, by simp [intOf]; omega⟩
      · go_wp2
        go_ret
        exact ⟨rfl, hb⟩
set_option maxHeartbeats 2000000 in
set_option maxRecDepth 100000 in
theorem rtold_any (n : Int) (w : World) (h0 : -359999 ≤ n) (h1 : n ≤ 359999) :
    Calls Tryz.prog 151 #[.int .i64 n] w fun e w' => e = .returned (.string (toldB n)) ∧ Below w.heap.size w w' := by
  unfold toldB
  have HB := Lib.hid (Below.refl w.heap.size w)
  rcases Int.lt_or_le n 0 with hn | hn
  · rw [if_pos hn]
    obtain ⟨k, rfl⟩ : ∃ k, n = -k := ⟨-n, by omega⟩
    rw [Int.neg_neg]
    have HT := Lib.hid (fun (k : Int) z (a : 0 ≤ k) (b : k ≤ 99) => (show Calls Tryz.prog 186 #[.int .i64 (-k)] z fun e w' => e = .returned (.string (twoB k)) ∧ Below z.heap.size z w' from by
      rcases Int.lt_or_eq_of_le a with h | h
      · exact twice_neg k z h b
      · subst h; exact twice_pos 0 z (by omega) (by omega)))
    have e1 : (-k).tdiv 3600 = -(k / 3600) := by rw [Int.neg_tdiv, Int.tdiv_eq_ediv_of_nonneg (by omega)]
    have e2 : (-k).tmod 3600 = -(k % 3600) := by rw [Int.neg_tmod, Int.tmod_eq_emod_of_nonneg (by omega)]
    have e3 : (-(k % 3600)).tdiv 60 = -(k / 60 % 60) := by rw [Int.neg_tdiv, Int.tdiv_eq_ediv_of_nonneg (by omega)]; omega
    have e4 : (-k).tmod 60 = -(k % 60) := by rw [Int.neg_tmod, Int.tmod_eq_emod_of_nonneg (by omega)]
    have hnb : decide (-k < 0) = true := decide_eq_true hn
    have q1 : 0 ≤ k / 3600 ∧ k / 3600 ≤ 99 := by omega
    have q2 : 0 ≤ k / 60 % 60 ∧ k / 60 % 60 ≤ 99 := by omega
    have q3 : 0 ≤ k % 60 ∧ k % 60 ≤ 99 := by omega
    have hm : (-(k % 3600) == 0) = ((k / 60 % 60 == 0) && (k % 60 == 0)) := by
      rw [Bool.eq_iff_iff]; simp; omega
    have hs : (-(k % 60) == 0) = (k % 60 == 0) := by rw [Bool.eq_iff_iff]; simp
    unfold partsB
    generalize k / 3600 = h at *
    generalize k / 60 % 60 = m at *
    generalize k % 60 = s at *
    have q4 : 0 ≤ k % 3600 ∧ k % 3600 ≤ 3599 := by omega
    generalize k % 3600 = r at *
    have t1 := fun z => HT.out h z q1.1 q1.2
    have t2 := fun z => HT.out m z q2.1 q2.2
    have t3 := fun z => HT.out s z q3.1 q3.2
    obtain ⟨a1, hA1⟩ : ∃ a, -h = a := ⟨_, rfl⟩
    obtain ⟨a2, hA2⟩ : ∃ a, -m = a := ⟨_, rfl⟩
    obtain ⟨a3, hA3⟩ : ∃ a, -s = a := ⟨_, rfl⟩
    obtain ⟨a4, hA4⟩ : ∃ a, -r = a := ⟨_, rfl⟩
    obtain ⟨K, hK⟩ : ∃ a, -k = a := ⟨_, rfl⟩
    have u1 : wrap64 a1 = a1 := by unfold wrap64; omega
    have u2 : wrap64 a2 = a2 := by unfold wrap64; omega
    have u3 : wrap64 a3 = a3 := by unfold wrap64; omega
    have u4 : wrap64 a4 = a4 := by unfold wrap64; omega
    rw [hA1] at t1
    rw [hA2] at t2
    rw [hA3] at t3
    simp only [hA1, hA2, hA3, hA4, hK] at e1 e2 e3 e4 hm hs hnb ⊢
    have T1 := Lib.hid t1; have T2 := Lib.hid t2; have T3 := Lib.hid t3
    clear q1 q2 q3 q4 t1 t2 t3 hA1 hA2 hA3 hA4 hK HT hn
    cases hm2 : (m == 0) <;> cases hs2 : (s == 0) <;> rw [hm2, hs2] at hm <;> rw [hs2] at hs <;> simp only [Bool.and_true, Bool.and_false] at hm
    all_goals
      go_enter Tryz.func151, Tryz.ntmps151
      go_wp2_with (first
        | (go_at_call 186; refine (T1.out _).mono ?_; rintro e w1 ⟨rfl, hb⟩; have HB := Lib.hid (HB.out.trans (hb.mono HB.out.size)); clear hb T1)
        | (go_at_call 186; refine (T2.out _).mono ?_; rintro e w1 ⟨rfl, hb⟩; have HB := Lib.hid (HB.out.trans (hb.mono HB.out.size)); clear hb T2)
        | (go_at_call 186; refine (T3.out _).mono ?_; rintro e w1 ⟨rfl, hb⟩; have HB := Lib.hid (HB.out.trans (hb.mono HB.out.size)); clear hb T3))
      go_ret
      exact ⟨rfl, HB.out⟩
  · rw [if_neg (by omega)]
    have e1 : n.tdiv 3600 = n / 3600 := Int.tdiv_eq_ediv_of_nonneg (by omega)
    have e2 : n.tmod 3600 = n % 3600 := Int.tmod_eq_emod_of_nonneg (by omega)
    have e3 : (n % 3600).tdiv 60 = n / 60 % 60 := by rw [Int.tdiv_eq_ediv_of_nonneg (by omega)]; omega
    have e4 : n.tmod 60 = n % 60 := Int.tmod_eq_emod_of_nonneg (by omega)
    have hnb : decide (n < 0) = false := decide_eq_false (by omega)
    have t1 := fun z => twice_pos (n / 3600) z (by omega) (by omega)
    have t2 := fun z => twice_pos (n / 60 % 60) z (by omega) (by omega)
    have t3 := fun z => twice_pos (n % 60) z (by omega) (by omega)
    have hm : (n % 3600 == 0) = ((n / 60 % 60 == 0) && (n % 60 == 0)) := by
      rw [Bool.eq_iff_iff]; simp; omega
    have u1 : wrap64 (n / 3600) = n / 3600 := by unfold wrap64; omega
    have u2 : wrap64 (n / 60 % 60) = n / 60 % 60 := by unfold wrap64; omega
    have u3 : wrap64 (n % 60) = n % 60 := by unfold wrap64; omega
    have u4 : wrap64 (n % 3600) = n % 3600 := by unfold wrap64; omega
    unfold partsB
    generalize hG1 : n / 3600 = h at *
    generalize hG2 : n / 60 % 60 = m at *
    generalize hG3 : n % 60 = s at *
    generalize hG4 : n % 3600 = r at *
    have T1 := Lib.hid t1; have T2 := Lib.hid t2; have T3 := Lib.hid t3
    clear t1 t2 t3 hn hG1 hG2 hG3 hG4 h0 h1
    cases hm2 : (m == 0) <;> cases hs2 : (s == 0) <;> rw [hm2, hs2] at hm <;> simp only [Bool.and_true, Bool.and_false] at hm
    all_goals
      go_enter Tryz.func151, Tryz.ntmps151
      go_wp2_with (first
        | (go_at_call 186; refine (T1.out _).mono ?_; rintro e w1 ⟨rfl, hb⟩; have HB := Lib.hid (HB.out.trans (hb.mono HB.out.size)); clear hb T1)
        | (go_at_call 186; refine (T2.out _).mono ?_; rintro e w1 ⟨rfl, hb⟩; have HB := Lib.hid (HB.out.trans (hb.mono HB.out.size)); clear hb T2)
        | (go_at_call 186; refine (T3.out _).mono ?_; rintro e w1 ⟨rfl, hb⟩; have HB := Lib.hid (HB.out.trans (hb.mono HB.out.size)); clear hb T3))
      go_ret
      exact ⟨rfl, HB.out⟩
set_option maxHeartbeats 2000000 in
set_option maxRecDepth 100000 in
theorem rabbr_any (f l : ByteArray) (off save : Int) (w : World) (hf : f.size ≤ 2097152) (hl : l.size ≤ 2097152) (h0 : -359999 ≤ off) (h1 : off ≤ 359999) :
    Calls Tryz.prog 102 #[.string f, .string l, .int .i64 off, .int .i64 save] w fun e w' => e = .returned (.string (abbrB f l off save)) ∧ Below w.heap.size w w' := by
  have S1 := fun z => sign_any f ⟨#[37, 115]⟩ z hf (by decide) (by decide)
  have S2 := fun z => sign_any f ⟨#[37, 122]⟩ z hf (by decide) (by decide)
  have S3 := fun z => sign_any f ⟨#[47]⟩ z hf (by decide) (by decide)
  have r2 : ∀ {c : List UInt8} {i : Nat}, c ≠ [] → Lib.occAt f.data.toList c i = true → i + c.length ≤ f.size := fun hc ho => by
    rcases Lib.occAt_room ho with h | h
    · rw [Lib.size_eq]; exact h
    · exact absurd h hc
  rcases Lib.index_spec f.data.toList [37, 115] with ⟨i1, _⟩ | ⟨i, i1, _, ho, _⟩
  · have T := Lib.hid (fun z => rtold_any off z h0 h1)
    change ∀ z, Calls _ _ _ z fun e w' => e = .returned (.int .i64 (Lib.index f.data.toList [37, 115])) ∧ w' = z at S1
    rw [i1] at S1
    rcases Lib.index_spec f.data.toList [37, 122] with ⟨i2, _⟩ | ⟨i, i2, _, ho, _⟩
    · change ∀ z, Calls _ _ _ z fun e w' => e = .returned (.int .i64 (Lib.index f.data.toList [37, 122])) ∧ w' = z at S2
      rw [i2] at S2
      rcases Lib.index_spec f.data.toList [47] with ⟨i3, _⟩ | ⟨i, i3, _, ho, _⟩
      · change ∀ z, Calls _ _ _ z fun e w' => e = .returned (.int .i64 (Lib.index f.data.toList [47])) ∧ w' = z at S3
        rw [i3] at S3
        rw [abbr_no i1 i2 i3]
        have P1 := Lib.hid S1; have P2 := Lib.hid S2; have P3 := Lib.hid S3
        clear S1 S2 S3 r2 i1 i2 i3
        go_enter Tryz.func102, Tryz.ntmps102
        go_wp2_with (first
          | (go_at_call 150; refine (P1.out _).mono ?_; rintro e w1 ⟨rfl, rfl⟩; clear P1)
          | (go_at_call 150; refine (P2.out _).mono ?_; rintro e w1 ⟨rfl, rfl⟩; clear P2)
          | (go_at_call 150; refine (P3.out _).mono ?_; rintro e w1 ⟨rfl, rfl⟩; clear P3))
        go_ret
        exact ⟨rfl, Below.refl _ _⟩
      · change ∀ z, Calls _ _ _ z fun e w' => e = .returned (.int .i64 (Lib.index f.data.toList [47])) ∧ w' = z at S3
        rw [i3] at S3
        have hi := r2 (by simp) ho
        simp only [List.length_cons, List.length_nil] at hi
        have P1 := Lib.hid S1; have P2 := Lib.hid S2; have P3 := Lib.hid S3
        clear S1 S2 S3 r2 ho
        by_cases hs : save = 0
        · rw [abbr_a i1 i2 i3 hs]
          subst hs
          clear i1 i2 i3
          go_enter Tryz.func102, Tryz.ntmps102
          go_wp2_with (first
            | (go_at_call 150; refine (P1.out _).mono ?_; rintro e w1 ⟨rfl, rfl⟩; clear P1)
            | (go_at_call 150; refine (P2.out _).mono ?_; rintro e w1 ⟨rfl, rfl⟩; clear P2)
            | (go_at_call 150; refine (P3.out _).mono ?_; rintro e w1 ⟨rfl, rfl⟩; clear P3))
          go_ret
          exact ⟨rfl, Below.refl _ _⟩
        · rw [abbr_b i1 i2 i3 hs]
          have hsb : (save == 0) = false := by simp [hs]
          clear i1 i2 i3
          go_enter Tryz.func102, Tryz.ntmps102
          go_wp2_with (first
            | (go_at_call 150; refine (P1.out _).mono ?_; rintro e w1 ⟨rfl, rfl⟩; clear P1)
            | (go_at_call 150; refine (P2.out _).mono ?_; rintro e w1 ⟨rfl, rfl⟩; clear P2)
            | (go_at_call 150; refine (P3.out _).mono ?_; rintro e w1 ⟨rfl, rfl⟩; clear P3))
          go_ret
          exact ⟨rfl, Below.refl _ _⟩
    · change ∀ z, Calls _ _ _ z fun e w' => e = .returned (.int .i64 (Lib.index f.data.toList [37, 122])) ∧ w' = z at S2
      rw [i2] at S2
      have hi := r2 (by simp) ho
      simp only [List.length_cons, List.length_nil] at hi
      have hsz : (toldB off).size ≤ 7 := told_size off
      have P1 := Lib.hid S1; have P2 := Lib.hid S2
      rw [abbr_z i1 i2]
      clear S1 S2 S3 r2 ho i1 i2
      have inst : Nonempty (Qt.In (Below w.heap.size w)) := ⟨⟨_, Below.refl _ _⟩⟩
      have TC : Hid (∀ z, Below w.heap.size w z → Calls Tryz.prog 151 #[.int .i64 off] z fun e z' => e = .returned (.string (toldB off)) ∧ Below w.heap.size w z') := fun z h => (T.out z).mono fun e z' ⟨he, hb⟩ => ⟨he, h.trans (hb.mono h.size)⟩
      generalize toldB off = td at *
      go_enter Tryz.func102, Tryz.ntmps102
      go_wp2_with (first
        | (go_at_call 150; refine (P1.out _).mono ?_; rintro e w1 ⟨rfl, rfl⟩; clear P1)
        | (go_at_call 150; refine (P2.out _).mono ?_; rintro e w1 ⟨rfl, rfl⟩; clear P2))
      have hw2 : IntKind.i64.wrap ((i : Int) + 2) = (i : Int) + 2 := by rw [IntKind.wrap_i64]; omega
      refine Qt.wp_region_cls (Below w1.heap.size w1) (by kernel_rfl) (by kernel_rfl) (below_dr (n := 1) (Below.refl _ _)) ?_
      repeat (go_big_quiet_step ((go_at_call 151; exact Qt.quiet_cls (TC.out _ (Qt.In.h _)))))
      refine wpQuiet_nil ?_
      rintro wq ⟨⟨w9, hq⟩, e9⟩
      have HX : Hid (Below w1.heap.size w1 wq) := by rw [e9]; exact hq
      clear hq e9 inst TC
      go_wp2
      go_ret
      exact ⟨rfl, HX.out⟩
  · change ∀ z, Calls _ _ _ z fun e w' => e = .returned (.int .i64 (Lib.index f.data.toList [37, 115])) ∧ w' = z at S1
    rw [i1] at S1
    have hi := r2 (by simp) ho
    simp only [List.length_cons, List.length_nil] at hi
    have P1 := Lib.hid S1
    rw [abbr_s i1]
    clear S1 S2 S3 r2 ho i1
    go_enter Tryz.func102, Tryz.ntmps102
    go_wp2_with (go_at_call 150; refine (P1.out _).mono ?_; rintro e w1 ⟨rfl, rfl⟩; clear P1)
    go_region
    go_wp2
    go_ret
    exact ⟨rfl, (Below.refl _ _).drew⟩
end Go.Proofs.YtdicedpklpadgaaGreatDoor.Cmq
end
section
namespace Go.Proofs.YtdicedpklpadgaaGreatDoor.Snd
open Go.RowKit Mem Civ Mom Img Plc Rul Src Go.Maps

set_option maxHeartbeats 1000000 in
set_option maxRecDepth 100000 in
theorem rset_any (s : Src) (A A2 A3 : Option Addr) (c c2 c3 : Nat) (nm : ByteArray) (w : World) (h : SrcOk s A A2 A3 w) :
    Calls Tryz.prog 36 #[.agg #[.slice A s.rules.length c, .slice A2 s.zones.length c2, .slice A3 s.links.length c3], .string nm] w fun e w' => ∃ v, e = .returned v ∧ w'.ownsRow w.heap.size 59 11 v (setL s.rules nm).length ((setL s.rules nm).flatMap Rule.cells) ∧ Below w.heap.size w w' := by
  obtain ⟨i1, hi1, hy0, hy1, hy2⟩ := info_parts info_rule
  have hrr := h.rr; have nr := h.nr
  clear h
  obtain ⟨rs, zs, ls⟩ := s
  simp only at hrr nr ⊢
  have hone := One.new w 26 #[.slice A rs.length c, .slice A2 zs.length c2, .slice A3 ls.length c3]
  obtain ⟨W, hW⟩ : ∃ W, w.alloc (.cells #[.slice A rs.length c, .slice A2 zs.length c2, .slice A3 ls.length c3] 26) = W := ⟨_, rfl⟩
  rw [hW] at hone
  have hsz : W.heap.size = w.heap.size + 1 := by rw [← hW]; simp
  have HO := Lib.hid hone; have HR := Lib.hid hrr; have HSz := Lib.hid hsz
  clear hone hrr hsz
  go_enter Tryz.func36, Tryz.ntmps36
  go_wp2_with fail
  go_loopw [5, 6] (fun v i wr => ∃ k : Nat, k ≤ rs.length ∧ i = .int .i64 k ∧ wr.ownsRow W.heap.size 59 11 v (setL (rs.take k) nm).length ((setL (rs.take k) nm).flatMap Rule.cells) ∧ Below W.heap.size W wr) (fun _ i _ => rs.length - (intOf i).toNat)
  case atStart => exact ⟨0, Nat.zero_le _, rfl, World.ownsRow_nil _ _ _ _, Below.refl _ _⟩
  case round =>
    obtain ⟨k, hk, rfl, hown, hb⟩ := hrel
    have hsl := setL_len (rs.take k) nm
    rw [List.length_take] at hsl
    have ho := HO.out.step hb
    have c0 := fun i => ho.1.cell i
    have HOw := Lib.hid hown; have HB := Lib.hid hb; have Hsz := Lib.hid hb.size; have HOr := Lib.hid ho
    clear hown hb ho
    by_cases hkn : k < rs.length
    · obtain ⟨ad, hA, hadb, a0, a1, a2, a3, a4, a5, a6, a7, a8, a9, a10⟩ := rule_cells (HR.out.below HOr.out.2) hkn
      subst hA
      have hst := setL_step (nm := nm) hkn
      have hbq := tl_beq rs[k].name nm
      have HSt := Lib.hid hst
      clear hst
      generalize rs[k] = x at *
      obtain ⟨x0, x1, x2, x3, x4, x5, x6, x7, x8, x9, x10⟩ := x
      simp only at a0 a1 a2 a3 a4 a5 a6 a7 a8 a9 a10 HSt hbq
      have m1 : (setL (rs.take k) nm).length + 1 ≤ maxLen := by unfold maxLen; omega
      have m2 : ((setL (rs.take k) nm).length + 1) * 104 ≤ 140737488355328 := by omega
      have M1 := Lib.hid m1; have M2 := Lib.hid m2
      clear m1 m2 hsl
      cases hd : decide (x0 = nm)
      · rw [hd] at HSt hbq
        go_wp2_with fail
        refine ⟨⟨k + 1, by omega, by go_num, ?_, HB.out⟩, by simp [intOf]; omega⟩
        rw [HSt.out]
        simp only [Bool.false_eq_true, if_false]
        exact HOw.out
      · rw [hd] at HSt hbq
        generalize setL (rs.take k) nm = l1 at *
        go_wp2_with ((at_builtin; refine wpList_append1g wr rfl (.tmp 22) (.tmp 28) 22 rfl W.heap.size 59 i1 _ 11 104 Tryz.underlying22 hi1 hy0 hy1 hy2 rfl (by decide) _ l1.length (l1.flatMap Rule.cells) rfl HOw.out (by simp [Act.eval]) rfl one_rule M1.out M2.out Hsz.out ?_; intro v' wB hown8 hg8; have HO2 := Lib.hid hown8; have HB2 := Lib.hid ((HB.out.alloc Hsz.out _).grown hg8 (by have := Hsz.out; simp; omega) (fun j hj => (HOw.out.lt j hj).1)); clear hown8 hg8))
        refine ⟨⟨k + 1, by omega, by go_num, ?_, HB2.out⟩, by simp [intOf]; omega⟩
        rw [HSt.out]
        simp only [if_true, List.length_append, List.flatMap_append, List.length_cons, List.length_nil, List.flatMap_cons, List.flatMap_nil, List.append_nil]
        exact HO2.out
    · obtain rfl : k = rs.length := by omega
      have hb := HOr.out.2
      have ho2 := HOw.out
      rw [List.take_length] at ho2
      have HO2 := Lib.hid (own_base ho2 (by have := HSz.out; omega : w.heap.size ≤ W.heap.size))
      clear ho2
      go_wp2_with fail
      go_ret
      exact ⟨_, rfl, HO2.out, HOr.out.2⟩
theorem set_right {rs : List Rule} (h : rulesB rs = true) (nm : ByteArray) : rulesB (setL rs nm) = true := by
  unfold rulesB at h ⊢
  rw [List.all_eq_true] at h ⊢
  exact fun r hr => h r (List.mem_filter.1 hr).1
/-- The document's turn ahead of an era's end: its saving is the program's. -/
theorem rahead_c (s : Src) (x : Era) (hk : x.kind = 2) (hn : s.rules.length ≤ 1000000) (hs : rulesB s.rules = true) (Ae : Option Addr) (ce : Nat) (z : World) (hr : Reads z z.heap.size 11 Ae (setL s.rules x.rules).length ((setL s.rules x.rules).flatMap Rule.cells)) :
    Calls Tryz.prog 104 #[.slice Ae (setL s.rules x.rules).length ce, .int .i64 (endT x)] z fun e w' => ∃ (a0 a1 : Int) (a3 : ByteArray) (b : Bool), e = .returned (.tuple #[.agg #[.int .i64 a0, .int .i64 a1, .int .i64 (svF s x), .string a3], .bool b]) ∧ Below z.heap.size z w' := by
  refine (Ahd.refAhead_any (setL s.rules x.rules) Ae ce (endT x) z hr (Nat.le_trans (setL_len _ _) hn) (set_right hs _) (endT_bd x).1 (endT_bd x).2).mono ?_
  rintro e w' ⟨rfl, hb2⟩
  unfold svF setOf
  rw [if_pos hk, Ahd.aheadD_is (set_right hs _)]
  generalize (Ahd.aheadO (setL s.rules x.rules) (endT x)).isSome = b
  obtain ⟨t0, t1, t2, t3⟩ : Turn := (Ahd.aheadO (setL s.rules x.rules) (endT x)).getD Ahd.noTurn
  exact ⟨_, _, _, _, rfl, hb2⟩
set_option maxHeartbeats 2000000 in
set_option maxRecDepth 100000 in
theorem rend_any (s : Src) (A A2 A3 : Option Addr) (c c2 c3 : Nat) (x : Era) (w : World) (h : SrcOk s A A2 A3 w) (hs : rulesB s.rules = true) (hr : 0 ≤ x.spot.ref ∧ x.spot.ref ≤ 2) :
    Calls Tryz.prog 54 #[.agg #[.slice A s.rules.length c, .slice A2 s.zones.length c2, .slice A3 s.links.length c3], .agg x.cells.toArray] w fun e w' => e = .returned (.int .i64 (endI x (svF s x))) ∧ Below w.heap.size w w' := by
  have hb2 := box2 w 26 57 #[.slice A s.rules.length c, .slice A2 s.zones.length c2, .slice A3 s.links.length c3] x.cells.toArray
  have HL := Lib.hid (fun z => R09.local_any x.spot x.year z)
  have HS := Lib.hid (fun z (hb : Below w.heap.size w z) => rset_any s A A2 A3 c c2 c3 x.rules z (h.below hb))
  have HA := Lib.hid (fun hk => rahead_c s x hk h.nr hs)
  have nr := h.nr
  clear h hs
  obtain ⟨T, hT⟩ : ∃ T, endT x = T := ⟨_, rfl⟩
  obtain ⟨S, hS⟩ : ∃ S, svF s x = S := ⟨_, rfl⟩
  unfold endI endA savI
  rw [hT, hS] at HA
  rw [hT, hS]
  obtain ⟨q, hq⟩ : ∃ q, (localO x.spot x.year).isSome = q := ⟨_, rfl⟩
  have hd : dayV (localO x.spot x.year) = .tuple #[.int .i64 T, .bool q] := by
    rw [← hT, ← hq]
    unfold endT
    cases localO x.spot x.year <;> rfl
  rw [hd] at HL
  clear hd hq hT hS
  obtain ⟨rs, zs, ls⟩ := s
  obtain ⟨x0, x1, x2, x3, x4, x5, x6, ⟨y0, y1, y2, y3, y4, y5⟩⟩ := x
  simp only [Era.cells, Spot.cells] at hb2 HL HS HA nr hr ⊢
  obtain ⟨W, hW⟩ : ∃ W, (w.alloc (.cells #[.slice A rs.length c, .slice A2 zs.length c2, .slice A3 ls.length c3] 26)).alloc (.cells #[.int .i64 x0, .int .i64 x1, .int .i64 x2, .string x3, .string x4, .bool x5, .int .i64 x6, .int .i64 y0, .int .i64 y1, .int .i64 y2, .int .i64 y3, .int .i64 y4, .int .i64 y5] 57) = W := ⟨_, rfl⟩
  rw [hW] at hb2
  obtain ⟨b0, b1, hbw, hsz⟩ := hb2
  have HB0 := Lib.hid b0; have HB1 := Lib.hid b1; have HBw := Lib.hid hbw
  have c1 := fun i => b1.cell i
  clear b0 b1 hbw
  go_enter Tryz.func54, Tryz.ntmps54
  rcases (by omega : y5 = 2 ∨ y5 = 1 ∨ y5 = 0) with rfl | rfl | rfl
  · clear HA HS
    go_wp2_with (go_at_call 103; refine (HL.out _).mono ?_; rintro e w1 ⟨rfl, hb⟩; have hx1 := HB1.out.below hb HB1.out.lt; have c2 := fun i => hx1.cell i; have HBx := Lib.hid (HBw.out.trans (hb.mono HBw.out.size)); clear hb hx1)
    go_ret
    exact ⟨rfl, HBx.out⟩
  · clear HA HS
    go_wp2_with (go_at_call 103; refine (HL.out _).mono ?_; rintro e w1 ⟨rfl, hb⟩; have hx1 := HB1.out.below hb HB1.out.lt; have c2 := fun i => hx1.cell i; have HBx := Lib.hid (HBw.out.trans (hb.mono HBw.out.size)); clear hb hx1)
    go_ret
    exact ⟨rfl, HBx.out⟩
  · by_cases hk : x1 = 2
    · subst hk
      have HA2 := Lib.hid (HA.out rfl)
      clear HA
      go_wp2_with (first
        | (go_at_call 103; refine (HL.out _).mono ?_; rintro e w1 ⟨rfl, hb⟩; have hx0 := HB0.out.below hb HB0.out.lt; have hx1 := HB1.out.below hb HB1.out.lt; have c2 := fun i => hx1.cell i; have d2 := fun i => hx0.cell i; have HX0 := Lib.hid hx0; have HX1 := Lib.hid hx1; have HBx := Lib.hid (HBw.out.trans (hb.mono HBw.out.size)); clear hb hx0 hx1)
        | (go_at_call 36; refine (HS.out _ HBx.out).mono ?_; rintro e w2 ⟨v, rfl, hown, hb⟩; obtain ⟨Av, cv, rfl⟩ := own_slice hown; have hx1 := HX1.out.below hb HX1.out.lt; have HRv := Lib.hid (Reads.of_own hown); have HY1 := Lib.hid hx1; have HBy := Lib.hid (HBx.out.trans (hb.mono HBx.out.size)); clear hb hx1 hown)
        | (go_at_call 104; refine (HA2.out _ _ _ HRv.out).mono ?_; rintro e w3 ⟨a0, a1, a3, b, rfl, hb⟩; have hx1 := HY1.out.below hb HY1.out.lt; have c3 := fun o i => (hx1.alloc o).cell i; have HBz := Lib.hid (HBy.out.trans (hb.mono HBy.out.size)); clear hb hx1))
      go_ret
      exact ⟨rfl, HBz.out.alloc HBz.out.size _⟩
    · have hkb : (x1 == 2) = false := by simp [hk]
      simp only [if_neg hk]
      clear HA HS hk
      go_wp2_with (go_at_call 103; refine (HL.out _).mono ?_; rintro e w1 ⟨rfl, hb⟩; have hx1 := HB1.out.below hb HB1.out.lt; have c2 := fun i => hx1.cell i; have HBx := Lib.hid (HBw.out.trans (hb.mono HBw.out.size)); clear hb hx1)
      go_ret
      exact ⟨rfl, HBx.out⟩
end Go.Proofs.YtdicedpklpadgaaGreatDoor.Snd
end
