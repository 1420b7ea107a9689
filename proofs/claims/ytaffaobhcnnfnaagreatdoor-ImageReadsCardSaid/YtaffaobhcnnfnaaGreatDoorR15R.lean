/-
  The document's Load (analemmaref15.Load): the contract. Conditions: at most 4000 bytes.
-/
import Derived.Test.YtaffaobhcnnfnaaGreatDoorFin
namespace Go.Proofs.YtaffaobhcnnfnaaGreatDoor.R15
open Go.RowKit Mem Img Rgt Rd Plc Src

set_option maxHeartbeats 16000000 in
set_option maxRecDepth 100000 in
theorem load_q (s : ByteArray) (w : World) (hs : s.size ≤ 4000) : Calls Tryz.prog 13 #[.string s] w (LQ w (loadM tailB s.data.toList)) := by
  obtain ⟨i67, hi67, hz67, hs67, hb67⟩ := info_parts info67
  obtain ⟨i52, hi52, hz52, hs52, hb52⟩ := info_parts info52
  obtain ⟨i64_, hi64, hz64, hs64, hb64⟩ := info_parts info_u64
  obtain ⟨i23, hi23, hz23, hs23, hb23⟩ := info_parts info23
  obtain ⟨R, hR⟩ : ∃ R, loadM tailB s.data.toList = R := ⟨_, rfl⟩
  have HNone : Hid (refM s.data.toList = none → R = none) := fun h => by rw [← hR]; exact load_none h
  have HYes : Hid (∀ y, rightB y (tailB y) = true → img y = s.data.toList → In64 y.till → (∀ z ∈ y.shifts, In64 z.sec) → R = some y) := fun y h1 h2 h3 h4 => by rw [← hR]; exact load_yes h1 h2 h3 h4
  have HNo : Hid (∀ y r, refM s.data.toList = some (y, r) → ¬ (rightB y (tailB y) = true ∧ img y = s.data.toList) → R = none) := fun y r h1 h2 => by rw [← hR]; exact load_no h1 h2
  rw [hR]
  clear hR
  have hll : s.data.toList.length = s.size := len_toList s
  have hbx := box2 w 27 80 zTab #[.string s, .int .i64 (0 : Nat), .bool false]
  obtain ⟨b0, b1, hbel, hzz⟩ := hbx
  have hrd : RdQ ((w.alloc (.cells zTab 27)).alloc (.cells #[.string s, .int .i64 (0 : Nat), .bool false] 80)) (w.heap.size + 1) s (some s.data.toList) := ⟨0, Nat.zero_le _, fun r e => by cases e; rfl, b1⟩
  have HR := Lib.hid hrd; have HB0 := Lib.hid b0; have HBel := Lib.hid hbel
  clear hrd b0 b1 hbel hzz
  unfold zTab at HR HB0 HBel
  go_enter Tryz.func13, Tryz.ntmps13
  go_wp2_with fail
  go_at_call 31
  refine (text_q 4 _ s _ _ HR.out (by omega) (by omega)).mono ?_
  rintro e w1 ⟨hg, v, o1, rfl, hv, hq, hr⟩
  have hbr1 := HB0.out.grown hg (by simp)
  have hbel1 : Below w.heap.size w w1 := bel_grown HBel.out (HBel.out.size) hg (by omega)
  have hlt1 := hr.lt
  have HR1 := Lib.hid hr; have HB1 := Lib.hid hbr1; have HBel1 := Lib.hid hbel1
  have hm := hq.next (R := refM s.data.toList) (G := fun h => if h.1 = magic then q0 s.data.toList.length h.2 else none) rfl
  dsimp only at hm
  have HM := Lib.hid hm
  clear hg hq hr hbr1 hbel1 hm HR HB0 HBel
  by_cases hmag : v = magic
  · subst hmag
    have hB : (magic == [65, 78, 76, 49]) = true := rfl
    have hB2 : (!(magic == [65, 78, 76, 49])) = false := rfl
    have hm := HM.out
    simp only [if_true] at hm
    have HM := Lib.hid (show refM s.data.toList = o1.bind fun y => (shQ y).bind fun a => (nU 4 a.2).bind fun n => (nU 4 n.2).bind fun k => (nU 4 k.2).bind fun m => q1 s.size a.1 n.1 k.1 m.1 m.2 by rw [← hll]; exact hm)
    clear hm
    go_wp2_with fail
    go_at_call 32
    refine (short_q _ s o1 _ HR1.out (by omega)).mono ?_
    rintro e w2 ⟨hg, name, o2, rfl, hnm, hq, hr⟩
    have hlt2 := hr.lt
    have hb2 := HB1.out.grown hg (by simp)
    have hbel2 := bel_grown HBel1.out HBel1.out.size hg (by omega)
    have HL := Lib.hid (show LS w s o2 w2.heap.size _ (w2.alloc (.cells #[.string ⟨name.toArray⟩, .int .i64 0, .int .i64 0, .string ⟨#[]⟩, .slice none 0 0, .int .i64 0, .slice none 0 0, .int .i64 0, .string ⟨#[]⟩] 27)) from ⟨rd_alloc hr _, Blk.new w2 _ _, hb2.alloc _, hbel2.alloc hbel2.size _, by omega⟩)
    have hm := hq.next HM.out
    dsimp only at hm
    have HM := Lib.hid hm
    clear hg hq hr hm hb2 hbel2 HR1 HB1 HBel1 hB2 hlt1 hlt2
    go_wp2_with fail
    go_at_call 33
    refine (num_q 4 _ s _ _ HL.out.rd (by omega) (by omega)).mono ?_
    rintro e w3 ⟨hg, n, o3, rfl, hv, hq, hr⟩
    have hn : n < 4294967296 := hv
    have hl := HL.out.step hr hg
    have hm := hq.next HM.out
    dsimp only at hm
    have HL := Lib.hid hl
    have HM := Lib.hid hm
    clear hg hq hr hv hl hm
    go_wp2_with fail
    go_at_call 33
    refine (num_q 4 _ s _ _ HL.out.rd (by omega) (by omega)).mono ?_
    rintro e w4 ⟨hg, k, o4, rfl, hv, hq, hr⟩
    have hk : k < 4294967296 := hv
    have hl := HL.out.step hr hg
    have hm := hq.next HM.out
    dsimp only at hm
    have HL := Lib.hid hl
    have HM := Lib.hid hm
    clear hg hq hr hv hl hm
    go_wp2_with fail
    go_at_call 33
    refine (num_q 4 _ s _ _ HL.out.rd (by omega) (by omega)).mono ?_
    rintro e w5 ⟨hg, m, o5, rfl, hv, hq, hr⟩
    have hm : m < 4294967296 := hv
    have hl := HL.out.step hr hg
    have hm := hq.next HM.out
    dsimp only at hm
    have HL := Lib.hid hl
    have HM := Lib.hid hm
    clear hg hq hr hv hl hm
    have hcs : (refM s.data.toList = none ∧ (s.size < n ∨ (¬ s.size < n ∧ s.size < k) ∨ (¬ s.size < n ∧ ¬ s.size < k ∧ k = 0) ∨ (¬ s.size < n ∧ ¬ s.size < k ∧ ¬ k = 0 ∧ o5 = none))) ∨ (n ≤ s.size ∧ k ≤ s.size ∧ 0 < k ∧ ∃ r5, o5 = some r5 ∧ refM s.data.toList = (repM (nU 8) n r5).bind (q2 name n k m)) := by
      have hm := HM.out
      by_cases h1 : s.size < n
      · refine .inl ⟨?_, .inl h1⟩
        rw [hm]; cases o5 with
        | none => rfl
        | some r => rw [Option.bind_some, q1, if_pos (.inl h1)]
      · by_cases h2 : s.size < k
        · refine .inl ⟨?_, .inr (.inl ⟨h1, h2⟩)⟩
          rw [hm]; cases o5 with
          | none => rfl
          | some r => rw [Option.bind_some, q1, if_pos (.inr (.inl h2))]
        · by_cases h3 : k = 0
          · refine .inl ⟨?_, .inr (.inr (.inl ⟨h1, h2, h3⟩))⟩
            rw [hm]; cases o5 with
            | none => rfl
            | some r => rw [Option.bind_some, q1, if_pos (.inr (.inr h3))]
          · cases o5 with
            | none => exact .inl ⟨by rw [hm]; rfl, .inr (.inr (.inr ⟨h1, h2, h3, rfl⟩))⟩
            | some r => exact .inr ⟨by omega, by omega, by omega, r, rfl, by rw [hm, Option.bind_some, q1, if_neg (by omega)]⟩
    rcases hcs with ⟨hn, hbad⟩ | ⟨hn, hk0, hk1, r5, rfl, hm5⟩
    · obtain rfl := HNone.out hn
      clear hn
      obtain ⟨p5, _, _, hb5⟩ := HL.out.rd
      have c5 := fun i => hb5.cell i
      rcases hbad with hb | ⟨hb, hc⟩ | ⟨hb, hc, rfl⟩ | ⟨hb, hc, hd, rfl⟩
      all_goals
        go_upto_region 7 with fail
        rename_i K hK
        exact end_zero rfl rfl rfl rfl rfl rfl rfl rfl rfl rfl (by decide) (of_decide_eq_true (by kernel_rfl)) (of_decide_eq_true (by kernel_rfl)) (by kernel_rfl) rfl hK (fun _ _ h => h) HL.out.br HL.out.bel
    · have HM5 := Lib.hid hm5
      have HL5 := Lib.hid HL.out
      have hrow0 := World.ownsRow_nil w5 w.heap.size 67 4
      have Hrow0 := Lib.hid hrow0
      obtain ⟨p5, _, _, hb5⟩ := HL.out.rd
      have c5 := fun i => hb5.cell i
      have hkz : (((k : Nat) : Int) == 0) = false := by rw [beq_eq_false_iff_ne]; omega
      have hnn : ¬ s.size < n := by omega
      have hkk : ¬ s.size < k := by omega
      clear hm5 hll HL HM hb5 hrow0
      go_wp2_with fail
      clear hkz hnn hkk
      obtain ⟨X, hX⟩ : ∃ X, X = w2.heap.size := ⟨_, rfl⟩
      rw [← hX] at HL5 ⊢
      clear hX c5
      go_loopw [9] (fun i wr => ∃ (j : Nat) (xs : List Nat) (o : Option (List UInt8)) (A : Option Addr) (c : Nat), j ≤ n ∧ i = .int .u64 j ∧ LR (nU 8) n (some r5) j xs o ∧
        LS w s o X #[.string ⟨name.toArray⟩, .int .i64 0, .int .i64 0, .string ⟨#[]⟩, .slice A j c, .int .i64 0, .slice none 0 0, .int .i64 0, .string ⟨#[]⟩] wr ∧ wr.ownsRow w.heap.size 67 4 (.slice A j c) j (xs.flatMap sq)) (fun i _ => n - (intOf i).toNat)
      case atStart => exact ⟨0, [], some r5, none, 0, Nat.zero_le _, rfl, LR.start _ _ _, HL5.out, Hrow0.out⟩
      case round =>
        clear HL5 Hrow0
        obtain ⟨j, xs, o, A, c, hj, rfl, hlr, hl, hrw⟩ := hrel
        have HLR := Lib.hid hlr; have HL := Lib.hid hl; have HRw := Lib.hid hrw
        clear hlr hl hrw
        obtain ⟨pj, _, _, hbj⟩ := HL.out.rd
        have cj := fun i => hbj.cell i
        clear hbj
        cases o with
        | none =>
          -- <
          have hbad := HLR.out.bad
          have hn : refM s.data.toList = none := by
            rw [HM5.out]
            rcases hbad with ⟨_, h⟩ | ⟨r, e, _⟩
            · rw [Option.bind_some] at h; rw [h]; rfl
            · cases e
          obtain rfl := HNone.out hn
          clear hn hbad
          have cj2 := cj 2
          simp only [Option.isNone_none, List.getElem?_toArray, List.getElem?_cons_succ, List.getElem?_cons_zero] at cj2
          clear cj
          by_cases hjn : j < n
          all_goals
            go_wp2_with fail
            all_goals (refine wp_loop_rounds 1 ?_)
            all_goals rw [rounds_succ]
            all_goals go_wp2_with fail
            all_goals (refine wp_loop_rounds 1 ?_)
            all_goals rw [rounds_succ]
            all_goals go_wp2_with fail
            all_goals
              (go_at_call 31; refine (text_q m _ s none _ HL.out.rd (by omega) (by omega)).mono ?_; rintro e w9 ⟨hg, vt, ot, rfl, hv, hq, hr⟩; obtain rfl := hq.none_; have hl := HL.out.step hr hg; obtain ⟨p9, _, _, hb9⟩ := hr; have c9 := hb9.cell 2; simp only [Option.isNone_none, List.getElem?_toArray, List.getElem?_cons_succ, List.getElem?_cons_zero] at c9; clear hg hq hb9)
              go_upto_region 25 with fail
              rename_i K hK
              exact end_zero rfl rfl rfl rfl rfl rfl rfl rfl rfl rfl (by decide) (of_decide_eq_true (by kernel_rfl)) (of_decide_eq_true (by kernel_rfl)) (by kernel_rfl) rfl hK (fun _ _ h => h) hl.br hl.bel
          -- >
        | some r =>
          by_cases hjn : j < n
          · -- body
            -- <
            have cX := fun i => HL.out.bx.cell i
            have m1 : j + 1 ≤ maxLen := by unfold maxLen; omega
            have m2 : (j + 1) * 40 ≤ 140737488355328 := by omega
            have M1 := Lib.hid m1; have M2 := Lib.hid m2; clear m1 m2
            go_wp2_with fail
            go_region_law (first
              | (refine step_append1 wA rfl (.tmp 75) (.tmp 80) 24 rfl w.heap.size 67 i67 _ 4 40 Tryz.underlying24 hi67 hz67 hs67 hb67 rfl (by decide) _ j (xs.flatMap sq) (by simp [Act.eval]) HRA.out (by simp [Act.eval]) rfl shift_one M1.out M2.out HzA.out ?_; intro v' wB hown8 hg8; obtain ⟨gt, capt, rfl, _, _⟩ := hown8.form (Nat.succ_pos _); have hh := HLA.out.own1 HRA.out (Nat.le_refl _) (by decide) (by decide) hg8; have HLB := Lib.hid hh; have HRB := Lib.hid hown8; have fB := fun i => hh.bx.frozen i; have cB := fun i => hh.bx.cell i; clear hown8 hg8 hh)
              | (go_simp; go_at_call 33; refine (num_q 8 _ s _ _ HL.out.drew.rd (by omega) (by omega)).mono ?_; rintro e wA ⟨hg, v, o', rfl, hv, hq, hr⟩; have hl := HL.out.drew.step hr hg; have HLA := Lib.hid hl; have HRA := Lib.hid (HL.out.drew.row HRw.out.drew (by decide) hg); have HzA := Lib.hid hl.bel.size; have cA := fun i => hl.bx.cell i; have cA2 := fun ob i => (hl.alloc ob).bx.cell i; have HQ := Lib.hid hq; clear hg hq hr hl hv))
            all_goals
              have ht := HLB.out.set_ 4 (.slice (some ⟨gt, 0, none⟩) (j + 1) capt)
              simp only [List.setIfInBounds_toArray, List.set_cons_succ, List.set_cons_zero] at ht
              have hr := row_set HRB.out HLB.out.bx (by decide) 4 (.slice (some ⟨gt, 0, none⟩) (j + 1) capt)
              have HLC := Lib.hid ht; have HRC := Lib.hid hr
              clear ht hr
              go_wp2
              refine ⟨⟨j + 1, xs ++ [v], o', some ⟨gt, 0, none⟩, capt, by omega, ?_, HLR.out.step hjn HQ.out, HLC.out, ?_⟩, by simp [intOf]; omega⟩
              · go_num
              · simpa [sq, sh0] using HRC.out
            -- >
          · obtain rfl : j = n := by omega
            have cj2 := cj 2
            simp only [Option.isNone_some, List.getElem?_toArray, List.getElem?_cons_succ, List.getElem?_cons_zero] at cj2
            have hxl := HLR.out.len
            have hm : refM s.data.toList = (repM (nU 4) j r).bind (q3 name k m xs) := by
              rw [HM5.out]
              rcases HLR.out with ⟨e, _⟩ | ⟨r', e, h⟩
              · cases e
              · cases e
                rw [Option.bind_some] at h
                rw [h]
                rfl
            have HM6 := Lib.hid hm
            obtain ⟨r6, rfl⟩ : ∃ r6, r6 = r := ⟨_, rfl⟩
            clear hm HM5 HLR cj hjn hj
            obtain ⟨n, rfl⟩ : ∃ n, n = j := ⟨_, rfl⟩
            obtain ⟨W1, rfl⟩ : ∃ W1, W1 = wr := ⟨_, rfl⟩
            go_wp2_with fail
            -- the places
            go_loopw [10, 12] (fun v i wr => ∃ (j : Nat) (ps : List Nat) (o : Option (List UInt8)) (A2 : Option Addr) (c2 : Nat), j ≤ n ∧ i = .int .u64 j ∧ v = .slice A2 j c2 ∧ LR (nU 4) n (some r6) j ps o ∧ LS w s o X #[.string ⟨name.toArray⟩, .int .i64 0, .int .i64 0, .string ⟨#[]⟩, .slice A n c, .int .i64 0, .slice none 0 0, .int .i64 0, .string ⟨#[]⟩] wr ∧
              wr.ownsRow w.heap.size 67 4 (.slice A n c) n (xs.flatMap sq) ∧ wr.ownsRow w.heap.size 82 1 (.slice A2 j c2) j (ps.map uC)) (fun _ i _ => n - (intOf i).toNat)
            case atStart => exact ⟨0, [], some r6, none, 0, Nat.zero_le _, rfl, rfl, LR.start _ _ _, HL.out, HRw.out, World.ownsRow_nil _ _ _ _⟩
            case round =>
              clear HL HRw cj2
              obtain ⟨j, ps, o, A2, c2, hj, rfl, rfl, hlr, hl, hrw, hrp⟩ := hrel
              have HLR := Lib.hid hlr; have HL := Lib.hid hl; have HRw := Lib.hid hrw; have HRp := Lib.hid hrp
              clear hlr hl hrw hrp
              obtain ⟨pj, _, _, hbj⟩ := HL.out.rd
              have cj := fun i => hbj.cell i
              clear hbj
              cases o with
              | none =>
                -- <
                have hbad := HLR.out.bad
                have hn : refM s.data.toList = none := by
                  rw [HM6.out]
                  rcases hbad with ⟨_, h⟩ | ⟨r, e, _⟩
                  · rw [Option.bind_some] at h; rw [h]; rfl
                  · cases e
                obtain rfl := HNone.out hn
                clear hn hbad
                have cj2 := cj 2
                simp only [Option.isNone_none, List.getElem?_toArray, List.getElem?_cons_succ, List.getElem?_cons_zero] at cj2
                clear cj
                by_cases hjn : j < n
                all_goals
                  go_wp2_with fail
                  all_goals (refine wp_loop_rounds 1 ?_)
                  all_goals rw [rounds_succ]
                  all_goals go_wp2_with fail
                  all_goals
                    (go_at_call 31; refine (text_q m _ s none _ HL.out.rd (by omega) (by omega)).mono ?_; rintro e w9 ⟨hg, vt, ot, rfl, hv, hq, hr⟩; obtain rfl := hq.none_; have hl := HL.out.step hr hg; obtain ⟨p9, _, _, hb9⟩ := hr; have c9 := hb9.cell 2; simp only [Option.isNone_none, List.getElem?_toArray, List.getElem?_cons_succ, List.getElem?_cons_zero] at c9; clear hg hq hb9)
                    go_upto_region 25 with fail
                    rename_i K hK
                    exact end_zero rfl rfl rfl rfl rfl rfl rfl rfl rfl rfl (by decide) (of_decide_eq_true (by kernel_rfl)) (of_decide_eq_true (by kernel_rfl)) (by kernel_rfl) rfl hK (fun _ _ h => h) hl.br hl.bel
                -- >
              | some r =>
                have cj2 := cj 2
                simp only [Option.isNone_some, List.getElem?_toArray, List.getElem?_cons_succ, List.getElem?_cons_zero] at cj2
                clear cj
                by_cases hjn : j < n
                · -- body
                  -- <
                  have m1 : j + 1 ≤ maxLen := by unfold maxLen; omega
                  have m2 : (j + 1) * 8 ≤ 140737488355328 := by omega
                  have M1 := Lib.hid m1; have M2 := Lib.hid m2; clear m1 m2
                  go_wp2_with (first
                    | (go_at_call 33; refine (num_q 4 _ s _ _ HL.out.rd (by omega) (by omega)).mono ?_; rintro e wA ⟨hg, v, o', rfl, hv, hq, hr⟩; have hl := HL.out.step hr hg; have HLA := Lib.hid hl; have HRA := Lib.hid (HL.out.row HRw.out (by decide) hg); have HPA := Lib.hid (HL.out.row HRp.out (by decide) hg); have HzA := Lib.hid hl.bel.size; have HQ := Lib.hid hq; clear hg hq hr hl hv)
                    | (at_builtin; refine wpList_append1g wA rfl (.tmp 95) (.tmp 98) 85 rfl w.heap.size 82 i64_ _ 1 8 Tryz.underlying85 hi64 hz64 hs64 hb64 rfl (by decide) _ j (ps.map uC) rfl HPA.out rfl rfl one_of_int M1.out M2.out HzA.out ?_; intro v' wB hown8 hg8; obtain ⟨gt, capt, rfl, _, _⟩ := hown8.form (Nat.succ_pos _); have HLB := Lib.hid (HLA.out.own1 HPA.out (Nat.le_refl _) (by decide) (by decide) hg8); have HRB := Lib.hid (row_row HRA.out HPA.out (by decide) hg8); have HPB := Lib.hid hown8; clear hown8 hg8))
                  refine ⟨⟨j + 1, ps ++ [v], o', _, _, by omega, by go_num, rfl, HLR.out.step hjn HQ.out, HLB.out, HRB.out, ?_⟩, by simp [intOf]; omega⟩
                  simpa [uC] using HPB.out
                  -- >
                · obtain rfl : j = n := by omega
                  have hpl := HLR.out.len
                  have hm : refM s.data.toList = (repM quadQ k r).bind (q4 name m xs ps) := by
                    rw [HM6.out]
                    rcases HLR.out with ⟨e, _⟩ | ⟨r', e, h⟩
                    · cases e
                    · cases e
                      rw [Option.bind_some] at h
                      rw [h]
                      rfl
                  have HM7 := Lib.hid hm
                  obtain ⟨r7, rfl⟩ : ∃ r7, r7 = r := ⟨_, rfl⟩
                  clear hm HLR hjn hj
                  obtain ⟨n, rfl⟩ : ∃ n, n = j := ⟨_, rfl⟩
                  obtain ⟨W2, rfl⟩ : ∃ W2, W2 = wr := ⟨_, rfl⟩
                  obtain ⟨B2, hB2⟩ : ∃ B2, B2 = W2.heap.size := ⟨_, rfl⟩
                  have HB2 := Lib.hid hB2
                  have HPb : Hid (∀ b, (Value.slice A2 n c2).ownBlock = some b → b < B2) := fun b hb => by rw [HB2.out]; exact (HRp.out.lt b hb).2
                  have hBw : w.heap.size ≤ B2 := by rw [HB2.out]; exact HL.out.bel.size
                  have HBw := Lib.hid hBw
                  clear hB2 hBw
                  go_wp2_with fail
                  -- the phases without their texts
                  go_loopw [11, 13, 14] (fun vb v i wr => ∃ (j : Nat) (qs : List (Int × Int × Nat)) (o : Option (List UInt8)) (A3 A4 : Option Addr) (c3 c4 : Nat), j ≤ k ∧ i = .int .u64 j ∧ vb = .slice A3 j c3 ∧ v = .slice A4 j c4 ∧ LR quadQ k (some r7) j qs o ∧ LS w s o X #[.string ⟨name.toArray⟩, .int .i64 0, .int .i64 0, .string ⟨#[]⟩, .slice A n c, .int .i64 0, .slice none 0 0, .int .i64 0, .string ⟨#[]⟩] wr ∧ B2 ≤ wr.heap.size ∧
                    wr.ownsRow w.heap.size 67 4 (.slice A n c) n (xs.flatMap sq) ∧ wr.ownsRow w.heap.size 82 1 (.slice A2 n c2) n (ps.map uC) ∧ wr.ownsRow B2 82 1 (.slice A3 j c3) j (qs.map fun q => uC q.2.2) ∧ wr.ownsRow w.heap.size 23 3 (.slice A4 j c4) j (qs.flatMap pq)) (fun _ _ i _ => k - (intOf i).toNat)
                  case atStart => exact ⟨0, [], some r7, none, none, 0, 0, Nat.zero_le _, rfl, rfl, rfl, LR.start _ _ _, HL.out, by rw [HB2.out]; exact Nat.le_refl _, HRw.out, HRp.out, World.ownsRow_nil _ _ _ _, World.ownsRow_nil _ _ _ _⟩
                  case round =>
                    clear HL HRw HRp HB2 cj2
                    obtain ⟨j, qs, o, A3, A4, c3, c4, hj, rfl, rfl, rfl, hlr, hl, hbz, hrw, hrp, hrb, hrq⟩ := hrel
                    have HLR := Lib.hid hlr; have HL := Lib.hid hl; have HRw := Lib.hid hrw; have HRp := Lib.hid hrp; have HRb := Lib.hid hrb; have HRq := Lib.hid hrq; have HBz := Lib.hid hbz
                    clear hlr hl hrw hrp hrb hrq hbz
                    obtain ⟨pj, _, _, hbj⟩ := HL.out.rd
                    have cj := fun i => hbj.cell i
                    clear hbj
                    cases o with
                    | none =>
                      -- <
                      have hbad := HLR.out.bad
                      have hn : refM s.data.toList = none := by
                        rw [HM7.out]
                        rcases hbad with ⟨_, h⟩ | ⟨r, e, _⟩
                        · rw [Option.bind_some] at h; rw [h]; rfl
                        · cases e
                      obtain rfl := HNone.out hn
                      clear hn hbad
                      have cj2 := cj 2
                      simp only [Option.isNone_none, List.getElem?_toArray, List.getElem?_cons_succ, List.getElem?_cons_zero] at cj2
                      clear cj
                      by_cases hjn : j < k
                      all_goals
                        go_wp2_with fail
                        all_goals
                          (go_at_call 31; refine (text_q m _ s none _ HL.out.rd (by omega) (by omega)).mono ?_; rintro e w9 ⟨hg, vt, ot, rfl, hv, hq, hr⟩; obtain rfl := hq.none_; have hl := HL.out.step hr hg; obtain ⟨p9, _, _, hb9⟩ := hr; have c9 := hb9.cell 2; simp only [Option.isNone_none, List.getElem?_toArray, List.getElem?_cons_succ, List.getElem?_cons_zero] at c9; clear hg hq hb9)
                          go_upto_region 25 with fail
                          rename_i K hK
                          exact end_zero rfl rfl rfl rfl rfl rfl rfl rfl rfl rfl (by decide) (of_decide_eq_true (by kernel_rfl)) (of_decide_eq_true (by kernel_rfl)) (by kernel_rfl) rfl hK (fun _ _ h => h) hl.br hl.bel
                      -- >
                    | some r =>
                      have cj2 := cj 2
                      simp only [Option.isNone_some, List.getElem?_toArray, List.getElem?_cons_succ, List.getElem?_cons_zero] at cj2
                      clear cj
                      by_cases hjn : j < k
                      · -- body
                        -- <
                        have m1 : j + 1 ≤ maxLen := by unfold maxLen; omega
                        have m2 : (j + 1) * 8 ≤ 140737488355328 := by omega
                        have m3 : (j + 1) * 32 ≤ 140737488355328 := by omega
                        have M1 := Lib.hid m1; have M2 := Lib.hid m2; have M3 := Lib.hid m3; clear m1 m2 m3
                        go_wp2_with (first
                          | (go_at_call 34; have tk := tok; refine (four_q _ s _ _ HLA.out.rd (by omega)).mono ?_; rintro e wB ⟨hg, vb, ob, rfl, hvb, hq, hr⟩; obtain ⟨hvb0, hvb1⟩ := hvb; have hl := HLA.out.step hr hg; have HLB := Lib.hid hl; have HWB := Lib.hid (HLA.out.row HWA.out (by decide) hg); have HPB := Lib.hid (HLA.out.row HPA.out (by decide) hg); have HBB := Lib.hid (HLA.out.row HBA.out (by decide) hg); have HQB := Lib.hid (HLA.out.row HQA.out (by decide) hg); have HzB := Lib.hid hl.bel.size; have Hz2 := Lib.hid (Nat.le_trans Hz1.out hg.size); have HN2 := Lib.hid hq; clear hg hq hr hl)
                          | (go_at_call 34; refine (four_q _ s _ _ HL.out.rd (by omega)).mono ?_; rintro e wA ⟨hg, va, oa, rfl, hva, hq, hr⟩; obtain ⟨hva0, hva1⟩ := hva; have hl := HL.out.step hr hg; have HLA := Lib.hid hl; have HWA := Lib.hid (HL.out.row HRw.out (by decide) hg); have HPA := Lib.hid (HL.out.row HRp.out (by decide) hg); have HBA := Lib.hid (HL.out.row HRb.out (by decide) hg); have HQA := Lib.hid (HL.out.row HRq.out (by decide) hg); have Hz1 := Lib.hid (Nat.le_trans HBz.out hg.size); have HN1 := Lib.hid hq; clear hg hq hr hl; have tok : True := trivial)
                          | (go_at_call 33; refine (num_q 4 _ s _ _ HLC.out.rd (by omega) (by omega)).mono ?_; rintro e wD ⟨hg, vd, od, rfl, hv, hq, hr⟩; have hl := HLC.out.step hr hg; have HLD := Lib.hid hl; have HWD := Lib.hid (HLC.out.row HWC.out (by decide) hg); have HPD := Lib.hid (HLC.out.row HPC.out (by decide) hg); have HBD := Lib.hid (HLC.out.row HBC.out (by decide) hg); have HQD := Lib.hid (HLC.out.row HQC.out (by decide) hg); have HzD := Lib.hid (Nat.le_trans Hz3.out hg.size); have HN3 := Lib.hid hq; clear hg hq hr hl hv)
                          | (at_builtin; refine wpList_append1g wB rfl (.tmp 112) (.tmp 118) 57 rfl w.heap.size 23 i23 _ 3 32 Tryz.underlying57 hi23 hz23 hs23 hb23 rfl (by decide) _ j (qs.flatMap pq) rfl HQB.out rfl rfl phases_oneCell M1.out M3.out HzB.out ?_; intro v' wC hown8 hg8; obtain ⟨gt, capt, rfl, _, _⟩ := hown8.form (Nat.succ_pos _); have HLC := Lib.hid (HLB.out.own1 HQB.out (Nat.le_refl _) (by decide) (by decide) hg8); have HWC := Lib.hid (row_row HWB.out HQB.out (by decide) hg8); have HPC := Lib.hid (row_row HPB.out HQB.out (by decide) hg8); have HBC := Lib.hid (row_row HBB.out HQB.out (by decide) hg8); have HQC := Lib.hid hown8; have Hz3 := Lib.hid (Nat.le_trans Hz2.out (Nat.le_trans (by simp) hg8.size)); clear hown8 hg8)
                          | (at_builtin; refine wpList_append1g wD rfl (.tmp 120) (.tmp 123) 85 rfl B2 82 i64_ _ 1 8 Tryz.underlying85 hi64 hz64 hs64 hb64 rfl (by decide) _ j (qs.map fun q : Int × Int × Nat => uC q.2.2) rfl HBD.out rfl rfl one_of_int M1.out M2.out HzD.out ?_; intro v' wE hown8 hg8; obtain ⟨ge, cape, rfl, _, _⟩ := hown8.form (Nat.succ_pos _); have HLE := Lib.hid (HLD.out.own1 HBD.out HBw.out (by decide) (by decide) hg8); have HWE := Lib.hid (row_row HWD.out HBD.out (by decide) hg8); have HPE := Lib.hid (row_apart HPD.out HBD.out HPb.out hg8); have HQE := Lib.hid (row_row HQD.out HBD.out (by decide) hg8); have HBE := Lib.hid hown8; have HzE := Lib.hid (Nat.le_trans HzD.out (Nat.le_trans (by simp) hg8.size)); clear hown8 hg8))
                        refine ⟨⟨j + 1, qs ++ [(va, vb, vd)], od, _, _, _, _, by omega, by go_num, rfl, rfl, HLR.out.step hjn (qr_quad HN1.out HN2.out HN3.out), HLE.out, HzE.out, HWE.out, HPE.out, ?_, ?_⟩, by simp [intOf]; omega⟩
                        · simpa [uC] using HBE.out
                        · simpa [pq] using HQE.out
                        -- >
                      · obtain rfl : j = k := by omega
                        have hql := HLR.out.len
                        have HQB := Lib.hid HLR.out.all
                        have hm : refM s.data.toList = (takeM m r).bind fun t => q5 name xs ps qs t := by
                          rw [HM7.out]
                          rcases HLR.out with ⟨e, _⟩ | ⟨r', e, h⟩
                          · cases e
                          · cases e
                            rw [Option.bind_some] at h
                            rw [h]
                            rfl
                        have HM8 := Lib.hid hm
                        clear hm HLR hjn hj
                        obtain ⟨k, rfl⟩ : ∃ k, k = j := ⟨_, rfl⟩
                        go_wp2_with fail
                        go_at_call 31
                        refine (text_q m _ s (some r) _ HL.out.rd (by omega) (by omega)).mono ?_
                        rintro e w9 ⟨hg, pool, ot, rfl, hpl9, hq, hr⟩
                        have hl := HL.out.step hr hg
                        have HRw9 := Lib.hid (HL.out.row HRw.out (by decide) hg)
                        have HRp9 := Lib.hid (HL.out.row HRp.out (by decide) hg)
                        have HRb9 := Lib.hid (HL.out.row HRb.out (by decide) hg)
                        have HRq9 := Lib.hid (HL.out.row HRq.out (by decide) hg)
                        have hn9 : refM s.data.toList = ot.bind fun y => q5 name xs ps qs (pool, y) := hq.next (o := some r) HM8.out
                        have HL9 := Lib.hid hl
                        obtain ⟨p9, _, _, hb9⟩ := hr
                        have c9 := hb9.cell 2
                        clear hg hq hl hb9 HL HRw HRp HRb HRq cj2
                        cases ot with
                        | none =>
                          -- <
                          obtain rfl := HNone.out hn9
                          simp only [Option.isNone_none, List.getElem?_toArray, List.getElem?_cons_succ, List.getElem?_cons_zero] at c9
                          go_upto_region 25 with fail
                          rename_i K hK
                          exact end_zero rfl rfl rfl rfl rfl rfl rfl rfl rfl rfl (by decide) (of_decide_eq_true (by kernel_rfl)) (of_decide_eq_true (by kernel_rfl)) (by kernel_rfl) rfl hK (fun _ _ h => h) HL9.out.br HL9.out.bel
                          -- >
                        | some r8 =>
                          have HM9 := Lib.hid (show refM s.data.toList = q5 name xs ps qs (pool, r8) from hn9)
                          simp only [Option.isNone_some, List.getElem?_toArray, List.getElem?_cons_succ, List.getElem?_cons_zero] at c9
                          clear hn9
                          obtain ⟨W9, rfl⟩ : ∃ W9, W9 = w9 := ⟨_, rfl⟩
                          obtain ⟨gp, hA4, hgp, _⟩ := Rd.own_at HRq9.out (by omega)
                          obtain ⟨gb, hA3, hgb, _⟩ := Rd.own_at HRb9.out (by omega)
                          subst hA4 hA3
                          go_wp2_with fail
                          clear c9
                          -- the phases' texts
                          go_loopw [16] (fun i wr => ∃ j : Nat, j ≤ k ∧ i = .int .i64 j ∧ LS w s (some r8) X #[.string ⟨name.toArray⟩, .int .i64 0, .int .i64 0, .string ⟨#[]⟩, .slice A n c, .int .i64 0, .slice none 0 0, .int .i64 0, .string ⟨#[]⟩] wr ∧
                            wr.ownsRow w.heap.size 67 4 (.slice A n c) n (xs.flatMap sq) ∧ wr.ownsRow w.heap.size 82 1 (.slice A2 n c2) n (ps.map uC) ∧ wr.ownsRow B2 82 1 (.slice (some ⟨gb, 0, none⟩) k c3) k (qs.map fun q => uC q.2.2) ∧
                            wr.ownsRow w.heap.size 23 3 (.slice (some ⟨gp, 0, none⟩) k c4) k (((qs.take j).map (phQ pool)).flatMap Phase.cells ++ (qs.drop j).flatMap pq)) (fun i _ => k - (intOf i).toNat)
                          case atStart => exact ⟨0, Nat.zero_le _, rfl, HL9.out, HRw9.out, HRp9.out, HRb9.out, by simpa using HRq9.out⟩
                          case round =>
                            clear HL9 HRw9 HRp9 HRb9 HRq9
                            obtain ⟨j, hj, rfl, hl, hrw, hrp, hrb, hrq⟩ := hrel
                            have HL := Lib.hid hl; have HRw := Lib.hid hrw; have HRp := Lib.hid hrp; have HRb := Lib.hid hrb; have HRq := Lib.hid hrq
                            clear hl hrw hrp hrb hrq
                            by_cases hjn : j < k
                            · -- body
                              -- <
                              have hjq : j < qs.length := by omega
                              have cb := HRb.out.cellAt j (by omega)
                              rw [List.getElem?_map, List.getElem?_eq_getElem hjq] at cb
                              obtain ⟨q, hqq⟩ : ∃ q, q = qs[j] := ⟨_, rfl⟩
                              rw [← hqq] at cb
                              have hphl : ((qs.take j).map (phQ pool)).length = j := by rw [List.length_map, List.length_take]; omega
                              have hset := fun s => ph_setQ (phs := (qs.take j).map (phQ pool)) s hjq hphl
                              have hat := ph_atQ (phs := (qs.take j).map (phQ pool)) hjq hphl
                              have hnext : (qs.take (j + 1)).map (phQ pool) = (qs.take j).map (phQ pool) ++ [(⟨q.1, q.2.1, ⟨(txt pool q.2.2).toArray⟩⟩ : Phase)] := by
                                rw [List.take_succ_eq_append_getElem hjq, List.map_append, ← hqq]; rfl
                              rw [← hqq] at hset
                              generalize ((qs.take j).map (phQ pool)).flatMap Phase.cells ++ (qs.drop j).flatMap pq = L0 at *
                              have Hset := Lib.hid hset; have Hat := Lib.hid hat; have Hnext := Lib.hid hnext; have Hqq := Lib.hid hqq
                              clear hset hat hnext hqq hphl
                              obtain ⟨q1, q2, b0⟩ := q
                              simp only [Option.map_some, uC] at cb
                              have adb := add0 gb j
                              have adp := add0 gp (j * 3)
                              obtain ⟨W3, rfl⟩ : ∃ W3, W3 = wr := ⟨_, rfl⟩
                              go_wp2_with fail
                              go_loopw [17] (fun a wr => ∃ e : Nat, (b0 + e ≤ pool.length ∨ e = 0) ∧ a = .int .u64 (b0 + e : Nat) ∧ (∀ x ∈ (pool.drop b0).take e, x ≠ 0) ∧ LS w s (some r8) X #[.string ⟨name.toArray⟩, .int .i64 0, .int .i64 0, .string ⟨#[]⟩, .slice A n c, .int .i64 0, .slice none 0 0, .int .i64 0, .string ⟨#[]⟩] wr ∧
                                wr.ownsRow w.heap.size 67 4 (.slice A n c) n (xs.flatMap sq) ∧ wr.ownsRow w.heap.size 82 1 (.slice A2 n c2) n (ps.map uC) ∧ wr.ownsRow B2 82 1 (.slice (some ⟨gb, 0, none⟩) k c3) k (qs.map fun q => uC q.2.2) ∧
                                wr.ownsRow w.heap.size 23 3 (.slice (some ⟨gp, 0, none⟩) k c4) k (L0.set (j * 3 + 2) (.string ⟨((pool.drop b0).take e).toArray⟩))) (fun a _ => pool.length + 1 - (intOf a).toNat)
                              case atStart =>
                                refine ⟨0, .inr rfl, rfl, by simp, HL.out, HRw.out, HRp.out, HRb.out, ?_⟩
                                rw [show L0.set (j * 3 + 2) (.string ⟨((pool.drop b0).take 0).toArray⟩) = L0 from set_self (by rw [Hat.out]; rfl)]
                                exact HRq.out
                              case round =>
                                clear HL HRw HRp HRb HRq cb
                                obtain ⟨e, hbe, rfl, hnz, hl, hrw, hrp, hrb, hrq⟩ := hrel
                                have HL := Lib.hid hl; have HRw := Lib.hid hrw; have HRp := Lib.hid hrp; have HRb := Lib.hid hrb; have HRq := Lib.hid hrq; have HNz := Lib.hid hnz
                                clear hl hrw hrp hrb hrq hnz
                                have hlen := HRq.out.cellAt (j * 3 + 2) (by omega)
                                have HCell := Lib.hid (show wr.cell? ⟨gp, j * 3 + 2, none⟩ = some (.string ⟨((pool.drop b0).take e).toArray⟩) by
                                  rw [hlen, List.getElem?_set]
                                  rw [if_pos rfl, if_pos (List.getElem?_eq_some_iff.1 Hat.out).1])
                                clear hlen
                                obtain ⟨E, hE⟩ : ∃ E, E = b0 + e := ⟨_, rfl⟩
                                rw [← hE] at hbe ⊢
                                have HE := Lib.hid hE
                                have HTx := Lib.hid (fun h : pool.length ≤ E ∨ pool[E]? = some 0 => txt_done (pool := pool) HNz.out (by rw [← HE.out]; exact h))
                                clear hE
                                by_cases hEl : E < pool.length
                                · have hEb : E < (⟨pool.toArray⟩ : ByteArray).size := by show E < pool.toArray.size; rw [List.size_toArray]; exact hEl
                                  have hgE : (⟨pool.toArray⟩ : ByteArray)[E] = pool[E] := rfl
                                  have HgE := Lib.hid hgE
                                  clear hgE
                                  cases hz : ((((⟨pool.toArray⟩ : ByteArray)[E]'hEb).toNat : Int) == 0)
                                  · have hz2 : (((((⟨pool.toArray⟩ : ByteArray)[E]'hEb).toNat : Int) != 0)) = true := by rw [bne, hz]; rfl
                                    have Hz := Lib.hid hz
                                    clear hz
                                    go_wp2_with fail
                                    obtain ⟨Cls, hCls⟩ : ∃ C : World → Prop, C = fun z => ∃ n, z = wr.drewN n := ⟨_, rfl⟩
                                    have HC : Hid (∀ z, Cls z → ∃ n, z = wr.drewN n) := fun z h => by rw [hCls] at h; exact h
                                    have HS : Hid (Cls wr.drew) := by rw [hCls]; exact ⟨1, rfl⟩
                                    have inst : Nonempty (Qt.In Cls) := ⟨⟨_, HS.out⟩⟩
                                    have zc : ∀ z : Qt.In Cls, z.w.cell? ⟨gp, j * 3 + 2, none⟩ = some (.string ⟨((pool.drop b0).take e).toArray⟩) := fun z => by obtain ⟨n, hn⟩ := HC.out z.w z.h; rw [hn]; exact HCell.out
                                    clear hCls hz2
                                    refine Qt.wp_region_cls_tail Cls 15 (by kernel_rfl) (by kernel_rfl) HS.out ?_
                                    simp only [List.take_succ_cons, List.take_zero, List.drop_succ_cons, List.drop_zero]
                                    repeat (go_big_quiet_step (fail))
                                    refine wpQuiet_nil ?_
                                    rintro wq ⟨⟨w9, hq⟩, rfl⟩
                                    obtain ⟨nq, rfl⟩ := HC.out wq hq
                                    have fq := HRq.out.frozenAt (j * 3 + 2)
                                    have cq := HCell.out
                                    clear zc
                                    go_wp2_with fail
                                    have hst := World.ownsRow.stored (w := wr.drewN nq) HRq.out (j * 3 + 2) (.string (⟨((pool.drop b0).take e).toArray⟩ ++ (⟨pool.toArray⟩ : ByteArray).extract E (E + 1)))
                                    have hqn : (wr.drewN nq).ownsRow w.heap.size 23 3 (.slice (some ⟨gp, 0, none⟩) k c4) k _ := HRq.out
                                    have hgs : (wr.drewN nq).grownBy _ (Value.ownBlock (.slice (some ⟨gp, 0, none⟩) k c4)) := hst.2
                                    have hnz : pool[E] ≠ 0 := fun h0 => by
                                      have h := Hz.out
                                      rw [HgE.out, h0] at h
                                      cases h
                                    refine ⟨⟨e + 1, .inl (by have := HE.out; omega), by have := HE.out; congr 1; omega, nz_step HE.out hEl hnz HNz.out, (HL.out.drewN nq).own hqn (Nat.le_refl _) (by decide) (by decide) hgs, row_row0 (wr := wr.drewN nq) HRw.out hqn (by decide) hgs, row_row0 (wr := wr.drewN nq) HRp.out hqn (by decide) hgs, row_row0 (wr := wr.drewN nq) HRb.out hqn (by decide) hgs, ?_⟩, by simp [intOf]; omega⟩
                                    have hs1 := hst.1
                                    rw [List.set_set, txt_step HE.out hEl] at hs1
                                    rw [txt_step HE.out hEl]
                                    exact hs1
                                  · have hz2 : (((((⟨pool.toArray⟩ : ByteArray)[E]'hEb).toNat : Int) != 0)) = false := by rw [bne, hz]; rfl
                                    have Hz := Lib.hid hz
                                    clear hz
                                    go_wp2_with fail
                                    have htx := HTx.out (.inr (by
                                      rw [List.getElem?_eq_getElem hEl]
                                      congr 1
                                      have h := Hz.out
                                      rw [HgE.out, beq_iff_eq] at h
                                      exact UInt8.toNat_inj.1 (by simpa using h)))
                                    refine ⟨⟨j + 1, by omega, by go_num, HL.out, HRw.out, HRp.out, HRb.out, ?_⟩, by simp [intOf]; omega⟩
                                    have h2 := Hset.out ⟨((pool.drop b0).take e).toArray⟩
                                    skip
                                    rw [Hnext.out, ← htx]
                                    rw [← h2]
                                    exact HRq.out
                                · go_wp2_with fail
                                  have htx := HTx.out (.inl (by omega))
                                  refine ⟨⟨j + 1, by omega, by go_num, HL.out, HRw.out, HRp.out, HRb.out, ?_⟩, by simp [intOf]; omega⟩
                                  have h2 := Hset.out ⟨((pool.drop b0).take e).toArray⟩
                                  skip
                                  rw [Hnext.out, ← htx]
                                  rw [← h2]
                                  exact HRq.out
                              -- >
                            · obtain rfl : j = k := by omega
                              obtain ⟨phs, hphs⟩ : ∃ phs, phs = qs.map (phQ pool) := ⟨_, rfl⟩
                              have hpl : phs.length = j := by rw [hphs, List.length_map]; exact hql
                              have hrq := HRq.out
                              rw [List.take_of_length_le (by omega), List.drop_eq_nil_of_le (by omega), List.flatMap_nil, List.append_nil, ← hphs] at hrq
                              have HQ := Lib.hid hrq
                              have HPw : Hid (∀ p ∈ phs, PW p) := fun p hp => by
                                rw [hphs] at hp
                                obtain ⟨q, hq, rfl⟩ := List.mem_map.1 hp
                                exact phQ_ok (Nat.le_trans hpl9 hs) (HQB.out q hq)
                              have HM10 := Lib.hid (show refM s.data.toList = (mapO (shfQ phs) (xs.zip ps)).bind fun ss => phs.head?.bind fun first => q6 name first ss r8 by rw [HM9.out, q5, hphs])
                              clear hrq HRq HM9 hphs hjn hj HRb
                              obtain ⟨k, rfl⟩ : ∃ k, k = j := ⟨_, rfl⟩
                              obtain ⟨W5, rfl⟩ : ∃ W5, W5 = wr := ⟨_, rfl⟩
                              go_wp2_with fail
                              -- the shifts' phases
                              go_loopw [18] (fun i wr => ∃ (j : Nat) (sss : List Shift), j ≤ n ∧ i = .int .i64 j ∧ mapO (shfQ phs) ((xs.zip ps).take j) = some sss ∧ LS w s (some r8) X #[.string ⟨name.toArray⟩, .int .i64 0, .int .i64 0, .string ⟨#[]⟩, .slice A n c, .int .i64 0, .slice none 0 0, .int .i64 0, .string ⟨#[]⟩] wr ∧
                                wr.ownsRow w.heap.size 67 4 (.slice A n c) n (sss.flatMap Shift.cells ++ (xs.drop j).flatMap sq) ∧ wr.ownsRow w.heap.size 82 1 (.slice A2 n c2) n (ps.map uC) ∧ wr.ownsRow w.heap.size 23 3 (.slice (some ⟨gp, 0, none⟩) k c4) k (phs.flatMap Phase.cells)) (fun i _ => n - (intOf i).toNat)
                              case atStart => exact ⟨0, [], Nat.zero_le _, rfl, rfl, HL.out, by simpa using HRw.out, HRp.out, HQ.out⟩
                              case round =>
                                clear HL HRw HRp HQ
                                obtain ⟨j, sss, hj, rfl, hmap, hl, hrw, hrp, hrq⟩ := hrel
                                have HL := Lib.hid hl; have HRw := Lib.hid hrw; have HRp := Lib.hid hrp; have HQ := Lib.hid hrq; have HMap := Lib.hid hmap
                                clear hl hrw hrp hrq hmap
                                have hzl : (xs.zip ps).length = n := by rw [List.length_zip]; omega
                                have hssl : sss.length = j := by rw [mapO_length HMap.out, List.length_take]; omega
                                by_cases hjn : j < n
                                · -- body
                                  -- <
                                  have hjz : j < (xs.zip ps).length := by omega
                                  have hjx : j < xs.length := by omega
                                  have hjp : j < ps.length := by omega
                                  obtain ⟨gs, hA, hgs, _⟩ := Rd.own_at HRw.out (by omega)
                                  obtain ⟨g2, hA2, hg2, _⟩ := Rd.own_at HRp.out (by omega)
                                  subst hA hA2
                                  have cb := HRp.out.cellAt j (by omega)
                                  rw [List.getElem?_map, List.getElem?_eq_getElem hjp] at cb
                                  have hsh : shfQ phs (xs.zip ps)[j] = (phs[ps[j]]?).map fun ph => ⟨IntKind.i64.wrap xs[j], ph⟩ := by rw [List.getElem_zip]; rfl
                                  have hss := fun p => sh_setQ (sss := sss) p hjx hssl
                                  generalize ps[j] = pl at *
                                  simp only [Option.map_some, uC] at cb
                                  have ad2 := add0 g2 j
                                  have ads := add0 gs (j * 4)
                                  by_cases hpk : pl < k
                                  · have hpl2 : pl < phs.length := by omega
                                    rw [List.getElem?_eq_getElem hpl2] at hsh
                                    have hst := mapO_step hjz HMap.out hsh
                                    have Hst := Lib.hid hst
                                    clear hst hsh
                                    have hcl : ∀ i, i < 3 → wr.cell? ⟨gp, pl * 3 + i, none⟩ = phs[pl].cells[i]? := fun i hi => by
                                      rw [HQ.out.cellAt _ (by omega), flat_get Phase.cells 3 (fun _ => rfl) phs pl i hi, List.getElem?_eq_getElem hpl2]; rfl
                                    obtain ⟨q, hq⟩ : ∃ q, q = phs[pl] := ⟨_, rfl⟩
                                    rw [← hq] at hcl Hst
                                    clear hq
                                    obtain ⟨po, ps', pa⟩ := q
                                    have p0 := hcl 0 (by omega)
                                    have p1 := hcl 1 (by omega)
                                    have p2 := hcl 2 (by omega)
                                    simp only [Phase.cells, Nat.add_zero, List.getElem?_cons_zero, List.getElem?_cons_succ] at p0 p1 p2
                                    have P := Lib.hid (And.intro p0 (And.intro p1 p2))
                                    have adp := add0 gp (pl * 3)
                                    have HSS := Lib.hid (hss ⟨po, ps', pa⟩)
                                    have CB := Lib.hid cb
                                    clear hss hcl p0 p1 p2
                                    have hX4 : wr.cell? ⟨X, 4, none⟩ = some (.slice (some ⟨gs, 0, none⟩) n c) := HL.out.bx.cell 4
                                    have HX4 := Lib.hid hX4
                                    go_wp2_with fail
                                    obtain ⟨Cls, hCls⟩ : ∃ C : World → Prop, C = fun z => ∃ n, z = wr.drewN n := ⟨_, rfl⟩
                                    have HC : Hid (∀ z, Cls z → ∃ n, z = wr.drewN n) := fun z h => by rw [hCls] at h; exact h
                                    have HS : Hid (Cls wr.drew) := by rw [hCls]; exact ⟨1, rfl⟩
                                    have inst : Nonempty (Qt.In Cls) := ⟨⟨_, HS.out⟩⟩
                                    have z1 : ∀ z : Qt.In Cls, z.w.cell? ⟨X, 4, none⟩ = some (.slice (some ⟨gs, 0, none⟩) n c) := fun z => by obtain ⟨n, hn⟩ := HC.out z.w z.h; rw [hn]; exact HX4.out
                                    have z2 : ∀ z : Qt.In Cls, z.w.cell? ⟨g2, j, none⟩ = some (.int .u64 pl) := fun z => by obtain ⟨n, hn⟩ := HC.out z.w z.h; rw [hn]; exact CB.out
                                    have z3 : ∀ z : Qt.In Cls, z.w.cell? ⟨gp, pl * 3, none⟩ = some (.int .i64 po) := fun z => by obtain ⟨n, hn⟩ := HC.out z.w z.h; rw [hn]; exact P.out.1
                                    have z4 : ∀ z : Qt.In Cls, z.w.cell? ⟨gp, pl * 3 + 1, none⟩ = some (.int .i64 ps') := fun z => by obtain ⟨n, hn⟩ := HC.out z.w z.h; rw [hn]; exact P.out.2.1
                                    have z5 : ∀ z : Qt.In Cls, z.w.cell? ⟨gp, pl * 3 + 2, none⟩ = some (.string pa) := fun z => by obtain ⟨n, hn⟩ := HC.out z.w z.h; rw [hn]; exact P.out.2.2
                                    clear hCls hX4 cb
                                    refine Qt.wp_region_cls_tail Cls 12 (by kernel_rfl) (by kernel_rfl) HS.out ?_
                                    simp only [List.take_succ_cons, List.take_zero, List.drop_succ_cons, List.drop_zero]
                                    repeat (go_big_quiet_step (fail))
                                    refine wpQuiet_nil ?_
                                    rintro wq ⟨⟨w9, hq⟩, rfl⟩
                                    obtain ⟨nq, rfl⟩ := HC.out wq hq
                                    have hrn : (wr.drewN nq).ownsRow w.heap.size 67 4 (.slice (some ⟨gs, 0, none⟩) n c) n _ := HRw.out
                                    have fs := fun i => hrn.frozenAt i
                                    obtain ⟨_, e1⟩ := Rd.own_cell hrn (j := j * 4 + 1) (by omega)
                                    obtain ⟨_, e2⟩ := Rd.own_cell hrn (j := j * 4 + 2) (by omega)
                                    obtain ⟨_, e3⟩ := Rd.own_cell hrn (j := j * 4 + 3) (by omega)
                                    have s1 := hrn.stored (j * 4 + 1) (.int .i64 po)
                                    have s2 := s1.1.stored (j * 4 + 2) (.int .i64 ps')
                                    have s3 := s2.1.stored (j * 4 + 3) (.string pa)
                                    have hgg := gr3 s1.2 (gr3 s2.2 s3.2)
                                    have hl2 := (HL.out.drewN nq).own hrn (Nat.le_refl _) (by decide) (by decide) hgg
                                    have hp2 := row_row0 (wr := wr.drewN nq) HRp.out hrn (by decide) hgg
                                    have hq2 := row_row0 (wr := wr.drewN nq) HQ.out hrn (by decide) hgg
                                    have hs3 := s3.1
                                    rw [HSS.out] at hs3
                                    have F1 := Lib.hid hl2; have F2 := Lib.hid hp2; have F3 := Lib.hid hq2; have F4 := Lib.hid hs3
                                    clear s1 s2 s3 hgg hl2 hp2 hq2 hs3 z1 z2 z3 z4 z5 hrn
                                    go_wp2_with fail
                                    exact ⟨⟨j + 1, _, by omega, by go_num, Hst.out, F1.out, F4.out, F2.out, F3.out⟩, by simp [intOf]; omega⟩
                                  · have hpn : ¬ pl < phs.length := by omega
                                    rw [List.getElem?_eq_none (by omega)] at hsh
                                    have hn : refM s.data.toList = none := by rw [HM10.out, mapO_stop hjz hsh]; rfl
                                    obtain rfl := HNone.out hn
                                    clear hn hss hsh
                                    go_upto_region 37 with fail
                                    rename_i K hK
                                    exact end_zero rfl rfl rfl rfl rfl rfl rfl rfl rfl rfl (by decide) (of_decide_eq_true (by kernel_rfl)) (of_decide_eq_true (by kernel_rfl)) (by kernel_rfl) rfl hK (fun _ _ h => h) HL.out.br HL.out.bel
                                  -- >
                                · obtain rfl : j = n := by omega
                                  have hmap := HMap.out
                                  rw [List.take_of_length_le (by omega)] at hmap
                                  have hall := shfQ_all hmap HPw.out
                                  have HAll := Lib.hid hall
                                  have hrw := HRw.out
                                  rw [List.drop_eq_nil_of_le (by omega), List.flatMap_nil, List.append_nil] at hrw
                                  obtain ⟨q0, hq0⟩ : ∃ q0, q0 = phs[0]'(by omega) := ⟨_, rfl⟩
                                  have hcl : ∀ i, i < 3 → wr.cell? ⟨gp, i, none⟩ = q0.cells[i]? := fun i hi => by
                                    rw [HQ.out.cellAt _ (by omega), hq0]
                                    have := flat_get Phase.cells 3 (fun _ => rfl) phs 0 i hi
                                    rw [Nat.zero_mul, Nat.zero_add] at this
                                    rw [this, List.getElem?_eq_getElem (by omega)]; rfl
                                  have hm : refM s.data.toList = (some r8).bind fun y => (nU 8 y).bind fun till => (nU 1 till.2).bind fun t => (repM ruleQ t.1 t.2).bind fun rs => (fQ rs.2).bind fun off => (shQ off.2).map fun f => (⟨⟨name.toArray⟩, q0, sss, IntKind.i64.wrap till.1, rs.1, off.1, ⟨f.1.toArray⟩⟩, f.2) := by
                                    rw [HM10.out, hmap, Option.bind_some, List.head?_eq_getElem?, List.getElem?_eq_getElem (by omega), ← hq0]; rfl
                                  have HM11 := Lib.hid hm
                                  have HQ0 := Lib.hid (HPw.out q0 (by rw [hq0]; exact List.getElem_mem _))
                                  clear hmap hall hq0 hm hjn hj
                                  obtain ⟨n, rfl⟩ : ∃ n, n = j := ⟨_, rfl⟩
                                  obtain ⟨po, ps', pa⟩ := q0
                                  have p0 := hcl 0 (by omega)
                                  have p1 := hcl 1 (by omega)
                                  have p2 := hcl 2 (by omega)
                                  simp only [Phase.cells, List.getElem?_cons_zero, List.getElem?_cons_succ] at p0 p1 p2
                                  have adp : Addr.add ⟨gp, 0, none⟩ 0 = ⟨gp, 0, none⟩ := rfl
                                  have fX := fun i => HL.out.bx.frozen i
                                  have cX := fun i => HL.out.bx.cell i
                                  have hx := ((HL.out.set_ 1 (.int .i64 po)).set_ 2 (.int .i64 ps')).set_ 3 (.string pa)
                                  simp only [List.setIfInBounds_toArray, List.set_cons_succ, List.set_cons_zero] at hx
                                  have hne := own_blk_ne hrw HL.out.bx (by decide)
                                  have hr3 := Rd.own_set (Rd.own_set (Rd.own_set hrw hne 1 (.int .i64 po)) hne 2 (.int .i64 ps')) hne 3 (.string pa)
                                  have HX := Lib.hid hx; have HR3 := Lib.hid hr3
                                  clear hx hne hr3 hrw hcl
                                  go_wp2_with fail
                                  go_at_call 33
                                  refine (num_q 8 _ s _ _ HX.out.rd (by omega) (by omega)).mono ?_
                                  rintro e w6 ⟨hg, till, o6, rfl, hv, hq, hr⟩
                                  have hl := HX.out.step hr hg
                                  have hrr := HX.out.row HR3.out (by decide) hg
                                  have hm := hq.next (o := some r8) HM11.out
                                  dsimp only at hm
                                  simp only [IntWalk.i64_left] at hm
                                  have HM12 := Lib.hid hm
                                  have fX := fun i => hl.bx.frozen i
                                  have cX := fun i => hl.bx.cell i
                                  have hx := hl.set_ 5 (.int .i64 (wrap64 till))
                                  simp only [List.setIfInBounds_toArray, List.set_cons_succ, List.set_cons_zero] at hx
                                  have hr5 := Rd.own_set hrr (own_blk_ne hrr hl.bx (by decide)) 5 (.int .i64 (wrap64 till))
                                  have HX5 := Lib.hid hx; have HR5 := Lib.hid hr5
                                  clear hl hrr hm hx hr5 hg hq hr hv p0 p1 p2 adp HX HR3
                                  go_wp2_with fail
                                  go_at_call 33
                                  have hnq := num_q 1 _ s _ _ HX5.out.rd (by omega) (by omega)
                                  rw [show ((1 : Nat) : Int) = 1 from rfl] at hnq
                                  refine hnq.mono ?_
                                  clear hnq
                                  rintro e w7 ⟨hg, T, o7, rfl, hv, hq, hr⟩
                                  have hT : T < 256 := hv
                                  have hl := HX5.out.step hr hg
                                  have hrr := HX5.out.row HR5.out (by decide) hg
                                  have hm := hq.next HM12.out
                                  dsimp only at hm
                                  have HL := Lib.hid hl; have HSw := Lib.hid hrr; have HM13 := Lib.hid hm; have HT := Lib.hid hT
                                  have HNl := Lib.hid hnm; have HSl := Lib.hid hssl; have HNn := Lib.hid hn
                                  clear hl hrr hm hg hq hr hv HX5 HR5 HM12 fX cX hnm hssl hn
                                  go_wp2_with fail
                                  go_loopw [20] (fun i wr => ∃ (j : Nat) (rs : List Rule) (o : Option (List UInt8)) (A6 : Option Addr) (c6 : Nat), j ≤ T ∧ i = .int .u64 j ∧ LR ruleQ T o7 j rs o ∧ (∀ r ∈ rs, r.name.size ≤ s.size ∧ r.letter.size ≤ s.size) ∧ LS w s o X #[.string ⟨name.toArray⟩, .int .i64 po, .int .i64 ps', .string pa, .slice A n c, .int .i64 (wrap64 till), .slice A6 j c6, .int .i64 0, .string ⟨#[]⟩] wr ∧
                                    wr.ownsRow w.heap.size 67 4 (.slice A n c) n (sss.flatMap Shift.cells) ∧ wr.ownsRow w.heap.size 52 11 (.slice A6 j c6) j (rs.flatMap Rule.cells)) (fun i _ => T - (intOf i).toNat)
                                  case atStart => exact ⟨0, [], o7, none, 0, Nat.zero_le _, rfl, LR.start _ _ _, (by simp), HL.out, HSw.out, World.ownsRow_nil _ _ _ _⟩
                                  case round =>
                                    clear HL HSw
                                    obtain ⟨j, rs, o, A6, c6, hj, rfl, hlr, hall, hl, hsw, hrw⟩ := hrel
                                    have HLR := Lib.hid hlr; have HAr := Lib.hid hall; have HL := Lib.hid hl; have HSw := Lib.hid hsw; have HRw := Lib.hid hrw
                                    clear hlr hall hl hsw hrw
                                    obtain ⟨pj, _, _, hbj⟩ := HL.out.rd
                                    have cj2 := hbj.cell 2
                                    clear hbj
                                    have hT := HT.out
                                    by_cases hjo : j < T ∧ ∃ r, o = some r
                                    · obtain ⟨hjn, r, rfl⟩ := hjo
                                      simp only [Option.isNone_some, List.getElem?_toArray, List.getElem?_cons_succ, List.getElem?_cons_zero] at cj2
                                      -- <
                                      have cX := fun i => HL.out.bx.cell i
                                      have m1 : j + 1 ≤ maxLen := by unfold maxLen; omega
                                      have m2 : (j + 1) * 104 ≤ 140737488355328 := by omega
                                      have M1 := Lib.hid m1; have M2 := Lib.hid m2; clear m1 m2
                                      go_wp2_with fail
                                      go_region_law (first
                                        | (refine step_append1 wA rfl (.tmp 219) (.tmp 222) 25 rfl w.heap.size 52 i52 _ 11 104 Tryz.underlying25 hi52 hz52 hs52 hb52 rfl (by decide) _ j (rs.flatMap Rule.cells) (by simp [Act.eval]) HRA.out (by simp [Act.eval]) rfl rule_one M1.out M2.out HzA.out ?_; intro v' wB hown8 hg8; obtain ⟨gt, capt, rfl, _, _⟩ := hown8.form (Nat.succ_pos _); have hh := HLA.out.own1 HRA.out (Nat.le_refl _) (by decide) (by decide) hg8; have HSB := Lib.hid (row_row HSA.out HRA.out (by decide) hg8); have HLB := Lib.hid hh; have HRB := Lib.hid hown8; have fB := fun i => hh.bx.frozen i; have cB := fun i => hh.bx.cell i; clear hown8 hg8 hh)
                                        | (go_simp; go_at_call 35; refine (rule_q _ s _ _ HL.out.drew.rd (by omega)).mono ?_; rintro e wA ⟨hg, ⟨xa, xb, xc, xd, xe, xf, xg, xh, xi, xj, xk⟩, o', he, hv, hq, hr⟩; simp only [Rule.cells] at he; obtain rfl := he; have hl := HL.out.drew.step hr hg; have HLA := Lib.hid hl; have HSA := Lib.hid (HL.out.drew.row HSw.out.drew (by decide) hg); have HRA := Lib.hid (HL.out.drew.row HRw.out.drew (by decide) hg); have HzA := Lib.hid hl.bel.size; have cA := fun i => hl.bx.cell i; have cA2 := fun ob i => (hl.alloc ob).bx.cell i; have HQ := Lib.hid hq; have HV := Lib.hid hv; clear hg hq hr hl hv))
                                      all_goals
                                        have ht := HLB.out.set_ 6 (.slice (some ⟨gt, 0, none⟩) (j + 1) capt)
                                        simp only [List.setIfInBounds_toArray, List.set_cons_succ, List.set_cons_zero] at ht
                                        have hr := row_set HRB.out HLB.out.bx (by decide) 6 (.slice (some ⟨gt, 0, none⟩) (j + 1) capt)
                                        have hs9 := row_set HSB.out HLB.out.bx (by decide) 6 (.slice (some ⟨gt, 0, none⟩) (j + 1) capt)
                                        have HLC := Lib.hid ht; have HRC := Lib.hid hr; have HSC := Lib.hid hs9
                                        clear ht hr hs9
                                        go_wp2
                                        refine ⟨⟨j + 1, _, o', some ⟨gt, 0, none⟩, capt, by omega, ?_, HLR.out.step hjn HQ.out, all_snoc HAr.out HV.out, HLC.out, HSC.out, ?_⟩, by simp [intOf]; omega⟩
                                        · go_num
                                        · simpa [Rule.cells] using HRC.out
                                      -- >
                                    · have hQ : QR (repM ruleQ T) o7 rs o ∧ ((j < T ∧ o = none) ∨ (j = T ∧ o = none) ∨ (j = T ∧ ∃ r, o = some r)) := by
                                        cases o with
                                        | none =>
                                          rcases Nat.lt_or_ge j T with h | h
                                          · exact ⟨HLR.out.bad, .inl ⟨h, rfl⟩⟩
                                          · exact ⟨HLR.out.bad, .inr (.inl ⟨by omega, rfl⟩)⟩
                                        | some r =>
                                          have hjT : j = T := by
                                            have : ¬ j < T := fun h => hjo ⟨h, r, rfl⟩
                                            omega
                                          subst hjT
                                          exact ⟨HLR.out.done, .inr (.inr ⟨rfl, r, rfl⟩)⟩
                                      obtain ⟨hQ, hcs⟩ := hQ
                                      have hm := hQ.next HM13.out
                                      dsimp only at hm
                                      have HM14 := Lib.hid hm
                                      have hrl := len_own HRw.out (fun _ => rfl) (by omega)
                                      have HRl := Lib.hid hrl
                                      clear hm hQ hjo hrl HLR HM13 hT
                                      rcases hcs with ⟨hjn, rfl⟩ | ⟨rfl, rfl⟩ | ⟨rfl, r, rfl⟩
                                      all_goals
                                        -- <
                                        simp only [Option.isNone_none, Option.isNone_some, List.getElem?_toArray, List.getElem?_cons_succ, List.getElem?_cons_zero] at cj2
                                        go_wp2_with fail
                                        clear cj2
                                        try clear hjn
                                        go_at_call 34
                                        refine (four_q _ s _ _ HL.out.rd (by omega)).mono ?_
                                        rintro e w8 ⟨hg, off, o8, rfl, hv, hq, hr⟩
                                        have hl := HL.out.step hr hg
                                        have hs8 := HL.out.row HSw.out (by decide) hg
                                        have hr8 := HL.out.row HRw.out (by decide) hg
                                        have hm := hq.next HM14.out
                                        dsimp only at hm
                                        have HM15 := Lib.hid hm
                                        have fX := fun i => hl.bx.frozen i
                                        have cX := fun i => hl.bx.cell i
                                        have hx := hl.set_ 7 (.int .i64 off)
                                        simp only [List.setIfInBounds_toArray, List.set_cons_succ, List.set_cons_zero] at hx
                                        have HS7 := Lib.hid (Rd.own_set hs8 (own_blk_ne hs8 hl.bx (by decide)) 7 (.int .i64 off))
                                        have HR7 := Lib.hid (Rd.own_set hr8 (own_blk_ne hr8 hl.bx (by decide)) 7 (.int .i64 off))
                                        have HX7 := Lib.hid hx
                                        clear hg hl hs8 hr8 hm hq hr hx HL HSw HRw HM14 hv
                                        go_wp2_with fail
                                        clear fX cX
                                        go_at_call 32
                                        refine (short_q _ s _ _ HX7.out.rd (by omega)).mono ?_
                                        rintro e w9 ⟨hg, fm, o9, rfl, hfm, hq, hr⟩
                                        have hl := HX7.out.step hr hg
                                        have hs8 := HX7.out.row HS7.out (by decide) hg
                                        have hr8 := HX7.out.row HR7.out (by decide) hg
                                        have hm := hq.fin HM15.out
                                        have fX := fun i => hl.bx.frozen i
                                        have cX := fun i => hl.bx.cell i
                                        have hx := hl.set_ 8 (.string ⟨fm.toArray⟩)
                                        simp only [List.setIfInBounds_toArray, List.set_cons_succ, List.set_cons_zero] at hx
                                        have hs9 := Rd.own_set hs8 (own_blk_ne hs8 hl.bx (by decide)) 8 (.string ⟨fm.toArray⟩)
                                        have hr9 := Rd.own_set hr8 (own_blk_ne hr8 hl.bx (by decide)) 8 (.string ⟨fm.toArray⟩)
                                        obtain ⟨x, hx0⟩ : ∃ x : Table, x = ⟨⟨name.toArray⟩, ⟨po, ps', pa⟩, sss, wrap64 till, rs, off, ⟨fm.toArray⟩⟩ := ⟨_, rfl⟩
                                        have e1 : Value.agg #[.string ⟨name.toArray⟩, .int .i64 po, .int .i64 ps', .string pa, .slice A n c, .int .i64 (wrap64 till), .slice A6 j c6, .int .i64 off, .string ⟨fm.toArray⟩] = .agg (tabCells x A c A6 c6) := by subst hx0; exact tab_agg (x := ⟨⟨name.toArray⟩, ⟨po, ps', pa⟩, sss, wrap64 till, rs, off, ⟨fm.toArray⟩⟩) HSl.out HRl.out
                                        have hok : TabOk x A A6 (w9.setCell ⟨X, 8, none⟩ (.string ⟨fm.toArray⟩)) := by
                                          have hn := HNn.out
                                          have ha := HT.out
                                          have hna := HNl.out
                                          have hal := HAr.out
                                          subst hx0
                                          refine tab_ok (x := ⟨⟨name.toArray⟩, ⟨po, ps', pa⟩, sss, wrap64 till, rs, off, ⟨fm.toArray⟩⟩) hs9 hr9 HSl.out HRl.out (by omega) (by omega) ?_ ?_ HQ0.out (fun z hz => (HAll.out z hz).1) (fun z hz => by have := hal z hz; omega)
                                          · show name.toArray.size ≤ 4000
                                            rw [List.size_toArray]
                                            exact Nat.le_trans hna hs
                                          · show fm.toArray.size ≤ 4000
                                            rw [List.size_toArray]
                                            exact Nat.le_trans hfm hs
                                        have hn1 : NewAt (w.heap.size + 1) A x.shifts.length := by subst hx0; exact new_own hs9 hx.br (by decide) HSl.out
                                        have hn2 : NewAt (w.heap.size + 1) A6 x.tail.length := by subst hx0; exact new_own hr9 hx.br (by decide) HRl.out
                                        have hm2 : (o9 = none ∧ refM s.data.toList = none) ∨ ∃ r, o9 = some r ∧ refM s.data.toList = some (x, r) := by subst hx0; exact hm
                                        have hR0 : (rightB x (tailB x) = true ∧ img x = s.data.toList → R = some x) ∧ (¬ (rightB x (tailB x) = true ∧ img x = s.data.toList) → R = none) :=
                                          ⟨fun h => HYes.out x h.1 h.2 (by subst hx0; exact wrap_in _) (fun z hz => (HAll.out z (by subst hx0; exact hz)).2), end_no HNone HNo hm2⟩
                                        have hS := save_at e1 hok
                                        obtain ⟨rb, hrb⟩ : ∃ rb, rightB x (tailB x) = rb := ⟨_, rfl⟩
                                        obtain ⟨im, him⟩ : ∃ im, img x = im := ⟨_, rfl⟩
                                        obtain ⟨im2, him2⟩ : ∃ im2, im2 = bs im := ⟨_, rfl⟩
                                        rw [hrb, him] at hR0 hS
                                        rw [← him2] at hS
                                        have hcs : (rb = false ∧ R = none) ∨ (rb = true ∧ R = some x ∧ (im2.toList == s.toList) = true) ∨ (rb = true ∧ R = none ∧ (im2.toList == s.toList) = false) := by
                                          cases rb
                                          · exact .inl ⟨rfl, hR0.2 (fun h => Bool.noConfusion h.1)⟩
                                          · by_cases hi : im = s.data.toList
                                            · exact .inr (.inl ⟨rfl, hR0.1 ⟨rfl, hi⟩, by rw [him2, hi]; exact cmp_yes s⟩)
                                            · exact .inr (.inr ⟨rfl, hR0.2 (fun h => hi h.2), by rw [him2]; exact cmp_no hi⟩)
                                        have HOk := Lib.hid hok; have HN12 := Lib.hid (And.intro hn1 hn2); have HX8 := Lib.hid hx; have HE1 := Lib.hid e1
                                        clear e1 hok hn1 hn2 hm2 hR0 hrb him him2 hx0 hm hg hl hs8 hr8 hx hs9 hr9 hfm hq hr HX7 HS7 HR7 HM15 HNone HYes HNo HQ0 HAll HAr HRl HSl HNl HNn HT
                                        have cX := fun i => HX8.out.bx.cell i
                                        rcases hcs with ⟨rfl, rfl⟩ | ⟨rfl, rfl, hcmp⟩ | ⟨rfl, rfl, hcmp⟩
                                        · simp only [Bool.false_eq_true, if_false] at hS
                                          have HS := Lib.hid hS
                                          clear hS HOk HN12 HE1
                                          go_wp2_with fail
                                          go_at_call 11
                                          refine HS.out.mono ?_
                                          rintro e w10 ⟨rfl, hb⟩
                                          have hbr := HX8.out.br.below hb HX8.out.br.lt
                                          have hbel := HX8.out.bel.trans (hb.mono HX8.out.bel.size)
                                          have HBr := Lib.hid hbr; have HBe := Lib.hid hbel
                                          clear hbr hbel hb HS HX8 fX cX
                                          go_upto_region 50 with fail
                                          rename_i K hK
                                          exact end_zero rfl rfl rfl rfl rfl rfl rfl rfl rfl rfl (by decide) (of_decide_eq_true (by kernel_rfl)) (of_decide_eq_true (by kernel_rfl)) (by kernel_rfl) rfl hK (fun _ _ h => h) HBr.out HBe.out
                                        · simp only [if_true] at hS
                                          have HS := Lib.hid hS
                                          clear hS
                                          go_wp2_with fail
                                          go_at_call 11
                                          refine HS.out.mono ?_
                                          rintro e w10 ⟨rfl, hb⟩
                                          have HBr := Lib.hid (HX8.out.br.below hb HX8.out.br.lt)
                                          have HBe := Lib.hid (HX8.out.bel.trans (hb.mono HX8.out.bel.size))
                                          have HBx := Lib.hid (HX8.out.bx.below hb HX8.out.bx.lt)
                                          have HOr := Lib.hid (HOk.out.below hb)
                                          clear hb HS HOk HX8 fX cX
                                          go_upto_region 51 with fail
                                          rename_i K hK
                                          exact end_some rfl rfl rfl rfl rfl rfl rfl rfl rfl rfl (by decide) (of_decide_eq_true (by kernel_rfl)) (of_decide_eq_true (by kernel_rfl)) (by kernel_rfl) (by kernel_rfl) rfl hK (fun _ _ h => h) HBr.out HBe.out HBx.out HE1.out HOr.out HN12.out.1 HN12.out.2
                                        · simp only [if_true] at hS
                                          have HS := Lib.hid hS
                                          clear hS HOk HN12 HE1
                                          go_wp2_with fail
                                          go_at_call 11
                                          refine HS.out.mono ?_
                                          rintro e w10 ⟨rfl, hb⟩
                                          have hbr := HX8.out.br.below hb HX8.out.br.lt
                                          have hbel := HX8.out.bel.trans (hb.mono HX8.out.bel.size)
                                          have HBr := Lib.hid hbr; have HBe := Lib.hid hbel
                                          clear hbr hbel hb HS HX8 fX cX
                                          go_upto_region 50 with fail
                                          rename_i K hK
                                          exact end_zero rfl rfl rfl rfl rfl rfl rfl rfl rfl rfl (by decide) (of_decide_eq_true (by kernel_rfl)) (of_decide_eq_true (by kernel_rfl)) (by kernel_rfl) rfl hK (fun _ _ h => h) HBr.out HBe.out
                                        -- >
  · have hn : refM s.data.toList = none := by rw [HM.out]; simp only [if_neg hmag]; cases o1 <;> rfl
    obtain rfl := HNone.out hn
    have hB : (v == [65, 78, 76, 49]) = false := by simpa [magic] using hmag
    have hB2 : (!(v == [65, 78, 76, 49])) = true := by simpa [magic] using hmag
    clear hn
    go_upto_region 3 with fail
    rename_i K hK
    exact end_zero rfl rfl rfl rfl rfl rfl rfl rfl rfl rfl (by decide) (of_decide_eq_true (by kernel_rfl)) (of_decide_eq_true (by kernel_rfl)) (by kernel_rfl) rfl hK (fun _ _ h => h) HB1.out HBel1.out
end Go.Proofs.YtaffaobhcnnfnaaGreatDoor.R15
