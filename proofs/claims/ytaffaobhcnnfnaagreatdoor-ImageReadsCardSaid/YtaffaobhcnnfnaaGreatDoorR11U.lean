/-
  The document's turns of a year (analemmaref11.Turns): the contract. Conditions: what the slice holds is read, its length is bounded.
-/
import Derived.Test.YtaffaobhcnnfnaaGreatDoorR11T
namespace Go.Proofs.YtaffaobhcnnfnaaGreatDoor.R11
open Go.RowKit Mem Civ Mom Img Rul

theorem reads_pre {w : World} {B size n j : Nat} {A : Option Addr} {xs : List Value} (h : Reads w B size A n xs) (hj : j ≤ n) : Reads w B size A j (xs.take (j * size)) := by
  refine ⟨by rw [List.length_take, h.1]; exact Nat.min_eq_left (Nat.mul_le_mul_right _ hj), fun h0 => ?_⟩
  obtain ⟨ad, e, hb, hc⟩ := h.2 (by omega)
  refine ⟨ad, e, hb, fun i u hu => hc i u ?_⟩
  rw [List.getElem?_take] at hu
  split at hu
  · exact hu
  · cases hu
theorem flat_take {α : Type} {f : α → List Value} {m : Nat} (hf : ∀ a, (f a).length = m) : ∀ (l : List α) (j : Nat), (l.flatMap f).take (j * m) = (l.take j).flatMap f
  | [], j => by simp
  | a :: t, 0 => by simp
  | a :: t, j + 1 => by
    rw [List.flatMap_cons, List.take_succ_cons, List.flatMap_cons, Nat.succ_mul, Nat.add_comm, List.take_append, hf, List.take_of_length_le (by rw [hf]; omega), show m + j * m - m = j * m by omega, flat_take hf t j]
theorem flat_drop {α : Type} {f : α → List Value} {m : Nat} (hf : ∀ a, (f a).length = m) : ∀ (l : List α) (j : Nat), (l.flatMap f).drop (j * m) = (l.drop j).flatMap f
  | [], j => by simp
  | a :: t, 0 => by simp
  | a :: t, j + 1 => by
    rw [List.flatMap_cons, List.drop_succ_cons, Nat.succ_mul, Nat.add_comm, List.drop_append, hf, List.drop_eq_nil_of_le (by rw [hf]; omega), List.nil_append, show m + j * m - m = j * m by omega, flat_drop hf t j]
theorem posT_step {x : Turn} {S : List Turn} {j : Nat} (hj : j < S.length) : posT x S (j + 1) = if x.at_ < S[j].at_ then posT x S j else j + 1 := by
  rw [posT, List.getElem?_eq_getElem hj]
theorem all_one {ts : List Turn} : ∀ u ∈ ts.flatMap Turn.cells, u.oneCell' = true := by
  intro u hu
  obtain ⟨t, _, ht⟩ := List.mem_flatMap.1 hu
  simp only [Turn.cells, List.mem_cons, List.not_mem_nil, or_false] at ht
  rcases ht with rfl | rfl | rfl | rfl <;> rfl
theorem sort_next (rs : List Rule) (y : Int) (k : Nat) (hk : k < rs.length) : sortT ((rs.take (k + 1)).filterMap (turnL y)) = match turnL y rs[k] with
    | some t => insT (sortT ((rs.take k).filterMap (turnL y))) t
    | none => sortT ((rs.take k).filterMap (turnL y)) := by
  rw [List.take_succ_eq_append_getElem hk, List.filterMap_append, List.filterMap_cons, List.filterMap_nil]
  cases turnL y rs[k] with
  | none => simp
  | some t => simp [sortT_snoc]
theorem sort_le (rs : List Rule) (y : Int) (k : Nat) : (sortT ((rs.take k).filterMap (turnL y))).length ≤ k := by
  rw [sortT_length]
  exact Nat.le_trans (List.length_filterMap_le _ _) (by simp; omega)
set_option maxHeartbeats 1000000 in
set_option maxRecDepth 100000 in
theorem turns_any (rs : List Rule) (A : Option Addr) (c : Nat) (y : Int) (w : World) (h : Reads w w.heap.size 11 A rs.length (rs.flatMap Rule.cells)) (hn : rs.length ≤ 1000000) :
    Calls Tryz.prog 83 #[.slice A rs.length c, .int .i64 y] w (TurnsP (sortT (rs.filterMap (turnL y))) w) := by
  have H := Lib.hid h
  clear h
  obtain ⟨i0, hi0, hz0, hz1, hz2⟩ := info_parts info_turn
  go_enter Tryz.func83, Tryz.ntmps83
  go_wp2_with fail
  go_loopw [5, 6] (fun v i wr => ∃ k : Nat, k ≤ rs.length ∧ i = .int .i64 k ∧ wr.ownsRow w.heap.size 115 4 v (sortT ((rs.take k).filterMap (turnL y))).length ((sortT ((rs.take k).filterMap (turnL y))).flatMap Turn.cells) ∧ Below w.heap.size w wr) (fun _ i _ => rs.length - (intOf i).toNat)
  case atStart => exact ⟨0, Nat.zero_le _, rfl, World.ownsRow_nil _ _ _ _, Below.refl _ _⟩
  case round =>
    obtain ⟨k, hk, rfl, hown, hb⟩ := hrel
    have Hown := Lib.hid hown; have HBr := Lib.hid hb; clear hown hb
    obtain ⟨wo, rfl⟩ : ∃ wo : World, wo = wr := ⟨_, rfl⟩
    by_cases hkn : k < rs.length
    · obtain ⟨ad, hA, hadb, a0, a1, a2, a3, a4, a5, a6, a7, a8, a9, a10⟩ := rule_cells (H.out.below HBr.out) hkn
      subst hA
      have hst := sort_next rs y k hkn
      have hle := sort_le rs y k
      have Ht := Lib.hid (fun z => turn_any rs[k] y z)
      generalize hto : turnL y rs[k] = tt at *
      clear hto
      have Hst := Lib.hid hst
      clear hst
      simp only [Rule.cells] at Ht
      generalize rs[k] = x at *
      obtain ⟨L, hL⟩ : ∃ L, sortT ((rs.take k).filterMap (turnL y)) = L := ⟨_, rfl⟩
      rw [hL] at Hst Hown hle
      clear hL
      have hzo := HBr.out.size
      obtain ⟨A2, c2, hv⟩ := own_slice Hown.out
      subst hv
      cases tt with
      | none =>
        simp only [turnV] at Ht
        go_wp2_with (go_at_call 107; refine (Ht.out _).mono ?_; rintro e w2 ⟨rfl, hb2⟩; have HB2 := Lib.hid hb2; clear hb2)
        have hs := HB2.out.size
        refine ⟨⟨k + 1, by omega, by go_num, ?_, (HBr.out.trans (HB2.out.mono hzo)).alloc (by omega) _⟩, by simp [intOf]; omega⟩
        rw [Hst.out]
        exact (Rul.own_below Hown.out HB2.out).alloc _
      | some t =>
        obtain ⟨t0, t1, t2, t3⟩ := t
        simp only [turnV, Turn.cells] at Ht
        have Hst2 : Hid (sortT ((rs.take (k + 1)).filterMap (turnL y)) = insT L ⟨t0, t1, t2, t3⟩) := Hst.out
        clear Hst
        go_wp2_with (go_at_call 107; refine (Ht.out _).mono ?_; rintro e w2 ⟨rfl, hb2⟩; have HO2 := Lib.hid (Rul.own_below Hown.out hb2); have HB2 := Lib.hid (HBr.out.trans (hb2.mono hzo)); clear hb2)
        have hT3 := Blk.new w2 115 #[.int .i64 t0, .int .i64 t1, .int .i64 t2, .string t3]
        have hO3 := HO2.out.alloc (.cells #[.int .i64 t0, .int .i64 t1, .int .i64 t2, .string t3] 115)
        have hzw := HB2.out.size
        have hB3 := HB2.out.alloc hzw (.cells #[.int .i64 t0, .int .i64 t1, .int .i64 t2, .string t3] 115)
        obtain ⟨W3, hW3⟩ : ∃ W3, w2.alloc (.cells #[.int .i64 t0, .int .i64 t1, .int .i64 t2, .string t3] 115) = W3 := ⟨_, rfl⟩
        rw [hW3] at hT3 hO3 hB3
        have HT3 := Lib.hid hT3; have HO3 := Lib.hid hO3; have HB3 := Lib.hid hB3
        clear hT3 hO3 hB3 HO2 Ht
        go_loopw [9] (fun q wr => ∃ (j n : Nat), j ≤ L.length ∧ q = .int .i64 j ∧ posT ⟨t0, t1, t2, t3⟩ L j = posT ⟨t0, t1, t2, t3⟩ L L.length ∧ wr = W3.drewN n) (fun q _ => (intOf q).toNat)
        case atStart => exact ⟨L.length, 0, Nat.le_refl _, rfl, rfl, by rw [hW3]; rfl⟩
        case round =>
          clear a0 a1 a2 a3 a4 a5 a6 a7 a8 a9 a10
          obtain ⟨j, n, hj, rfl, hpos, rfl⟩ := hrel
          have HPos := Lib.hid hpos
          clear hpos
          obtain ⟨Cls, hCls⟩ : ∃ C : World → Prop, C = fun z => ∃ n, z = W3.drewN n := ⟨_, rfl⟩
          have hst : Cls (W3.drewN n).drew := by rw [hCls]; exact ⟨n + 1, rfl⟩
          have hC : ∀ z, Cls z → ∃ n, z = W3.drewN n := fun z h => by rw [hCls] at h; exact h
          have inst : Nonempty (Qt.In Cls) := ⟨⟨_, hst⟩⟩
          have zT : ∀ z : Qt.In Cls, z.w.cell? ⟨w2.heap.size, 0, none⟩ = some (.int .i64 t0) := fun z => by
            obtain ⟨n, e⟩ := hC z.w z.h
            rw [e]
            exact (HT3.out.drewN n).cell 0
          have HC := Lib.hid hC
          cases j with
          | zero =>
            clear hC hCls
            go_wp2
            refine Qt.wp_region_cls Cls (by kernel_rfl) (by kernel_rfl) hst ?_
            repeat (go_big_quiet_step (fail))
            refine wpQuiet_nil ?_
            rintro wq ⟨⟨w9, hq⟩, e9⟩
            obtain ⟨nq, hnq⟩ := HC.out wq (by rw [e9]; exact hq)
            clear hq e9 zT
            subst hnq
            have HPos' : Hid (0 = posT ⟨t0, t1, t2, t3⟩ L L.length) := HPos.out
            cases A2 with
            | none =>
              have hcap := own_cap HO3.out
              have hrd4 : Reads (W3.drewN nq) (W3.drewN nq).heap.size 4 none L.length (L.flatMap Turn.cells) := (Reads.of_own HO3.out).drewN nq
              have hpre := reads_pre (j := 0) hrd4 (by omega)
              rw [flat_take (m := 4) (fun _ => rfl)] at hpre
              have hsuf : Reads (W3.drewN nq) (W3.drewN nq).heap.size 4 none (L.length - 0) ((L.drop 0).flatMap Turn.cells) := hrd4
              have ht4 := HT3.out.drewN nq
              have hb4 : Below w.heap.size w (W3.drewN nq) := below_dr HB3.out
              generalize W3.drewN nq = W4 at *
              have HSuf := Lib.hid hsuf; have HPre := Lib.hid hpre; have HT4 := Lib.hid ht4; have HB4 := Lib.hid hb4
              clear hrd4 hpre ht4 hb4 hsuf
              go_wp2_with (first
                | (at_builtin; refine wpList_append_any W4 rfl (.tmp 45) (.tmp 48) 141 rfl W4.heap.size 115 i0 _ 4 40 Tryz.underlying141 hi0 hz0 hz1 hz2 rfl (by decide) _ 0 [] rfl (World.ownsRow_nil _ _ _ _) W4.heap.size none (0) c2 _ rfl HPre.out all_one (by unfold maxLen; omega) (by omega) (Nat.le_refl _) ?_; intro v5 w5 ho5 hg5 _; have hg5' : W4.grownBy w5 none := hg5; have hb5 := (Below.refl W4.heap.size W4).grown hg5' (Nat.le_refl _) (fun k e => by cases e); have ht5 := HT4.out.grown hg5' (by simp); have c5 := fun i => ht5.cell i; have HB5 := Lib.hid hb5; have HO5 := Lib.hid ho5; clear ho5 hg5 hg5' hb5 ht5)
                | (at_builtin; refine wpList_append1g w5 rfl (.tmp 50) (.tmp 52) 141 rfl W4.heap.size 115 i0 _ 4 40 Tryz.underlying141 hi0 hz0 hz1 hz2 rfl (by decide) v5 _ _ rfl HO5.out rfl rfl turn_oneCell (by unfold maxLen; omega) (by omega) HB5.out.size ?_; intro v6 w6 ho6 hg6; have hb6 := (HB5.out.alloc HB5.out.size _).grown hg6 (by have := HB5.out.size; simp; omega) (fun j hj => (HO5.out.lt j hj).1); have HB6 := Lib.hid hb6; have HO6 := Lib.hid ho6; have hs6 := (HSuf.out.below hb6).more hb6.size; have HS6 := Lib.hid hs6; clear ho6 hg6 hb6 hs6)
                | (at_builtin; refine wpList_append_any w6 rfl (.tmp 54) (.tmp 57) 141 rfl W4.heap.size 115 i0 _ 4 40 Tryz.underlying141 hi0 hz0 hz1 hz2 rfl (by decide) v6 _ _ rfl HO6.out w6.heap.size _ (L.length - (0)) _ _ rfl HS6.out all_one (by unfold maxLen; omega) (by omega) HB6.out.size ?_; intro v7 w7 ho7 hg7 _; have hb7 := HB6.out.grown hg7 HB6.out.size (fun j hj => (HO6.out.lt j hj).1); have HB7 := Lib.hid hb7; have HO7 := Lib.hid ho7; clear ho7 hg7 hb7))
              have hz4 := HB4.out.size
              have hown : w7.ownsRow w.heap.size 115 4 v7 (insT L ⟨t0, t1, t2, t3⟩).length ((insT L ⟨t0, t1, t2, t3⟩).flatMap Turn.cells) := by
                have h1 := own_base HO7.out hz4
                have e1 : insT L ⟨t0, t1, t2, t3⟩ = L.take (0) ++ ⟨t0, t1, t2, t3⟩ :: L.drop (0) := by unfold insT; rw [← HPos'.out]; rfl
                rw [e1]
                have e2 : (L.take (0) ++ (⟨t0, t1, t2, t3⟩ : Turn) :: L.drop (0)).length = 0 + (0) + 1 + (L.length - (0)) := by simp; omega
                rw [e2]
                simpa [Turn.cells] using h1
              exact ⟨⟨k + 1, by omega, by go_num, by rw [Hst2.out]; exact hown, HB4.out.trans (HB7.out.mono hz4)⟩, by simp [intOf]; omega⟩
            | some a2 =>
              have hcap := own_cap HO3.out
              have hrd4 : Reads (W3.drewN nq) (W3.drewN nq).heap.size 4 (some a2) L.length (L.flatMap Turn.cells) := (Reads.of_own HO3.out).drewN nq
              have hpre := reads_pre (j := 0) hrd4 (by omega)
              rw [flat_take (m := 4) (fun _ => rfl)] at hpre
              have hsuf : Reads (W3.drewN nq) (W3.drewN nq).heap.size 4 (some a2) (L.length - 0) ((L.drop 0).flatMap Turn.cells) := hrd4
              have ht4 := HT3.out.drewN nq
              have hb4 : Below w.heap.size w (W3.drewN nq) := below_dr HB3.out
              generalize W3.drewN nq = W4 at *
              have HSuf := Lib.hid hsuf; have HPre := Lib.hid hpre; have HT4 := Lib.hid ht4; have HB4 := Lib.hid hb4
              clear hrd4 hpre ht4 hb4 hsuf
              go_wp2_with (first
                | (at_builtin; refine wpList_append_any W4 rfl (.tmp 45) (.tmp 48) 141 rfl W4.heap.size 115 i0 _ 4 40 Tryz.underlying141 hi0 hz0 hz1 hz2 rfl (by decide) _ 0 [] rfl (World.ownsRow_nil _ _ _ _) W4.heap.size (some a2) (0) c2 _ rfl HPre.out all_one (by unfold maxLen; omega) (by omega) (Nat.le_refl _) ?_; intro v5 w5 ho5 hg5 _; have hg5' : W4.grownBy w5 none := hg5; have hb5 := (Below.refl W4.heap.size W4).grown hg5' (Nat.le_refl _) (fun k e => by cases e); have ht5 := HT4.out.grown hg5' (by simp); have c5 := fun i => ht5.cell i; have HB5 := Lib.hid hb5; have HO5 := Lib.hid ho5; clear ho5 hg5 hg5' hb5 ht5)
                | (at_builtin; refine wpList_append1g w5 rfl (.tmp 50) (.tmp 52) 141 rfl W4.heap.size 115 i0 _ 4 40 Tryz.underlying141 hi0 hz0 hz1 hz2 rfl (by decide) v5 _ _ rfl HO5.out rfl rfl turn_oneCell (by unfold maxLen; omega) (by omega) HB5.out.size ?_; intro v6 w6 ho6 hg6; have hb6 := (HB5.out.alloc HB5.out.size _).grown hg6 (by have := HB5.out.size; simp; omega) (fun j hj => (HO5.out.lt j hj).1); have HB6 := Lib.hid hb6; have HO6 := Lib.hid ho6; have hs6 := (HSuf.out.below hb6).more hb6.size; have HS6 := Lib.hid hs6; clear ho6 hg6 hb6 hs6)
                | (at_builtin; refine wpList_append_any w6 rfl (.tmp 54) (.tmp 57) 141 rfl W4.heap.size 115 i0 _ 4 40 Tryz.underlying141 hi0 hz0 hz1 hz2 rfl (by decide) v6 _ _ rfl HO6.out w6.heap.size _ (L.length - (0)) _ _ rfl HS6.out all_one (by unfold maxLen; omega) (by omega) HB6.out.size ?_; intro v7 w7 ho7 hg7 _; have hb7 := HB6.out.grown hg7 HB6.out.size (fun j hj => (HO6.out.lt j hj).1); have HB7 := Lib.hid hb7; have HO7 := Lib.hid ho7; clear ho7 hg7 hb7))
              have hz4 := HB4.out.size
              have hown : w7.ownsRow w.heap.size 115 4 v7 (insT L ⟨t0, t1, t2, t3⟩).length ((insT L ⟨t0, t1, t2, t3⟩).flatMap Turn.cells) := by
                have h1 := own_base HO7.out hz4
                have e1 : insT L ⟨t0, t1, t2, t3⟩ = L.take (0) ++ ⟨t0, t1, t2, t3⟩ :: L.drop (0) := by unfold insT; rw [← HPos'.out]; rfl
                rw [e1]
                have e2 : (L.take (0) ++ (⟨t0, t1, t2, t3⟩ : Turn) :: L.drop (0)).length = 0 + (0) + 1 + (L.length - (0)) := by simp; omega
                rw [e2]
                simpa [Turn.cells] using h1
              exact ⟨⟨k + 1, by omega, by go_num, by rw [Hst2.out]; exact hown, HB4.out.trans (HB7.out.mono hz4)⟩, by simp [intOf]; omega⟩
          | succ j =>
            have hjl : j < L.length := by omega
            obtain ⟨a2, hA2, hadb2, b0, b1, b2, b3⟩ := turn_cells (Reads.of_own HO3.out) hjl rfl
            subst hA2
            have zE : ∀ z : Qt.In Cls, z.w.cell? (a2.add (j * 4)) = some (.int .i64 L[j].at_) := fun z => by
              obtain ⟨n, e⟩ := hC z.w z.h
              rw [e]
              exact b0
            have hw1 : wrap64 (((j + 1 : Nat) : Int) - 1) = (j : Int) := by unfold wrap64; omega
            have hps := posT_step (x := ⟨t0, t1, t2, t3⟩) hjl
            have HPs := Lib.hid hps
            clear hC hCls hps b0 b1 b2 b3
            generalize hea : L[j].at_ = ea at *
            cases hlt : decide (t0 < ea)
            · have hp1 : j + 1 = posT ⟨t0, t1, t2, t3⟩ L L.length := by rw [← HPos.out, HPs.out, if_neg (by simpa using hlt)]
              have HPos' := Lib.hid hp1
              clear hp1
              go_wp2
              refine Qt.wp_region_cls Cls (by kernel_rfl) (by kernel_rfl) hst ?_
              repeat (go_big_quiet_step (fail))
              refine wpQuiet_nil ?_
              rintro wq ⟨⟨w9, hq⟩, e9⟩
              obtain ⟨nq, hnq⟩ := HC.out wq (by rw [e9]; exact hq)
              clear hq e9 zT zE
              subst hnq
              have hcap := own_cap HO3.out
              have hrd4 : Reads (W3.drewN nq) (W3.drewN nq).heap.size 4 (some a2) L.length (L.flatMap Turn.cells) := (Reads.of_own HO3.out).drewN nq
              have hpre := reads_pre (j := j + 1) hrd4 (by omega)
              rw [flat_take (m := 4) (fun _ => rfl)] at hpre
              have hsuf := hrd4.cut (k := j + 1) (cap := c2) (by omega) (own_cap HO3.out)
              rw [flat_drop (m := 4) (fun _ => rfl)] at hsuf
              have ht4 := HT3.out.drewN nq
              have hb4 : Below w.heap.size w (W3.drewN nq) := below_dr HB3.out
              generalize W3.drewN nq = W4 at *
              have HSuf := Lib.hid hsuf; have HPre := Lib.hid hpre; have HT4 := Lib.hid ht4; have HB4 := Lib.hid hb4
              clear hrd4 hpre ht4 hb4 hsuf
              go_wp2_with (first
                | (at_builtin; refine wpList_append_any W4 rfl (.tmp 45) (.tmp 48) 141 rfl W4.heap.size 115 i0 _ 4 40 Tryz.underlying141 hi0 hz0 hz1 hz2 rfl (by decide) _ 0 [] rfl (World.ownsRow_nil _ _ _ _) W4.heap.size (some a2) (j + 1) c2 _ rfl HPre.out all_one (by unfold maxLen; omega) (by omega) (Nat.le_refl _) ?_; intro v5 w5 ho5 hg5 _; have hg5' : W4.grownBy w5 none := hg5; have hb5 := (Below.refl W4.heap.size W4).grown hg5' (Nat.le_refl _) (fun k e => by cases e); have ht5 := HT4.out.grown hg5' (by simp); have c5 := fun i => ht5.cell i; have HB5 := Lib.hid hb5; have HO5 := Lib.hid ho5; clear ho5 hg5 hg5' hb5 ht5)
                | (at_builtin; refine wpList_append1g w5 rfl (.tmp 50) (.tmp 52) 141 rfl W4.heap.size 115 i0 _ 4 40 Tryz.underlying141 hi0 hz0 hz1 hz2 rfl (by decide) v5 _ _ rfl HO5.out rfl rfl turn_oneCell (by unfold maxLen; omega) (by omega) HB5.out.size ?_; intro v6 w6 ho6 hg6; have hb6 := (HB5.out.alloc HB5.out.size _).grown hg6 (by have := HB5.out.size; simp; omega) (fun j hj => (HO5.out.lt j hj).1); have HB6 := Lib.hid hb6; have HO6 := Lib.hid ho6; have hs6 := (HSuf.out.below hb6).more hb6.size; have HS6 := Lib.hid hs6; clear ho6 hg6 hb6 hs6)
                | (at_builtin; refine wpList_append_any w6 rfl (.tmp 54) (.tmp 57) 141 rfl W4.heap.size 115 i0 _ 4 40 Tryz.underlying141 hi0 hz0 hz1 hz2 rfl (by decide) v6 _ _ rfl HO6.out w6.heap.size _ (L.length - (j + 1)) _ _ rfl HS6.out all_one (by unfold maxLen; omega) (by omega) HB6.out.size ?_; intro v7 w7 ho7 hg7 _; have hb7 := HB6.out.grown hg7 HB6.out.size (fun j hj => (HO6.out.lt j hj).1); have HB7 := Lib.hid hb7; have HO7 := Lib.hid ho7; clear ho7 hg7 hb7))
              have hz4 := HB4.out.size
              have hown : w7.ownsRow w.heap.size 115 4 v7 (insT L ⟨t0, t1, t2, t3⟩).length ((insT L ⟨t0, t1, t2, t3⟩).flatMap Turn.cells) := by
                have h1 := own_base HO7.out hz4
                have e1 : insT L ⟨t0, t1, t2, t3⟩ = L.take (j + 1) ++ ⟨t0, t1, t2, t3⟩ :: L.drop (j + 1) := by unfold insT; rw [← HPos'.out]; rfl
                rw [e1]
                have e2 : (L.take (j + 1) ++ (⟨t0, t1, t2, t3⟩ : Turn) :: L.drop (j + 1)).length = 0 + (j + 1) + 1 + (L.length - (j + 1)) := by simp; omega
                rw [e2]
                simpa [Turn.cells] using h1
              exact ⟨⟨k + 1, by omega, by go_num, by rw [Hst2.out]; exact hown, HB4.out.trans (HB7.out.mono hz4)⟩, by simp [intOf]; omega⟩
            · have hp1 : posT ⟨t0, t1, t2, t3⟩ L j = posT ⟨t0, t1, t2, t3⟩ L L.length := by rw [← HPos.out, HPs.out, if_pos (by simpa using hlt)]
              have HP1 := Lib.hid hp1
              clear hp1
              go_wp2
              refine Qt.wp_region_cls Cls (by kernel_rfl) (by kernel_rfl) hst ?_
              repeat (go_big_quiet_step (fail))
              refine wpQuiet_nil ?_
              rintro wq ⟨⟨w9, hq⟩, e9⟩
              obtain ⟨nq, hnq⟩ := HC.out wq (by rw [e9]; exact hq)
              clear hq e9 zT zE
              subst hnq
              go_wp2
              exact ⟨⟨j, nq, by omega, by first | rfl | rw [hw1], HP1.out, rfl⟩, by simp [intOf]⟩
    · obtain rfl : k = rs.length := by omega
      rw [List.take_length] at Hown
      obtain ⟨A2, c2, hv⟩ := own_slice Hown.out
      subst hv
      go_wp2
      go_ret
      exact ⟨A2, c2, rfl, Hown.out, HBr.out⟩
end Go.Proofs.YtaffaobhcnnfnaaGreatDoor.R11
