/-
  The document's moments (analemmaref09): the contracts of Right, On, Local: they tell what the program's own tell. Conditions: none.
-/
import Derived.Test.YtdicedpklpadgaaGreatDoorY08
import Derived.Test.YtdicedpklpadgaaGreatDoorY03
set_option linter.all false
namespace Go.Proofs.YtdicedpklpadgaaGreatDoor.R09
open Go.RowKit Mem Civ Mom

set_option maxHeartbeats 4000000 in
set_option maxRecDepth 100000 in
theorem right_any (s : Spot) (w : World) : Calls Tryz.prog 96 #[.agg s.cells.toArray] w fun e w' => e = .returned (.bool (spotB s)) ∧ w' = w.alloc (.cells s.cells.toArray 55) := by
  obtain ⟨mo, k, wd, d, t, r⟩ := s
  obtain ⟨q, hq⟩ : ∃ q, spotB ⟨mo, k, wd, d, t, r⟩ = q := ⟨_, rfl⟩
  rw [hq]
  have HQ := Lib.hid hq
  simp only [Spot.cells]
  clear hq
  go_enter Tryz.func96, Tryz.ntmps96
  by_cases hb : 1 ≤ mo ∧ mo ≤ 12 ∧ 0 ≤ k ∧ k ≤ 3 ∧ -604799 ≤ t ∧ t ≤ 604799 ∧ 0 ≤ r ∧ r ≤ 2
  · obtain ⟨h1, h2, h3, h4, h5, h6, h7, h8⟩ := hb
    have hk : k = 0 ∨ k = 1 ∨ k = 2 ∨ k = 3 := by omega
    rcases hk with rfl | rfl | rfl | rfl
    all_goals
      go_wp2
      all_goals
        go_ret
        refine ⟨ret_b (a := _) ?_, by first | rfl | simp_all⟩
        rw [← HQ.out, Bool.eq_iff_iff]
        simp [spotB, Spot.okP] <;> omega
  · have hs : q = false := HQ.out ▸ spotB_false (fun h => hb ⟨h.1, h.2.1, h.2.2.1, h.2.2.2.1, h.2.2.2.2.1, h.2.2.2.2.2.1, h.2.2.2.2.2.2.1, h.2.2.2.2.2.2.2.1⟩)
    subst hs
    clear HQ
    have hz : mo < 1 ∨ (1 ≤ mo ∧ 12 < mo) ∨ ((1 ≤ mo ∧ mo ≤ 12) ∧ k < 0) ∨ ((1 ≤ mo ∧ mo ≤ 12) ∧ 0 ≤ k ∧ 3 < k) ∨ ((1 ≤ mo ∧ mo ≤ 12) ∧ (0 ≤ k ∧ k ≤ 3) ∧ t < -604799) ∨ ((1 ≤ mo ∧ mo ≤ 12) ∧ (0 ≤ k ∧ k ≤ 3) ∧ -604799 ≤ t ∧ 604799 < t) ∨
        ((1 ≤ mo ∧ mo ≤ 12) ∧ (0 ≤ k ∧ k ≤ 3) ∧ (-604799 ≤ t ∧ t ≤ 604799) ∧ r < 0) ∨ ((1 ≤ mo ∧ mo ≤ 12) ∧ (0 ≤ k ∧ k ≤ 3) ∧ (-604799 ≤ t ∧ t ≤ 604799) ∧ 0 ≤ r ∧ 2 < r) := by omega
    clear hb
    rcases hz with h1 | ⟨h1, h2⟩ | ⟨⟨h1, h2⟩, h3⟩ | ⟨⟨h1, h2⟩, h3, h4⟩ | ⟨⟨h1, h2⟩, ⟨h3, h4⟩, h5⟩ | ⟨⟨h1, h2⟩, ⟨h3, h4⟩, h5, h6⟩ | ⟨⟨h1, h2⟩, ⟨h3, h4⟩, ⟨h5, h6⟩, h7⟩ | ⟨⟨h1, h2⟩, ⟨h3, h4⟩, ⟨h5, h6⟩, h7, h8⟩
    all_goals
      go_wp2
      go_ret
      exact ⟨rfl, rfl⟩

/-! ### On -/
theorem back_zero {n wd : Int} (hw : 1 ≤ wd ∧ wd ≤ 7) : (n - backI n wd + 3) % 7 + 1 = wd := by unfold backI; omega
/-- Where the days are looked through: the first one, which way. -/
def startI (s : Spot) (f l : Int) : Int := if s.kind = 1 then f + l - 1 else f + s.day - 1
def wayI (k : Int) : Int := if k = 0 then 0 else if k = 2 then 1 else -1
theorem target {s : Spot} (h : s.okP) (f l : Int) : (s.kind = 0 → spotDay s f l = startI s f l) ∧ (s.kind ≠ 0 → (spotDay s f l + 3) % 7 + 1 = s.weekday) ∧
    ∃ j : Nat, j ≤ 6 ∧ startI s f l = spotDay s f l - wayI s.kind * j := by
  obtain ⟨h1, h2, h3, h4, h5, h6, h7, h8, h9, h10, h11⟩ := h
  have hk : s.kind = 0 ∨ s.kind = 1 ∨ s.kind = 2 ∨ s.kind = 3 := by omega
  rcases hk with hk | hk | hk | hk
  · have e1 : spotDay s f l = startI s f l := by simp [spotDay, startI, hk]
    exact ⟨fun _ => e1, fun e => absurd hk e, 0, by omega, by rw [e1]; simp⟩
  · have e1 : spotDay s f l = startI s f l - backI (startI s f l) s.weekday := by simp [spotDay, startI, hk]
    have hb := backI_bd (startI s f l) s.weekday
    refine ⟨fun e => absurd e (by omega), fun _ => by rw [e1]; exact back_zero (by have := h10 hk; omega), (backI (startI s f l) s.weekday).toNat, by omega, ?_⟩
    rw [e1]
    simp only [wayI, hk, show ¬ ((1 : Int) = 0) from by decide, show ¬ ((1 : Int) = 2) from by decide, if_false]
    omega
  · have e1 : spotDay s f l = startI s f l + 6 - backI (startI s f l + 6) s.weekday := by
      simp only [spotDay, startI, hk, show ¬ ((2 : Int) = 0) from by decide, show ¬ ((2 : Int) = 1) from by decide, if_false, if_true]
      rw [show f + s.day - 1 + 6 = f + s.day + 5 by omega]
    have hb := backI_bd (startI s f l + 6) s.weekday
    refine ⟨fun e => absurd e (by omega), fun _ => by rw [e1]; exact back_zero (by have := h11 (by omega); omega), (6 - backI (startI s f l + 6) s.weekday).toNat, by omega, ?_⟩
    rw [e1]
    simp only [wayI, hk, show ¬ ((2 : Int) = 0) from by decide, if_false, if_true]
    omega
  · have e1 : spotDay s f l = startI s f l - backI (startI s f l) s.weekday := by
      simp [spotDay, startI, hk]
    have hb := backI_bd (startI s f l) s.weekday
    refine ⟨fun e => absurd e (by omega), fun _ => by rw [e1]; exact back_zero (by have := h11 (by omega); omega), (backI (startI s f l) s.weekday).toNat, by omega, ?_⟩
    rw [e1]
    simp only [wayI, hk, show ¬ ((3 : Int) = 0) from by decide, show ¬ ((3 : Int) = 2) from by decide, if_false]
    omega
theorem target4 {s : Spot} (h : s.okP) (f l : Int) : (s.kind = 0 → spotDay s f l = f + s.day - 1) ∧ (s.kind = 1 → ∃ j : Nat, j ≤ 6 ∧ f + l - 1 = spotDay s f l + j) ∧ (s.kind = 2 → ∃ j : Nat, j ≤ 6 ∧ f + s.day - 1 = spotDay s f l - j) ∧
    (s.kind = 3 → ∃ j : Nat, j ≤ 6 ∧ f + s.day - 1 = spotDay s f l + j) ∧ (s.kind ≠ 0 → (spotDay s f l + 3) % 7 + 1 = s.weekday) := by
  obtain ⟨t0, t1, j, hj, t2⟩ := target h f l
  refine ⟨fun e => by rw [t0 e]; simp [startI, e], fun e => ⟨j, hj, ?_⟩, fun e => ⟨j, hj, ?_⟩, fun e => ⟨j, hj, ?_⟩, t1⟩
  all_goals
    simp [startI, wayI, e] at t2
    omega
theorem down_at {n : Int} (h : -300000000 ≤ n ∧ n ≤ 300000000) : wrap64 (n + 3) = n + 3 ∧ wrap64 (7 * ((n + 3) / 7)) = 7 * ((n + 3) / 7) ∧ wrap64 (n + 3 - 7 * ((n + 3) / 7)) = n + 3 - 7 * ((n + 3) / 7) ∧ wrap64 (n + 3 - 7 * ((n + 3) / 7) + 1) = n + 3 - 7 * ((n + 3) / 7) + 1 := by
  unfold wrap64
  omega
set_option maxHeartbeats 4000000 in
set_option maxRecDepth 100000 in
theorem on_k0 (mo wd d t r y f : Int) (w : World) (hsb : spotB ⟨mo, 0, wd, d, t, r⟩ = true) (hy : 1 ≤ y ∧ y ≤ 300000) (hd : daysO y mo 1 = some f) :
    Calls Tryz.prog 152 #[.agg #[.int .i64 mo, .int .i64 0, .int .i64 wd, .int .i64 d, .int .i64 t, .int .i64 r], .int .i64 y] w
      fun e w' => e = .returned (dayV (if 100000000 < spotDay ⟨mo, 0, wd, d, t, r⟩ f (mlen y mo) then none else some (spotDay ⟨mo, 0, wd, d, t, r⟩ f (mlen y mo)))) ∧ Below w.heap.size w w' := by
  have hfb := daysO_bd hd
  have hl := mlen_bd y mo
  have hokp := spotB_ok hsb
  have hT4 := target4 hokp f (mlen y mo)
  have hdd : 0 ≤ d ∧ d ≤ 31 := by
    obtain ⟨_, _, _, _, _, _, _, _, a, b, c⟩ := hokp
    have := a rfl
    simp only at this
    omega
  have HRt : Hid (∀ z, Calls Tryz.prog 96 #[.agg #[.int .i64 mo, .int .i64 0, .int .i64 wd, .int .i64 d, .int .i64 t, .int .i64 r]] z fun e z' => e = .returned (.bool true) ∧ z' = z.alloc (.cells #[.int .i64 mo, .int .i64 0, .int .i64 wd, .int .i64 d, .int .i64 t, .int .i64 r] 55)) := fun z => by
    have h := right_any ⟨mo, 0, wd, d, t, r⟩ z
    rw [hsb] at h
    exact h
  have HDa : Hid (∀ z, Calls Tryz.prog 34 #[.agg #[.int .i64 y, .int .i64 mo, .int .i64 1]] z fun e z' => e = .returned (.tuple #[.int .i64 f, .bool true]) ∧ Below z.heap.size z z') := fun z => by
    have h := R05.days_any y mo 1 z
    rw [hd] at h
    exact h
  have HM := Lib.hid (fun z => R05.month_any y mo z)
  simp only at hT4
  generalize mlen y mo = l at *
  generalize spotDay ⟨mo, 0, wd, d, t, r⟩ f l = T at *
  have hone := One.new w 55 #[.int .i64 mo, .int .i64 0, .int .i64 wd, .int .i64 d, .int .i64 t, .int .i64 r]
  obtain ⟨W, hW⟩ : ∃ W, w.alloc (.cells #[.int .i64 mo, .int .i64 0, .int .i64 wd, .int .i64 d, .int .i64 t, .int .i64 r] 55) = W := ⟨_, rfl⟩
  rw [hW] at hone
  have HO := Lib.hid hone
  have c0 := fun i => hone.1.cell i
  obtain ⟨Cls, hCls⟩ : ∃ C : World → Prop, C = Civ.One w w.heap.size 55 #[.int .i64 mo, .int .i64 0, .int .i64 wd, .int .i64 d, .int .i64 t, .int .i64 r] := ⟨_, rfl⟩
  have hC : ∀ z, Cls z → Civ.One w w.heap.size 55 #[.int .i64 mo, .int .i64 0, .int .i64 wd, .int .i64 d, .int .i64 t, .int .i64 r] z := fun z h => by rw [hCls] at h; exact h
  have inst : Nonempty (Qt.In Cls) := ⟨⟨W, by rw [hCls]; exact hone⟩⟩
  have z2 : ∀ z : Qt.In Cls, z.w.cell? ⟨w.heap.size, 2, none⟩ = some (.int .i64 wd) := fun z => (hC z.w z.h).1.cell 2
  have HDr : Hid (∀ z, Cls z → Cls z.drew) := fun z h => by rw [hCls] at h ⊢; exact h.drew
  have HCl := Lib.hid hCls
  have hw1 : wrap64 (f + d) = f + d := by unfold wrap64; omega
  have hw2 : wrap64 (f + d - 1) = f + d - 1 := by unfold wrap64; omega
  have hw3 : wrap64 (f + l) = f + l := by unfold wrap64; omega
  have hw4 : wrap64 (f + l - 1) = f + l - 1 := by unfold wrap64; omega
  obtain ⟨R, hR⟩ : ∃ R, (if 100000000 < T then none else some T) = R := ⟨_, rfl⟩
  rw [hR]
  have HR := Lib.hid hR
  have HT4 := Lib.hid hT4
  have y1 : decide (y < 1) = false := decide_eq_false (by omega)
  have y2 : decide (300000 < y) = false := decide_eq_false (by omega)
  clear hone hCls hC hR hT4 hokp hsb hd hy
  have e0 : T = f + d - 1 := HT4.out.1 (by trivial)
  subst e0
  clear HT4 hfb hl hdd
  go_enter Tryz.func152, Tryz.ntmps152
  go_wp2_with (first
      | (go_at_call 96; refine (HRt.out _).mono ?_; rintro e w1 ⟨rfl, hb⟩; have HB1 := Lib.hid (HO.out.step (below_of_eq hb)); have c1 := fun i => (HO.out.step (below_of_eq hb)).1.cell i; clear hb)
      | (go_at_call 34; refine (HDa.out _).mono ?_; rintro e w2 ⟨rfl, hb⟩; have HB2 := Lib.hid (HB1.out.step hb); have c2 := fun i => (HB1.out.step hb).1.cell i; clear hb)
      | (go_at_call 83; refine (HM.out _).mono ?_; rintro e w3 ⟨rfl, rfl⟩))
  have hC2 : Cls w2.drew := HDr.out _ (by rw [HCl.out]; exact HB2.out)
  refine wp_loop_once ?_
  go_wp2
  refine Qt.wp_region_cls Cls (by kernel_rfl) (by kernel_rfl) hC2 ?_
  repeat (go_big_quiet_step (fail))
  refine wpQuiet_nil ?_
  rintro wq ⟨⟨w9, hq⟩, e9⟩
  have HQ : Hid (Civ.One w w.heap.size 55 #[.int .i64 mo, .int .i64 0, .int .i64 wd, .int .i64 d, .int .i64 t, .int .i64 r] wq) := by rw [← HCl.out, e9]; exact hq
  clear hq e9 c0 c1 c2 hC2
  generalize f + d - 1 = T at *
  cases h3 : decide (100000000 < T)
  · have hr : R = some T := by rw [← HR.out, if_neg (by simpa using h3)]
    subst hr
    clear HR
    go_wp2
    go_ret2
    exact ⟨by first | rfl | (simp [dayV, hw2]; done), HQ.out.2⟩
  · have hr : R = none := by rw [← HR.out, if_pos (by simpa using h3)]
    subst hr
    clear HR
    go_wp2
    go_ret2
    exact ⟨by first | rfl | (simp [dayV, hw2]; done), HQ.out.2⟩
set_option maxHeartbeats 4000000 in
set_option maxRecDepth 100000 in
theorem on_k1 (mo wd d t r y f : Int) (w : World) (hsb : spotB ⟨mo, 1, wd, d, t, r⟩ = true) (hy : 1 ≤ y ∧ y ≤ 300000) (hd : daysO y mo 1 = some f) :
    Calls Tryz.prog 152 #[.agg #[.int .i64 mo, .int .i64 1, .int .i64 wd, .int .i64 d, .int .i64 t, .int .i64 r], .int .i64 y] w
      fun e w' => e = .returned (dayV (if 100000000 < spotDay ⟨mo, 1, wd, d, t, r⟩ f (mlen y mo) then none else some (spotDay ⟨mo, 1, wd, d, t, r⟩ f (mlen y mo)))) ∧ Below w.heap.size w w' := by
  have hfb := daysO_bd hd
  have hl := mlen_bd y mo
  have hokp := spotB_ok hsb
  have hT4 := target4 hokp f (mlen y mo)
  have hdd : 0 ≤ d ∧ d ≤ 31 := by
    obtain ⟨_, _, _, _, _, _, _, _, a, b, c⟩ := hokp
    have := b rfl
    simp only at this
    omega
  have HRt : Hid (∀ z, Calls Tryz.prog 96 #[.agg #[.int .i64 mo, .int .i64 1, .int .i64 wd, .int .i64 d, .int .i64 t, .int .i64 r]] z fun e z' => e = .returned (.bool true) ∧ z' = z.alloc (.cells #[.int .i64 mo, .int .i64 1, .int .i64 wd, .int .i64 d, .int .i64 t, .int .i64 r] 55)) := fun z => by
    have h := right_any ⟨mo, 1, wd, d, t, r⟩ z
    rw [hsb] at h
    exact h
  have HDa : Hid (∀ z, Calls Tryz.prog 34 #[.agg #[.int .i64 y, .int .i64 mo, .int .i64 1]] z fun e z' => e = .returned (.tuple #[.int .i64 f, .bool true]) ∧ Below z.heap.size z z') := fun z => by
    have h := R05.days_any y mo 1 z
    rw [hd] at h
    exact h
  have HM := Lib.hid (fun z => R05.month_any y mo z)
  simp only at hT4
  generalize mlen y mo = l at *
  generalize spotDay ⟨mo, 1, wd, d, t, r⟩ f l = T at *
  have hone := One.new w 55 #[.int .i64 mo, .int .i64 1, .int .i64 wd, .int .i64 d, .int .i64 t, .int .i64 r]
  obtain ⟨W, hW⟩ : ∃ W, w.alloc (.cells #[.int .i64 mo, .int .i64 1, .int .i64 wd, .int .i64 d, .int .i64 t, .int .i64 r] 55) = W := ⟨_, rfl⟩
  rw [hW] at hone
  have HO := Lib.hid hone
  have c0 := fun i => hone.1.cell i
  obtain ⟨Cls, hCls⟩ : ∃ C : World → Prop, C = Civ.One w w.heap.size 55 #[.int .i64 mo, .int .i64 1, .int .i64 wd, .int .i64 d, .int .i64 t, .int .i64 r] := ⟨_, rfl⟩
  have hC : ∀ z, Cls z → Civ.One w w.heap.size 55 #[.int .i64 mo, .int .i64 1, .int .i64 wd, .int .i64 d, .int .i64 t, .int .i64 r] z := fun z h => by rw [hCls] at h; exact h
  have inst : Nonempty (Qt.In Cls) := ⟨⟨W, by rw [hCls]; exact hone⟩⟩
  have z2 : ∀ z : Qt.In Cls, z.w.cell? ⟨w.heap.size, 2, none⟩ = some (.int .i64 wd) := fun z => (hC z.w z.h).1.cell 2
  have HDr : Hid (∀ z, Cls z → Cls z.drew) := fun z h => by rw [hCls] at h ⊢; exact h.drew
  have HCl := Lib.hid hCls
  have hw1 : wrap64 (f + d) = f + d := by unfold wrap64; omega
  have hw2 : wrap64 (f + d - 1) = f + d - 1 := by unfold wrap64; omega
  have hw3 : wrap64 (f + l) = f + l := by unfold wrap64; omega
  have hw4 : wrap64 (f + l - 1) = f + l - 1 := by unfold wrap64; omega
  obtain ⟨R, hR⟩ : ∃ R, (if 100000000 < T then none else some T) = R := ⟨_, rfl⟩
  rw [hR]
  have HR := Lib.hid hR
  have HT4 := Lib.hid hT4
  have y1 : decide (y < 1) = false := decide_eq_false (by omega)
  have y2 : decide (300000 < y) = false := decide_eq_false (by omega)
  clear hone hCls hC hR hT4 hokp hsb hd hy
  obtain ⟨j0, hj0, e0⟩ := HT4.out.2.1 (by trivial)
  have hT1 := HT4.out.2.2.2.2 (by decide)
  have hTb : -200000000 ≤ T ∧ T ≤ 200000000 := by omega
  have E0 := Lib.hid e0; have HT1 := Lib.hid hT1; have HTb := Lib.hid hTb
  clear e0 hT1 hTb HT4 hfb hl hdd
  go_enter Tryz.func152, Tryz.ntmps152
  go_wp2_with (first
      | (go_at_call 96; refine (HRt.out _).mono ?_; rintro e w1 ⟨rfl, hb⟩; have HB1 := Lib.hid (HO.out.step (below_of_eq hb)); have c1 := fun i => (HO.out.step (below_of_eq hb)).1.cell i; clear hb)
      | (go_at_call 34; refine (HDa.out _).mono ?_; rintro e w2 ⟨rfl, hb⟩; have HB2 := Lib.hid (HB1.out.step hb); have c2 := fun i => (HB1.out.step hb).1.cell i; clear hb)
      | (go_at_call 83; refine (HM.out _).mono ?_; rintro e w3 ⟨rfl, rfl⟩))
  have hC2 : Cls w2 := by rw [HCl.out]; exact HB2.out
  go_loopw [8] (fun n wr => ∃ (j : Nat) (v : Int), j ≤ 6 ∧ T + j = v ∧ n = .int .i64 v ∧ Cls wr) (fun n _ => (intOf n - T).toNat)
  case atStart => exact ⟨j0, _, hj0, rfl, by first | (rw [hw4, E0.out]; done) | (rw [hw2, E0.out]; done) | (rw [E0.out]; done), hC2⟩
  case round =>
    clear c0 c1 c2 hC2 hw1 hw2 hw3 hw4 HB1 HB2
    obtain ⟨j, n, hj, hn, rfl, hcl⟩ := hrel
    have hnb : -300000000 ≤ n ∧ n ≤ 300000000 := by have := HTb.out; omega
    obtain ⟨v1, v2, v3, v4⟩ := down_at hnb
    have HDn : Hid (∀ z, Cls z → Calls Tryz.prog 136 #[.int .i64 (wrap64 (n + 3)), .int .i64 7] z fun e z' => e = .returned (.int .i64 ((n + 3) / 7)) ∧ Cls z') := fun z h => by
      rw [v1]
      exact (R05.down_any (n + 3) 7 z (fl_7 _ (by omega)) (by omega)).mono fun e z' ⟨he, hb⟩ => ⟨he, by subst hb; exact h⟩
    have hst : Cls wr.drew := HDr.out _ hcl
    have hv5 : wrap64 (n + -1) = n - 1 := by unfold wrap64; omega
    have HN := Lib.hid (And.intro hj hn)
    by_cases hj1 : j = 0
    · have hb1 : (wrap64 (wrap64 (wrap64 (n + 3) - wrap64 (7 * ((n + 3) / 7))) + 1) != wd) = false := by rw [v1, v2, v3, v4]; have := HT1.out; simp; omega
      have HnT := Lib.hid (show n = T by omega)
      clear hn hnb hj v1 v2 v3 v4
      go_wp2
      refine Qt.wp_region_cls Cls (by kernel_rfl) (by kernel_rfl) hst ?_
      repeat (go_big_quiet_step (exact Qt.quiet_cls (HDn.out _ (Qt.In.h _))))
      refine wpQuiet_nil ?_
      rintro wq ⟨⟨w9, hq⟩, e9⟩
      have HQ : Hid (Civ.One w w.heap.size 55 #[.int .i64 mo, .int .i64 1, .int .i64 wd, .int .i64 d, .int .i64 t, .int .i64 r] wq) := by rw [← HCl.out, e9]; exact hq
      clear hq e9 hb1
      have hnT := HnT.out
      subst hnT
      clear HnT
      cases h3 : decide (100000000 < n)
      · have hr : R = some n := by rw [← HR.out, if_neg (by simpa using h3)]
        subst hr
        clear HR
        go_wp2
        go_ret2
        exact ⟨rfl, HQ.out.2⟩
      · have hr : R = none := by rw [← HR.out, if_pos (by simpa using h3)]
        subst hr
        clear HR
        go_wp2
        go_ret2
        exact ⟨rfl, HQ.out.2⟩
    · have hb1 : (wrap64 (wrap64 (wrap64 (n + 3) - wrap64 (7 * ((n + 3) / 7))) + 1) != wd) = true := by rw [v1, v2, v3, v4]; have := HT1.out; simp; omega
      clear hn hnb hj v1 v2 v3 v4
      go_wp2
      refine Qt.wp_region_cls Cls (by kernel_rfl) (by kernel_rfl) hst ?_
      repeat (go_big_quiet_step (exact Qt.quiet_cls (HDn.out _ (Qt.In.h _))))
      refine wpQuiet_nil ?_
      rintro wq ⟨⟨w9, hq⟩, e9⟩
      have hcl2 : Cls wq := by rw [e9]; exact hq
      clear hq e9 hb1
      go_wp2
      have hend : ∃ (j' : Nat) (v : Int), j' ≤ 6 ∧ T + j' = v ∧ Value.int .i64 (wrap64 (n + -1)) = .int .i64 v ∧ Cls wq := ⟨j - 1, n - 1, by have := HN.out; omega, by have := HN.out; omega, by rw [hv5], hcl2⟩
      exact ⟨hend, by have := HN.out; simp [intOf, hv5]; omega⟩
set_option maxHeartbeats 4000000 in
set_option maxRecDepth 100000 in
theorem on_k2 (mo wd d t r y f : Int) (w : World) (hsb : spotB ⟨mo, 2, wd, d, t, r⟩ = true) (hy : 1 ≤ y ∧ y ≤ 300000) (hd : daysO y mo 1 = some f) :
    Calls Tryz.prog 152 #[.agg #[.int .i64 mo, .int .i64 2, .int .i64 wd, .int .i64 d, .int .i64 t, .int .i64 r], .int .i64 y] w
      fun e w' => e = .returned (dayV (if 100000000 < spotDay ⟨mo, 2, wd, d, t, r⟩ f (mlen y mo) then none else some (spotDay ⟨mo, 2, wd, d, t, r⟩ f (mlen y mo)))) ∧ Below w.heap.size w w' := by
  have hfb := daysO_bd hd
  have hl := mlen_bd y mo
  have hokp := spotB_ok hsb
  have hT4 := target4 hokp f (mlen y mo)
  have hdd : 0 ≤ d ∧ d ≤ 31 := by
    obtain ⟨_, _, _, _, _, _, _, _, a, b, c⟩ := hokp
    have := c (by show (2 : Int) ≤ 2; decide)
    simp only at this
    omega
  have HRt : Hid (∀ z, Calls Tryz.prog 96 #[.agg #[.int .i64 mo, .int .i64 2, .int .i64 wd, .int .i64 d, .int .i64 t, .int .i64 r]] z fun e z' => e = .returned (.bool true) ∧ z' = z.alloc (.cells #[.int .i64 mo, .int .i64 2, .int .i64 wd, .int .i64 d, .int .i64 t, .int .i64 r] 55)) := fun z => by
    have h := right_any ⟨mo, 2, wd, d, t, r⟩ z
    rw [hsb] at h
    exact h
  have HDa : Hid (∀ z, Calls Tryz.prog 34 #[.agg #[.int .i64 y, .int .i64 mo, .int .i64 1]] z fun e z' => e = .returned (.tuple #[.int .i64 f, .bool true]) ∧ Below z.heap.size z z') := fun z => by
    have h := R05.days_any y mo 1 z
    rw [hd] at h
    exact h
  have HM := Lib.hid (fun z => R05.month_any y mo z)
  simp only at hT4
  generalize mlen y mo = l at *
  generalize spotDay ⟨mo, 2, wd, d, t, r⟩ f l = T at *
  have hone := One.new w 55 #[.int .i64 mo, .int .i64 2, .int .i64 wd, .int .i64 d, .int .i64 t, .int .i64 r]
  obtain ⟨W, hW⟩ : ∃ W, w.alloc (.cells #[.int .i64 mo, .int .i64 2, .int .i64 wd, .int .i64 d, .int .i64 t, .int .i64 r] 55) = W := ⟨_, rfl⟩
  rw [hW] at hone
  have HO := Lib.hid hone
  have c0 := fun i => hone.1.cell i
  obtain ⟨Cls, hCls⟩ : ∃ C : World → Prop, C = Civ.One w w.heap.size 55 #[.int .i64 mo, .int .i64 2, .int .i64 wd, .int .i64 d, .int .i64 t, .int .i64 r] := ⟨_, rfl⟩
  have hC : ∀ z, Cls z → Civ.One w w.heap.size 55 #[.int .i64 mo, .int .i64 2, .int .i64 wd, .int .i64 d, .int .i64 t, .int .i64 r] z := fun z h => by rw [hCls] at h; exact h
  have inst : Nonempty (Qt.In Cls) := ⟨⟨W, by rw [hCls]; exact hone⟩⟩
  have z2 : ∀ z : Qt.In Cls, z.w.cell? ⟨w.heap.size, 2, none⟩ = some (.int .i64 wd) := fun z => (hC z.w z.h).1.cell 2
  have HDr : Hid (∀ z, Cls z → Cls z.drew) := fun z h => by rw [hCls] at h ⊢; exact h.drew
  have HCl := Lib.hid hCls
  have hw1 : wrap64 (f + d) = f + d := by unfold wrap64; omega
  have hw2 : wrap64 (f + d - 1) = f + d - 1 := by unfold wrap64; omega
  have hw3 : wrap64 (f + l) = f + l := by unfold wrap64; omega
  have hw4 : wrap64 (f + l - 1) = f + l - 1 := by unfold wrap64; omega
  obtain ⟨R, hR⟩ : ∃ R, (if 100000000 < T then none else some T) = R := ⟨_, rfl⟩
  rw [hR]
  have HR := Lib.hid hR
  have HT4 := Lib.hid hT4
  have y1 : decide (y < 1) = false := decide_eq_false (by omega)
  have y2 : decide (300000 < y) = false := decide_eq_false (by omega)
  clear hone hCls hC hR hT4 hokp hsb hd hy
  obtain ⟨j0, hj0, e0⟩ := HT4.out.2.2.1 (by trivial)
  have hT1 := HT4.out.2.2.2.2 (by decide)
  have hTb : -200000000 ≤ T ∧ T ≤ 200000000 := by omega
  have E0 := Lib.hid e0; have HT1 := Lib.hid hT1; have HTb := Lib.hid hTb
  clear e0 hT1 hTb HT4 hfb hl hdd
  go_enter Tryz.func152, Tryz.ntmps152
  go_wp2_with (first
      | (go_at_call 96; refine (HRt.out _).mono ?_; rintro e w1 ⟨rfl, hb⟩; have HB1 := Lib.hid (HO.out.step (below_of_eq hb)); have c1 := fun i => (HO.out.step (below_of_eq hb)).1.cell i; clear hb)
      | (go_at_call 34; refine (HDa.out _).mono ?_; rintro e w2 ⟨rfl, hb⟩; have HB2 := Lib.hid (HB1.out.step hb); have c2 := fun i => (HB1.out.step hb).1.cell i; clear hb)
      | (go_at_call 83; refine (HM.out _).mono ?_; rintro e w3 ⟨rfl, rfl⟩))
  have hC2 : Cls w2 := by rw [HCl.out]; exact HB2.out
  go_loopw [8] (fun n wr => ∃ (j : Nat) (v : Int), j ≤ 6 ∧ T - j = v ∧ n = .int .i64 v ∧ Cls wr) (fun n _ => (T - intOf n).toNat)
  case atStart => exact ⟨j0, _, hj0, rfl, by first | (rw [hw4, E0.out]; done) | (rw [hw2, E0.out]; done) | (rw [E0.out]; done), hC2⟩
  case round =>
    clear c0 c1 c2 hC2 hw1 hw2 hw3 hw4 HB1 HB2
    obtain ⟨j, n, hj, hn, rfl, hcl⟩ := hrel
    have hnb : -300000000 ≤ n ∧ n ≤ 300000000 := by have := HTb.out; omega
    obtain ⟨v1, v2, v3, v4⟩ := down_at hnb
    have HDn : Hid (∀ z, Cls z → Calls Tryz.prog 136 #[.int .i64 (wrap64 (n + 3)), .int .i64 7] z fun e z' => e = .returned (.int .i64 ((n + 3) / 7)) ∧ Cls z') := fun z h => by
      rw [v1]
      exact (R05.down_any (n + 3) 7 z (fl_7 _ (by omega)) (by omega)).mono fun e z' ⟨he, hb⟩ => ⟨he, by subst hb; exact h⟩
    have hst : Cls wr.drew := HDr.out _ hcl
    have hv5 : wrap64 (n + 1) = n + 1 := by unfold wrap64; omega
    have HN := Lib.hid (And.intro hj hn)
    by_cases hj1 : j = 0
    · have hb1 : (wrap64 (wrap64 (wrap64 (n + 3) - wrap64 (7 * ((n + 3) / 7))) + 1) != wd) = false := by rw [v1, v2, v3, v4]; have := HT1.out; simp; omega
      have HnT := Lib.hid (show n = T by omega)
      clear hn hnb hj v1 v2 v3 v4
      go_wp2
      refine Qt.wp_region_cls Cls (by kernel_rfl) (by kernel_rfl) hst ?_
      repeat (go_big_quiet_step (exact Qt.quiet_cls (HDn.out _ (Qt.In.h _))))
      refine wpQuiet_nil ?_
      rintro wq ⟨⟨w9, hq⟩, e9⟩
      have HQ : Hid (Civ.One w w.heap.size 55 #[.int .i64 mo, .int .i64 2, .int .i64 wd, .int .i64 d, .int .i64 t, .int .i64 r] wq) := by rw [← HCl.out, e9]; exact hq
      clear hq e9 hb1
      have hnT := HnT.out
      subst hnT
      clear HnT
      cases h3 : decide (100000000 < n)
      · have hr : R = some n := by rw [← HR.out, if_neg (by simpa using h3)]
        subst hr
        clear HR
        go_wp2
        go_ret2
        exact ⟨rfl, HQ.out.2⟩
      · have hr : R = none := by rw [← HR.out, if_pos (by simpa using h3)]
        subst hr
        clear HR
        go_wp2
        go_ret2
        exact ⟨rfl, HQ.out.2⟩
    · have hb1 : (wrap64 (wrap64 (wrap64 (n + 3) - wrap64 (7 * ((n + 3) / 7))) + 1) != wd) = true := by rw [v1, v2, v3, v4]; have := HT1.out; simp; omega
      clear hn hnb hj v1 v2 v3 v4
      go_wp2
      refine Qt.wp_region_cls Cls (by kernel_rfl) (by kernel_rfl) hst ?_
      repeat (go_big_quiet_step (exact Qt.quiet_cls (HDn.out _ (Qt.In.h _))))
      refine wpQuiet_nil ?_
      rintro wq ⟨⟨w9, hq⟩, e9⟩
      have hcl2 : Cls wq := by rw [e9]; exact hq
      clear hq e9 hb1
      go_wp2
      have hend : ∃ (j' : Nat) (v : Int), j' ≤ 6 ∧ T - j' = v ∧ Value.int .i64 (wrap64 (n + 1)) = .int .i64 v ∧ Cls wq := ⟨j - 1, n + 1, by have := HN.out; omega, by have := HN.out; omega, by rw [hv5], hcl2⟩
      exact ⟨hend, by have := HN.out; simp [intOf, hv5]; omega⟩
set_option maxHeartbeats 4000000 in
set_option maxRecDepth 100000 in
theorem on_k3 (mo wd d t r y f : Int) (w : World) (hsb : spotB ⟨mo, 3, wd, d, t, r⟩ = true) (hy : 1 ≤ y ∧ y ≤ 300000) (hd : daysO y mo 1 = some f) :
    Calls Tryz.prog 152 #[.agg #[.int .i64 mo, .int .i64 3, .int .i64 wd, .int .i64 d, .int .i64 t, .int .i64 r], .int .i64 y] w
      fun e w' => e = .returned (dayV (if 100000000 < spotDay ⟨mo, 3, wd, d, t, r⟩ f (mlen y mo) then none else some (spotDay ⟨mo, 3, wd, d, t, r⟩ f (mlen y mo)))) ∧ Below w.heap.size w w' := by
  have hfb := daysO_bd hd
  have hl := mlen_bd y mo
  have hokp := spotB_ok hsb
  have hT4 := target4 hokp f (mlen y mo)
  have hdd : 0 ≤ d ∧ d ≤ 31 := by
    obtain ⟨_, _, _, _, _, _, _, _, a, b, c⟩ := hokp
    have := c (by show (2 : Int) ≤ 3; decide)
    simp only at this
    omega
  have HRt : Hid (∀ z, Calls Tryz.prog 96 #[.agg #[.int .i64 mo, .int .i64 3, .int .i64 wd, .int .i64 d, .int .i64 t, .int .i64 r]] z fun e z' => e = .returned (.bool true) ∧ z' = z.alloc (.cells #[.int .i64 mo, .int .i64 3, .int .i64 wd, .int .i64 d, .int .i64 t, .int .i64 r] 55)) := fun z => by
    have h := right_any ⟨mo, 3, wd, d, t, r⟩ z
    rw [hsb] at h
    exact h
  have HDa : Hid (∀ z, Calls Tryz.prog 34 #[.agg #[.int .i64 y, .int .i64 mo, .int .i64 1]] z fun e z' => e = .returned (.tuple #[.int .i64 f, .bool true]) ∧ Below z.heap.size z z') := fun z => by
    have h := R05.days_any y mo 1 z
    rw [hd] at h
    exact h
  have HM := Lib.hid (fun z => R05.month_any y mo z)
  simp only at hT4
  generalize mlen y mo = l at *
  generalize spotDay ⟨mo, 3, wd, d, t, r⟩ f l = T at *
  have hone := One.new w 55 #[.int .i64 mo, .int .i64 3, .int .i64 wd, .int .i64 d, .int .i64 t, .int .i64 r]
  obtain ⟨W, hW⟩ : ∃ W, w.alloc (.cells #[.int .i64 mo, .int .i64 3, .int .i64 wd, .int .i64 d, .int .i64 t, .int .i64 r] 55) = W := ⟨_, rfl⟩
  rw [hW] at hone
  have HO := Lib.hid hone
  have c0 := fun i => hone.1.cell i
  obtain ⟨Cls, hCls⟩ : ∃ C : World → Prop, C = Civ.One w w.heap.size 55 #[.int .i64 mo, .int .i64 3, .int .i64 wd, .int .i64 d, .int .i64 t, .int .i64 r] := ⟨_, rfl⟩
  have hC : ∀ z, Cls z → Civ.One w w.heap.size 55 #[.int .i64 mo, .int .i64 3, .int .i64 wd, .int .i64 d, .int .i64 t, .int .i64 r] z := fun z h => by rw [hCls] at h; exact h
  have inst : Nonempty (Qt.In Cls) := ⟨⟨W, by rw [hCls]; exact hone⟩⟩
  have z2 : ∀ z : Qt.In Cls, z.w.cell? ⟨w.heap.size, 2, none⟩ = some (.int .i64 wd) := fun z => (hC z.w z.h).1.cell 2
  have HDr : Hid (∀ z, Cls z → Cls z.drew) := fun z h => by rw [hCls] at h ⊢; exact h.drew
  have HCl := Lib.hid hCls
  have hw1 : wrap64 (f + d) = f + d := by unfold wrap64; omega
  have hw2 : wrap64 (f + d - 1) = f + d - 1 := by unfold wrap64; omega
  have hw3 : wrap64 (f + l) = f + l := by unfold wrap64; omega
  have hw4 : wrap64 (f + l - 1) = f + l - 1 := by unfold wrap64; omega
  obtain ⟨R, hR⟩ : ∃ R, (if 100000000 < T then none else some T) = R := ⟨_, rfl⟩
  rw [hR]
  have HR := Lib.hid hR
  have HT4 := Lib.hid hT4
  have y1 : decide (y < 1) = false := decide_eq_false (by omega)
  have y2 : decide (300000 < y) = false := decide_eq_false (by omega)
  clear hone hCls hC hR hT4 hokp hsb hd hy
  obtain ⟨j0, hj0, e0⟩ := HT4.out.2.2.2.1 (by trivial)
  have hT1 := HT4.out.2.2.2.2 (by decide)
  have hTb : -200000000 ≤ T ∧ T ≤ 200000000 := by omega
  have E0 := Lib.hid e0; have HT1 := Lib.hid hT1; have HTb := Lib.hid hTb
  clear e0 hT1 hTb HT4 hfb hl hdd
  go_enter Tryz.func152, Tryz.ntmps152
  go_wp2_with (first
      | (go_at_call 96; refine (HRt.out _).mono ?_; rintro e w1 ⟨rfl, hb⟩; have HB1 := Lib.hid (HO.out.step (below_of_eq hb)); have c1 := fun i => (HO.out.step (below_of_eq hb)).1.cell i; clear hb)
      | (go_at_call 34; refine (HDa.out _).mono ?_; rintro e w2 ⟨rfl, hb⟩; have HB2 := Lib.hid (HB1.out.step hb); have c2 := fun i => (HB1.out.step hb).1.cell i; clear hb)
      | (go_at_call 83; refine (HM.out _).mono ?_; rintro e w3 ⟨rfl, rfl⟩))
  have hC2 : Cls w2 := by rw [HCl.out]; exact HB2.out
  go_loopw [8] (fun n wr => ∃ (j : Nat) (v : Int), j ≤ 6 ∧ T + j = v ∧ n = .int .i64 v ∧ Cls wr) (fun n _ => (intOf n - T).toNat)
  case atStart => exact ⟨j0, _, hj0, rfl, by first | (rw [hw4, E0.out]; done) | (rw [hw2, E0.out]; done) | (rw [E0.out]; done), hC2⟩
  case round =>
    clear c0 c1 c2 hC2 hw1 hw2 hw3 hw4 HB1 HB2
    obtain ⟨j, n, hj, hn, rfl, hcl⟩ := hrel
    have hnb : -300000000 ≤ n ∧ n ≤ 300000000 := by have := HTb.out; omega
    obtain ⟨v1, v2, v3, v4⟩ := down_at hnb
    have HDn : Hid (∀ z, Cls z → Calls Tryz.prog 136 #[.int .i64 (wrap64 (n + 3)), .int .i64 7] z fun e z' => e = .returned (.int .i64 ((n + 3) / 7)) ∧ Cls z') := fun z h => by
      rw [v1]
      exact (R05.down_any (n + 3) 7 z (fl_7 _ (by omega)) (by omega)).mono fun e z' ⟨he, hb⟩ => ⟨he, by subst hb; exact h⟩
    have hst : Cls wr.drew := HDr.out _ hcl
    have hv5 : wrap64 (n + -1) = n - 1 := by unfold wrap64; omega
    have HN := Lib.hid (And.intro hj hn)
    by_cases hj1 : j = 0
    · have hb1 : (wrap64 (wrap64 (wrap64 (n + 3) - wrap64 (7 * ((n + 3) / 7))) + 1) != wd) = false := by rw [v1, v2, v3, v4]; have := HT1.out; simp; omega
      have HnT := Lib.hid (show n = T by omega)
      clear hn hnb hj v1 v2 v3 v4
      go_wp2
      refine Qt.wp_region_cls Cls (by kernel_rfl) (by kernel_rfl) hst ?_
      repeat (go_big_quiet_step (exact Qt.quiet_cls (HDn.out _ (Qt.In.h _))))
      refine wpQuiet_nil ?_
      rintro wq ⟨⟨w9, hq⟩, e9⟩
      have HQ : Hid (Civ.One w w.heap.size 55 #[.int .i64 mo, .int .i64 3, .int .i64 wd, .int .i64 d, .int .i64 t, .int .i64 r] wq) := by rw [← HCl.out, e9]; exact hq
      clear hq e9 hb1
      have hnT := HnT.out
      subst hnT
      clear HnT
      cases h3 : decide (100000000 < n)
      · have hr : R = some n := by rw [← HR.out, if_neg (by simpa using h3)]
        subst hr
        clear HR
        go_wp2
        go_ret2
        exact ⟨rfl, HQ.out.2⟩
      · have hr : R = none := by rw [← HR.out, if_pos (by simpa using h3)]
        subst hr
        clear HR
        go_wp2
        go_ret2
        exact ⟨rfl, HQ.out.2⟩
    · have hb1 : (wrap64 (wrap64 (wrap64 (n + 3) - wrap64 (7 * ((n + 3) / 7))) + 1) != wd) = true := by rw [v1, v2, v3, v4]; have := HT1.out; simp; omega
      clear hn hnb hj v1 v2 v3 v4
      go_wp2
      refine Qt.wp_region_cls Cls (by kernel_rfl) (by kernel_rfl) hst ?_
      repeat (go_big_quiet_step (exact Qt.quiet_cls (HDn.out _ (Qt.In.h _))))
      refine wpQuiet_nil ?_
      rintro wq ⟨⟨w9, hq⟩, e9⟩
      have hcl2 : Cls wq := by rw [e9]; exact hq
      clear hq e9 hb1
      go_wp2
      have hend : ∃ (j' : Nat) (v : Int), j' ≤ 6 ∧ T + j' = v ∧ Value.int .i64 (wrap64 (n + -1)) = .int .i64 v ∧ Cls wq := ⟨j - 1, n - 1, by have := HN.out; omega, by have := HN.out; omega, by rw [hv5], hcl2⟩
      exact ⟨hend, by have := HN.out; simp [intOf, hv5]; omega⟩
set_option maxHeartbeats 4000000 in
set_option maxRecDepth 100000 in
theorem on_any (s : Spot) (y : Int) (w : World) : Calls Tryz.prog 152 #[.agg s.cells.toArray, .int .i64 y] w fun e w' => e = .returned (dayV (onO s y)) ∧ Below w.heap.size w w' := by
  obtain ⟨R, hR⟩ : ∃ R, onO s y = R := ⟨_, rfl⟩
  rw [hR]
  unfold onO at hR
  by_cases hg : spotB s = true ∧ (1 ≤ y ∧ y ≤ 300000) ∧ (daysO y s.month 1).isSome = true
  · obtain ⟨g1, g2, g3⟩ := hg
    obtain ⟨f, hf⟩ := Option.isSome_iff_exists.1 g3
    rw [if_neg (by rw [g1]; simp; omega), hf, Option.bind_some] at hR
    have hok := spotB_ok g1
    have hkk : s.kind = 0 ∨ s.kind = 1 ∨ s.kind = 2 ∨ s.kind = 3 := by have := hok.2.2.1; have := hok.2.2.2.1; omega
    rw [← hR]
    obtain ⟨mo, k, wd, d, t, r⟩ := s
    simp only at hkk hf
    rcases hkk with rfl | rfl | rfl | rfl
    · exact on_k0 mo wd d t r y f w g1 g2 hf
    · exact on_k1 mo wd d t r y f w g1 g2 hf
    · exact on_k2 mo wd d t r y f w g1 g2 hf
    · exact on_k3 mo wd d t r y f w g1 g2 hf
  · have hr : R = none := by
      rw [← hR]
      split
      · rfl
      · next h =>
        cases hd : daysO y s.month 1 with
        | none => rfl
        | some f => exact absurd ⟨by simpa using (fun e => h (.inl e) : ¬ spotB s = false), ⟨by omega, by omega⟩, by rw [hd]; rfl⟩ hg
    subst hr
    clear hR
    have HG := Lib.hid hg
    clear hg
    have HRt := Lib.hid (fun z => right_any s z)
    have hone := One.new w 55 s.cells.toArray
    obtain ⟨mo, k, wd, d, t, r⟩ := s
    simp only [Spot.cells] at hone HRt ⊢
    obtain ⟨W, hW⟩ : ∃ W, w.alloc (.cells #[.int .i64 mo, .int .i64 k, .int .i64 wd, .int .i64 d, .int .i64 t, .int .i64 r] 55) = W := ⟨_, rfl⟩
    rw [hW] at hone
    have HO := Lib.hid hone
    have c0 := fun i => hone.1.cell i
    clear hone
    have HDa := Lib.hid (fun z => R05.days_any y mo 1 z)
    simp only at HG
    generalize spotB ⟨mo, k, wd, d, t, r⟩ = sb at *
    go_enter Tryz.func152, Tryz.ntmps152
    cases sb
    · go_wp2_with (first
      | (go_at_call 96; refine (HRt.out _).mono ?_; rintro e w1 ⟨rfl, hb⟩; have HB1 := Lib.hid (HO.out.step (below_of_eq hb)); have c1 := fun i => (HO.out.step (below_of_eq hb)).1.cell i; clear hb)
      | (go_at_call 34; refine (HDa.out _).mono ?_; rintro e w2 ⟨rfl, hb⟩; have HB2 := Lib.hid (HB1.out.step hb); have c2 := fun i => (HB1.out.step hb).1.cell i; clear hb))
      go_ret2
      exact ⟨rfl, HB1.out.2⟩
    cases h1 : decide (y < 1); rotate_left
    · go_wp2_with (first
      | (go_at_call 96; refine (HRt.out _).mono ?_; rintro e w1 ⟨rfl, hb⟩; have HB1 := Lib.hid (HO.out.step (below_of_eq hb)); have c1 := fun i => (HO.out.step (below_of_eq hb)).1.cell i; clear hb)
      | (go_at_call 34; refine (HDa.out _).mono ?_; rintro e w2 ⟨rfl, hb⟩; have HB2 := Lib.hid (HB1.out.step hb); have c2 := fun i => (HB1.out.step hb).1.cell i; clear hb))
      go_ret2
      exact ⟨rfl, HB1.out.2⟩
    cases h2 : decide (300000 < y); rotate_left
    · go_wp2_with (first
      | (go_at_call 96; refine (HRt.out _).mono ?_; rintro e w1 ⟨rfl, hb⟩; have HB1 := Lib.hid (HO.out.step (below_of_eq hb)); have c1 := fun i => (HO.out.step (below_of_eq hb)).1.cell i; clear hb)
      | (go_at_call 34; refine (HDa.out _).mono ?_; rintro e w2 ⟨rfl, hb⟩; have HB2 := Lib.hid (HB1.out.step hb); have c2 := fun i => (HB1.out.step hb).1.cell i; clear hb))
      go_ret2
      exact ⟨rfl, HB1.out.2⟩
    have hd : daysO y mo 1 = none := by
      cases hd : daysO y mo 1 with
      | none => rfl
      | some f => exact absurd ⟨rfl, ⟨by simp at h1; omega, by simp at h2; omega⟩, by rw [hd]; rfl⟩ HG.out
    rw [hd] at HDa
    simp only [dayV] at HDa
    clear HG hd
    go_wp2_with (first
      | (go_at_call 96; refine (HRt.out _).mono ?_; rintro e w1 ⟨rfl, hb⟩; have HB1 := Lib.hid (HO.out.step (below_of_eq hb)); have c1 := fun i => (HO.out.step (below_of_eq hb)).1.cell i; clear hb)
      | (go_at_call 34; refine (HDa.out _).mono ?_; rintro e w2 ⟨rfl, hb⟩; have HB2 := Lib.hid (HB1.out.step hb); have c2 := fun i => (HB1.out.step hb).1.cell i; clear hb))
    go_ret2
    exact ⟨rfl, HB2.out.2⟩
set_option maxRecDepth 100000 in
theorem local_any (s : Spot) (y : Int) (w : World) : Calls Tryz.prog 103 #[.agg s.cells.toArray, .int .i64 y] w fun e w' => e = .returned (dayV (localO s y)) ∧ Below w.heap.size w w' := by
  have HOn := Lib.hid (fun z => R09.on_any s y z)
  have hone := One.new w 55 s.cells.toArray
  unfold localO
  cases ho : onO s y with
  | none =>
    rw [ho] at HOn
    simp only [dayV, Option.map_none] at HOn ⊢
    obtain ⟨mo, k, wd, d, t, r⟩ := s
    simp only [Spot.cells] at hone HOn ⊢
    obtain ⟨W, hW⟩ : ∃ W, w.alloc (.cells #[.int .i64 mo, .int .i64 k, .int .i64 wd, .int .i64 d, .int .i64 t, .int .i64 r] 55) = W := ⟨_, rfl⟩
    rw [hW] at hone
    have HO := Lib.hid hone
    have c0 := fun i => hone.1.cell i
    clear hone ho
    go_enter Tryz.func103, Tryz.ntmps103
    go_wp2_with (go_at_call 152; refine (HOn.out _).mono ?_; rintro e w1 ⟨rfl, hb⟩; have HB := Lib.hid (HO.out.step hb); clear hb)
    go_ret2
    exact ⟨rfl, HB.out.2⟩
  | some n =>
    rw [ho] at HOn
    obtain ⟨⟨hn1, hn2⟩, hok, _⟩ := onO_bd ho
    simp only [dayV, Option.map_some] at HOn ⊢
    obtain ⟨mo, k, wd, d, t, r⟩ := s
    obtain ⟨_, _, _, _, ht1, ht2, _⟩ := hok
    simp only [Spot.cells] at hone HOn ht1 ht2 ⊢
    obtain ⟨W, hW⟩ : ∃ W, w.alloc (.cells #[.int .i64 mo, .int .i64 k, .int .i64 wd, .int .i64 d, .int .i64 t, .int .i64 r] 55) = W := ⟨_, rfl⟩
    rw [hW] at hone
    have HO := Lib.hid hone
    have c0 := fun i => hone.1.cell i
    clear hone ho
    go_enter Tryz.func103, Tryz.ntmps103
    go_wp2_with (go_at_call 152; refine (HOn.out _).mono ?_; rintro e w1 ⟨rfl, hb⟩; have hb2 := HO.out.step hb; have c1 := fun i => hb2.1.cell i; have HB := Lib.hid hb2; clear hb hb2)
    go_ret2
    exact ⟨rfl, HB.out.2⟩
end Go.Proofs.YtdicedpklpadgaaGreatDoor.R09
