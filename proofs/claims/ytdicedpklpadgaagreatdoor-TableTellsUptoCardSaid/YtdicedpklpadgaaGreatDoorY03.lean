/-
  Package moment: plain words and contracts of Right, back, the days of a month, On, Local. Conditions: bounded numbers where it is said.
  Package moment: contracts of back, the days of a month, On, Local. Conditions: bounded numbers where it is said.
  Package moment: contracts of On and Local. Conditions: none but an int's bounds.
-/
import Derived.Test.YtdicedpklpadgaaGreatDoorY02
set_option linter.all false
namespace Go.Proofs.YtdicedpklpadgaaGreatDoor.Mom
open Go.RowKit Mem Civ

/-- A spot. -/
structure Spot where
  month : Int
  kind : Int
  weekday : Int
  day : Int
  time : Int
  ref : Int
  deriving DecidableEq
def Spot.cells (s : Spot) : List Value := [.int .i64 s.month, .int .i64 s.kind, .int .i64 s.weekday, .int .i64 s.day, .int .i64 s.time, .int .i64 s.ref]
def Spot.okP (s : Spot) : Prop := 1 ≤ s.month ∧ s.month ≤ 12 ∧ 0 ≤ s.kind ∧ s.kind ≤ 3 ∧ -604799 ≤ s.time ∧ s.time ≤ 604799 ∧ 0 ≤ s.ref ∧ s.ref ≤ 2 ∧
  (s.kind = 0 → s.weekday = 0 ∧ 1 ≤ s.day ∧ s.day ≤ 31) ∧ (s.kind = 1 → 1 ≤ s.weekday ∧ s.weekday ≤ 7 ∧ s.day = 0) ∧ (2 ≤ s.kind → 1 ≤ s.weekday ∧ s.weekday ≤ 7 ∧ 1 ≤ s.day ∧ s.day ≤ 31)
instance (s : Spot) : Decidable s.okP := by unfold Spot.okP; infer_instance
/-- Whether a spot may be. -/
def spotB (s : Spot) : Bool := decide s.okP
theorem spotB_false {s : Spot} (h : ¬ s.okP) : spotB s = false := decide_eq_false h
theorem spotB_true {s : Spot} (h : s.okP) : spotB s = true := decide_eq_true h
theorem ret_b {a b : Bool} (h : a = b) : Ending.returned (.bool a) = .returned (.bool b) := by rw [h]
set_option maxHeartbeats 4000000 in
set_option maxRecDepth 100000 in
theorem right_any (s : Spot) (w : World) : Calls Tryz.prog 157 #[.agg s.cells.toArray] w fun e w' => e = .returned (.bool (spotB s)) ∧ w' = w.alloc (.cells s.cells.toArray 55) := by
  obtain ⟨mo, k, wd, d, t, r⟩ := s
  obtain ⟨q, hq⟩ : ∃ q, spotB ⟨mo, k, wd, d, t, r⟩ = q := ⟨_, rfl⟩
  rw [hq]
  have HQ := Lib.hid hq
  simp only [Spot.cells]
  clear hq
  go_enter Tryz.func157, Tryz.ntmps157
  by_cases hb : 1 ≤ mo ∧ mo ≤ 12 ∧ 0 ≤ k ∧ k ≤ 3 ∧ -604799 ≤ t ∧ t ≤ 604799 ∧ 0 ≤ r ∧ r ≤ 2
  · obtain ⟨h1, h2, h3, h4, h5, h6, h7, h8⟩ := hb
    have hk : k = 0 ∨ k = 1 ∨ k = 2 ∨ k = 3 := by omega
    rcases hk with rfl | rfl | rfl | rfl
    all_goals
      go_wp2
      all_goals
        go_ret
        refine ⟨ret_b (a := _) ?_, rfl⟩
        rw [← HQ.out, Bool.eq_iff_iff]
        simp [spotB, Spot.okP] <;> omega
  · have hs : q = false := HQ.out ▸ spotB_false (fun h => hb ⟨h.1, h.2.1, h.2.2.1, h.2.2.2.1, h.2.2.2.2.1, h.2.2.2.2.2.1, h.2.2.2.2.2.2.1, h.2.2.2.2.2.2.2.1⟩)
    subst hs
    clear HQ
    have hz : mo < 1 ∨ (1 ≤ mo ∧ 12 < mo) ∨ ((1 ≤ mo ∧ mo ≤ 12) ∧ k < 0) ∨ ((1 ≤ mo ∧ mo ≤ 12) ∧ 0 ≤ k ∧ 3 < k) ∨ ((1 ≤ mo ∧ mo ≤ 12) ∧ (0 ≤ k ∧ k ≤ 3) ∧ t < -604799) ∨ ((1 ≤ mo ∧ mo ≤ 12) ∧ (0 ≤ k ∧ k ≤ 3) ∧ -604799 ≤ t ∧ 604799 < t) ∨
        ((1 ≤ mo ∧ mo ≤ 12) ∧ (0 ≤ k ∧ k ≤ 3) ∧ (-604799 ≤ t ∧ t ≤ 604799) ∧ r < 0) ∨ ((1 ≤ mo ∧ mo ≤ 12) ∧ (0 ≤ k ∧ k ≤ 3) ∧ (-604799 ≤ t ∧ t ≤ 604799) ∧ 0 ≤ r ∧ 2 < r) := by omega
    clear hb
    rcases hz with h1 | ⟨h1, h2⟩ | ⟨⟨h1, h2⟩, h3⟩ | ⟨⟨h1, h2⟩, h3, h4⟩ | ⟨⟨h1, h2⟩, ⟨h3, h4⟩, h5⟩ | ⟨⟨h1, h2⟩, ⟨h3, h4⟩, h5, h6⟩ | ⟨⟨h1, h2⟩, ⟨h3, h4⟩, ⟨h5, h6⟩, h7⟩ | ⟨⟨h1, h2⟩, ⟨h3, h4⟩, ⟨h5, h6⟩, h7, h8⟩
    all_goals
      go_wp2
      go_ret
      exact ⟨rfl, rfl⟩
end Go.Proofs.YtdicedpklpadgaaGreatDoor.Mom
namespace Go.Proofs.YtdicedpklpadgaaGreatDoor.Mom
open Go.RowKit Mem Civ

theorem back_any (n wd : Int) (w : World) (hn : -1000000000000 ≤ n ∧ n ≤ 1000000000000) (hwd : 0 ≤ wd ∧ wd ≤ 7) :
    Calls Tryz.prog 200 #[.int .i64 n, .int .i64 wd] w fun e w' => e = .returned (.int .i64 ((n + 4 - wd) % 7)) ∧ w = w' := by
  have hf := fl_7 (n + 3 - wd + 1) (by omega)
  obtain ⟨h1, h2, ⟨h6, h7⟩, _⟩ := hf
  obtain ⟨hn1, hn2⟩ := hn
  obtain ⟨hd1, hd2⟩ := hwd
  rw [show n + 4 - wd = n + 3 - wd + 1 by omega]
  rcases Int.lt_or_le ((n + 3 - wd + 1).tmod 7) 0 with h3 | h3
  · obtain ⟨_, e2⟩ := h2 h3
    have E2 := Lib.hid e2
    clear h1 h2 e2
    go_enter Tryz.func200, Tryz.ntmps200
    go_wp2
    go_ret
    exact ⟨by rw [← E2.out]; rfl, rfl⟩
  · obtain ⟨_, e2⟩ := h1 h3
    have E2 := Lib.hid e2
    clear h1 h2 e2
    go_enter Tryz.func200, Tryz.ntmps200
    go_wp2
    go_ret
    exact ⟨by rw [← E2.out]; rfl, rfl⟩
def backI (n wd : Int) : Int := (n + 4 - wd) % 7
theorem backI_bd (n wd : Int) : 0 ≤ backI n wd ∧ backI n wd ≤ 6 := by unfold backI; omega
/-- The day of a spot in a month that begins at f and has l days. -/
def spotDay (s : Spot) (f l : Int) : Int :=
  if s.kind = 0 then f + s.day - 1 else if s.kind = 1 then f + l - 1 - backI (f + l - 1) s.weekday
  else if s.kind = 2 then f + s.day + 5 - backI (f + s.day + 5) s.weekday else f + s.day - 1 - backI (f + s.day - 1) s.weekday
section
variable (s : Spot) (f l : Int) (w : World) (hf : -1000000000 ≤ f ∧ f ≤ 1000000000) (hl : 0 ≤ l ∧ l ≤ 31) (hd : 0 ≤ s.day ∧ s.day ≤ 31) (hw : 0 ≤ s.weekday ∧ s.weekday ≤ 7)
include hf hl hd hw
theorem mday_any (hk : s.kind = 0) : Calls Tryz.prog 189 #[.agg #[.int .i64 f, .int .i64 l], .agg s.cells.toArray] w fun e w' => e = .returned (.int .i64 (spotDay s f l)) ∧ Below w.heap.size w w' := by
  rw [spotDay, if_pos hk]
  obtain ⟨mo, k, wd, d, t, r⟩ := s
  simp only [Spot.cells] at *
  have hb2 := box2 w 197 55 #[.int .i64 f, .int .i64 l] #[.int .i64 mo, .int .i64 k, .int .i64 wd, .int .i64 d, .int .i64 t, .int .i64 r]
  obtain ⟨W, hW⟩ : ∃ W, (w.alloc (.cells #[.int .i64 f, .int .i64 l] 197)).alloc (.cells #[.int .i64 mo, .int .i64 k, .int .i64 wd, .int .i64 d, .int .i64 t, .int .i64 r] 55) = W := ⟨_, rfl⟩
  rw [hW] at hb2
  obtain ⟨b1, b2, hb, hz⟩ := hb2
  have c1 := fun i => b1.cell i
  have c2 := fun i => b2.cell i
  have HB := Lib.hid hb
  obtain ⟨hf1, hf2⟩ := hf
  obtain ⟨hl1, hl2⟩ := hl
  obtain ⟨hd1, hd2⟩ := hd
  clear b1 b2 hb hk
  go_enter Tryz.func189, Tryz.ntmps189
  go_wp2
  go_ret
  exact ⟨rfl, HB.out⟩
theorem mlast_any (hk : s.kind = 1) : Calls Tryz.prog 190 #[.agg #[.int .i64 f, .int .i64 l], .agg s.cells.toArray] w fun e w' => e = .returned (.int .i64 (spotDay s f l)) ∧ Below w.heap.size w w' := by
  rw [spotDay, if_neg (by omega), if_pos hk]
  obtain ⟨mo, k, wd, d, t, r⟩ := s
  simp only [Spot.cells] at *
  have hb2 := box2 w 197 55 #[.int .i64 f, .int .i64 l] #[.int .i64 mo, .int .i64 k, .int .i64 wd, .int .i64 d, .int .i64 t, .int .i64 r]
  obtain ⟨W, hW⟩ : ∃ W, (w.alloc (.cells #[.int .i64 f, .int .i64 l] 197)).alloc (.cells #[.int .i64 mo, .int .i64 k, .int .i64 wd, .int .i64 d, .int .i64 t, .int .i64 r] 55) = W := ⟨_, rfl⟩
  rw [hW] at hb2
  obtain ⟨b1, b2, hb, hz⟩ := hb2
  have c1 := fun i => b1.cell i
  have c2 := fun i => b2.cell i
  have HB := Lib.hid hb
  obtain ⟨hf1, hf2⟩ := hf
  obtain ⟨hl1, hl2⟩ := hl
  obtain ⟨hd1, hd2⟩ := hd
  have Hk := Lib.hid (fun w1 => back_any (f + l - 1) wd w1 (by omega) hw)
  have hbd := backI_bd (f + l - 1) wd
  unfold backI at hbd ⊢
  generalize (f + l - 1 + 4 - wd) % 7 = bk at *
  clear b1 b2 hb hk hw
  go_enter Tryz.func190, Tryz.ntmps190
  go_wp2_with (go_at_call 200; refine (Hk.out _).mono ?_; rintro e w1 ⟨rfl, rfl⟩)
  go_ret
  exact ⟨rfl, HB.out⟩
theorem mafter_any (hk : s.kind = 2) : Calls Tryz.prog 191 #[.agg #[.int .i64 f, .int .i64 l], .agg s.cells.toArray] w fun e w' => e = .returned (.int .i64 (spotDay s f l)) ∧ Below w.heap.size w w' := by
  rw [spotDay, if_neg (by omega), if_neg (by omega), if_pos hk]
  obtain ⟨mo, k, wd, d, t, r⟩ := s
  simp only [Spot.cells] at *
  have hb2 := box2 w 197 55 #[.int .i64 f, .int .i64 l] #[.int .i64 mo, .int .i64 k, .int .i64 wd, .int .i64 d, .int .i64 t, .int .i64 r]
  obtain ⟨W, hW⟩ : ∃ W, (w.alloc (.cells #[.int .i64 f, .int .i64 l] 197)).alloc (.cells #[.int .i64 mo, .int .i64 k, .int .i64 wd, .int .i64 d, .int .i64 t, .int .i64 r] 55) = W := ⟨_, rfl⟩
  rw [hW] at hb2
  obtain ⟨b1, b2, hb, hz⟩ := hb2
  have c1 := fun i => b1.cell i
  have c2 := fun i => b2.cell i
  have HB := Lib.hid hb
  obtain ⟨hf1, hf2⟩ := hf
  obtain ⟨hl1, hl2⟩ := hl
  obtain ⟨hd1, hd2⟩ := hd
  have Hk := Lib.hid (fun w1 => back_any (f + d + 5) wd w1 (by omega) hw)
  have hbd := backI_bd (f + d + 5) wd
  unfold backI at hbd ⊢
  generalize (f + d + 5 + 4 - wd) % 7 = bk at *
  clear b1 b2 hb hk hw
  go_enter Tryz.func191, Tryz.ntmps191
  go_wp2_with (go_at_call 200; refine (Hk.out _).mono ?_; rintro e w1 ⟨rfl, rfl⟩)
  go_ret
  exact ⟨rfl, HB.out⟩
theorem mahead_any (hk : s.kind = 3) : Calls Tryz.prog 192 #[.agg #[.int .i64 f, .int .i64 l], .agg s.cells.toArray] w fun e w' => e = .returned (.int .i64 (spotDay s f l)) ∧ Below w.heap.size w w' := by
  rw [spotDay, if_neg (by omega), if_neg (by omega), if_neg (by omega)]
  obtain ⟨mo, k, wd, d, t, r⟩ := s
  simp only [Spot.cells] at *
  have hb2 := box2 w 197 55 #[.int .i64 f, .int .i64 l] #[.int .i64 mo, .int .i64 k, .int .i64 wd, .int .i64 d, .int .i64 t, .int .i64 r]
  obtain ⟨W, hW⟩ : ∃ W, (w.alloc (.cells #[.int .i64 f, .int .i64 l] 197)).alloc (.cells #[.int .i64 mo, .int .i64 k, .int .i64 wd, .int .i64 d, .int .i64 t, .int .i64 r] 55) = W := ⟨_, rfl⟩
  rw [hW] at hb2
  obtain ⟨b1, b2, hb, hz⟩ := hb2
  have c1 := fun i => b1.cell i
  have c2 := fun i => b2.cell i
  have HB := Lib.hid hb
  obtain ⟨hf1, hf2⟩ := hf
  obtain ⟨hl1, hl2⟩ := hl
  obtain ⟨hd1, hd2⟩ := hd
  have Hk := Lib.hid (fun w1 => back_any (f + d - 1) wd w1 (by omega) hw)
  have hbd := backI_bd (f + d - 1) wd
  unfold backI at hbd ⊢
  generalize (f + d - 1 + 4 - wd) % 7 = bk at *
  clear b1 b2 hb hk hw
  go_enter Tryz.func192, Tryz.ntmps192
  go_wp2_with (go_at_call 200; refine (Hk.out _).mono ?_; rintro e w1 ⟨rfl, rfl⟩)
  go_ret
  exact ⟨rfl, HB.out⟩
end
end Go.Proofs.YtdicedpklpadgaaGreatDoor.Mom
namespace Go.Proofs.YtdicedpklpadgaaGreatDoor.Mom
open Go.RowKit Mem Civ

theorem below_of_eq {w w' : World} {o : Obj} (h : w' = w.alloc o) : Below w.heap.size w w' := by subst h; exact (Below.refl _ _).alloc (Nat.le_refl _) _
/-- The day on which a spot falls. -/
def onO (s : Spot) (y : Int) : Option Int :=
  if spotB s = false ∨ y < 1 ∨ 300000 < y then none
  else (daysO y s.month 1).bind fun f => if 100000000 < spotDay s f (mlen y s.month) then none else some (spotDay s f (mlen y s.month))
theorem daysO_bd {y m d n : Int} (h : daysO y m d = some n) : -100000001 ≤ n ∧ n ≤ 100000000 := by
  unfold daysO at h
  split at h
  · cases h
  · split at h
    · cases h
    · injection h with h; omega
theorem spotB_ok {s : Spot} (h : spotB s = true) : s.okP := of_decide_eq_true h
theorem pick0 (w : World) : (Instr.index 198 (.agg #[Value.func (Fn.func 189) #[] #[], Value.func (Fn.func 190) #[] #[], Value.func (Fn.func 191) #[] #[], Value.func (Fn.func 192) #[] #[]]) (.int .i64 0)).run Tryz.prog w = .ok (Value.func (Fn.func 189) #[] #[]) w := by kernel_rfl
theorem pick1 (w : World) : (Instr.index 198 (.agg #[Value.func (Fn.func 189) #[] #[], Value.func (Fn.func 190) #[] #[], Value.func (Fn.func 191) #[] #[], Value.func (Fn.func 192) #[] #[]]) (.int .i64 1)).run Tryz.prog w = .ok (Value.func (Fn.func 190) #[] #[]) w := by kernel_rfl
theorem pick2 (w : World) : (Instr.index 198 (.agg #[Value.func (Fn.func 189) #[] #[], Value.func (Fn.func 190) #[] #[], Value.func (Fn.func 191) #[] #[], Value.func (Fn.func 192) #[] #[]]) (.int .i64 2)).run Tryz.prog w = .ok (Value.func (Fn.func 191) #[] #[]) w := by kernel_rfl
theorem pick3 (w : World) : (Instr.index 198 (.agg #[Value.func (Fn.func 189) #[] #[], Value.func (Fn.func 190) #[] #[], Value.func (Fn.func 191) #[] #[], Value.func (Fn.func 192) #[] #[]]) (.int .i64 3)).run Tryz.prog w = .ok (Value.func (Fn.func 192) #[] #[]) w := by kernel_rfl
set_option maxHeartbeats 4000000 in
set_option maxRecDepth 100000 in
theorem on_any (s : Spot) (y : Int) (w : World) : Calls Tryz.prog 170 #[.agg s.cells.toArray, .int .i64 y] w fun e w' => e = .returned (dayV (onO s y)) ∧ Below w.heap.size w w' := by
  obtain ⟨R, hR⟩ : ∃ R, onO s y = R := ⟨_, rfl⟩
  rw [hR]
  unfold onO at hR
  have HRt := Lib.hid (fun z => right_any s z)
  have hone := One.new w 55 s.cells.toArray
  obtain ⟨mo, k, wd, d, t, r⟩ := s
  simp only [Spot.cells] at hone HRt ⊢
  obtain ⟨W, hW⟩ : ∃ W, w.alloc (.cells #[.int .i64 mo, .int .i64 k, .int .i64 wd, .int .i64 d, .int .i64 t, .int .i64 r] 55) = W := ⟨_, rfl⟩
  rw [hW] at hone
  have HO := Lib.hid hone
  have c0 := fun i => hone.1.cell i
  clear hone
  go_enter Tryz.func170, Tryz.ntmps170
  obtain ⟨sb, hsb⟩ : ∃ sb, spotB ⟨mo, k, wd, d, t, r⟩ = sb := ⟨_, rfl⟩
  rw [hsb] at HRt hR
  cases sb
  · rw [if_pos (.inl rfl)] at hR
    subst hR
    clear hsb
    go_wp2_with (go_at_call 157; refine (HRt.out _).mono ?_; rintro e w1 ⟨rfl, hw⟩; have HB := Lib.hid (HO.out.step (below_of_eq hw)); clear hw)
    go_ret2
    exact ⟨rfl, HB.out.2⟩
  · by_cases hy : y < 1 ∨ 300000 < y
    · rw [if_pos (.inr hy)] at hR
      subst hR
      clear hsb
      rcases hy with hy | hy
      · go_wp2_with (go_at_call 157; refine (HRt.out _).mono ?_; rintro e w1 ⟨rfl, hw⟩; have HB := Lib.hid (HO.out.step (below_of_eq hw)); clear hw)
        go_ret2
        exact ⟨rfl, HB.out.2⟩
      · have hy1 : ¬ y < 1 := by omega
        go_wp2_with (go_at_call 157; refine (HRt.out _).mono ?_; rintro e w1 ⟨rfl, hw⟩; have HB := Lib.hid (HO.out.step (below_of_eq hw)); clear hw)
        go_ret2
        exact ⟨rfl, HB.out.2⟩
    · have hy1 : 1 ≤ y := by omega
      have hy2 : y ≤ 300000 := by omega
      rw [if_neg (by rintro (h | h | h); cases h; omega; omega)] at hR
      clear hy
      have Hd := Lib.hid (fun z => days_any y mo 1 z)
      cases hd : daysO y mo 1 with
      | none =>
        rw [hd, Option.bind_none] at hR
        subst hR
        rw [hd] at Hd
        simp only [dayV] at Hd
        clear hsb hd
        go_wp2_with (first
          | (go_at_call 157; refine (HRt.out _).mono ?_; rintro e w1 ⟨rfl, hw⟩; have hb := HO.out.step (below_of_eq hw); have c1 := fun i => hb.1.cell i; have HB := Lib.hid hb; clear hw hb)
          | (go_at_call 25; refine (Hd.out _).mono ?_; rintro e w2 ⟨rfl, hw⟩; have HB2 := Lib.hid (HB.out.step hw); clear hw))
        go_ret2
        exact ⟨rfl, HB2.out.2⟩
      | some f =>
        rw [hd, Option.bind_some] at hR
        rw [hd] at Hd
        simp only [dayV] at Hd
        have hfb := daysO_bd hd
        have hok := spotB_ok hsb
        have HR := Lib.hid hR
        clear hsb hd hR
        go_wp2_with (first
          | (go_at_call 157; refine (HRt.out _).mono ?_; rintro e w1 ⟨rfl, hw⟩; have hb := HO.out.step (below_of_eq hw); have c1 := fun i => hb.1.cell i; have HB := Lib.hid hb; clear hw hb)
          | (go_at_call 25; refine (Hd.out _).mono ?_; rintro e w2 ⟨rfl, hw⟩; have HB2 := Lib.hid (HB.out.step hw); clear hw))
        obtain ⟨hm1, hm2, hk1, hk2, _, _, _, _, ho1, ho2, ho3⟩ := hok
        simp only at hm1 hm2 hk1 hk2 ho1 ho2 ho3
        obtain ⟨Cls, hCls⟩ : ∃ C : World → Prop, C = One w w.heap.size 55 #[.int .i64 mo, .int .i64 k, .int .i64 wd, .int .i64 d, .int .i64 t, .int .i64 r] := ⟨_, rfl⟩
        have hC : ∀ z, Cls z → One w w.heap.size 55 #[.int .i64 mo, .int .i64 k, .int .i64 wd, .int .i64 d, .int .i64 t, .int .i64 r] z := fun z h => by rw [hCls] at h; exact h
        have hstart : Cls w2.drew := by rw [hCls]; exact HB2.out.drew
        have hnext : ∀ z z' : World, Cls z → Below z.heap.size z z' → Cls z' := fun z z' h hb => by rw [hCls] at h ⊢; exact h.step hb
        have inst : Nonempty (Qt.In Cls) := ⟨⟨_, hstart⟩⟩
        have z0 : ∀ z : Qt.In Cls, z.w.cell? ⟨w.heap.size, 0, none⟩ = some (.int .i64 mo) := fun z => (hC z.w z.h).1.cell 0
        have z1 : ∀ z : Qt.In Cls, z.w.cell? ⟨w.heap.size, 1, none⟩ = some (.int .i64 k) := fun z => (hC z.w z.h).1.cell 1
        have z2 : ∀ z : Qt.In Cls, z.w.cell? ⟨w.heap.size, 2, none⟩ = some (.int .i64 wd) := fun z => (hC z.w z.h).1.cell 2
        have z3 : ∀ z : Qt.In Cls, z.w.cell? ⟨w.heap.size, 3, none⟩ = some (.int .i64 d) := fun z => (hC z.w z.h).1.cell 3
        have z4 : ∀ z : Qt.In Cls, z.w.cell? ⟨w.heap.size, 4, none⟩ = some (.int .i64 t) := fun z => (hC z.w z.h).1.cell 4
        have z5 : ∀ z : Qt.In Cls, z.w.cell? ⟨w.heap.size, 5, none⟩ = some (.int .i64 r) := fun z => (hC z.w z.h).1.cell 5
        have hml := mlen_bd y mo
        have HM : Hid (∀ z, Cls z → Calls Tryz.prog 61 #[.int .i64 y, .int .i64 mo] z fun e z' => e = .returned (.int .i64 (mlen y mo)) ∧ Cls z') := fun z h => (monthLen_any y mo z).mono fun e z' ⟨he, hb⟩ => ⟨he, hnext z z' h hb⟩
        generalize mlen y mo = l at *
        have hday : k = 0 ∨ k = 1 ∨ k = 2 ∨ k = 3 := by omega
        have HC := Lib.hid hC
        have HS := Lib.hid hstart
        rcases hday with rfl | rfl | rfl | rfl
        · obtain ⟨hd0, hd1, hd2⟩ := ho1 rfl
          have HD : Hid (∀ z, Cls z → Calls Tryz.prog 189 #[.agg #[.int .i64 f, .int .i64 l], .agg #[.int .i64 mo, .int .i64 0, .int .i64 wd, .int .i64 d, .int .i64 t, .int .i64 r]] z fun e z' => e = .returned (.int .i64 (spotDay ⟨mo, 0, wd, d, t, r⟩ f l)) ∧ Cls z') := fun z h => (mday_any ⟨mo, 0, wd, d, t, r⟩ f l z (by omega) hml (by show 0 ≤ d ∧ d ≤ 31; omega) (by show 0 ≤ wd ∧ wd ≤ 7; omega) rfl).mono fun e z' ⟨he, hb⟩ => ⟨he, hnext z z' h hb⟩
          have hpk := pick0
          clear hd0
          clear hC hstart hnext hCls ho1 ho2 ho3
          generalize spotDay ⟨mo, 0, wd, d, t, r⟩ f l = n at *
          refine Qt.wp_region_cls Cls (by kernel_rfl) (by kernel_rfl) HS.out ?_
          repeat (go_big_quiet_step (first | (go_at_call 61; exact Qt.quiet_cls (HM.out _ (Qt.In.h _))) | (go_at_call 189; exact Qt.quiet_cls (HD.out _ (Qt.In.h _)))))
          refine wpQuiet_nil ?_
          rintro wq ⟨⟨w9, hq⟩, e9⟩
          have HQ := Lib.hid (HC.out wq (by rw [e9]; exact hq))
          clear hq e9 hpk
          by_cases hn : 100000000 < n
          · have hR := HR.out
            rw [if_pos hn] at hR
            subst hR
            clear HR
            go_wp2
            go_ret2
            exact ⟨rfl, HQ.out.2⟩
          · have hR := HR.out
            rw [if_neg hn] at hR
            subst hR
            clear HR
            go_wp2
            go_ret2
            exact ⟨rfl, HQ.out.2⟩
        · obtain ⟨hd0, hd1, hd2⟩ := ho2 rfl
          have HD : Hid (∀ z, Cls z → Calls Tryz.prog 190 #[.agg #[.int .i64 f, .int .i64 l], .agg #[.int .i64 mo, .int .i64 1, .int .i64 wd, .int .i64 d, .int .i64 t, .int .i64 r]] z fun e z' => e = .returned (.int .i64 (spotDay ⟨mo, 1, wd, d, t, r⟩ f l)) ∧ Cls z') := fun z h => (mlast_any ⟨mo, 1, wd, d, t, r⟩ f l z (by omega) hml (by show 0 ≤ d ∧ d ≤ 31; omega) (by show 0 ≤ wd ∧ wd ≤ 7; omega) rfl).mono fun e z' ⟨he, hb⟩ => ⟨he, hnext z z' h hb⟩
          have hpk := pick1
          clear hd2
          clear hC hstart hnext hCls ho1 ho2 ho3
          generalize spotDay ⟨mo, 1, wd, d, t, r⟩ f l = n at *
          refine Qt.wp_region_cls Cls (by kernel_rfl) (by kernel_rfl) HS.out ?_
          repeat (go_big_quiet_step (first | (go_at_call 61; exact Qt.quiet_cls (HM.out _ (Qt.In.h _))) | (go_at_call 190; exact Qt.quiet_cls (HD.out _ (Qt.In.h _)))))
          refine wpQuiet_nil ?_
          rintro wq ⟨⟨w9, hq⟩, e9⟩
          have HQ := Lib.hid (HC.out wq (by rw [e9]; exact hq))
          clear hq e9 hpk
          by_cases hn : 100000000 < n
          · have hR := HR.out
            rw [if_pos hn] at hR
            subst hR
            clear HR
            go_wp2
            go_ret2
            exact ⟨rfl, HQ.out.2⟩
          · have hR := HR.out
            rw [if_neg hn] at hR
            subst hR
            clear HR
            go_wp2
            go_ret2
            exact ⟨rfl, HQ.out.2⟩
        · obtain ⟨hd0, hd1, hd2, hd3⟩ := ho3 (by omega)
          have HD : Hid (∀ z, Cls z → Calls Tryz.prog 191 #[.agg #[.int .i64 f, .int .i64 l], .agg #[.int .i64 mo, .int .i64 2, .int .i64 wd, .int .i64 d, .int .i64 t, .int .i64 r]] z fun e z' => e = .returned (.int .i64 (spotDay ⟨mo, 2, wd, d, t, r⟩ f l)) ∧ Cls z') := fun z h => (mafter_any ⟨mo, 2, wd, d, t, r⟩ f l z (by omega) hml (by show 0 ≤ d ∧ d ≤ 31; omega) (by show 0 ≤ wd ∧ wd ≤ 7; omega) rfl).mono fun e z' ⟨he, hb⟩ => ⟨he, hnext z z' h hb⟩
          have hpk := pick2
          clear hC hstart hnext hCls ho1 ho2 ho3
          generalize spotDay ⟨mo, 2, wd, d, t, r⟩ f l = n at *
          refine Qt.wp_region_cls Cls (by kernel_rfl) (by kernel_rfl) HS.out ?_
          repeat (go_big_quiet_step (first | (go_at_call 61; exact Qt.quiet_cls (HM.out _ (Qt.In.h _))) | (go_at_call 191; exact Qt.quiet_cls (HD.out _ (Qt.In.h _)))))
          refine wpQuiet_nil ?_
          rintro wq ⟨⟨w9, hq⟩, e9⟩
          have HQ := Lib.hid (HC.out wq (by rw [e9]; exact hq))
          clear hq e9 hpk
          by_cases hn : 100000000 < n
          · have hR := HR.out
            rw [if_pos hn] at hR
            subst hR
            clear HR
            go_wp2
            go_ret2
            exact ⟨rfl, HQ.out.2⟩
          · have hR := HR.out
            rw [if_neg hn] at hR
            subst hR
            clear HR
            go_wp2
            go_ret2
            exact ⟨rfl, HQ.out.2⟩
        · obtain ⟨hd0, hd1, hd2, hd3⟩ := ho3 (by omega)
          have HD : Hid (∀ z, Cls z → Calls Tryz.prog 192 #[.agg #[.int .i64 f, .int .i64 l], .agg #[.int .i64 mo, .int .i64 3, .int .i64 wd, .int .i64 d, .int .i64 t, .int .i64 r]] z fun e z' => e = .returned (.int .i64 (spotDay ⟨mo, 3, wd, d, t, r⟩ f l)) ∧ Cls z') := fun z h => (mahead_any ⟨mo, 3, wd, d, t, r⟩ f l z (by omega) hml (by show 0 ≤ d ∧ d ≤ 31; omega) (by show 0 ≤ wd ∧ wd ≤ 7; omega) rfl).mono fun e z' ⟨he, hb⟩ => ⟨he, hnext z z' h hb⟩
          have hpk := pick3
          clear hC hstart hnext hCls ho1 ho2 ho3
          generalize spotDay ⟨mo, 3, wd, d, t, r⟩ f l = n at *
          refine Qt.wp_region_cls Cls (by kernel_rfl) (by kernel_rfl) HS.out ?_
          repeat (go_big_quiet_step (first | (go_at_call 61; exact Qt.quiet_cls (HM.out _ (Qt.In.h _))) | (go_at_call 192; exact Qt.quiet_cls (HD.out _ (Qt.In.h _)))))
          refine wpQuiet_nil ?_
          rintro wq ⟨⟨w9, hq⟩, e9⟩
          have HQ := Lib.hid (HC.out wq (by rw [e9]; exact hq))
          clear hq e9 hpk
          by_cases hn : 100000000 < n
          · have hR := HR.out
            rw [if_pos hn] at hR
            subst hR
            clear HR
            go_wp2
            go_ret2
            exact ⟨rfl, HQ.out.2⟩
          · have hR := HR.out
            rw [if_neg hn] at hR
            subst hR
            clear HR
            go_wp2
            go_ret2
            exact ⟨rfl, HQ.out.2⟩
/-- The moment at which a spot falls. -/
def localO (s : Spot) (y : Int) : Option Int := (onO s y).map fun n => n * 86400 + s.time
theorem onO_bd {s : Spot} {y n : Int} (h : onO s y = some n) : (-100001000 ≤ n ∧ n ≤ 100000000) ∧ s.okP ∧ 1 ≤ y ∧ y ≤ 300000 := by
  unfold onO at h
  split at h
  · cases h
  · rename_i hc
    cases hd : daysO y s.month 1 with
    | none => rw [hd] at h; cases h
    | some f =>
      rw [hd, Option.bind_some] at h
      have hs : spotB s = true := by
        cases hb : spotB s
        · exact absurd (.inl hb) hc
        · rfl
      have hok := spotB_ok hs
      have hb := daysO_bd hd
      have hm := mlen_bd y s.month
      split at h
      · cases h
      · injection h with h
        refine ⟨⟨?_, by omega⟩, hok, by omega, by omega⟩
        obtain ⟨_, _, _, _, _, _, _, _, ho1, ho2, ho3⟩ := hok
        have b1 := backI_bd (f + mlen y s.month - 1) s.weekday
        have b2 := backI_bd (f + s.day + 5) s.weekday
        have b3 := backI_bd (f + s.day - 1) s.weekday
        rw [← h]
        unfold spotDay
        split
        · have := ho1 (by omega); omega
        · split
          · have := ho2 (by omega); omega
          · split
            · have := ho3 (by omega); omega
            · have := ho3 (by omega); omega
set_option maxRecDepth 100000 in
theorem local_any (s : Spot) (y : Int) (w : World) : Calls Tryz.prog 115 #[.agg s.cells.toArray, .int .i64 y] w fun e w' => e = .returned (dayV (localO s y)) ∧ Below w.heap.size w w' := by
  have HOn := Lib.hid (fun z => on_any s y z)
  have hone := One.new w 55 s.cells.toArray
  unfold localO
  cases ho : onO s y with
  | none =>
    rw [ho] at HOn
    simp only [dayV, Option.map_none] at HOn ⊢
    obtain ⟨mo, k, wd, d, t, r⟩ := s
    simp only [Spot.cells] at hone HOn ⊢
    obtain ⟨W, hW⟩ : ∃ W, w.alloc (.cells #[.int .i64 mo, .int .i64 k, .int .i64 wd, .int .i64 d, .int .i64 t, .int .i64 r] 55) = W := ⟨_, rfl⟩
    rw [hW] at hone
    have HO := Lib.hid hone
    have c0 := fun i => hone.1.cell i
    clear hone ho
    go_enter Tryz.func115, Tryz.ntmps115
    go_wp2_with (go_at_call 170; refine (HOn.out _).mono ?_; rintro e w1 ⟨rfl, hb⟩; have HB := Lib.hid (HO.out.step hb); clear hb)
    go_ret2
    exact ⟨rfl, HB.out.2⟩
  | some n =>
    rw [ho] at HOn
    obtain ⟨⟨hn1, hn2⟩, hok, _⟩ := onO_bd ho
    simp only [dayV, Option.map_some] at HOn ⊢
    obtain ⟨mo, k, wd, d, t, r⟩ := s
    obtain ⟨_, _, _, _, ht1, ht2, _⟩ := hok
    simp only [Spot.cells] at hone HOn ht1 ht2 ⊢
    obtain ⟨W, hW⟩ : ∃ W, w.alloc (.cells #[.int .i64 mo, .int .i64 k, .int .i64 wd, .int .i64 d, .int .i64 t, .int .i64 r] 55) = W := ⟨_, rfl⟩
    rw [hW] at hone
    have HO := Lib.hid hone
    have c0 := fun i => hone.1.cell i
    clear hone ho
    go_enter Tryz.func115, Tryz.ntmps115
    go_wp2_with (go_at_call 170; refine (HOn.out _).mono ?_; rintro e w1 ⟨rfl, hb⟩; have hb2 := HO.out.step hb; have c1 := fun i => hb2.1.cell i; have HB := Lib.hid hb2; clear hb hb2)
    go_ret2
    exact ⟨rfl, HB.out.2⟩
end Go.Proofs.YtdicedpklpadgaaGreatDoor.Mom
