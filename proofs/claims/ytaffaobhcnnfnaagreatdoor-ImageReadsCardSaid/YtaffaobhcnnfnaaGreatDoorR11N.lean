/-
  Whether two turns lie near, by the document (analemmaref11.Near): the contract. Conditions: what the slice holds is read, its length is bounded; the rules are right.
-/
import Derived.Test.YtaffaobhcnnfnaaGreatDoorR11U
namespace Go.Proofs.YtaffaobhcnnfnaaGreatDoor.R11
open Go.RowKit Mem Civ Mom Img Rul

def firstR (rs : List Rule) : Int := rs.foldl (fun m r => if r.lo < m then r.lo else m) 10000
def hiStep (m : Int) (r : Rule) : Int := if r.hi ≠ 1000000 ∧ (if m < r.lo then r.lo else m) < r.hi then r.hi else (if m < r.lo then r.lo else m)
def hiR (rs : List Rule) : Int := rs.foldl hiStep 0
def yearR (rs : List Rule) (y : Int) : List Turn := sortT (rs.filterMap (turnL y))
def nearYearsR (rs : List Rule) : Nat → Int → List Turn → Bool
  | 0, _, _ => false
  | n + 1, y, had => nearUpto (had ++ yearR rs y) [] (had ++ yearR rs y).length || nearYearsR rs n (y + 1) (yearR rs y)
/-- The document's word. -/
def nearR (rs : List Rule) : Bool := nearYearsR rs (hiR rs + 402 - firstR rs + 1).toNat (firstR rs) []
theorem firstR_succ (rs : List Rule) (k : Nat) (hk : k < rs.length) : firstR (rs.take (k + 1)) = if rs[k].lo < firstR (rs.take k) then rs[k].lo else firstR (rs.take k) := by
  rw [List.take_succ_eq_append_getElem hk, firstR, firstR, List.foldl_append]; rfl
theorem hiR_succ (rs : List Rule) (k : Nat) (hk : k < rs.length) : hiR (rs.take (k + 1)) = hiStep (hiR (rs.take k)) rs[k] := by
  rw [List.take_succ_eq_append_getElem hk, hiR, hiR, List.foldl_append]; rfl
theorem rule_years {r : Rule} (h : Rul.ruleB r = true) : 1 ≤ r.lo ∧ r.lo ≤ 9999 ∧ (1 ≤ r.hi ∧ r.hi ≤ 9999 ∨ r.hi = 1000000) := ruleB_bd h
theorem years_in (rs : List Rule) (h : rulesB rs = true) (k : Nat) : (1 ≤ firstR (rs.take k) ∧ firstR (rs.take k) ≤ 10000) ∧ (0 ≤ hiR (rs.take k) ∧ hiR (rs.take k) ≤ 9999) := by
  induction k with
  | zero => exact ⟨⟨by show (1 : Int) ≤ 10000; decide, by show (10000 : Int) ≤ 10000; decide⟩, by show (0 : Int) ≤ 0; decide, by show (0 : Int) ≤ 9999; decide⟩
  | succ k ih =>
    by_cases hk : k < rs.length
    · have hr := rule_years (List.all_eq_true.1 h rs[k] (List.getElem_mem hk))
      rw [firstR_succ rs k hk, hiR_succ rs k hk]
      unfold hiStep
      refine ⟨?_, ?_⟩
      · split <;> omega
      · split <;> split <;> omega
    · rw [List.take_of_length_le (by omega)] at ih ⊢
      exact ih
theorem yearR_bd {rs : List Rule} {y : Int} : bdT (yearR rs y) := fun t ht => by
  obtain ⟨r, _, hr⟩ := List.mem_filterMap.1 (mem_sortT ht)
  unfold turnL at hr
  split at hr
  · next h =>
    obtain rfl := Option.some.inj hr
    exact turnO_bd h
  · cases hr
theorem yearR_le (rs : List Rule) (y : Int) : (yearR rs y).length ≤ rs.length := by
  unfold yearR
  rw [sortT_length]
  exact List.length_filterMap_le _ _
theorem own_empty (w : World) : (w.alloc (.cells #[] 115)).ownsRow w.heap.size 115 4 (.slice (some ⟨w.heap.size, 0, none⟩) 0 0) 0 [] :=
  ⟨rfl, .inr ⟨w.heap.size, 0, #[], rfl, Nat.le_refl _, Blk.new w 115 #[], Nat.le_refl _, Nat.zero_le _, rfl, rfl⟩⟩
set_option maxHeartbeats 4000000 in
set_option maxRecDepth 100000 in
theorem near_any (rs : List Rule) (A : Option Addr) (c : Nat) (w : World) (h : Reads w w.heap.size 11 A rs.length (rs.flatMap Rule.cells)) (hn : rs.length ≤ 1000) (hr : rulesB rs = true) :
    Calls Tryz.prog 54 #[.slice A rs.length c] w fun e w' => e = .returned (.bool (nearR rs)) ∧ Below w.heap.size w w' := by
  have H := Lib.hid h
  clear h
  obtain ⟨i0, hi0, hz0, hz1, hz2⟩ := info_parts info_turn
  have HYr := Lib.hid (years_in rs hr)
  obtain ⟨Q, hQ⟩ : ∃ Q, nearR rs = Q := ⟨_, rfl⟩
  rw [hQ]
  have HQ := Lib.hid hQ
  clear hQ hr
  go_enter Tryz.func54, Tryz.ntmps54
  go_wp2_with fail
  go_loopw [3, 4, 5] (fun l g i wr => ∃ k : Nat, k ≤ rs.length ∧ i = .int .i64 k ∧ l = .int .i64 (firstR (rs.take k)) ∧ g = .int .i64 (hiR (rs.take k)) ∧ wr = w) (fun _ _ i _ => rs.length - (intOf i).toNat)
  case atStart => exact ⟨0, Nat.zero_le _, rfl, rfl, rfl, rfl⟩
  case round =>
    obtain ⟨k, hk, rfl, rfl, rfl, hw⟩ := hrel
    have hw' := hw.symm
    subst hw'
    clear hw
    by_cases hkn : k < rs.length
    · obtain ⟨ad, hA, hadb, a0, a1, a2, a3, a4, a5, a6, a7, a8, a9, a10⟩ := rule_cells H.out hkn
      subst hA
      have hf := firstR_succ rs k hkn
      have hg := hiR_succ rs k hkn
      unfold hiStep at hg
      have HF := Lib.hid (And.intro hf hg)
      clear hf hg
      generalize firstR (rs.take k) = f0 at *
      generalize hiR (rs.take k) = g0 at *
      generalize rs[k] = x at *
      obtain ⟨x0, x1, x2, x3, x4, x5, x6, x7, x8, x9, x10⟩ := x
      simp only at a0 a1 a2 a3 a4 a5 a6 a7 a8 a9 a10 HF
      by_cases h1 : x1 < f0 <;> by_cases h2 : g0 < x1 <;> by_cases h3 : x2 = 1000000 <;> by_cases h4 : (if g0 < x1 then x1 else g0) < x2
      all_goals simp only [h2, if_true, if_false] at h4
      all_goals have h3b : (x2 == 1000000) = decide (x2 = 1000000) := by rw [Bool.eq_iff_iff]; simp
      all_goals have h3n : (x2 != 1000000) = !(x2 == 1000000) := rfl
      all_goals rw [h3b] at h3n
      all_goals simp only [h3, decide_true, decide_false, Bool.not_true, Bool.not_false] at h3b h3n
      all_goals clear HYr
      all_goals go_wp2
      all_goals refine ⟨⟨k + 1, by omega, by go_num, ?_, ?_, trivial⟩, by simp [intOf]; omega⟩
      all_goals first
        | (rw [HF.out.1]; simp [h1]; done)
        | (rw [HF.out.2]; simp [h2, h3, h4]; done)
        | (rw [HF.out.2]; simp_all; done)
    · obtain rfl : k = rs.length := by omega
      rw [List.take_length]
      have hy := HYr.out rs.length
      rw [List.take_length] at hy
      have hq := HQ.out
      unfold nearR at hq
      generalize firstR rs = F at *
      generalize hiR rs = G at *
      have HQ2 := Lib.hid hq
      have HY := Lib.hid hy
      have hw1 : wrap64 (G + 402) = G + 402 := by unfold wrap64; omega
      clear hq hy HQ HYr
      go_wp2_with fail
      go_loopw [6, 7] (fun v yv wr => ∃ (ahead : List Turn) (Y : Int), yv = .int .i64 Y ∧ F ≤ Y ∧ Y ≤ 10500 ∧ nearYearsR rs (G + 402 - Y + 1).toNat Y ahead = Q ∧ ahead.length ≤ rs.length ∧ bdT ahead ∧ wr.ownsRow w.heap.size 115 4 v ahead.length (ahead.flatMap Turn.cells) ∧ Below w.heap.size w wr) (fun _ yv _ => (G + 403 - intOf yv).toNat)
      case atStart => exact ⟨[], F, rfl, Int.le_refl _, by have := HY.out; omega, HQ2.out, Nat.zero_le _, fun t ht => absurd ht (List.not_mem_nil), World.ownsRow_nil _ _ _ _, Below.refl _ _⟩
      case round =>
        obtain ⟨had, Y, rfl, hY1, hY2, hny, hlen, hbd, hown, hb⟩ := hrel
        have HBd := Lib.hid hbd; have Hown := Lib.hid hown; have HB := Lib.hid hb; have HNy := Lib.hid hny
        clear hbd hown hb hny HQ2
        obtain ⟨A2, c2, hv⟩ := own_slice Hown.out
        subst hv
        by_cases hyg : Y ≤ G + 402
        · have hT := turns_any rs A c Y wr ((H.out.below HB.out).more HB.out.size) (by omega)
          have HT := Lib.hid hT
          have hst : nearUpto (had ++ yearR rs Y) [] (had ++ yearR rs Y).length = true ∨ (nearUpto (had ++ yearR rs Y) [] (had ++ yearR rs Y).length = false ∧ nearYearsR rs (G + 402 - (Y + 1) + 1).toNat (Y + 1) (yearR rs Y) = Q) := by
            have h1 := HNy.out
            rw [show (G + 402 - Y + 1).toNat = (G + 402 - (Y + 1) + 1).toNat + 1 by omega, nearYearsR] at h1
            cases hn : nearUpto (had ++ yearR rs Y) [] (had ++ yearR rs Y).length
            · rw [hn, Bool.false_or] at h1
              exact .inr ⟨rfl, h1⟩
            · exact .inl rfl
          have hq1 : nearUpto (had ++ yearR rs Y) [] (had ++ yearR rs Y).length = true → Q = true := fun h => by
            have h1 := HNy.out
            rw [show (G + 402 - Y + 1).toNat = (G + 402 - (Y + 1) + 1).toNat + 1 by omega, nearYearsR, h, Bool.true_or] at h1
            exact h1.symm
          have hnow := yearR_bd (rs := rs) (y := Y)
          have hnl := yearR_le rs Y
          have hsz : sortT (rs.filterMap (turnL Y)) = yearR rs Y := rfl
          rw [hsz] at HT
          generalize hyr : yearR rs Y = now at *
          have HSt := Lib.hid hst; have HQ1 := Lib.hid hq1; have HNow := Lib.hid hnow
          clear hst hq1 hnow hT hsz hyr HNy
          have hw2 : wrap64 (Y + 1) = Y + 1 := by have := HY.out; unfold wrap64; omega
          go_wp2_with (first
            | (go_at_call 83; refine HT.out.mono ?_; rintro e w1 ⟨A3, c3, rfl, ho1, hb1⟩; have HO1 := Lib.hid ho1; have hoa := Rul.own_below Hown.out hb1; have HB1 := Lib.hid (HB.out.trans (hb1.mono HB.out.size)); have HR1 := Lib.hid (((Reads.of_own hoa).alloc (Nat.le_refl _) (.cells #[] 115)).more (by simp) : Reads (w1.alloc (.cells #[] 115)) (w1.alloc (.cells #[] 115)).heap.size 4 A2 had.length (had.flatMap Turn.cells)); clear ho1 hb1 hoa)
            | (at_builtin; refine wpList_append_any (w1.alloc (.cells #[] 115)) rfl (.tmp 73) (.tmp 74) 141 rfl w1.heap.size 115 i0 _ 4 40 Tryz.underlying141 hi0 hz0 hz1 hz2 rfl (by decide) _ 0 [] rfl (own_empty w1) _ A2 had.length c2 _ rfl HR1.out all_one (by unfold maxLen; omega) (by omega) (by simp) ?_; intro v5 w5 ho5 hg5 _; have hb5 := ((Below.refl w1.heap.size w1).alloc (Nat.le_refl _) (.cells #[] 115)).grown hg5 (by simp) (fun j hj => ((own_empty w1).lt j hj).1); have HB5 := Lib.hid hb5; have HO5 := Lib.hid ho5; have HR5 := Lib.hid (((Reads.of_own HO1.out).below hb5).more hb5.size); clear ho5 hg5 hb5)
            | (at_builtin; refine wpList_append_any w5 rfl (.tmp 75) (.tmp 76) 141 rfl w1.heap.size 115 i0 _ 4 40 Tryz.underlying141 hi0 hz0 hz1 hz2 rfl (by decide) v5 _ _ rfl HO5.out _ A3 now.length c3 _ rfl HR5.out all_one (by unfold maxLen; omega) (by omega) HB5.out.size ?_; intro v6 w6 ho6 hg6 _; have hb6 := HB5.out.grown hg6 HB5.out.size (fun j hj => (HO5.out.lt j hj).1); have HB6 := Lib.hid hb6; have HO6 := Lib.hid ho6; obtain ⟨A6, c6, hv6⟩ := own_slice ho6; clear ho6 hg6 hb6))
          subst hv6
          have hL : w6.ownsRow w1.heap.size 115 4 (.slice A6 (had.length + now.length) c6) (had.length + now.length) ((had ++ now).flatMap Turn.cells) := by
            have h1 := HO6.out
            rw [Nat.zero_add] at h1
            simpa using h1
          have hrl := Reads.of_own hL
          have hLl : (had ++ now).length = had.length + now.length := List.length_append
          have hbL : bdT (had ++ now) := fun t ht => by
            rcases List.mem_append.1 ht with h1 | h1
            · exact HBd.out t h1
            · exact HNow.out t h1
          have hno : w6.ownsRow wr.heap.size 115 4 (.slice A3 now.length c3) now.length (now.flatMap Turn.cells) := Rul.own_below HO1.out HB6.out
          have hb6 : Below w.heap.size w w6 := HB1.out.trans (HB6.out.mono HB1.out.size)
          have hz6 := HB.out.size
          generalize had ++ now = L at *
          have HRl := Lib.hid hrl; have HLl := Lib.hid hLl; have HbL := Lib.hid hbL; have HNo := Lib.hid hno; have HB6' := Lib.hid hb6
          clear hL hrl hLl hbL hno hb6 HO6 HB5 HO5 HR5 HR1 HO1
          go_loopw [10] (fun i wr2 => ∃ (a n : Nat), a ≤ L.length ∧ i = .int .i64 a ∧ nearUpto L [] a = false ∧ wr2 = w6.drewN n) (fun i _ => L.length - (intOf i).toNat)
          case atStart => exact ⟨0, 0, Nat.zero_le _, rfl, rfl, rfl⟩
          case round =>
            obtain ⟨a, n, ha, rfl, hup, hw6⟩ := hrel
            have Hup := Lib.hid hup
            have HL2 := Lib.hid HLl.out
            clear hup
            subst hw6
            by_cases han : a < L.length
            · have hlt : (a : Int) < (had.length : Int) + (now.length : Int) := by have := HLl.out; omega
              have hux : nearUpto L [] (a + 1) = (L.take a).any (nearT L[a]) := by
                rw [nearUpto, Hup.out, List.getElem?_eq_getElem han, Bool.false_or, List.append_nil]
              obtain ⟨ad, hA6, hadb, d0, d1, d2, d3⟩ := turn_cells HRl.out han HLl.out
              have Hd0 := Lib.hid d0
              have Hba := Lib.hid (HbL.out L[a] (List.getElem_mem han))
              generalize hx : L[a] = x at *
              have Hux := Lib.hid hux; have Hx := Lib.hid hx
              clear hux hx d0 d1 d2 d3
              subst hA6
              obtain ⟨x0, x1, x2, x3⟩ := x
              go_wp2_with fail
              go_loopw [11] (fun i wr3 => ∃ (b n : Nat), b ≤ a ∧ i = .int .i64 b ∧ (L.take b).any (nearT ⟨x0, x1, x2, x3⟩) = false ∧ wr3 = w6.drewN n) (fun i _ => a - (intOf i).toNat)
              case atStart => exact ⟨0, n, Nat.zero_le _, rfl, rfl, rfl⟩
              case round =>
                obtain ⟨b, n, hb, rfl, hany, hw6⟩ := hrel
                have Hany := Lib.hid hany
                clear hany
                subst hw6
                by_cases hbn : b < a
                · have hbl : b < L.length := by omega
                  obtain ⟨ad', hA6, _, e0, e1, e2, e3⟩ := turn_cells HRl.out hbl HLl.out
                  obtain rfl : ad = ad' := by injection hA6
                  have hby := HbL.out L[b] (List.getElem_mem hbl)
                  have hsn : (L.take (b + 1)).any (nearT ⟨x0, x1, x2, x3⟩) = nearT ⟨x0, x1, x2, x3⟩ L[b] := by
                    rw [List.take_succ_eq_append_getElem hbl, List.any_append, Hany.out]; simp
                  have hyes : nearT ⟨x0, x1, x2, x3⟩ L[b] = true → (L.take a).any (nearT ⟨x0, x1, x2, x3⟩) = true := fun h => List.any_eq_true.2 ⟨L[b], by
                    rw [List.mem_iff_getElem]
                    exact ⟨b, by simp; omega, by simp⟩, h⟩
                  obtain ⟨Cls, hCls⟩ : ∃ C : World → Prop, C = fun z => ∃ n, z = w6.drewN n := ⟨_, rfl⟩
                  have hst : Cls (w6.drewN n).drew := by rw [hCls]; exact ⟨n + 1, rfl⟩
                  have hC : ∀ z, Cls z → ∃ n, z = w6.drewN n := fun z h => by rw [hCls] at h; exact h
                  have inst : Nonempty (Qt.In Cls) := ⟨⟨_, hst⟩⟩
                  have zA : ∀ z : Qt.In Cls, z.w.cell? (ad.add (a * 4)) = some (.int .i64 x0) := fun z => by
                    obtain ⟨n, e⟩ := hC z.w z.h
                    rw [e]
                    exact Hd0.out
                  have zB : ∀ z : Qt.In Cls, z.w.cell? (ad.add (b * 4)) = some (.int .i64 L[b].at_) := fun z => by
                    obtain ⟨n, e⟩ := hC z.w z.h
                    rw [e]
                    exact e0
                  have HC := Lib.hid hC
                  have HSn := Lib.hid hsn; have HYes := Lib.hid hyes
                  have hba := Hba.out
                  clear hC hCls hsn hyes e0 e1 e2 e3 hA6
                  generalize L[b] = y at *
                  obtain ⟨y0, y1, y2, y3⟩ := y
                  simp only [nearT] at HSn HYes zB hby
                  have hwr : wrap64 (x0 - y0) = x0 - y0 := by unfold wrap64; omega
                  have hla : (a : Int) < (had.length : Int) + (now.length : Int) := by have := HLl.out; omega
                  have hlb : (b : Int) < (had.length : Int) + (now.length : Int) := by have := HLl.out; omega
                  go_wp2
                  refine Qt.wp_region_cls Cls (by kernel_rfl) (by kernel_rfl) hst ?_
                  repeat (go_big_quiet_step (fail))
                  refine wpQuiet_nil ?_
                  rintro wq ⟨⟨w9, hq⟩, e9⟩
                  obtain ⟨nq, hnq⟩ := HC.out wq (by rw [e9]; exact hq)
                  clear hq e9 zA zB hwr hba hby
                  subst hnq
                  cases h1 : decide (x0 - y0 < 172800) <;> cases h2 : decide (-172800 < x0 - y0)
                  all_goals rw [h1, h2] at HSn HYes
                  rotate_right
                  · have hy := HYes.out rfl
                    have hq : Q = true := HQ1.out (nearUpto_true han (by rw [Hux.out]; exact hy))
                    subst hq
                    clear hy HYes HSn HQ1
                    go_wp2
                    go_ret
                    exact ⟨rfl, below_dr HB6'.out⟩
                  all_goals
                    have Hs : Hid ((L.take (b + 1)).any (nearT ⟨x0, x1, x2, x3⟩) = false) := HSn.out
                    clear HSn HYes
                    go_wp2
                    exact ⟨⟨b + 1, nq, by omega, by go_num, Hs.out, rfl⟩, by simp [intOf]; omega⟩
                · obtain rfl : b = a := by omega
                  have hn2 : nearUpto L [] (b + 1) = false := by rw [Hux.out]; exact Hany.out
                  have Hn2 := Lib.hid hn2
                  clear hn2
                  go_wp2
                  exact ⟨⟨b + 1, n, by omega, by go_num, Hn2.out, rfl⟩, by simp [intOf]; omega⟩
            · obtain rfl : a = L.length := by omega
              have hlt : ¬ ((L.length : Int) < (had.length : Int) + (now.length : Int)) := by have := HLl.out; omega
              have hs := HSt.out
              rw [Hup.out] at hs
              have hs2 : nearYearsR rs (G + 402 - (Y + 1) + 1).toNat (Y + 1) now = Q := by
                rcases hs with h1 | h1
                · cases h1
                · exact h1.2
              have HS2 := Lib.hid hs2
              clear hs hs2
              go_wp2
              exact ⟨⟨now, Y + 1, by rw [hw2], by omega, by have := HY.out; omega, HS2.out, hnl, HNow.out, own_base (w := w6.drewN n) HNo.out hz6, below_dr HB6'.out⟩, by rw [hw2]; simp [intOf]; omega⟩
        · have hq : Q = false := by
            have h1 := HNy.out
            rw [show (G + 402 - Y + 1).toNat = 0 by omega] at h1
            exact h1.symm
          subst hq
          clear HNy
          go_wp2
          go_ret
          exact ⟨rfl, HB.out⟩
end Go.Proofs.YtaffaobhcnnfnaaGreatDoor.R11
