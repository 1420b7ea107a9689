/-
  The document's word on an era (analemmaref13.era): the program's. Conditions: what the source's slices hold is read; the source is right.
-/
import Derived.Test.YtgfdmjldfahbpaaGreatDoorD13
namespace Go.Proofs.YtgfdmjldfahbpaaGreatDoor.Snd
open Go.RowKit Mem Civ Mom Img Plc Rul Src Go.Maps

theorem ruleB_of {r : Rule} (h : ruleR r = true) : ruleB r = true := by
  unfold ruleR yearB savingB at h
  simp only [Bool.and_eq_true, Bool.or_eq_true, decide_eq_true_eq] at h
  obtain ⟨_, h1, h2, h3, h4, _⟩ := h
  unfold ruleB ruleP yearP
  exact decide_eq_true ⟨h1, h2, spotB_ok h3, h4.1, h4.2⟩
theorem right_rules {s : Src} (hs : srcB s = true) : rulesB s.rules = true := by
  unfold srcB at hs
  simp only [Bool.and_eq_true] at hs
  have h := hs.2.1
  rw [List.all_eq_true] at h
  exact List.all_eq_true.2 fun r hr => ruleB_of (h r hr)
theorem right_nr {s : Src} (hs : srcB s = true) : s.rules.length ≤ 200 ∧ s.zones.length ≤ 50 ∧ s.links.length ≤ 100 := by
  unfold srcB at hs
  simp only [Bool.and_eq_true, Bool.not_eq_true', decide_eq_false_iff_not] at hs
  obtain ⟨⟨h1, h2, h3⟩, _⟩ := hs
  omega
theorem eras_all {es : List Era} : ∀ {n : Nat}, erasOk es n = true → ∀ j (hj : j < es.length), j < n → eraB es[j] = true ∧ es[j].till = decide (((j : Nat) : Int) < (es.length : Int) - 1)
  | 0, _, _, _, h => absurd h (Nat.not_lt_zero _)
  | n + 1, h, j, hj, hjn => by
    rw [erasOk, Bool.and_eq_true] at h
    by_cases e : j = n
    · subst e
      have h2 := h.2
      rw [List.getElem?_eq_getElem hj] at h2
      simp only [Bool.and_eq_true, beq_iff_eq] at h2
      exact h2
    · exact eras_all h.1 j hj (by omega)
theorem right_eras {s : Src} (hs : srcB s = true) {z : ZoneM} (hz : z ∈ s.zones) {j : Nat} (hj : j < z.eras.length) : eraB z.eras[j] = true ∧ z.eras[j].till = decide (((j : Nat) : Int) < (z.eras.length : Int) - 1) := by
  unfold srcB at hs
  simp only [Bool.and_eq_true] at hs
  have h := List.all_eq_true.1 hs.2.2.1 z hz
  unfold zoneB at h
  simp only [Bool.and_eq_true] at h
  exact eras_all h.2.2.2 j hj hj
theorem till_ref {x : Era} (h : eraB x = true) (ht : x.till = true) : 0 ≤ x.spot.ref ∧ x.spot.ref ≤ 2 := by
  unfold eraB tillB at h
  simp only [Bool.and_eq_true] at h
  have h2 := h.2.2
  rw [if_pos ht, Bool.and_eq_true] at h2
  obtain ⟨_, _, _, _, _, _, h7, h8, _⟩ := spotB_ok h2.2
  exact ⟨h7, h8⟩
/-- What the document's era's frame holds in memory: the source's box, the zone's, the era's. -/
structure Tb (w : World) (cs zc ec : Array Value) (W : World) : Prop where
  src : Blk W w.heap.size 26 cs
  zn : Blk W (w.heap.size + 1) 41 zc
  era : Blk W (w.heap.size + 1 + 1) 45 ec
  bel : Below w.heap.size w W
theorem Tb.step {w W W' : World} {cs zc ec : Array Value} (h : Tb w cs zc ec W) (hb : Below W.heap.size W W') : Tb w cs zc ec W' :=
  ⟨h.src.below hb h.src.lt, h.zn.below hb h.zn.lt, h.era.below hb h.era.lt, h.bel.trans (hb.mono h.bel.size)⟩
theorem Tb.drew {w W : World} {cs zc ec : Array Value} (h : Tb w cs zc ec W) : Tb w cs zc ec W.drew := ⟨h.src.drew, h.zn.drew, h.era.drew, h.bel.drew⟩
theorem Tb.start (w : World) (cs zc ec : Array Value) : Tb w cs zc ec (((w.alloc (.cells cs 26)).alloc (.cells zc 41)).alloc (.cells ec 45)) := by
  obtain ⟨h1, h2, h3, h4, _⟩ := box3 w 26 41 45 cs zc ec
  exact ⟨h1, h2, h3, h4⟩
theorem all_next {p : Rule → Bool} {rs : List Rule} {k : Nat} (hk : k < rs.length) (h : (rs.take k).all p = true) (h2 : p rs[k] = true) : (rs.take (k + 1)).all p = true := by
  rw [all_step _ _ _ hk h]; exact h2
/-- The error of an era of a right source, by what the document asks. -/
def eraD (rs : List Rule) (x : Era) (late : Bool) : Int :=
  if x.kind = 2 ∧ (setL rs x.rules).length = 0 then 8
  else if x.kind = 2 ∧ farB x.off (setL rs x.rules) = true then 11
  else if Rgt.dayB (wrap64 (x.off + x.save)) = false then 11
  else if late = true then 16 else 0
def lateB (sv : Era → Int) (es : List Era) (k : Nat) : Bool := match k, es[k]? with
  | j + 1, some x => match es[j]? with
    | some y => x.till && decide (endI x (sv x) ≤ endI y (sv y))
    | none => false
  | _, _ => false
theorem eraAt_is {s : Src} (hs : srcB s = true) {z : ZoneM} (hz : z ∈ s.zones) {k : Nat} (hk : k < z.eras.length) (sv : Era → Int) : eraAt s.rules sv z.eras k = eraD s.rules z.eras[k] (lateB sv z.eras k) := by
  have e1 : ∀ (c d : Prop) [Decidable c] [Decidable d], (c ↔ d) → ∀ a b : Int, (if c then a else b) = if d then a else b := fun c d _ _ h a b => by
    by_cases hc : c
    · rw [if_pos hc, if_pos (h.1 hc)]
    · rw [if_neg hc, if_neg fun hd => hc (h.2 hd)]
  unfold eraAt
  rw [List.getElem?_eq_getElem hk]
  simp only
  unfold eraE eraD
  congr 1
  congr 1
  congr 1
  refine e1 _ _ ?_ _ _
  unfold lateB
  cases k with
  | zero => simp [prevP]
  | succ j =>
    have hj : j < z.eras.length := by omega
    have ht : z.eras[j].till = true := by
      rw [(right_eras hs hz hj).2]
      exact decide_eq_true (by omega)
    simp only [prevP, List.getElem?_eq_getElem hj, List.getElem?_eq_getElem hk, ht, true_and]
    unfold endP
    rw [if_pos ht]
    cases hx : z.eras[j + 1].till
    · simp
    · simp
set_option maxHeartbeats 4000000 in
set_option maxRecDepth 100000 in
theorem rera_any (s : Src) (A A2 A3 : Option Addr) (c c2 c3 : Nat) (z : ZoneM) (k : Nat) (w : World) (h : SrcOk s A A2 A3 w) (hz : z ∈ s.zones) (hk : k < z.eras.length) (hs : srcB s = true) :
    Calls Tryz.prog 27 #[.agg #[.slice A s.rules.length c, .slice A2 s.zones.length c2, .slice A3 s.links.length c3], .agg #[.string z.name, .slice z.A z.eras.length z.c], .int .i64 k] w fun e w' => e = .returned (.int .i64 (eraAt s.rules (svF s) z.eras k)) ∧ Below w.heap.size w w' := by
  rw [eraAt_is hs hz hk]
  have hru := right_rules hs
  have hre := h.re z hz
  have hne := h.ne z hz
  have nr := h.nr
  have HS := Lib.hid (fun z2 (hb : Below w.heap.size w z2) => rset_any s A A2 A3 c c2 c3 z.eras[k].rules z2 (h.below hb))
  have HX1 := Lib.hid (fun (ht : z.eras[k].till = true) z2 (hb : Below w.heap.size w z2) => rend_any s A A2 A3 c c2 c3 z.eras[k] z2 (h.below hb) hru (till_ref (right_eras hs hz hk).1 ht))
  have hX2 : ∀ j (hj : j < z.eras.length), j + 1 = k → ∀ z2, Below w.heap.size w z2 → Calls Tryz.prog 49 #[.agg #[.slice A s.rules.length c, .slice A2 s.zones.length c2, .slice A3 s.links.length c3], .agg (z.eras[j]'hj).cells.toArray] z2 fun e w' => e = .returned (.int .i64 (endI (z.eras[j]'hj) (svF s (z.eras[j]'hj)))) ∧ Below z2.heap.size z2 w' := fun j hj e z2 hb =>
    rend_any s A A2 A3 c c2 c3 z.eras[j] z2 (h.below hb) hru (till_ref (right_eras hs hz hj).1 (by rw [(right_eras hs hz hj).2]; exact decide_eq_true (by omega)))
  have HX2 := Lib.hid hX2
  have hlate : lateB (svF s) z.eras k = lateB (svF s) z.eras k := rfl
  clear h hz hs hru hX2
  generalize svF s = sv at *
  obtain ⟨z0, es, Az, cz⟩ := z
  simp only at hk hre hne HS HX1 HX2 ⊢
  obtain ⟨rs, zs, ls⟩ := s
  simp only at nr HS HX1 HX2 ⊢
  have HRe := Lib.hid hre
  clear hre hlate
  obtain ⟨LB, hLB⟩ : ∃ LB, lateB sv es k = LB := ⟨_, rfl⟩
  rw [hLB]
  obtain ⟨Q, hQ⟩ : ∃ Q, eraD rs es[k] LB = Q := ⟨_, rfl⟩
  rw [hQ]
  unfold eraD at hQ
  obtain ⟨ad0, hA0, hadb0, _⟩ := era_cells HRe.out hk rfl
  subst hA0
  have HEc := Lib.hid (fun z2 (hb : Below w.heap.size w z2) j hj => era_cells (k := j) (HRe.out.below hb) hj rfl)
  have hb2 := box2 w 26 41 #[.slice A rs.length c, .slice A2 zs.length c2, .slice A3 ls.length c3] #[.string z0, .slice (some ad0) es.length cz]
  have htb := Tb.start w #[.slice A rs.length c, .slice A2 zs.length c2, .slice A3 ls.length c3] #[.string z0, .slice (some ad0) es.length cz] es[k].cells.toArray
  have hl2 : LB = true → k ≠ 0 ∧ es[k].till = true := fun h => by
    rw [← hLB] at h
    unfold lateB at h
    cases k with
    | zero => cases h
    | succ j =>
      rw [List.getElem?_eq_getElem hk] at h
      simp only at h
      refine ⟨by omega, ?_⟩
      split at h
      · rw [Bool.and_eq_true] at h; exact h.1
      · cases h
  have hl3 : ∀ j (hj : j < es.length), j + 1 = k → es[k].till = true → LB = decide (endI es[k] (sv es[k]) ≤ endI (es[j]'hj) (sv (es[j]'hj))) := fun j hj e ht => by
    subst e
    rw [← hLB]
    unfold lateB
    simp only [List.getElem?_eq_getElem hk, List.getElem?_eq_getElem hj, ht, Bool.true_and]
  have HL2 := Lib.hid hl2; have HL3 := Lib.hid hl3
  clear hl2 hl3 hLB
  obtain ⟨x, hx⟩ : ∃ x, x = es[k] := ⟨_, rfl⟩
  obtain ⟨ad', hA', _, d⟩ := HEc.out _ hb2.2.2.1 k hk
  obtain rfl : ad0 = ad' := by injection hA'
  rw [← hx] at d htb hQ HS HX1 HL2 HL3
  clear hx hA' HRe
  obtain ⟨x0, x1, x2, x3, x4, x5, x6, ⟨y0, y1, y2, y3, y4, y5⟩⟩ := x
  simp only [Era.cells] at d htb hQ HS HX1 HL2 HL3
  obtain ⟨d0, d1, d2, d3, d4, d5, d6, d7, d8, d9, d10, d11, d12⟩ := d
  obtain ⟨W2, hW2⟩ : ∃ W2, (w.alloc (.cells #[.slice A rs.length c, .slice A2 zs.length c2, .slice A3 ls.length c3] 26)).alloc (.cells #[.string z0, .slice (some ad0) es.length cz] 41) = W2 := ⟨_, rfl⟩
  rw [hW2] at d0 d1 d2 d3 d4 d5 d6 d7 d8 d9 d10 d11 d12 htb hb2
  have hsz2 : W2.heap.size = w.heap.size + 1 + 1 := by rw [← hW2]; simp
  obtain ⟨W3, hW3⟩ : ∃ W3, W2.alloc (.cells #[.int .i64 x0, .int .i64 x1, .int .i64 x2, .string x3, .string x4, .bool x5, .int .i64 x6, .int .i64 y0, .int .i64 y1, .int .i64 y2, .int .i64 y3, .int .i64 y4, .int .i64 y5] 45) = W3 := ⟨_, rfl⟩
  rw [hW3] at htb
  have czc := fun i => hb2.2.1.cell i
  have HT := Lib.hid htb; have HQ := Lib.hid hQ
  clear htb hQ hb2
  go_enter Tryz.func27, Tryz.ntmps27
  go_upto_region 2 with fail
  clear d0 d1 d2 d3 d4 d5 d6 d7 d8 d9 d10 d11 d12 hW2 hW3 hsz2
  clear czc
  have ce := fun i => HT.out.era.cell i
  have cs := fun i => HT.out.src.cell i
  by_cases hk2 : x1 = 2
  · subst hk2
    have hq := HQ.out
    simp only [true_and] at hq
    have hLn : (setL rs x3).length ≤ 1000000 := Nat.le_trans (setL_len _ _) nr
    generalize setL rs x3 = L at *
    by_cases hn : L.length = 0
    · rw [if_pos hn] at hq
      subst hq
      have hnb : (((L.length : Nat) : Int) == 0) = true := by rw [hn]; rfl
      clear HQ HL2 HL3 HX1 HX2
      go_wp2_with (go_at_call 26; refine (HS.out _ HT.out.bel).mono ?_; rintro e w4 ⟨v, rfl, hown, hb⟩; obtain ⟨Av, cv, rfl⟩ := own_slice hown; have HT4 := Lib.hid (HT.out.step hb); clear hb hown)
      go_ret
      exact ⟨rfl, HT4.out.bel⟩
    rw [if_neg hn] at hq
    have hnb : (((L.length : Nat) : Int) == 0) = false := by rw [beq_eq_false_iff_ne]; omega
    have HQ2 := Lib.hid hq
    clear HQ hq
    go_wp2_with (go_at_call 26; refine (HS.out _ HT.out.bel).mono ?_; rintro e w4 ⟨v, rfl, hown, hb⟩; obtain ⟨Av, cv, rfl⟩ := own_slice hown; have HRv := Lib.hid (Reads.of_own hown); have HT4 := Lib.hid (HT.out.step hb); clear hb hown)
    clear ce cs HT HS
    go_loopw [9] (fun i wr => ∃ n : Nat, n ≤ L.length ∧ i = .int .i64 n ∧ (L.take n).all (fun r => Rgt.dayB (wrap64 (x0 + r.save))) = true ∧ Tb w #[.slice A rs.length c, .slice A2 zs.length c2, .slice A3 ls.length c3] #[.string z0, .slice (some ad0) es.length cz] #[.int .i64 x0, .int .i64 2, .int .i64 x2, .string x3, .string x4, .bool x5, .int .i64 x6, .int .i64 y0, .int .i64 y1, .int .i64 y2, .int .i64 y3, .int .i64 y4, .int .i64 y5] wr ∧ Below w4.heap.size w4 wr) (fun i _ => L.length - (intOf i).toNat)
    case atStart => exact ⟨0, Nat.zero_le _, rfl, rfl, HT4.out, Below.refl _ _⟩
    case round =>
      clear HT4
      obtain ⟨n, hnl, rfl, hall, ht, hb4⟩ := hrel
      have HT := Lib.hid ht; have HB4 := Lib.hid hb4; have Hall := Lib.hid hall
      clear ht hb4 hall
      by_cases hnn : n < L.length
      · obtain ⟨av, hAv, hvb, _⟩ := rule_cells (HRv.out.below HB4.out) hnn
        subst hAv
        have HRc := Lib.hid (fun z (hb : Below w4.heap.size w4 z) => rule_cells (HRv.out.below hb) hnn)
        have HBy := Lib.hid (fun z => beyond_any (wrap64 (x0 + L[n].save)) z)
        have hfar : Rgt.dayB (wrap64 (x0 + L[n].save)) = false → farB x0 L = true := fun e => by
          unfold farB
          rw [List.all_eq_false.2 ⟨L[n], List.getElem_mem hnn, by rw [e]; decide⟩]
          rfl
        have hnx : Rgt.dayB (wrap64 (x0 + L[n].save)) = true → (L.take (n + 1)).all (fun r => Rgt.dayB (wrap64 (x0 + r.save))) = true := fun e => all_next (p := fun r => Rgt.dayB (wrap64 (x0 + r.save))) hnn Hall.out e
        have HFar := Lib.hid hfar; have HNx := Lib.hid hnx
        obtain ⟨Cls, hCls⟩ : ∃ C : World → Prop, C = fun z => Tb w #[.slice A rs.length c, .slice A2 zs.length c2, .slice A3 ls.length c3] #[.string z0, .slice (some ad0) es.length cz] #[.int .i64 x0, .int .i64 2, .int .i64 x2, .string x3, .string x4, .bool x5, .int .i64 x6, .int .i64 y0, .int .i64 y1, .int .i64 y2, .int .i64 y3, .int .i64 y4, .int .i64 y5] z ∧ Below w4.heap.size w4 z := ⟨_, rfl⟩
        have hC : ∀ z, Cls z → Tb w #[.slice A rs.length c, .slice A2 zs.length c2, .slice A3 ls.length c3] #[.string z0, .slice (some ad0) es.length cz] #[.int .i64 x0, .int .i64 2, .int .i64 x2, .string x3, .string x4, .bool x5, .int .i64 x6, .int .i64 y0, .int .i64 y1, .int .i64 y2, .int .i64 y3, .int .i64 y4, .int .i64 y5] z ∧ Below w4.heap.size w4 z := fun z h => by rw [hCls] at h; exact h
        have hstart : Cls wr.drew := by rw [hCls]; exact ⟨HT.out.drew, HB4.out.drew⟩
        have inst : Nonempty (Qt.In Cls) := ⟨⟨_, hstart⟩⟩
        have ge : ∀ (z : Qt.In Cls) (i : Nat), z.w.cell? ⟨w.heap.size + 1 + 1, i, none⟩ = #[.int .i64 x0, .int .i64 2, .int .i64 x2, .string x3, .string x4, .bool x5, .int .i64 x6, .int .i64 y0, .int .i64 y1, .int .i64 y2, .int .i64 y3, .int .i64 y4, .int .i64 y5][i]? := fun z i => (hC z.w z.h).1.era.cell i
        have gr : ∀ (z : Qt.In Cls), z.w.cell? ⟨(av.add (n * 11)).block, (av.add (n * 11)).off + 9, none⟩ = some (.int .i64 L[n].save) := fun z => by
          obtain ⟨av', e, _, q⟩ := HRc.out z.w (hC z.w z.h).2
          obtain rfl : av = av' := by injection e
          exact q.2.2.2.2.2.2.2.2.2.1
        generalize L[n].save = sn at *
        generalize Rgt.dayB (wrap64 (x0 + sn)) = dn at *
        have HByc : Hid (∀ z, Cls z → Calls Tryz.prog 48 #[.int .i64 (wrap64 (x0 + sn))] z fun e z' => e = .returned (.bool (!dn)) ∧ Cls z') := fun z h => (HBy.out z).mono fun e z' ⟨he, hb⟩ => ⟨he, by subst hb; exact h⟩
        have HCx := Lib.hid hC; have HS := Lib.hid hstart
        clear hC hCls hstart hfar hnx HRc HBy
        cases dn
        · have hq := HQ2.out
          rw [if_pos (HFar.out rfl)] at hq
          subst hq
          clear HQ2 HFar HNx HL2 HL3 HX1 HX2
          go_wp2
          refine Qt.wp_region_cls Cls (by kernel_rfl) (by kernel_rfl) HS.out ?_
          repeat (go_big_quiet_step (fail))
          go_big_quiet_step (exact Qt.quiet_cls (HByc.out _ (Qt.In.h _)))
          repeat (go_big_quiet_step (fail))
          refine wpQuiet_nil ?_
          rintro wq ⟨⟨w9, hq9⟩, e9⟩
          have HX := Lib.hid (HCx.out wq (by rw [e9]; exact hq9))
          clear hq9 e9 ge gr
          go_wp2
          go_ret
          exact ⟨rfl, HX.out.1.bel⟩
        · have hnx := HNx.out rfl
          have HNy := Lib.hid hnx
          clear hnx HFar HNx
          go_wp2
          refine Qt.wp_region_cls Cls (by kernel_rfl) (by kernel_rfl) HS.out ?_
          repeat (go_big_quiet_step (fail))
          go_big_quiet_step (exact Qt.quiet_cls (HByc.out _ (Qt.In.h _)))
          repeat (go_big_quiet_step (fail))
          refine wpQuiet_nil ?_
          rintro wq ⟨⟨w9, hq9⟩, e9⟩
          have HX := Lib.hid (HCx.out wq (by rw [e9]; exact hq9))
          clear hq9 e9 ge gr
          go_wp2
          exact ⟨⟨n + 1, by omega, by go_num, HNy.out, HX.out.1, HX.out.2⟩, by simp [intOf]; omega⟩
      · obtain rfl : n = L.length := by omega
        have hall := Hall.out
        rw [List.take_length] at hall
        have hf : farB x0 L = false := by unfold farB; rw [hall]; rfl
        have hq2 := HQ2.out
        rw [hf, if_neg (by decide)] at hq2
        have HQn := Lib.hid hq2.symm
        clear hall hf hq2 HQ2 Hall
        have HBy := Lib.hid (fun z => beyond_any (wrap64 (x0 + x2)) z)
        have hq := HQn.out
        have ce := fun i => HT.out.era.cell i
        generalize Rgt.dayB (wrap64 (x0 + x2)) = dB at *
        cases dB
        · rw [if_pos rfl] at hq
          subst hq
          clear HQn HL2 HL3
          go_wp2_with (go_at_call 48; refine (HBy.out _).mono ?_; rintro e w5 ⟨rfl, rfl⟩)
          go_ret
          exact ⟨rfl, HT.out.bel⟩
        rw [if_neg (by decide)] at hq
        by_cases hk0 : k = 0
        · have hLB : LB = false := by cases hh : LB with | false => rfl | true => exact absurd hk0 (HL2.out hh).1
          rw [hLB, if_neg (by decide)] at hq
          subst hq
          have hkb : decide (0 < k) = false := decide_eq_false (by omega)
          clear HQn HL2 HL3 hk0
          go_wp2_with (go_at_call 48; refine (HBy.out _).mono ?_; rintro e w5 ⟨rfl, rfl⟩)
          obtain ⟨Cls, hCls⟩ : ∃ C : World → Prop, C = Tb w #[.slice A rs.length c, .slice A2 zs.length c2, .slice A3 ls.length c3] #[.string z0, .slice (some ad0) es.length cz] #[.int .i64 x0, .int .i64 2, .int .i64 x2, .string x3, .string x4, .bool x5, .int .i64 x6, .int .i64 y0, .int .i64 y1, .int .i64 y2, .int .i64 y3, .int .i64 y4, .int .i64 y5] := ⟨_, rfl⟩
          have hC : ∀ z, Cls z → Tb w #[.slice A rs.length c, .slice A2 zs.length c2, .slice A3 ls.length c3] #[.string z0, .slice (some ad0) es.length cz] #[.int .i64 x0, .int .i64 2, .int .i64 x2, .string x3, .string x4, .bool x5, .int .i64 x6, .int .i64 y0, .int .i64 y1, .int .i64 y2, .int .i64 y3, .int .i64 y4, .int .i64 y5] z := fun z h => by rw [hCls] at h; exact h
          have hin : ∀ z, Tb w #[.slice A rs.length c, .slice A2 zs.length c2, .slice A3 ls.length c3] #[.string z0, .slice (some ad0) es.length cz] #[.int .i64 x0, .int .i64 2, .int .i64 x2, .string x3, .string x4, .bool x5, .int .i64 x6, .int .i64 y0, .int .i64 y1, .int .i64 y2, .int .i64 y3, .int .i64 y4, .int .i64 y5] z → Cls z := fun z h => by rw [hCls]; exact h
          have hstart := hin _ HT.out.drew
          have inst : Nonempty (Qt.In Cls) := ⟨⟨_, hstart⟩⟩
          have gs : ∀ (z : Qt.In Cls) (i : Nat), z.w.cell? ⟨w.heap.size, i, none⟩ = #[.slice A rs.length c, .slice A2 zs.length c2, .slice A3 ls.length c3][i]? := fun z i => (hC z.w z.h).src.cell i
          have gz : ∀ (z : Qt.In Cls) (i : Nat), z.w.cell? ⟨w.heap.size + 1, i, none⟩ = #[.string z0, .slice (some ad0) es.length cz][i]? := fun z i => (hC z.w z.h).zn.cell i
          have ge : ∀ (z : Qt.In Cls) (i : Nat), z.w.cell? ⟨w.heap.size + 1 + 1, i, none⟩ = #[.int .i64 x0, .int .i64 2, .int .i64 x2, .string x3, .string x4, .bool x5, .int .i64 x6, .int .i64 y0, .int .i64 y1, .int .i64 y2, .int .i64 y3, .int .i64 y4, .int .i64 y5][i]? := fun z i => (hC z.w z.h).era.cell i
          have HCx := Lib.hid hC; have HS := Lib.hid hstart; have HCe := Lib.hid hCls
          clear hC hstart hCls hin
          refine Qt.wp_region_cls Cls (by kernel_rfl) (by kernel_rfl) HS.out ?_
          repeat (go_big_quiet_step (fail))
          refine wpQuiet_nil ?_
          rintro wq ⟨⟨w9, hq9⟩, e9⟩
          have HX := Lib.hid (HCx.out wq (by rw [e9]; exact hq9))
          clear hq9 e9 gs gz ge
          go_wp2
          go_ret
          exact ⟨rfl, HX.out.bel⟩
        have hkp : 0 < k := by omega
        cases x5
        · have hLB : LB = false := by cases hh : LB with | false => rfl | true => exact absurd (HL2.out hh).2 (by decide)
          rw [hLB, if_neg (by decide)] at hq
          subst hq
          clear HQn HL2 HL3
          go_wp2_with (go_at_call 48; refine (HBy.out _).mono ?_; rintro e w5 ⟨rfl, rfl⟩)
          obtain ⟨Cls, hCls⟩ : ∃ C : World → Prop, C = Tb w #[.slice A rs.length c, .slice A2 zs.length c2, .slice A3 ls.length c3] #[.string z0, .slice (some ad0) es.length cz] #[.int .i64 x0, .int .i64 2, .int .i64 x2, .string x3, .string x4, .bool false, .int .i64 x6, .int .i64 y0, .int .i64 y1, .int .i64 y2, .int .i64 y3, .int .i64 y4, .int .i64 y5] := ⟨_, rfl⟩
          have hC : ∀ z, Cls z → Tb w #[.slice A rs.length c, .slice A2 zs.length c2, .slice A3 ls.length c3] #[.string z0, .slice (some ad0) es.length cz] #[.int .i64 x0, .int .i64 2, .int .i64 x2, .string x3, .string x4, .bool false, .int .i64 x6, .int .i64 y0, .int .i64 y1, .int .i64 y2, .int .i64 y3, .int .i64 y4, .int .i64 y5] z := fun z h => by rw [hCls] at h; exact h
          have hin : ∀ z, Tb w #[.slice A rs.length c, .slice A2 zs.length c2, .slice A3 ls.length c3] #[.string z0, .slice (some ad0) es.length cz] #[.int .i64 x0, .int .i64 2, .int .i64 x2, .string x3, .string x4, .bool false, .int .i64 x6, .int .i64 y0, .int .i64 y1, .int .i64 y2, .int .i64 y3, .int .i64 y4, .int .i64 y5] z → Cls z := fun z h => by rw [hCls]; exact h
          have hstart := hin _ HT.out.drew
          have inst : Nonempty (Qt.In Cls) := ⟨⟨_, hstart⟩⟩
          have gs : ∀ (z : Qt.In Cls) (i : Nat), z.w.cell? ⟨w.heap.size, i, none⟩ = #[.slice A rs.length c, .slice A2 zs.length c2, .slice A3 ls.length c3][i]? := fun z i => (hC z.w z.h).src.cell i
          have gz : ∀ (z : Qt.In Cls) (i : Nat), z.w.cell? ⟨w.heap.size + 1, i, none⟩ = #[.string z0, .slice (some ad0) es.length cz][i]? := fun z i => (hC z.w z.h).zn.cell i
          have ge : ∀ (z : Qt.In Cls) (i : Nat), z.w.cell? ⟨w.heap.size + 1 + 1, i, none⟩ = #[.int .i64 x0, .int .i64 2, .int .i64 x2, .string x3, .string x4, .bool false, .int .i64 x6, .int .i64 y0, .int .i64 y1, .int .i64 y2, .int .i64 y3, .int .i64 y4, .int .i64 y5][i]? := fun z i => (hC z.w z.h).era.cell i
          have HCx := Lib.hid hC; have HS := Lib.hid hstart; have HCe := Lib.hid hCls
          clear hC hstart hCls hin
          refine Qt.wp_region_cls Cls (by kernel_rfl) (by kernel_rfl) HS.out ?_
          repeat (go_big_quiet_step (fail))
          refine wpQuiet_nil ?_
          rintro wq ⟨⟨w9, hq9⟩, e9⟩
          have HX := Lib.hid (HCx.out wq (by rw [e9]; exact hq9))
          clear hq9 e9 gs gz ge
          go_wp2
          go_ret
          exact ⟨rfl, HX.out.bel⟩
        obtain ⟨j, rfl⟩ : ∃ j, k = j + 1 := ⟨k - 1, by omega⟩
        have hj : j < es.length := by omega
        have hw1 : wrap64 (((j + 1 : Nat) : Int) - 1) = (j : Int) := by unfold wrap64; omega
        have hl := HL3.out j hj rfl rfl
        have HE1 := Lib.hid (HX1.out rfl)
        have HE2 := Lib.hid (HX2.out j hj rfl)
        generalize endI (es[j]'hj) (sv (es[j]'hj)) = e2 at *
        generalize endI ⟨x0, 2, x2, x3, x4, true, x6, ⟨y0, y1, y2, y3, y4, y5⟩⟩ (sv ⟨x0, 2, x2, x3, x4, true, x6, ⟨y0, y1, y2, y3, y4, y5⟩⟩) = e1 at *
        obtain ⟨Cls, hCls⟩ : ∃ C : World → Prop, C = Tb w #[.slice A rs.length c, .slice A2 zs.length c2, .slice A3 ls.length c3] #[.string z0, .slice (some ad0) es.length cz] #[.int .i64 x0, .int .i64 2, .int .i64 x2, .string x3, .string x4, .bool true, .int .i64 x6, .int .i64 y0, .int .i64 y1, .int .i64 y2, .int .i64 y3, .int .i64 y4, .int .i64 y5] := ⟨_, rfl⟩
        have hC : ∀ z, Cls z → Tb w #[.slice A rs.length c, .slice A2 zs.length c2, .slice A3 ls.length c3] #[.string z0, .slice (some ad0) es.length cz] #[.int .i64 x0, .int .i64 2, .int .i64 x2, .string x3, .string x4, .bool true, .int .i64 x6, .int .i64 y0, .int .i64 y1, .int .i64 y2, .int .i64 y3, .int .i64 y4, .int .i64 y5] z := fun z h => by rw [hCls] at h; exact h
        have hin : ∀ z, Tb w #[.slice A rs.length c, .slice A2 zs.length c2, .slice A3 ls.length c3] #[.string z0, .slice (some ad0) es.length cz] #[.int .i64 x0, .int .i64 2, .int .i64 x2, .string x3, .string x4, .bool true, .int .i64 x6, .int .i64 y0, .int .i64 y1, .int .i64 y2, .int .i64 y3, .int .i64 y4, .int .i64 y5] z → Cls z := fun z h => by rw [hCls]; exact h
        have hstart := hin _ HT.out.drew
        have inst : Nonempty (Qt.In Cls) := ⟨⟨_, hstart⟩⟩
        have gs : ∀ (z : Qt.In Cls) (i : Nat), z.w.cell? ⟨w.heap.size, i, none⟩ = #[.slice A rs.length c, .slice A2 zs.length c2, .slice A3 ls.length c3][i]? := fun z i => (hC z.w z.h).src.cell i
        have gz : ∀ (z : Qt.In Cls) (i : Nat), z.w.cell? ⟨w.heap.size + 1, i, none⟩ = #[.string z0, .slice (some ad0) es.length cz][i]? := fun z i => (hC z.w z.h).zn.cell i
        have ge : ∀ (z : Qt.In Cls) (i : Nat), z.w.cell? ⟨w.heap.size + 1 + 1, i, none⟩ = #[.int .i64 x0, .int .i64 2, .int .i64 x2, .string x3, .string x4, .bool true, .int .i64 x6, .int .i64 y0, .int .i64 y1, .int .i64 y2, .int .i64 y3, .int .i64 y4, .int .i64 y5][i]? := fun z i => (hC z.w z.h).era.cell i
        have HCx := Lib.hid hC; have HS := Lib.hid hstart; have HCe := Lib.hid hCls
        clear hC hstart hCls hin
        have HE1c : Hid (∀ z, Cls z → Calls Tryz.prog 49 #[.agg #[.slice A rs.length c, .slice A2 zs.length c2, .slice A3 ls.length c3], .agg #[.int .i64 x0, .int .i64 2, .int .i64 x2, .string x3, .string x4, .bool true, .int .i64 x6, .int .i64 y0, .int .i64 y1, .int .i64 y2, .int .i64 y3, .int .i64 y4, .int .i64 y5]] z fun e z' => e = .returned (.int .i64 e1) ∧ Cls z') := fun z h => (HE1.out z (HCx.out z h).bel).mono fun e z' ⟨he, hb⟩ => ⟨he, by rw [HCe.out]; exact (HCx.out z h).step hb⟩
        have fe := fun (z : Qt.In Cls) => HEc.out z.w (HCx.out z.w z.h).bel j hj
        obtain ⟨y, hy⟩ : ∃ y, y = es[j]'hj := ⟨_, rfl⟩
        simp only [← hy] at fe HE2
        clear hy
        obtain ⟨q0, q1, q2, q3, q4, q5, q6, ⟨v0, v1, v2, v3, v4, v5⟩⟩ := y
        simp only [Era.cells] at fe HE2
        have f0 : ∀ z : Qt.In Cls, z.w.cell? (ad0.add (j * 13)) = some (.int .i64 q0) := fun z => by obtain ⟨ad', e, _, q⟩ := fe z; obtain rfl : ad0 = ad' := (by injection e); exact q.1
        have f1 : ∀ z : Qt.In Cls, z.w.cell? ⟨(ad0.add (j * 13)).block, (ad0.add (j * 13)).off + 1, none⟩ = some (.int .i64 q1) := fun z => by obtain ⟨ad', e, _, q⟩ := fe z; obtain rfl : ad0 = ad' := (by injection e); exact q.2.1
        have f2 : ∀ z : Qt.In Cls, z.w.cell? ⟨(ad0.add (j * 13)).block, (ad0.add (j * 13)).off + 2, none⟩ = some (.int .i64 q2) := fun z => by obtain ⟨ad', e, _, q⟩ := fe z; obtain rfl : ad0 = ad' := (by injection e); exact q.2.2.1
        have f3 : ∀ z : Qt.In Cls, z.w.cell? ⟨(ad0.add (j * 13)).block, (ad0.add (j * 13)).off + 3, none⟩ = some (.string q3) := fun z => by obtain ⟨ad', e, _, q⟩ := fe z; obtain rfl : ad0 = ad' := (by injection e); exact q.2.2.2.1
        have f4 : ∀ z : Qt.In Cls, z.w.cell? ⟨(ad0.add (j * 13)).block, (ad0.add (j * 13)).off + 4, none⟩ = some (.string q4) := fun z => by obtain ⟨ad', e, _, q⟩ := fe z; obtain rfl : ad0 = ad' := (by injection e); exact q.2.2.2.2.1
        have f5 : ∀ z : Qt.In Cls, z.w.cell? ⟨(ad0.add (j * 13)).block, (ad0.add (j * 13)).off + 5, none⟩ = some (.bool q5) := fun z => by obtain ⟨ad', e, _, q⟩ := fe z; obtain rfl : ad0 = ad' := (by injection e); exact q.2.2.2.2.2.1
        have f6 : ∀ z : Qt.In Cls, z.w.cell? ⟨(ad0.add (j * 13)).block, (ad0.add (j * 13)).off + 6, none⟩ = some (.int .i64 q6) := fun z => by obtain ⟨ad', e, _, q⟩ := fe z; obtain rfl : ad0 = ad' := (by injection e); exact q.2.2.2.2.2.2.1
        have f7 : ∀ z : Qt.In Cls, z.w.cell? ⟨(ad0.add (j * 13)).block, (ad0.add (j * 13)).off + 7, none⟩ = some (.int .i64 v0) := fun z => by obtain ⟨ad', e, _, q⟩ := fe z; obtain rfl : ad0 = ad' := (by injection e); exact q.2.2.2.2.2.2.2.1
        have f8 : ∀ z : Qt.In Cls, z.w.cell? ⟨(ad0.add (j * 13)).block, (ad0.add (j * 13)).off + 8, none⟩ = some (.int .i64 v1) := fun z => by obtain ⟨ad', e, _, q⟩ := fe z; obtain rfl : ad0 = ad' := (by injection e); exact q.2.2.2.2.2.2.2.2.1
        have f9 : ∀ z : Qt.In Cls, z.w.cell? ⟨(ad0.add (j * 13)).block, (ad0.add (j * 13)).off + 9, none⟩ = some (.int .i64 v2) := fun z => by obtain ⟨ad', e, _, q⟩ := fe z; obtain rfl : ad0 = ad' := (by injection e); exact q.2.2.2.2.2.2.2.2.2.1
        have f10 : ∀ z : Qt.In Cls, z.w.cell? ⟨(ad0.add (j * 13)).block, (ad0.add (j * 13)).off + 10, none⟩ = some (.int .i64 v3) := fun z => by obtain ⟨ad', e, _, q⟩ := fe z; obtain rfl : ad0 = ad' := (by injection e); exact q.2.2.2.2.2.2.2.2.2.2.1
        have f11 : ∀ z : Qt.In Cls, z.w.cell? ⟨(ad0.add (j * 13)).block, (ad0.add (j * 13)).off + 11, none⟩ = some (.int .i64 v4) := fun z => by obtain ⟨ad', e, _, q⟩ := fe z; obtain rfl : ad0 = ad' := (by injection e); exact q.2.2.2.2.2.2.2.2.2.2.2.1
        have f12 : ∀ z : Qt.In Cls, z.w.cell? ⟨(ad0.add (j * 13)).block, (ad0.add (j * 13)).off + 12, none⟩ = some (.int .i64 v5) := fun z => by obtain ⟨ad', e, _, q⟩ := fe z; obtain rfl : ad0 = ad' := (by injection e); exact q.2.2.2.2.2.2.2.2.2.2.2.2
        have HE2c : Hid (∀ z, Cls z → Calls Tryz.prog 49 #[.agg #[.slice A rs.length c, .slice A2 zs.length c2, .slice A3 ls.length c3], .agg #[.int .i64 q0, .int .i64 q1, .int .i64 q2, .string q3, .string q4, .bool q5, .int .i64 q6, .int .i64 v0, .int .i64 v1, .int .i64 v2, .int .i64 v3, .int .i64 v4, .int .i64 v5]] z fun e z' => e = .returned (.int .i64 e2) ∧ Cls z') := fun z h => (HE2.out z (HCx.out z h).bel).mono fun e z' ⟨he, hb⟩ => ⟨he, by rw [HCe.out]; exact (HCx.out z h).step hb⟩
        clear fe HE1 HE2 HX1 HX2 HL2 HL3 HQn HEc
        rw [hl] at hq
        clear hl
        cases hd : decide (e1 ≤ e2)
        · rw [hd, if_neg (by decide)] at hq
          subst hq
          go_wp2_with (go_at_call 48; refine (HBy.out _).mono ?_; rintro e w5 ⟨rfl, rfl⟩)
          refine Qt.wp_region_cls Cls (by kernel_rfl) (by kernel_rfl) HS.out ?_
          repeat (go_big_quiet_step (fail))
          go_big_quiet_step (exact Qt.quiet_cls (HE1c.out _ (Qt.In.h _)))
          repeat (go_big_quiet_step (fail))
          go_big_quiet_step (exact Qt.quiet_cls (HE2c.out _ (Qt.In.h _)))
          repeat (go_big_quiet_step (fail))
          refine wpQuiet_nil ?_
          rintro wq ⟨⟨w9, hq9⟩, e9⟩
          have HX := Lib.hid (HCx.out wq (by rw [e9]; exact hq9))
          clear hq9 e9 gs gz ge f0 f1 f2 f3 f4 f5 f6 f7 f8 f9 f10 f11 f12
          go_wp2
          go_ret
          exact ⟨rfl, HX.out.bel⟩
        · rw [hd, if_pos rfl] at hq
          subst hq
          go_wp2_with (go_at_call 48; refine (HBy.out _).mono ?_; rintro e w5 ⟨rfl, rfl⟩)
          refine Qt.wp_region_cls Cls (by kernel_rfl) (by kernel_rfl) HS.out ?_
          repeat (go_big_quiet_step (fail))
          go_big_quiet_step (exact Qt.quiet_cls (HE1c.out _ (Qt.In.h _)))
          repeat (go_big_quiet_step (fail))
          go_big_quiet_step (exact Qt.quiet_cls (HE2c.out _ (Qt.In.h _)))
          repeat (go_big_quiet_step (fail))
          refine wpQuiet_nil ?_
          rintro wq ⟨⟨w9, hq9⟩, e9⟩
          have HX := Lib.hid (HCx.out wq (by rw [e9]; exact hq9))
          clear hq9 e9 gs gz ge f0 f1 f2 f3 f4 f5 f6 f7 f8 f9 f10 f11 f12
          go_wp2
          go_ret
          exact ⟨rfl, HX.out.bel⟩
  · have hk2b : (x1 == 2) = false := by simp [hk2]
    have hq := HQ.out
    simp only [hk2, false_and, if_false] at hq
    have HQn := Lib.hid hq.symm
    clear hq HQ HS cs ce
    have ce0 := fun i => HT.out.era.cell i
    clear hk2
    have HBy := Lib.hid (fun z => beyond_any (wrap64 (x0 + x2)) z)
    have hq := HQn.out
    have ce := fun i => HT.out.era.cell i
    generalize Rgt.dayB (wrap64 (x0 + x2)) = dB at *
    cases dB
    · rw [if_pos rfl] at hq
      subst hq
      clear HQn HL2 HL3
      go_wp2_with (go_at_call 48; refine (HBy.out _).mono ?_; rintro e w5 ⟨rfl, rfl⟩)
      go_ret
      exact ⟨rfl, HT.out.bel⟩
    rw [if_neg (by decide)] at hq
    by_cases hk0 : k = 0
    · have hLB : LB = false := by cases hh : LB with | false => rfl | true => exact absurd hk0 (HL2.out hh).1
      rw [hLB, if_neg (by decide)] at hq
      subst hq
      have hkb : decide (0 < k) = false := decide_eq_false (by omega)
      clear HQn HL2 HL3 hk0
      go_wp2_with (go_at_call 48; refine (HBy.out _).mono ?_; rintro e w5 ⟨rfl, rfl⟩)
      obtain ⟨Cls, hCls⟩ : ∃ C : World → Prop, C = Tb w #[.slice A rs.length c, .slice A2 zs.length c2, .slice A3 ls.length c3] #[.string z0, .slice (some ad0) es.length cz] #[.int .i64 x0, .int .i64 x1, .int .i64 x2, .string x3, .string x4, .bool x5, .int .i64 x6, .int .i64 y0, .int .i64 y1, .int .i64 y2, .int .i64 y3, .int .i64 y4, .int .i64 y5] := ⟨_, rfl⟩
      have hC : ∀ z, Cls z → Tb w #[.slice A rs.length c, .slice A2 zs.length c2, .slice A3 ls.length c3] #[.string z0, .slice (some ad0) es.length cz] #[.int .i64 x0, .int .i64 x1, .int .i64 x2, .string x3, .string x4, .bool x5, .int .i64 x6, .int .i64 y0, .int .i64 y1, .int .i64 y2, .int .i64 y3, .int .i64 y4, .int .i64 y5] z := fun z h => by rw [hCls] at h; exact h
      have hin : ∀ z, Tb w #[.slice A rs.length c, .slice A2 zs.length c2, .slice A3 ls.length c3] #[.string z0, .slice (some ad0) es.length cz] #[.int .i64 x0, .int .i64 x1, .int .i64 x2, .string x3, .string x4, .bool x5, .int .i64 x6, .int .i64 y0, .int .i64 y1, .int .i64 y2, .int .i64 y3, .int .i64 y4, .int .i64 y5] z → Cls z := fun z h => by rw [hCls]; exact h
      have hstart := hin _ HT.out.drew
      have inst : Nonempty (Qt.In Cls) := ⟨⟨_, hstart⟩⟩
      have gs : ∀ (z : Qt.In Cls) (i : Nat), z.w.cell? ⟨w.heap.size, i, none⟩ = #[.slice A rs.length c, .slice A2 zs.length c2, .slice A3 ls.length c3][i]? := fun z i => (hC z.w z.h).src.cell i
      have gz : ∀ (z : Qt.In Cls) (i : Nat), z.w.cell? ⟨w.heap.size + 1, i, none⟩ = #[.string z0, .slice (some ad0) es.length cz][i]? := fun z i => (hC z.w z.h).zn.cell i
      have ge : ∀ (z : Qt.In Cls) (i : Nat), z.w.cell? ⟨w.heap.size + 1 + 1, i, none⟩ = #[.int .i64 x0, .int .i64 x1, .int .i64 x2, .string x3, .string x4, .bool x5, .int .i64 x6, .int .i64 y0, .int .i64 y1, .int .i64 y2, .int .i64 y3, .int .i64 y4, .int .i64 y5][i]? := fun z i => (hC z.w z.h).era.cell i
      have HCx := Lib.hid hC; have HS := Lib.hid hstart; have HCe := Lib.hid hCls
      clear hC hstart hCls hin
      refine Qt.wp_region_cls Cls (by kernel_rfl) (by kernel_rfl) HS.out ?_
      repeat (go_big_quiet_step (fail))
      refine wpQuiet_nil ?_
      rintro wq ⟨⟨w9, hq9⟩, e9⟩
      have HX := Lib.hid (HCx.out wq (by rw [e9]; exact hq9))
      clear hq9 e9 gs gz ge
      go_wp2
      go_ret
      exact ⟨rfl, HX.out.bel⟩
    have hkp : 0 < k := by omega
    cases x5
    · have hLB : LB = false := by cases hh : LB with | false => rfl | true => exact absurd (HL2.out hh).2 (by decide)
      rw [hLB, if_neg (by decide)] at hq
      subst hq
      clear HQn HL2 HL3
      go_wp2_with (go_at_call 48; refine (HBy.out _).mono ?_; rintro e w5 ⟨rfl, rfl⟩)
      obtain ⟨Cls, hCls⟩ : ∃ C : World → Prop, C = Tb w #[.slice A rs.length c, .slice A2 zs.length c2, .slice A3 ls.length c3] #[.string z0, .slice (some ad0) es.length cz] #[.int .i64 x0, .int .i64 x1, .int .i64 x2, .string x3, .string x4, .bool false, .int .i64 x6, .int .i64 y0, .int .i64 y1, .int .i64 y2, .int .i64 y3, .int .i64 y4, .int .i64 y5] := ⟨_, rfl⟩
      have hC : ∀ z, Cls z → Tb w #[.slice A rs.length c, .slice A2 zs.length c2, .slice A3 ls.length c3] #[.string z0, .slice (some ad0) es.length cz] #[.int .i64 x0, .int .i64 x1, .int .i64 x2, .string x3, .string x4, .bool false, .int .i64 x6, .int .i64 y0, .int .i64 y1, .int .i64 y2, .int .i64 y3, .int .i64 y4, .int .i64 y5] z := fun z h => by rw [hCls] at h; exact h
      have hin : ∀ z, Tb w #[.slice A rs.length c, .slice A2 zs.length c2, .slice A3 ls.length c3] #[.string z0, .slice (some ad0) es.length cz] #[.int .i64 x0, .int .i64 x1, .int .i64 x2, .string x3, .string x4, .bool false, .int .i64 x6, .int .i64 y0, .int .i64 y1, .int .i64 y2, .int .i64 y3, .int .i64 y4, .int .i64 y5] z → Cls z := fun z h => by rw [hCls]; exact h
      have hstart := hin _ HT.out.drew
      have inst : Nonempty (Qt.In Cls) := ⟨⟨_, hstart⟩⟩
      have gs : ∀ (z : Qt.In Cls) (i : Nat), z.w.cell? ⟨w.heap.size, i, none⟩ = #[.slice A rs.length c, .slice A2 zs.length c2, .slice A3 ls.length c3][i]? := fun z i => (hC z.w z.h).src.cell i
      have gz : ∀ (z : Qt.In Cls) (i : Nat), z.w.cell? ⟨w.heap.size + 1, i, none⟩ = #[.string z0, .slice (some ad0) es.length cz][i]? := fun z i => (hC z.w z.h).zn.cell i
      have ge : ∀ (z : Qt.In Cls) (i : Nat), z.w.cell? ⟨w.heap.size + 1 + 1, i, none⟩ = #[.int .i64 x0, .int .i64 x1, .int .i64 x2, .string x3, .string x4, .bool false, .int .i64 x6, .int .i64 y0, .int .i64 y1, .int .i64 y2, .int .i64 y3, .int .i64 y4, .int .i64 y5][i]? := fun z i => (hC z.w z.h).era.cell i
      have HCx := Lib.hid hC; have HS := Lib.hid hstart; have HCe := Lib.hid hCls
      clear hC hstart hCls hin
      refine Qt.wp_region_cls Cls (by kernel_rfl) (by kernel_rfl) HS.out ?_
      repeat (go_big_quiet_step (fail))
      refine wpQuiet_nil ?_
      rintro wq ⟨⟨w9, hq9⟩, e9⟩
      have HX := Lib.hid (HCx.out wq (by rw [e9]; exact hq9))
      clear hq9 e9 gs gz ge
      go_wp2
      go_ret
      exact ⟨rfl, HX.out.bel⟩
    obtain ⟨j, rfl⟩ : ∃ j, k = j + 1 := ⟨k - 1, by omega⟩
    have hj : j < es.length := by omega
    have hw1 : wrap64 (((j + 1 : Nat) : Int) - 1) = (j : Int) := by unfold wrap64; omega
    have hl := HL3.out j hj rfl rfl
    have HE1 := Lib.hid (HX1.out rfl)
    have HE2 := Lib.hid (HX2.out j hj rfl)
    generalize endI (es[j]'hj) (sv (es[j]'hj)) = e2 at *
    generalize endI ⟨x0, x1, x2, x3, x4, true, x6, ⟨y0, y1, y2, y3, y4, y5⟩⟩ (sv ⟨x0, x1, x2, x3, x4, true, x6, ⟨y0, y1, y2, y3, y4, y5⟩⟩) = e1 at *
    obtain ⟨Cls, hCls⟩ : ∃ C : World → Prop, C = Tb w #[.slice A rs.length c, .slice A2 zs.length c2, .slice A3 ls.length c3] #[.string z0, .slice (some ad0) es.length cz] #[.int .i64 x0, .int .i64 x1, .int .i64 x2, .string x3, .string x4, .bool true, .int .i64 x6, .int .i64 y0, .int .i64 y1, .int .i64 y2, .int .i64 y3, .int .i64 y4, .int .i64 y5] := ⟨_, rfl⟩
    have hC : ∀ z, Cls z → Tb w #[.slice A rs.length c, .slice A2 zs.length c2, .slice A3 ls.length c3] #[.string z0, .slice (some ad0) es.length cz] #[.int .i64 x0, .int .i64 x1, .int .i64 x2, .string x3, .string x4, .bool true, .int .i64 x6, .int .i64 y0, .int .i64 y1, .int .i64 y2, .int .i64 y3, .int .i64 y4, .int .i64 y5] z := fun z h => by rw [hCls] at h; exact h
    have hin : ∀ z, Tb w #[.slice A rs.length c, .slice A2 zs.length c2, .slice A3 ls.length c3] #[.string z0, .slice (some ad0) es.length cz] #[.int .i64 x0, .int .i64 x1, .int .i64 x2, .string x3, .string x4, .bool true, .int .i64 x6, .int .i64 y0, .int .i64 y1, .int .i64 y2, .int .i64 y3, .int .i64 y4, .int .i64 y5] z → Cls z := fun z h => by rw [hCls]; exact h
    have hstart := hin _ HT.out.drew
    have inst : Nonempty (Qt.In Cls) := ⟨⟨_, hstart⟩⟩
    have gs : ∀ (z : Qt.In Cls) (i : Nat), z.w.cell? ⟨w.heap.size, i, none⟩ = #[.slice A rs.length c, .slice A2 zs.length c2, .slice A3 ls.length c3][i]? := fun z i => (hC z.w z.h).src.cell i
    have gz : ∀ (z : Qt.In Cls) (i : Nat), z.w.cell? ⟨w.heap.size + 1, i, none⟩ = #[.string z0, .slice (some ad0) es.length cz][i]? := fun z i => (hC z.w z.h).zn.cell i
    have ge : ∀ (z : Qt.In Cls) (i : Nat), z.w.cell? ⟨w.heap.size + 1 + 1, i, none⟩ = #[.int .i64 x0, .int .i64 x1, .int .i64 x2, .string x3, .string x4, .bool true, .int .i64 x6, .int .i64 y0, .int .i64 y1, .int .i64 y2, .int .i64 y3, .int .i64 y4, .int .i64 y5][i]? := fun z i => (hC z.w z.h).era.cell i
    have HCx := Lib.hid hC; have HS := Lib.hid hstart; have HCe := Lib.hid hCls
    clear hC hstart hCls hin
    have HE1c : Hid (∀ z, Cls z → Calls Tryz.prog 49 #[.agg #[.slice A rs.length c, .slice A2 zs.length c2, .slice A3 ls.length c3], .agg #[.int .i64 x0, .int .i64 x1, .int .i64 x2, .string x3, .string x4, .bool true, .int .i64 x6, .int .i64 y0, .int .i64 y1, .int .i64 y2, .int .i64 y3, .int .i64 y4, .int .i64 y5]] z fun e z' => e = .returned (.int .i64 e1) ∧ Cls z') := fun z h => (HE1.out z (HCx.out z h).bel).mono fun e z' ⟨he, hb⟩ => ⟨he, by rw [HCe.out]; exact (HCx.out z h).step hb⟩
    have fe := fun (z : Qt.In Cls) => HEc.out z.w (HCx.out z.w z.h).bel j hj
    obtain ⟨y, hy⟩ : ∃ y, y = es[j]'hj := ⟨_, rfl⟩
    simp only [← hy] at fe HE2
    clear hy
    obtain ⟨q0, q1, q2, q3, q4, q5, q6, ⟨v0, v1, v2, v3, v4, v5⟩⟩ := y
    simp only [Era.cells] at fe HE2
    have f0 : ∀ z : Qt.In Cls, z.w.cell? (ad0.add (j * 13)) = some (.int .i64 q0) := fun z => by obtain ⟨ad', e, _, q⟩ := fe z; obtain rfl : ad0 = ad' := (by injection e); exact q.1
    have f1 : ∀ z : Qt.In Cls, z.w.cell? ⟨(ad0.add (j * 13)).block, (ad0.add (j * 13)).off + 1, none⟩ = some (.int .i64 q1) := fun z => by obtain ⟨ad', e, _, q⟩ := fe z; obtain rfl : ad0 = ad' := (by injection e); exact q.2.1
    have f2 : ∀ z : Qt.In Cls, z.w.cell? ⟨(ad0.add (j * 13)).block, (ad0.add (j * 13)).off + 2, none⟩ = some (.int .i64 q2) := fun z => by obtain ⟨ad', e, _, q⟩ := fe z; obtain rfl : ad0 = ad' := (by injection e); exact q.2.2.1
    have f3 : ∀ z : Qt.In Cls, z.w.cell? ⟨(ad0.add (j * 13)).block, (ad0.add (j * 13)).off + 3, none⟩ = some (.string q3) := fun z => by obtain ⟨ad', e, _, q⟩ := fe z; obtain rfl : ad0 = ad' := (by injection e); exact q.2.2.2.1
    have f4 : ∀ z : Qt.In Cls, z.w.cell? ⟨(ad0.add (j * 13)).block, (ad0.add (j * 13)).off + 4, none⟩ = some (.string q4) := fun z => by obtain ⟨ad', e, _, q⟩ := fe z; obtain rfl : ad0 = ad' := (by injection e); exact q.2.2.2.2.1
    have f5 : ∀ z : Qt.In Cls, z.w.cell? ⟨(ad0.add (j * 13)).block, (ad0.add (j * 13)).off + 5, none⟩ = some (.bool q5) := fun z => by obtain ⟨ad', e, _, q⟩ := fe z; obtain rfl : ad0 = ad' := (by injection e); exact q.2.2.2.2.2.1
    have f6 : ∀ z : Qt.In Cls, z.w.cell? ⟨(ad0.add (j * 13)).block, (ad0.add (j * 13)).off + 6, none⟩ = some (.int .i64 q6) := fun z => by obtain ⟨ad', e, _, q⟩ := fe z; obtain rfl : ad0 = ad' := (by injection e); exact q.2.2.2.2.2.2.1
    have f7 : ∀ z : Qt.In Cls, z.w.cell? ⟨(ad0.add (j * 13)).block, (ad0.add (j * 13)).off + 7, none⟩ = some (.int .i64 v0) := fun z => by obtain ⟨ad', e, _, q⟩ := fe z; obtain rfl : ad0 = ad' := (by injection e); exact q.2.2.2.2.2.2.2.1
    have f8 : ∀ z : Qt.In Cls, z.w.cell? ⟨(ad0.add (j * 13)).block, (ad0.add (j * 13)).off + 8, none⟩ = some (.int .i64 v1) := fun z => by obtain ⟨ad', e, _, q⟩ := fe z; obtain rfl : ad0 = ad' := (by injection e); exact q.2.2.2.2.2.2.2.2.1
    have f9 : ∀ z : Qt.In Cls, z.w.cell? ⟨(ad0.add (j * 13)).block, (ad0.add (j * 13)).off + 9, none⟩ = some (.int .i64 v2) := fun z => by obtain ⟨ad', e, _, q⟩ := fe z; obtain rfl : ad0 = ad' := (by injection e); exact q.2.2.2.2.2.2.2.2.2.1
    have f10 : ∀ z : Qt.In Cls, z.w.cell? ⟨(ad0.add (j * 13)).block, (ad0.add (j * 13)).off + 10, none⟩ = some (.int .i64 v3) := fun z => by obtain ⟨ad', e, _, q⟩ := fe z; obtain rfl : ad0 = ad' := (by injection e); exact q.2.2.2.2.2.2.2.2.2.2.1
    have f11 : ∀ z : Qt.In Cls, z.w.cell? ⟨(ad0.add (j * 13)).block, (ad0.add (j * 13)).off + 11, none⟩ = some (.int .i64 v4) := fun z => by obtain ⟨ad', e, _, q⟩ := fe z; obtain rfl : ad0 = ad' := (by injection e); exact q.2.2.2.2.2.2.2.2.2.2.2.1
    have f12 : ∀ z : Qt.In Cls, z.w.cell? ⟨(ad0.add (j * 13)).block, (ad0.add (j * 13)).off + 12, none⟩ = some (.int .i64 v5) := fun z => by obtain ⟨ad', e, _, q⟩ := fe z; obtain rfl : ad0 = ad' := (by injection e); exact q.2.2.2.2.2.2.2.2.2.2.2.2
    have HE2c : Hid (∀ z, Cls z → Calls Tryz.prog 49 #[.agg #[.slice A rs.length c, .slice A2 zs.length c2, .slice A3 ls.length c3], .agg #[.int .i64 q0, .int .i64 q1, .int .i64 q2, .string q3, .string q4, .bool q5, .int .i64 q6, .int .i64 v0, .int .i64 v1, .int .i64 v2, .int .i64 v3, .int .i64 v4, .int .i64 v5]] z fun e z' => e = .returned (.int .i64 e2) ∧ Cls z') := fun z h => (HE2.out z (HCx.out z h).bel).mono fun e z' ⟨he, hb⟩ => ⟨he, by rw [HCe.out]; exact (HCx.out z h).step hb⟩
    clear fe HE1 HE2 HX1 HX2 HL2 HL3 HQn HEc
    rw [hl] at hq
    clear hl
    cases hd : decide (e1 ≤ e2)
    · rw [hd, if_neg (by decide)] at hq
      subst hq
      go_wp2_with (go_at_call 48; refine (HBy.out _).mono ?_; rintro e w5 ⟨rfl, rfl⟩)
      refine Qt.wp_region_cls Cls (by kernel_rfl) (by kernel_rfl) HS.out ?_
      repeat (go_big_quiet_step (fail))
      go_big_quiet_step (exact Qt.quiet_cls (HE1c.out _ (Qt.In.h _)))
      repeat (go_big_quiet_step (fail))
      go_big_quiet_step (exact Qt.quiet_cls (HE2c.out _ (Qt.In.h _)))
      repeat (go_big_quiet_step (fail))
      refine wpQuiet_nil ?_
      rintro wq ⟨⟨w9, hq9⟩, e9⟩
      have HX := Lib.hid (HCx.out wq (by rw [e9]; exact hq9))
      clear hq9 e9 gs gz ge f0 f1 f2 f3 f4 f5 f6 f7 f8 f9 f10 f11 f12
      go_wp2
      go_ret
      exact ⟨rfl, HX.out.bel⟩
    · rw [hd, if_pos rfl] at hq
      subst hq
      go_wp2_with (go_at_call 48; refine (HBy.out _).mono ?_; rintro e w5 ⟨rfl, rfl⟩)
      refine Qt.wp_region_cls Cls (by kernel_rfl) (by kernel_rfl) HS.out ?_
      repeat (go_big_quiet_step (fail))
      go_big_quiet_step (exact Qt.quiet_cls (HE1c.out _ (Qt.In.h _)))
      repeat (go_big_quiet_step (fail))
      go_big_quiet_step (exact Qt.quiet_cls (HE2c.out _ (Qt.In.h _)))
      repeat (go_big_quiet_step (fail))
      refine wpQuiet_nil ?_
      rintro wq ⟨⟨w9, hq9⟩, e9⟩
      have HX := Lib.hid (HCx.out wq (by rw [e9]; exact hq9))
      clear hq9 e9 gs gz ge f0 f1 f2 f3 f4 f5 f6 f7 f8 f9 f10 f11 f12
      go_wp2
      go_ret
      exact ⟨rfl, HX.out.bel⟩
end Go.Proofs.YtgfdmjldfahbpaaGreatDoor.Snd
