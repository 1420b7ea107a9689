/-
  The walk of the law TableAlone. Conditions: the cell of bytealg.MaxLen holds a number; what the source's slices hold is read, the lengths are bounded.
-/
import Derived.Test.YtdicedpklpadgaaGreatDoorZ37
import Derived.Test.YtdicedpklpadgaaGreatDoorZ38
import Derived.Test.YtdicedpklpadgaaGreatDoorQAln
set_option linter.all false
namespace Go.Proofs.YtdicedpklpadgaaGreatDoor.Lw14
open Go.RowKit Mem Civ Mom Img Plc Rul Ahd Trn Src Snd Att Rgt Abr Cmq

/-- What TableAlone's frame holds in memory: the source's box, the zone alone, the part's box; all from a world on. -/
structure Pa (w U : World) (cs zc : Array Value) (v : Value) (W : World) : Prop where
  src : Blk W w.heap.size 26 cs
  zn : Blk W U.heap.size 49 zc
  x : Blk W (U.heap.size + 1) 26 #[v, .slice (some ⟨U.heap.size, 0, none⟩) 1 1, .slice none 0 0]
  bel : Below w.heap.size w W
  bel2 : Below U.heap.size U W
  lt : w.heap.size < U.heap.size
theorem Pa.step {w U W W' : World} {cs zc : Array Value} {v : Value} (h : Pa w U cs zc v W) (hb : Below W.heap.size W W') : Pa w U cs zc v W' :=
  ⟨h.src.below hb h.src.lt, h.zn.below hb h.zn.lt, h.x.below hb h.x.lt, h.bel.trans (hb.mono h.bel.size), h.bel2.trans (hb.mono h.bel2.size), h.lt⟩
theorem Pa.grown {w U W W' : World} {cs zc : Array Value} {v : Value} {r : Option Nat} (h : Pa w U cs zc v W) (hg : W.grownBy W' r) (hr : ∀ k, r = some k → U.heap.size + 2 ≤ k) : Pa w U cs zc v W' :=
  ⟨h.src.grown hg (fun e => by have := hr _ e.symm; have := h.lt; omega), h.zn.grown hg (fun e => by have := hr _ e.symm; omega), h.x.grown hg (fun e => by have := hr _ e.symm; omega), h.bel.grown hg h.bel.size (fun k e => by have := hr _ e; have := h.lt; omega), h.bel2.grown hg h.bel2.size (fun k e => by have := hr _ e; omega), h.lt⟩
theorem Pa.alloc {w U W : World} {cs zc : Array Value} {v : Value} (h : Pa w U cs zc v W) (o : Obj) : Pa w U cs zc v (W.alloc o) := h.grown (World.grownBy_alloc W o none) (fun k e => by cases e)
theorem Pa.drewN {w U W : World} {cs zc : Array Value} {v : Value} (h : Pa w U cs zc v W) (n : Nat) : Pa w U cs zc v (W.drewN n) := ⟨h.src.drewN n, h.zn.drewN n, h.x.drewN n, below_dr h.bel, below_dr h.bel2, h.lt⟩
theorem Pa.drew {w U W : World} {cs zc : Array Value} {v : Value} (h : Pa w U cs zc v W) : Pa w U cs zc v W.drew := h.drewN 1
theorem Pa.set {w U W : World} {cs zc : Array Value} {v : Value} (h : Pa w U cs zc v W) (v' : Value) : Pa w U cs zc v' (W.setCell ⟨U.heap.size + 1, 0, none⟩ v') := by
  have hx := h.x.set_ 0 v'
  simp only [List.setIfInBounds_toArray, List.set_cons_zero] at hx
  exact ⟨h.src.far (by have := h.lt; simp; omega) _, h.zn.far (by simp) _, hx, h.bel.setCell (by have := h.lt; simp; omega) _, h.bel2.setCell (by simp) _, h.lt⟩
theorem Pa.start {w U : World} {cs : Array Value} (ho : Civ.One w w.heap.size 26 cs U) (zc : Array Value) :
    Pa w U cs zc (.slice none 0 0) ((U.alloc (.cells zc 49)).alloc (.cells #[.slice none 0 0, .slice (some ⟨U.heap.size, 0, none⟩) 1 1, .slice none 0 0] 26)) := by
  obtain ⟨h1, h2, h3, _⟩ := box2 U 49 26 zc #[.slice none 0 0, .slice (some ⟨U.heap.size, 0, none⟩) 1 1, .slice none 0 0]
  exact ⟨ho.1.below h3 ho.1.lt, h1, h2, ho.2.trans (h3.mono ho.2.size), h3, ho.1.lt⟩
theorem yrs_sub {rs rs' : List Rule} (h : YrsP rs) (hs : ∀ r ∈ rs', r ∈ rs) : YrsP rs' := by
  obtain ⟨lo, hi, h1, h2⟩ := h
  exact ⟨lo, hi, h1, fun r hr => h2 r (hs r hr)⟩
theorem used_step {z : ZoneM} {rs : List Rule} {k : Nat} (hk : k < rs.length) : (rs.take (k + 1)).filter (usedB z) = if usedB z rs[k] = true then (rs.take k).filter (usedB z) ++ [rs[k]] else (rs.take k).filter (usedB z) := by
  rw [List.take_succ_eq_append_getElem hk, List.filter_append]
  split
  · next h => simp [h]
  · next h => simp [h]
theorem rules_step {es : List Era} {nm : ByteArray} {j : Nat} (hj : j < es.length) : (es.take (j + 1)).any (fun x => decide (x.rules = nm)) = ((es.take j).any (fun x => decide (x.rules = nm)) || decide (es[j].rules = nm)) := by
  rw [List.take_succ_eq_append_getElem hj, List.any_append]
  simp
theorem part_ok {s : Src} {A A2 A3 : Option Addr} {w U W : World} {zn : ZoneM} {A' : Option Addr} {base c' : Nat} {cs : Array Value} {v : Value} (h : SrcOk s A A2 A3 w) (hz : zn ∈ s.zones)
    (hp : Pa w U cs zn.cells.toArray v W) (hown : W.ownsRow base 59 11 (.slice A' (partS s zn).rules.length c') (partS s zn).rules.length ((partS s zn).rules.flatMap Rule.cells)) :
    SrcOk (partS s zn) A' (some ⟨U.heap.size, 0, none⟩) none W where
  rr := Reads.of_own hown
  rz := Cmq.reads_blk hp.zn rfl (show 1 ≤ maxLen by decide)
  rl := Reads.none_
  re := fun z hm => by
    obtain rfl : z = zn := by simpa [partS] using hm
    exact ((h.re z hz).below hp.bel).more hp.bel.size
  nr := Nat.le_trans (List.length_filter_le _ _) h.nr
  nz := by simp [partS]
  nl := by simp [partS]
  ne := fun z hm => by
    obtain rfl : z = zn := by simpa [partS] using hm
    exact h.ne z hz
  tr := fun r hr => h.tr r (List.mem_filter.1 hr).1
  tz := fun z hm => by
    obtain rfl : z = zn := by simpa [partS] using hm
    exact h.tz z hz
  te := fun z hm => by
    obtain rfl : z = zn := by simpa [partS] using hm
    exact h.te z hz
  tl := fun l hl => by cases hl
set_option maxHeartbeats 4000000 in
set_option maxRecDepth 100000 in
theorem alone (s : Src) (A A2 A3 : Option Addr) (c c2 c3 : Nat) (n : Int) (m : Int) (w : World) (h : SrcOk s A A2 A3 w) (hm : w.cell? ⟨0, 0, none⟩ = some (.int .i64 m)) (_ : In64 n) :
    Calls Tryz.prog 8 #[.agg #[.slice A s.rules.length c, .slice A2 s.zones.length c2, .slice A3 s.links.length c3], .int .i64 n] w fun e w' => e = .returned (.bool true) ∧ Below w.heap.size w w' := by
  have HA := Lib.hid (fun z (hb : Below w.heap.size w z) => Cmq.alive_any m z (cell_later hb hm))
  have HG := Lib.hid (fun z (hb : Below w.heap.size w z) => light_yrs s A A2 A3 c c2 c3 z (h.below hb))
  have hC := fun (hy : checkB s = noFlaw → YrsP s.rules) z (hb : Below w.heap.size w z) => compile_read s A A2 A3 c c2 c3 m n z (h.below hb) (cell_later hb hm) hy
  have hnz := h.nz; have hnr := h.nr
  have hone := Civ.One.new w 26 #[.slice A s.rules.length c, .slice A2 s.zones.length c2, .slice A3 s.links.length c3]
  obtain ⟨W, hW⟩ : ∃ W, w.alloc (.cells #[.slice A s.rules.length c, .slice A2 s.zones.length c2, .slice A3 s.links.length c3] 26) = W := ⟨_, rfl⟩
  rw [hW] at hone
  have HO := Lib.hid hone
  have c0 := fun i => hone.1.cell i
  clear hone
  by_cases hcond : checkB s = noFlaw ∧ 0 ≤ n ∧ n < s.zones.length
  rotate_left
  · rw [compileP_no hcond] at hC
    have HC := Lib.hid hC
    clear hC h hm hcond
    go_enter Tryz.func8, Tryz.ntmps8
    go_wp2_with (first
      | (go_at_call 20; refine (HG.out _ HO.out.2).mono ?_; rintro e w1 ⟨lb, rfl, hlp, hb⟩; have ho := HO.out.step hb; have c1 := fun i => ho.1.cell i; have HO1 := Lib.hid ho; have HLp := Lib.hid hlp; clear hb ho hlp c0; cases lb)
      | (go_at_call 11; refine (HC.out (HLp.out (by trivial)) _ HO1.out.2).mono ?_; rintro e w2 ⟨Ax, cx, Ay, cy, rfl, hok, hb⟩; simp only [tabCells]; have HO2 := Lib.hid ((HO1.out.step hb).2.alloc (HO1.out.step hb).2.size (.cells (tabCells noTable Ax cx Ay cy) 33)); simp only [tabCells] at HO2; clear hb c1 hok)
      | (go_at_call 10; refine (HA.out _ HO1.out.2).mono ?_; rintro e w3 ⟨rfl, hb⟩; have HO3 := Lib.hid (HO1.out.step hb).2; clear hb)
      | (go_at_call 10; refine (HA.out _ HO2.out).mono ?_; rintro e w3 ⟨rfl, hb⟩; have HO3 := Lib.hid (HO2.out.trans (hb.mono HO2.out.size)); clear hb))
    all_goals go_ret
    all_goals exact ⟨rfl, HO3.out⟩
  · obtain ⟨hclean, hn0, hnl⟩ := hcond
    obtain ⟨q, rfl⟩ : ∃ q : Nat, n = q := ⟨n.toNat, by omega⟩
    have hql : q < s.zones.length := by omega
    have hnlN : decide (s.zones.length ≤ q) = false := decide_eq_false (by omega)
    obtain ⟨i1, hi1, hy0, hy1, hy2⟩ := info_parts info_rule
    have hZc := fun z (hb : Below w.heap.size w z) => zone_cells (h.rz.below hb) hql rfl
    obtain ⟨zn, hzn⟩ : ∃ z, z = s.zones[q]'hql := ⟨_, rfl⟩
    have hmem : zn ∈ s.zones := by rw [hzn]; exact List.getElem_mem hql
    have hz? : s.zones[q]? = some zn := by rw [hzn]; exact List.getElem?_eq_getElem hql
    rw [← hzn] at hZc
    have HZc := Lib.hid hZc
    have hcp := compile_part hclean hz?
    obtain ⟨T, hT⟩ : ∃ T, compileP s q = T := ⟨_, rfl⟩
    rw [hT] at hC hcp
    have hT2 : checkB s = noFlaw → YrsP s.rules → T.2 = 0 := fun h1 h2 => by
      obtain ⟨z, _, _, e, _⟩ := compile_case (i := (q : Int)) h2 h1 (by omega) (by omega)
      rw [← hT, e]
    have hPok := fun U W A' base c' cs v hp hown => @part_ok s A A2 A3 w U W zn A' base c' cs v h hmem hp hown
    have hYp : YrsP s.rules → YrsP (partS s zn).rules := fun hy => yrs_sub hy fun r hr => (List.mem_filter.1 hr).1
    clear hZc hzn hz? hT
    have HRc := Lib.hid (fun z (hb : Below w.heap.size w z) k hk => rule_cells (k := k) (h.rr.below hb) hk)
    have HEc := Lib.hid (fun z (hb : Below w.heap.size w z) j hj => era_cells (k := j) ((h.re _ hmem).below hb) hj rfl)
    have hne := h.ne _ hmem
    have HM := Lib.hid hm
    have HCl := Lib.hid hclean
    clear h hmem hm hn0 hnl hclean
    obtain ⟨z0, es, Az, cz⟩ := zn
    obtain ⟨T, err⟩ := T
    simp only at hC hT2
    have HC := Lib.hid hC; have HT2 := Lib.hid hT2; have HYp := Lib.hid hYp; have Hcp := Lib.hid hcp
    have HPok := Lib.hid hPok
    clear hPok hC hT2 hYp hcp
    simp only [ZoneM.cells] at HZc HEc HPok hne
    go_enter Tryz.func8, Tryz.ntmps8
    go_wp2_with (first
      | (go_at_call 20; refine (HG.out _ HO.out.2).mono ?_; rintro e w1 ⟨lb, rfl, hlp, hb⟩; have ho := HO.out.step hb; have c1 := fun i => ho.1.cell i; have HO1 := Lib.hid ho; have HLp := Lib.hid hlp; clear hb ho hlp c0; cases lb)
      | (go_at_call 11; have hye := HLp.out (by trivial); have he0 := HT2.out HCl.out (hye HCl.out); subst he0; refine (HC.out hye _ HO1.out.2).mono ?_; rintro e w2 ⟨Ax, cx, Ay, cy, rfl, hok, hb⟩; have hox := (HO1.out.step hb); have HX := Lib.hid (Blk.new w2 33 (tabCells T Ax cx Ay cy)); have hoy := hox.step ((Below.refl _ _).alloc (Nat.le_refl _) (.cells (tabCells T Ax cx Ay cy) 33)); have HO2 := Lib.hid hoy; have HOk := Lib.hid (hok.below ((Below.refl _ _).alloc (Nat.le_refl _) (.cells (tabCells T Ax cx Ay cy) 33))); have hye2 := HYp.out (hye HCl.out); have HY2 := Lib.hid hye2; obtain ⟨az, hAz, _, q0, q1⟩ := HZc.out _ hoy.2; subst hAz; have c2 := fun i => hoy.1.cell i; simp only [tabCells] at HX HO2 HOk c2 q0 q1 ⊢; clear hb hox hoy hok hye hye2 c1)
      | (go_at_call 10; refine (HA.out _ HO1.out.2).mono ?_; rintro e w3 ⟨rfl, hb⟩; have HO3 := Lib.hid (HO1.out.step hb).2; clear hb))
    · go_ret
      exact ⟨rfl, HO3.out⟩
    obtain ⟨U, hU⟩ : ∃ U, w2.alloc (.cells #[.string T.name, .int .i64 T.first.off, .int .i64 T.first.save, .string T.first.abbr, .slice Ax T.shifts.length cx, .int .i64 T.till, .slice Ay T.tail.length cy, .int .i64 T.off, .string T.format] 33) = U := ⟨_, rfl⟩
    have hpt := Pa.start HO2.out #[.string z0, .slice Az es.length cz]
    rw [hU] at hpt
    have HOkU := HOk; have HXU := HX
    rw [hU] at HOkU HXU
    have hUs : w2.heap.size + 1 = U.heap.size := by rw [← hU]; simp
    simp only [hU, hUs]
    have hWs : ((U.alloc (.cells #[.string z0, .slice Az es.length cz] 49)).alloc (.cells #[.slice none 0 0, .slice (some ⟨U.heap.size, 0, none⟩) 1 1, .slice none 0 0] 26)).heap.size = U.heap.size + 2 := by simp
    obtain ⟨W3, hW3⟩ : ∃ W3, (U.alloc (.cells #[.string z0, .slice Az es.length cz] 49)).alloc (.cells #[.slice none 0 0, .slice (some ⟨U.heap.size, 0, none⟩) 1 1, .slice none 0 0] 26) = W3 := ⟨_, rfl⟩
    rw [hW3] at hpt hWs ⊢
    have HP0 := Lib.hid hpt; have HWs := Lib.hid hWs
    have hxl := HXU.out.lt
    clear hpt hWs hW3 hU hUs c2 q0 q1 HO HO1 HO2 HC HG HX HOk
    obtain ⟨F, hF⟩ : ∃ F : Nat → List Rule, F = fun k => (s.rules.take k).filter (usedB ⟨z0, es, Az, cz⟩) := ⟨_, rfl⟩
    have hF0 : F 0 = [] := by rw [hF]; rfl
    have hFs : ∀ k (hk : k < s.rules.length), F (k + 1) = if es.any (fun x => decide (x.rules = (s.rules[k]'hk).name)) = true then F k ++ [s.rules[k]'hk] else F k := fun k hk => by rw [hF]; exact used_step hk
    have hFl : ∀ k, (F k).length ≤ k := fun k => by rw [hF]; exact Nat.le_trans (List.length_filter_le _ _) (List.length_take_le _ _)
    have hFe : F s.rules.length = (partS s ⟨z0, es, Az, cz⟩).rules := by rw [hF]; simp only [List.take_length]; rfl
    have HF0 := Lib.hid hF0; have HFs := Lib.hid hFs; have HFl := Lib.hid hFl; have HFe := Lib.hid hFe
    clear hF hF0 hFs hFl hFe hnlN
    go_loopw [8] (fun i wr => ∃ (k : Nat) (v : Value), k ≤ s.rules.length ∧ i = .int .i64 k ∧ Pa w U #[.slice A s.rules.length c, .slice (some az) s.zones.length c2, .slice A3 s.links.length c3] #[.string z0, .slice Az es.length cz] v wr ∧ wr.ownsRow (U.heap.size + 2) 59 11 v (F k).length ((F k).flatMap Rule.cells)) (fun i _ => s.rules.length - (intOf i).toNat)
    case atStart => exact ⟨0, _, Nat.zero_le _, rfl, HP0.out, by rw [HF0.out]; exact World.ownsRow_nil _ _ _ _⟩
    case round =>
      clear HP0
      obtain ⟨k, v, hk, rfl, hp, hown⟩ := hrel
      have HP := Lib.hid hp; have HOw := Lib.hid hown
      have cS := fun i => hp.src.cell i
      clear hp hown
      by_cases hkn : k < s.rules.length
      · obtain ⟨ad, hA, hadb, a0, a1, a2, a3, a4, a5, a6, a7, a8, a9, a10⟩ := HRc.out _ HP.out.bel k hkn
        subst hA
        have hfs := HFs.out k hkn
        have hfl := HFl.out k
        obtain ⟨r, hr⟩ : ∃ r, r = s.rules[k]'hkn := ⟨_, rfl⟩
        simp only [← hr] at a0 a1 a2 a3 a4 a5 a6 a7 a8 a9 a10 hfs
        have HRw := Lib.hid (fun z (hb : Below w.heap.size w z) => HRc.out z hb k hkn)
        rw [← hr] at HRw
        have Hfs := Lib.hid hfs
        clear hr hfs a0 a1 a2 a3 a4 a5 a6 a7 a8 a9 a10
        obtain ⟨r0, r1, r2, r3, r4, r5, r6, r7, r8, r9, r10⟩ := r
        simp only at Hfs HRw
        obtain ⟨G, hG⟩ : ∃ G : Nat → Bool, G = fun j => (es.take j).any fun x => decide (x.rules = r0) := ⟨_, rfl⟩
        have hG0 : G 0 = false := by rw [hG]; rfl
        have hGs : ∀ j (hj : j < es.length), G (j + 1) = (G j || decide ((es[j]'hj).rules = r0)) := fun j hj => by rw [hG]; exact rules_step hj
        have hGe : G es.length = es.any fun x => decide (x.rules = r0) := by rw [hG]; simp only [List.take_length]
        rw [← hGe] at Hfs
        have HG0 := Lib.hid hG0; have HGs := Lib.hid hGs
        clear hG hG0 hGs hGe
        go_wp2
        go_loopw [9, 10] (fun u j wz => ∃ (j' nd : Nat), j' ≤ es.length ∧ j = .int .i64 j' ∧ u = .bool (G j') ∧ wz = wr.drewN nd) (fun _ j _ => es.length - (intOf j).toNat)
        case atStart => exact ⟨0, 0, Nat.zero_le _, rfl, by rw [HG0.out], rfl⟩
        case round =>
          clear cS
          obtain ⟨j, nd, hj, rfl, rfl, rfl⟩ := hrel
          obtain ⟨az', haz, _, q0, q1⟩ := HZc.out _ (HP.out.drewN nd).bel
          obtain rfl : az = az' := by injection haz
          have cS := fun i => (HP.out.drewN nd).src.cell i
          by_cases hjn : j < es.length
          · obtain ⟨ae, hAe, _, _⟩ := HEc.out _ (HP.out.drewN nd).bel j hjn
            subst hAe
            obtain ⟨Cls, hCls⟩ : ∃ C : World → Prop, C = fun z => ∃ nd, z = wr.drewN nd := ⟨_, rfl⟩
            have hst : Cls (wr.drewN nd).drew := by rw [hCls]; exact ⟨nd + 1, rfl⟩
            have hC : ∀ z, Cls z → ∃ nd, z = wr.drewN nd := fun z h => by rw [hCls] at h; exact h
            have inst : Nonempty (Qt.In Cls) := ⟨⟨_, hst⟩⟩
            have hbel : ∀ z : Qt.In Cls, Below w.heap.size w z.w := fun z => by
              obtain ⟨n, e⟩ := hC z.w z.h
              rw [e]; exact (HP.out.drewN n).bel
            have gs : ∀ (z : Qt.In Cls) (i : Nat), z.w.cell? ⟨w.heap.size, i, none⟩ = #[.slice (some ad) s.rules.length c, .slice (some az) s.zones.length c2, .slice A3 s.links.length c3][i]? := fun z i => by
              obtain ⟨n, e⟩ := hC z.w z.h
              rw [e]; exact (HP.out.drewN n).src.cell i
            have gz : ∀ z : Qt.In Cls, z.w.cell? ⟨(az.add (q * 2)).block, (az.add (q * 2)).off + 1, none⟩ = some (.slice (some ae) es.length cz) := fun z => by
              obtain ⟨az', e, _, _, q⟩ := HZc.out z.w (hbel z)
              obtain rfl : az = az' := by injection e
              exact q
            have ge : ∀ z : Qt.In Cls, z.w.cell? ⟨(ae.add (j * 13)).block, (ae.add (j * 13)).off + 3, none⟩ = some (.string (es[j]'hjn).rules) := fun z => by
              obtain ⟨ae', e, _, q⟩ := HEc.out z.w (hbel z) j hjn
              obtain rfl : ae = ae' := by injection e
              exact q.2.2.2.1
            have gn : ∀ z : Qt.In Cls, z.w.cell? (ad.add (k * 11)) = some (.string r0) := fun z => by
              obtain ⟨ad', e, _, q⟩ := HRw.out z.w (hbel z)
              obtain rfl : ad = ad' := by injection e
              exact q.1
            have hgs := HGs.out j hjn
            have hbq := tl_beq (es[j]'hjn).rules r0
            have HGj := Lib.hid hgs
            have HC := Lib.hid hC
            clear hC hCls hgs hbel
            generalize (es[j]'hjn).rules = er at *
            generalize G j = gj at *
            cases hd : decide (er = r0) <;> rw [hd] at HGj hbq <;> cases gj
            all_goals
              go_wp2
              refine Qt.wp_region_cls Cls (by kernel_rfl) (by kernel_rfl) hst ?_
              repeat (go_big_quiet_step (fail))
              refine wpQuiet_nil ?_
              rintro wq ⟨⟨w9, hq⟩, e9⟩
              obtain ⟨nq, hnq⟩ := HC.out wq (by rw [e9]; exact hq)
              clear hq e9 gs gz ge gn
              subst hnq
              go_wp2
              exact ⟨⟨j + 1, nq, by omega, by go_num, by rw [HGj.out]; rfl, rfl⟩, by simp [intOf]; omega⟩
          · obtain rfl : j = es.length := by omega
            have HP1 := Lib.hid (HP.out.drewN nd)
            have hown1 : (wr.drewN nd).ownsRow (U.heap.size + 2) 59 11 v (F k).length ((F k).flatMap Rule.cells) := HOw.out
            have HOw1 := Lib.hid hown1
            have hfs := Hfs.out
            clear hown1 HP HOw Hfs HG0 HGs
            generalize G es.length = ge at *
            generalize wr.drewN nd = W1 at *
            cases ge
            · rw [if_neg (by decide)] at hfs
              have HFn := Lib.hid hfs
              clear hfs
              go_wp2
              exact ⟨⟨k + 1, v, by omega, by go_num, HP1.out, by rw [HFn.out]; exact HOw1.out⟩, by simp [intOf]; omega⟩
            · rw [if_pos rfl] at hfs
              have HFn := Lib.hid hfs
              have m1 : (F k).length + 1 ≤ maxLen := by unfold maxLen; omega
              have m2 : ((F k).length + 1) * 104 ≤ 140737488355328 := by omega
              have m3 : U.heap.size + 2 ≤ W1.drew.heap.size := by have := HP1.out.x.lt; show U.heap.size + 2 ≤ W1.heap.size; omega
              have M1 := Lib.hid m1; have M2 := Lib.hid m2; have M3 := Lib.hid m3
              have cX := fun i => HP1.out.x.cell i
              obtain ⟨ad', hA', _, a0, a1, a2, a3, a4, a5, a6, a7, a8, a9, a10⟩ := HRw.out _ HP1.out.bel
              obtain rfl : ad = ad' := by injection hA'
              have HPd := Lib.hid HP1.out.drew
              have hownd : W1.drew.ownsRow (U.heap.size + 2) 59 11 v (F k).length ((F k).flatMap Rule.cells) := HOw1.out
              have HOwd := Lib.hid hownd
              have d0 : W1.drew.cell? ⟨U.heap.size + 1, 0, none⟩ = some v := HPd.out.x.cell 0
              have cXo := fun o i => (HP1.out.alloc o).x.cell i
              have cSo := fun o i => (HP1.out.alloc o).src.cell i
              have d1 : W1.drew.cell? ⟨w.heap.size, 0, none⟩ = some (.slice (some ad) s.rules.length c) := HPd.out.src.cell 0
              obtain ⟨ad', hA2, _, b0, b1, b2, b3, b4, b5, b6, b7, b8, b9, b10⟩ := HRw.out _ HPd.out.bel
              obtain rfl : ad = ad' := by injection hA2
              clear hfs m1 m2 m3 hA' hA2 hownd
              generalize F k = l1 at *
              go_wp2
              go_region_law (refine step_append1 W1.drew rfl (.tmp 73) (.tmp 79) 22 rfl (U.heap.size + 2) 59 i1 _ 11 104 Tryz.underlying22 hi1 hy0 hy1 hy2 rfl (by decide) v l1.length (l1.flatMap Rule.cells) (by simp [Act.eval]) HOwd.out (by simp [Act.eval]) rfl one_rule M1.out M2.out M3.out ?_; intro v' w1 hown1 hg1; obtain ⟨g1, cap1, rfl, _, _⟩ := hown1.form (Nat.succ_pos _); have hp2 := (HPd.out.alloc _).grown hg1 (fun k e => (HOwd.out.lt k e).1); have c1 := fun i => hp2.x.cell i; have f1 := fun i => hp2.x.frozen i; have HP2 := Lib.hid hp2; have HOw2 := Lib.hid hown1; clear hown1 hg1 hp2)
              all_goals
                have hp3 := HP2.out.set (.slice (some ⟨g1, 0, none⟩) (l1.length + 1) cap1)
                have hown3 := own_set1 HOw2.out (b := U.heap.size + 1) (fun e => by have := (HOw2.out.lt (U.heap.size + 1) e).1; omega) 0 (.slice (some ⟨g1, 0, none⟩) (l1.length + 1) cap1)
                have HP3 := Lib.hid hp3; have HOw3 := Lib.hid hown3
                clear hp3 hown3
                go_wp2
                refine ⟨⟨k + 1, _, by omega, by go_num, HP3.out, ?_⟩, by simp [intOf]; omega⟩
                rw [HFn.out]
                simp only [List.length_append, List.flatMap_append, List.length_cons, List.length_nil, List.flatMap_cons, List.flatMap_nil, List.append_nil]
                exact HOw3.out
      · obtain rfl : k = s.rules.length := by omega
        have hown := HOw.out
        rw [HFe.out] at hown
        obtain ⟨Ap, cp, rfl⟩ := own_slice hown
        have hok := HPok.out _ _ _ _ _ _ _ HP.out hown
        have hCp := fun z (hb : Below wr.heap.size wr z) => compile_read (partS s ⟨z0, es, Az, cz⟩) Ap (some ⟨U.heap.size, 0, none⟩) none cp 1 0 m 0 z (hok.below hb) (cell_later (HP.out.bel.trans (hb.mono HP.out.bel.size)) HM.out) fun _ => HY2.out
        rw [Hcp.out] at hCp
        have HCp : Hid (∀ z, Below wr.heap.size wr z → Calls Tryz.prog 11 #[.agg #[.slice Ap (partS s ⟨z0, es, Az, cz⟩).rules.length cp, .slice (some ⟨U.heap.size, 0, none⟩) 1 1, .slice none 0 0], .int .i64 0] z (CompR T 0 z)) := hCp
        clear hown hok hCp HOw HPok Hcp HFs HF0 HFl HFe HZc HRc HEc
        generalize (partS s ⟨z0, es, Az, cz⟩).rules.length = N at *
        have cX := fun i => HP.out.x.cell i
        go_wp2_with (first
          | (go_at_call 11; refine (HCp.out _ (Below.refl _ _)).mono ?_; rintro e w7 ⟨By, ky, By2, ky2, rfl, hok7, hb⟩; have HP8 := Lib.hid ((HP.out.step hb).alloc (.cells (tabCells T By ky By2 ky2) 33)); have HY8 := Lib.hid (Blk.new w7 33 (tabCells T By ky By2 ky2)); have HT8 := Lib.hid (hok7.below ((Below.refl _ _).alloc (Nat.le_refl _) (.cells (tabCells T By ky By2 ky2) 33))); simp only [tabCells] at HP8 HY8 HT8 ⊢; clear hb hok7 cX)
          | (go_at_call 10; refine (HA.out _ HP8.out.bel).mono ?_; rintro e w9 ⟨rfl, hb⟩; have hp9 := HP8.out.step hb; have hx9 := HXU.out.below hp9.bel2 HXU.out.lt; have hy9 := HY8.out.below hb HY8.out.lt; have cx9 := fun i => hx9.cell i; have cy9 := fun i => hy9.cell i; have hs9 := Sam.same_any T T Ax Ay By By2 cx cy ky ky2 w9 (HOkU.out.below hp9.bel2) (HT8.out.below hb); rw [decide_eq_true rfl] at hs9; simp only [tabCells] at hs9; have HS9 := Lib.hid hs9; have HP9 := Lib.hid hp9; clear hb hp9 hx9 hy9 hs9)
          | (go_at_call 19; refine HS9.out.mono ?_; rintro e w10 ⟨rfl, hb⟩; have HB10 := Lib.hid (HP9.out.bel.trans (hb.mono HP9.out.bel.size)); clear hb))
        go_ret
        exact ⟨rfl, HB10.out⟩
end Go.Proofs.YtdicedpklpadgaaGreatDoor.Lw14
