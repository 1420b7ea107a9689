/-
  The walk of the law TableMeans. Conditions: what the source's slices hold is read; the cell of bytealg.MaxLen holds a number.
-/
import Derived.Test.YtdicedpklpadgaaGreatDoorY37
import Derived.Test.YtdicedpklpadgaaGreatDoorY38
import Derived.Test.YtdicedpklpadgaaGreatDoorY43
set_option linter.all false
namespace Go.Proofs.YtdicedpklpadgaaGreatDoor.Lw14
open Go.RowKit Mem Civ Mom Img Plc Rul Ahd Trn Src Snd Att Rgt Abr Cmq

theorem era_d {x : Era} (h : eraB x = true) : EraD x := by
  obtain ⟨h1, h2, h3, h4, _, h6, _⟩ := era_parts h
  exact ⟨h1, h4, fun a b => by
    have h0 : x.kind = 0 := by omega
    exact h6 (.inl h0), by omega⟩
theorem era_ref {x : Era} (h : eraB x = true) : 0 ≤ x.spot.ref ∧ x.spot.ref ≤ 2 := by
  unfold eraB tillB at h
  simp only [Bool.and_eq_true] at h
  obtain ⟨_, _, h4⟩ := h
  split at h4
  · rw [Bool.and_eq_true] at h4
    have hp : x.spot.okP := of_decide_eq_true h4.2
    unfold Spot.okP at hp
    omega
  · rw [Bool.and_eq_true, decide_eq_true_eq, decide_eq_true_eq] at h4
    rw [h4.2]
    exact ⟨by decide, by decide⟩
/-- Three blocks that a frame holds. -/
structure Bx3 (w : World) (b1 b2 b3 : Nat) (t1 t2 t3 : TypeId) (cs ds es : Array Value) (W : World) : Prop where
  x : Blk W b1 t1 cs
  y : Blk W b2 t2 ds
  z : Blk W b3 t3 es
  bel : Below w.heap.size w W
theorem Bx3.step {w W W' : World} {b1 b2 b3 : Nat} {t1 t2 t3 : TypeId} {cs ds es : Array Value} (h : Bx3 w b1 b2 b3 t1 t2 t3 cs ds es W) (hb : Below W.heap.size W W') : Bx3 w b1 b2 b3 t1 t2 t3 cs ds es W' :=
  ⟨h.x.below hb h.x.lt, h.y.below hb h.y.lt, h.z.below hb h.z.lt, h.bel.trans (hb.mono h.bel.size)⟩
theorem Bx3.drew {w W : World} {b1 b2 b3 : Nat} {t1 t2 t3 : TypeId} {cs ds es : Array Value} (h : Bx3 w b1 b2 b3 t1 t2 t3 cs ds es W) : Bx3 w b1 b2 b3 t1 t2 t3 cs ds es W.drew := ⟨h.x.drew, h.y.drew, h.z.drew, h.bel.drew⟩
set_option maxHeartbeats 8000000 in
set_option maxRecDepth 100000 in
theorem means (s : Src) (A A2 A3 : Option Addr) (c c2 c3 : Nat) (n : Int) (t : Int) (m : Int) (w : World) (h : SrcOk s A A2 A3 w) (hm : w.cell? ⟨0, 0, none⟩ = some (.int .i64 m)) (_ : In64 n) (hti : In64 t) :
    Calls Tryz.prog 6 #[.agg #[.slice A s.rules.length c, .slice A2 s.zones.length c2, .slice A3 s.links.length c3], .int .i64 n, .int .i64 t] w fun e w' => e = .returned (.bool true) ∧ Below w.heap.size w w' := by
  have HA := Lib.hid (fun z (hb : Below w.heap.size w z) => Cmq.alive_any m z (cell_later hb hm))
  have HG := Lib.hid (fun z (hb : Below w.heap.size w z) => light_yrs s A A2 A3 c c2 c3 z (h.below hb))
  have hC := fun (hy : checkB s = noFlaw → YrsP s.rules) z (hb : Below w.heap.size w z) => compile_read s A A2 A3 c c2 c3 m n z (h.below hb) (cell_later hb hm) hy
  have hone := Civ.One.new w 26 #[.slice A s.rules.length c, .slice A2 s.zones.length c2, .slice A3 s.links.length c3]
  obtain ⟨W, hW⟩ : ∃ W, w.alloc (.cells #[.slice A s.rules.length c, .slice A2 s.zones.length c2, .slice A3 s.links.length c3] 26) = W := ⟨_, rfl⟩
  rw [hW] at hone
  have HO := Lib.hid hone
  have c0 := fun i => hone.1.cell i
  clear hone
  unfold In64 at hti
  by_cases hcond : checkB s = noFlaw ∧ 0 ≤ n ∧ n < s.zones.length
  rotate_left
  · rw [compileP_no hcond] at hC
    have HC := Lib.hid hC
    clear hC h hm hcond
    go_enter Tryz.func6, Tryz.ntmps6
    go_wp2_with (first
      | (go_at_call 20; refine (HG.out _ HO.out.2).mono ?_; rintro e w1 ⟨lb, rfl, hlp, hb⟩; have ho := HO.out.step hb; have c1 := fun i => ho.1.cell i; have HO1 := Lib.hid ho; have HLp := Lib.hid hlp; clear hb ho hlp c0; cases lb)
      | (go_at_call 11; refine (HC.out (HLp.out (by trivial)) _ HO1.out.2).mono ?_; rintro e w2 ⟨Ax, cx, Ay, cy, rfl, hok, hb⟩; simp only [tabCells]; have HO2 := Lib.hid ((HO1.out.step hb).2.alloc (HO1.out.step hb).2.size (.cells (tabCells noTable Ax cx Ay cy) 33)); simp only [tabCells] at HO2; clear hb c1 hok)
      | (go_at_call 10; refine (HA.out _ HO1.out.2).mono ?_; rintro e w3 ⟨rfl, hb⟩; have HO3 := Lib.hid (HO1.out.step hb).2; clear hb)
      | (go_at_call 10; refine (HA.out _ HO2.out).mono ?_; rintro e w3 ⟨rfl, hb⟩; have HO3 := Lib.hid (HO2.out.trans (hb.mono HO2.out.size)); clear hb))
    all_goals go_ret
    all_goals exact ⟨rfl, HO3.out⟩
  · obtain ⟨hclean, hn0, hnl⟩ := hcond
    obtain ⟨q, rfl⟩ : ∃ q : Nat, n = q := ⟨n.toNat, by omega⟩
    have hql : q < s.zones.length := by omega
    have hnlN : decide (s.zones.length ≤ q) = false := decide_eq_false (by omega)
    have hZc := fun z (hb : Below w.heap.size w z) => zone_cells (h.rz.below hb) hql rfl
    obtain ⟨zn, hzn⟩ : ∃ z, z = s.zones[q]'hql := ⟨_, rfl⟩
    have hz? : s.zones[q]? = some zn := by rw [hzn]; exact List.getElem?_eq_getElem hql
    have hmem : zn ∈ s.zones := by rw [hzn]; exact List.getElem_mem hql
    rw [← hzn] at hZc
    have HZc := Lib.hid hZc
    obtain ⟨T, hT⟩ : ∃ T, compileP s q = T := ⟨_, rfl⟩
    rw [hT] at hC
    obtain ⟨R, hR⟩ : ∃ R, refL s.rules (svF s) zn.eras t = R := ⟨_, rfl⟩
    have hT2 : YrsP s.rules → T.2 = 0 ∧ rightB T.1 (tailB T.1) = true ∧ atP T.1 t = (R, true) := fun h2 => by
      obtain ⟨z, hz, hzm, e, hr, hcn⟩ := compile_case (i := (q : Int)) h2 hclean (by omega) (by omega)
      obtain rfl : z = zn := by
        rw [show ((q : Nat) : Int).toNat = q from by omega, hz?] at hz
        injection hz with hz
        exact hz.symm
      rw [← hT, e]
      exact ⟨rfl, hr, by rw [table_means hclean hzm hcn t, hR]⟩
    have hsr := (clean_parts hclean).1
    have hru : rulesB s.rules = true := List.all_eq_true.2 fun r hr => (ruleR_parts (src_rules hsr r hr)).2
    have hera : ∀ x ∈ zn.eras, eraB x = true := (zone_w hclean hmem).era
    have hDt := fun z (hb : Below w.heap.size w z) => refAt_any s A A2 A3 c c2 c3 zn t z (h.below hb) hmem hru (fun x hx => ⟨era_d (hera x hx), era_ref (hera x hx)⟩) hti.1 hti.2
    rw [hR] at hDt
    have HDt := Lib.hid hDt
    clear hZc hzn hz? hT hDt hera hru hsr hmem hR
    have HM := Lib.hid hm
    have HCl := Lib.hid hclean
    clear h hm hn0 hnl hclean
    obtain ⟨z0, es, Az, cz⟩ := zn
    obtain ⟨T, err⟩ := T
    obtain ⟨f0, f1, f2⟩ := R
    simp only at hC hT2 HDt
    have HC := Lib.hid hC; have HT2 := Lib.hid hT2
    clear hC hT2
    simp only [ZoneM.cells] at HZc HDt
    have heq := fun z => Sam.eq_phase ⟨f0, f1, f2⟩ ⟨f0, f1, f2⟩ z
    rw [decide_eq_true rfl] at heq
    simp only [Phase.cells] at heq
    go_enter Tryz.func6, Tryz.ntmps6
    go_wp2_with (first
      | (go_at_call 20; refine (HG.out _ HO.out.2).mono ?_; rintro e w1 ⟨lb, rfl, hlp, hb⟩; have ho := HO.out.step hb; have c1 := fun i => ho.1.cell i; have HO1 := Lib.hid ho; have HLp := Lib.hid hlp; clear hb ho hlp c0; cases lb)
      | (go_at_call 11; have hye := HLp.out (by trivial); obtain ⟨he0, hrt, hat⟩ := HT2.out (hye HCl.out); subst he0; have HRt := Lib.hid hrt; have HAt := Lib.hid hat; refine (HC.out hye _ HO1.out.2).mono ?_; rintro e w2 ⟨Ax, cx, Ay, cy, rfl, hok, hb⟩; simp only [tabCells]; have hbX : Below w2.heap.size w2 (w2.alloc (.cells #[.string T.name, .int .i64 T.first.off, .int .i64 T.first.save, .string T.first.abbr, .slice Ax T.shifts.length cx, .int .i64 T.till, .slice Ay T.tail.length cy, .int .i64 T.off, .string T.format] 33)) := (Below.refl _ _).alloc (Nat.le_refl _) _; have ho := (HO1.out.step hb).step hbX; have hx2 := Blk.new w2 33 #[.string T.name, .int .i64 T.first.off, .int .i64 T.first.save, .string T.first.abbr, .slice Ax T.shifts.length cx, .int .i64 T.till, .slice Ay T.tail.length cy, .int .i64 T.off, .string T.format]; have cx2 := fun i => hx2.cell i; have HO2 := Lib.hid ho; have HX2 := Lib.hid hx2; have hok2 := hok.below hbX; have hat2 := fun z hb2 => at_any T Ax Ay cx cy t m z (hok2.below hb2) (cell_later (ho.2.trans (hb2.mono ho.2.size)) HM.out) hti.1 hti.2; rw [hat] at hat2; simp only [tabCells] at hat2; have HA2 := Lib.hid hat2; have HOk2 := Lib.hid hok2; clear hb c1 hok hbX ho hye hrt hat hx2 hat2 hok2)
      | (go_at_call 15; refine (HA2.out _ (Below.refl _ _)).mono ?_; rintro e w3 ⟨rfl, hb⟩; have hbP : Below w3.heap.size w3 (w3.alloc (.cells #[.int .i64 f0, .int .i64 f1, .string f2] 30)) := (Below.refl _ _).alloc (Nat.le_refl _) _; have hb3 := (hb.trans (hbP.mono hb.size)); have HB3 := Lib.hid hb3; have HP3 := Lib.hid (Blk.new w3 30 #[.int .i64 f0, .int .i64 f1, .string f2]); clear hb hbP hb3)
      | (go_at_call 10; refine (HA.out _ HO1.out.2).mono ?_; rintro e w4 ⟨rfl, hb⟩; have HB5 := Lib.hid (HO1.out.step hb).2; clear hb))
    · go_ret
      exact ⟨rfl, HB5.out⟩
    obtain ⟨V, hV⟩ : ∃ V, w3.alloc (.cells #[.int .i64 f0, .int .i64 f1, .string f2] 30) = V := ⟨_, rfl⟩
    rw [hV] at HB3 HP3 ⊢
    have ho3 := HO2.out.step HB3.out
    obtain ⟨az, hAz, _, q0, q1⟩ := HZc.out _ ho3.2
    subst hAz
    have hb2 : Bx3 w w.heap.size w2.heap.size w3.heap.size 26 33 30 #[.slice A s.rules.length c, .slice (some az) s.zones.length c2, .slice A3 s.links.length c3] #[.string T.name, .int .i64 T.first.off, .int .i64 T.first.save, .string T.first.abbr, .slice Ax T.shifts.length cx, .int .i64 T.till, .slice Ay T.tail.length cy, .int .i64 T.off, .string T.format] #[.int .i64 f0, .int .i64 f1, .string f2] V := ⟨ho3.1, HX2.out.below HB3.out HX2.out.lt, HP3.out, ho3.2⟩
    obtain ⟨Cls, hCls⟩ : ∃ C : World → Prop, C = fun z => Bx3 w w.heap.size w2.heap.size w3.heap.size 26 33 30 #[.slice A s.rules.length c, .slice (some az) s.zones.length c2, .slice A3 s.links.length c3] #[.string T.name, .int .i64 T.first.off, .int .i64 T.first.save, .string T.first.abbr, .slice Ax T.shifts.length cx, .int .i64 T.till, .slice Ay T.tail.length cy, .int .i64 T.off, .string T.format] #[.int .i64 f0, .int .i64 f1, .string f2] z ∧ Below V.heap.size V z := ⟨_, rfl⟩
    have hC : ∀ z, Cls z → Bx3 w w.heap.size w2.heap.size w3.heap.size 26 33 30 #[.slice A s.rules.length c, .slice (some az) s.zones.length c2, .slice A3 s.links.length c3] #[.string T.name, .int .i64 T.first.off, .int .i64 T.first.save, .string T.first.abbr, .slice Ax T.shifts.length cx, .int .i64 T.till, .slice Ay T.tail.length cy, .int .i64 T.off, .string T.format] #[.int .i64 f0, .int .i64 f1, .string f2] z ∧ Below V.heap.size V z := fun z h => by rw [hCls] at h; exact h
    have hstart : Cls V.drew := by rw [hCls]; exact ⟨hb2.drew, below_dr (n := 1) (Below.refl _ _)⟩
    have inst : Nonempty (Qt.In Cls) := ⟨⟨_, hstart⟩⟩
    have gs : ∀ (z : Qt.In Cls) (i : Nat), z.w.cell? ⟨w.heap.size, i, none⟩ = #[.slice A s.rules.length c, .slice (some az) s.zones.length c2, .slice A3 s.links.length c3][i]? := fun z i => (hC z.w z.h).1.x.cell i
    have gx : ∀ (z : Qt.In Cls) (i : Nat), z.w.cell? ⟨w2.heap.size, i, none⟩ = #[.string T.name, .int .i64 T.first.off, .int .i64 T.first.save, .string T.first.abbr, .slice Ax T.shifts.length cx, .int .i64 T.till, .slice Ay T.tail.length cy, .int .i64 T.off, .string T.format][i]? := fun z i => (hC z.w z.h).1.y.cell i
    have gp : ∀ (z : Qt.In Cls) (i : Nat), z.w.cell? ⟨w3.heap.size, i, none⟩ = #[.int .i64 f0, .int .i64 f1, .string f2][i]? := fun z i => (hC z.w z.h).1.z.cell i
    have gz : ∀ z : Qt.In Cls, z.w.cell? (az.add (q * 2)) = some (.string z0) := fun z => by
      obtain ⟨az', e, _, q, _⟩ := HZc.out z.w (hC z.w z.h).1.bel
      obtain rfl : az = az' := by injection e
      exact q
    have gz1 : ∀ z : Qt.In Cls, z.w.cell? ⟨(az.add (q * 2)).block, (az.add (q * 2)).off + 1, none⟩ = some (.slice Az es.length cz) := fun z => by
      obtain ⟨az', e, _, _, q⟩ := HZc.out z.w (hC z.w z.h).1.bel
      obtain rfl : az = az' := by injection e
      exact q
    have hk : ∀ z z', Cls z → Below z.heap.size z z' → Cls z' := fun z z' h hb => by rw [hCls]; exact ⟨(hC z h).1.step hb, (hC z h).2.trans (hb.mono (hC z h).2.size)⟩
    have HAc : Hid (∀ z, Cls z → Calls Tryz.prog 10 #[] z fun e z' => e = .returned (.bool true) ∧ Cls z') := fun z h => (HA.out z (hC z h).1.bel).mono fun e z' ⟨he, hb⟩ => ⟨he, hk z z' h hb⟩
    have HDc : Hid (∀ z, Cls z → Calls Tryz.prog 21 #[.agg #[.slice A s.rules.length c, .slice (some az) s.zones.length c2, .slice A3 s.links.length c3], .agg #[.string z0, .slice Az es.length cz], .int .i64 t] z fun e z' => e = .returned (.agg #[.int .i64 f0, .int .i64 f1, .string f2]) ∧ Cls z') := fun z h => (HDt.out z (hC z h).1.bel).mono fun e z' ⟨he, hb⟩ => ⟨he, hk z z' h hb⟩
    have hRr : ∀ z, Cls z → Calls Tryz.prog 17 #[.agg #[.string T.name, .int .i64 T.first.off, .int .i64 T.first.save, .string T.first.abbr, .slice Ax T.shifts.length cx, .int .i64 T.till, .slice Ay T.tail.length cy, .int .i64 T.off, .string T.format]] z fun e z' => e = .returned (.bool true) ∧ Cls z' := fun z h => by
      have h1 := right_t T Ax Ay cx cy m z (HOk2.out.below (HB3.out.trans ((hC z h).2.mono HB3.out.size))) (cell_later (hC z h).1.bel HM.out)
      rw [HRt.out] at h1
      simp only [tabCells] at h1
      exact h1.mono fun e z' ⟨he, hb⟩ => ⟨he, hk z z' h hb⟩
    have HRr := Lib.hid hRr; have HCx := Lib.hid hC; have HSt := Lib.hid hstart
    clear hC hstart hCls hk hRr HA HG HC HO HO1 HO2 HX2 HOk2 HZc HT2 q0 q1 hb2 ho3 HB3 HP3 HA2 HDt HAt HRt cx2 hV
    go_wp2_with fail
    refine Qt.wp_region_cls Cls (by kernel_rfl) (by kernel_rfl) HSt.out ?_
    repeat (go_big_quiet_step (first | ((go_at_call 10; exact Qt.quiet_cls (HAc.out _ (Qt.In.h _)))) | ((go_at_call 21; exact Qt.quiet_cls (HDc.out _ (Qt.In.h _)))) | ((go_at_call 17; exact Qt.quiet_cls (HRr.out _ (Qt.In.h _))))))
    refine wpQuiet_nil ?_
    rintro wq ⟨⟨w9, hq⟩, e9⟩
    have HX := Lib.hid (HCx.out wq (by rw [e9]; exact hq))
    clear hq e9 gx gs gz gz1 gp inst HAc HRr HDc
    go_wp2
    go_ret
    exact ⟨rfl, HX.out.1.bel⟩
end Go.Proofs.YtdicedpklpadgaaGreatDoor.Lw14
