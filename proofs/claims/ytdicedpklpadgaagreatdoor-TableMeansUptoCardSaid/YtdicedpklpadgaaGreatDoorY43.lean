/-
  The document's Phase, At (package analemmaref12). Conditions: right rules, bounded eras; what the source's slices hold is read.
-/
import Derived.Test.YtdicedpklpadgaaGreatDoorY41
import Derived.Test.YtdicedpklpadgaaGreatDoorY42
import Derived.Test.YtdicedpklpadgaaGreatDoorY36
set_option linter.all false
namespace Go.Proofs.YtdicedpklpadgaaGreatDoor.Cmq
open Go.RowKit Mem Civ Mom Img Plc Rul Ahd Trn Src Snd Att Rgt Abr

theorem bel_nx {W W' W'' : World} (h : Below W.heap.size W W') (hb : Below W'.heap.size W' W'') : Below W.heap.size W W'' := h.trans (hb.mono h.size)
/-- What is asked of an era whose phase the document tells. -/
structure EraD (x : Era) : Prop where
  off : -86400 < x.off ∧ x.off < 86400
  save : -43200 ≤ x.save ∧ x.save ≤ 43200
  zero : x.kind ≠ 2 → x.kind ≠ 1 → x.save = 0
  fmt : x.format.size ≤ 2097152
theorem savE_doc {rs : List Rule} {x : Era} (h : EraD x) (t : Int) : savE rs x t = if x.kind = 2 then forceP (setL rs x.rules) x.off t else (x.save, ⟨#[]⟩) := by
  unfold savE
  by_cases hk : x.kind = 2
  · have e : setOf rs x = setL rs x.rules := by unfold setOf; rw [if_pos hk]
    rw [if_pos hk, if_pos hk, e]
  · rw [if_neg hk, if_neg hk]
    by_cases h1 : x.kind = 1
    · rw [if_pos h1]
    · rw [if_neg h1, h.zero hk h1]
theorem give_force {rs : List Rule} {off t : Int} (hr : rulesB rs = true) (h1 : -86400 < off) (h2 : off < 86400) : giveO rs (lastD rs off t) = forceP rs off t := by
  unfold forceP
  rw [if_pos ⟨hr, h1, h2⟩, lastD_is hr h1 h2]
theorem rph_results {w : World} {R0 : Nat} {a0 a1 a2 : Value} (h : Blk w R0 30 #[a0, a1, a2]) (tmps : Array Value) (ht : tmps[6]? = some (.pointer (some ⟨R0, 0, none⟩))) :
    (results Tryz.f50 tmps).run Tryz.prog w = .ok (.agg #[a0, a1, a2]) w := by
  have hc := fun i => h.cell i
  simp [results, Tryz.results50, go_sem, hc, ht]
/-- What Phase's frame holds in memory. -/
structure Ph3 (w : World) (cs es : Array Value) (W : World) : Prop where
  src : Blk W w.heap.size 26 cs
  era : Blk W (w.heap.size + 1) 57 es
  res : Blk W (w.heap.size + 1 + 1) 30 #[.int .i64 0, .int .i64 0, .string ⟨#[]⟩]
  bel : Below w.heap.size w W
theorem Ph3.step {w W W' : World} {cs es : Array Value} (h : Ph3 w cs es W) (hb : Below W.heap.size W W') : Ph3 w cs es W' :=
  ⟨h.src.below hb h.src.lt, h.era.below hb h.era.lt, h.res.below hb h.res.lt, h.bel.trans (hb.mono h.bel.size)⟩
theorem Ph3.drew {w W : World} {cs es : Array Value} (h : Ph3 w cs es W) : Ph3 w cs es W.drew := ⟨h.src.drew, h.era.drew, h.res.drew, h.bel.drew⟩
set_option maxHeartbeats 8000000 in
set_option maxRecDepth 100000 in
theorem rphase_any (s : Src) (A A2 A3 : Option Addr) (c c2 c3 : Nat) (x : Era) (t : Int) (w : World) (h : SrcOk s A A2 A3 w) (hs : rulesB s.rules = true) (hx : EraD x) (h1 : -9223372036854775808 ≤ t) (h2 : t ≤ 9223372036854775807) :
    Calls Tryz.prog 50 #[.agg #[.slice A s.rules.length c, .slice A2 s.zones.length c2, .slice A3 s.links.length c3], .agg x.cells.toArray, .int .i64 t] w fun e w' =>
      e = .returned (.agg #[.int .i64 (phaseE s.rules x t).off, .int .i64 (phaseE s.rules x t).save, .string (phaseE s.rules x t).abbr]) ∧ Below w.heap.size w w' := by
  have hsv : phaseE s.rules x t = phaseG x (savE s.rules x t) := rfl
  rw [hsv, savE_doc hx]
  have hlen := Nat.le_trans (setL_len s.rules x.rules) h.nr
  have hrs := set_right hs x.rules
  have hfo := force_ok (setL s.rules x.rules) x.off t (fun r hr => (h.tr r (setL_mem.1 hr).1).2)
  have hgv := give_force (t := t) hrs hx.off.1 hx.off.2
  have HS := Lib.hid (fun z (hb : Below w.heap.size w z) => rset_any s A A2 A3 c c2 c3 x.rules z (h.below hb))
  have HF := Lib.hid (fun Ae ce z hr => refForce_any (setL s.rules x.rules) Ae ce x.off t z hr hlen hrs h1 h2)
  rw [hgv] at HF
  have ho := hx.off; have hsb := hx.save; have hfm := hx.fmt
  clear h hs hx hsv hgv hrs hlen
  obtain ⟨rs, zs, ls⟩ := s
  obtain ⟨x0, x1, x2, x3, x4, x5, x6, ⟨y0, y1, y2, y3, y4, y5⟩⟩ := x
  simp only [Era.cells, phaseG] at HS HF hfo ho hsb hfm ⊢
  have hb3 := box3 w 26 57 30 #[.slice A rs.length c, .slice A2 zs.length c2, .slice A3 ls.length c3] #[.int .i64 x0, .int .i64 x1, .int .i64 x2, .string x3, .string x4, .bool x5, .int .i64 x6, .int .i64 y0, .int .i64 y1, .int .i64 y2, .int .i64 y3, .int .i64 y4, .int .i64 y5] #[.int .i64 0, .int .i64 0, .string ⟨#[]⟩]
  obtain ⟨W, hW⟩ : ∃ W, ((w.alloc (.cells #[.slice A rs.length c, .slice A2 zs.length c2, .slice A3 ls.length c3] 26)).alloc (.cells #[.int .i64 x0, .int .i64 x1, .int .i64 x2, .string x3, .string x4, .bool x5, .int .i64 x6, .int .i64 y0, .int .i64 y1, .int .i64 y2, .int .i64 y3, .int .i64 y4, .int .i64 y5] 57)).alloc (.cells #[.int .i64 0, .int .i64 0, .string ⟨#[]⟩] 30) = W := ⟨_, rfl⟩
  rw [hW] at hb3
  obtain ⟨b0, b1, b2, hbw, hsz⟩ := hb3
  have HP : Hid (Ph3 w #[.slice A rs.length c, .slice A2 zs.length c2, .slice A3 ls.length c3] #[.int .i64 x0, .int .i64 x1, .int .i64 x2, .string x3, .string x4, .bool x5, .int .i64 x6, .int .i64 y0, .int .i64 y1, .int .i64 y2, .int .i64 y3, .int .i64 y4, .int .i64 y5] W) := ⟨b0, b1, b2, hbw⟩
  have c1 := fun i => b1.cell i
  clear b0 b1 b2 hbw
  by_cases hk : x1 = 2
  · subst hk
    rw [if_pos rfl]
    obtain ⟨⟨fs, fl⟩, hF⟩ : ∃ f, forceP (setL rs x3) x0 t = f := ⟨_, rfl⟩
    rw [hF] at HF hfo ⊢
    simp only at HF hfo ⊢
    obtain ⟨ab, hab⟩ : ∃ ab, abbrB x4 fl (x0 + fs) fs = ab := ⟨_, rfl⟩
    rw [hab]
    have Hab := Lib.hid hab
    clear hab
    go_enter Tryz.func50, Tryz.ntmps50
    go_wp2_with fail
    have hSW : ∀ z, Below W.heap.size W z → Calls Tryz.prog 36 #[.agg #[.slice A rs.length c, .slice A2 zs.length c2, .slice A3 ls.length c3], .string x3] z fun e w' => ∃ v, e = .returned v ∧ w'.ownsRow z.heap.size 59 11 v (setL rs x3).length ((setL rs x3).flatMap Rule.cells) ∧ Below z.heap.size z w' := fun z hb => HS.out z (HP.out.bel.trans (hb.mono HP.out.bel.size))
    have hKe : ∀ w', Below W.heap.size W w' → w'.cell? ⟨w.heap.size, 0, none⟩ = some (.slice A rs.length c) ∧ w'.cell? ⟨w.heap.size, 1, none⟩ = some (.slice A2 zs.length c2) ∧ w'.cell? ⟨w.heap.size, 2, none⟩ = some (.slice A3 ls.length c3) ∧ w'.cell? ⟨w.heap.size + 1, 3, none⟩ = some (.string x3) ∧ w'.cell? ⟨w.heap.size + 1, 0, none⟩ = some (.int .i64 x0) ∧ Below W.heap.size W w' := fun w' h => ⟨(HP.out.step h).src.cell 0, (HP.out.step h).src.cell 1, (HP.out.step h).src.cell 2, (HP.out.step h).era.cell 3, (HP.out.step h).era.cell 0, h⟩
    have HSW := Lib.hid hSW; have HKe := Lib.hid hKe
    have kb0 : Below W.heap.size W W.drew := below_drew W
    clear hSW hKe c1
    go_region_held3 (fun w' => w'.cell? ⟨w.heap.size, 0, none⟩ = some (.slice A rs.length c) ∧ w'.cell? ⟨w.heap.size, 1, none⟩ = some (.slice A2 zs.length c2) ∧ w'.cell? ⟨w.heap.size, 2, none⟩ = some (.slice A3 ls.length c3) ∧ w'.cell? ⟨w.heap.size + 1, 3, none⟩ = some (.string x3) ∧ w'.cell? ⟨w.heap.size + 1, 0, none⟩ = some (.int .i64 x0) ∧ Below W.heap.size W w') (exact HKe.out _ (by go_grown)) (first
      | (go_at_call 36; refine (HSW.out _ (by go_grown)).mono ?_; rintro e w5 ⟨v, rfl, hown, hb⟩; obtain ⟨Av, cv, rfl⟩ := own_slice hown; have kb5 := bel_nx (W := W) (by go_grown) hb; have ks5 := kb5.size; have HRv := Lib.hid (Reads.of_own hown); clear hown)
      | (go_at_call 101; refine (HF.out _ _ _ HRv.out).mono ?_; rintro e w6 ⟨rfl, hb6⟩; have kb6 := bel_nx (W := W) (by go_grown) hb6; have ks6 := kb6.size))
    all_goals
      have HP6 := Lib.hid (HP.out.step kb6)
      clear kb0 kb5 kb6 ks5 ks6 hb hb6 HRv HSW HKe
      go_wp2_with fail
      have hw : IntKind.i64.wrap (x0 + fs) = x0 + fs := by rw [IntKind.wrap_i64]; omega
      obtain ⟨Cls, hCls⟩ : ∃ C : World → Prop, C = Ph3 w #[.slice A rs.length c, .slice A2 zs.length c2, .slice A3 ls.length c3] #[.int .i64 x0, .int .i64 2, .int .i64 x2, .string x3, .string x4, .bool x5, .int .i64 x6, .int .i64 y0, .int .i64 y1, .int .i64 y2, .int .i64 y3, .int .i64 y4, .int .i64 y5] := ⟨_, rfl⟩
      have hC : ∀ z, Cls z → Ph3 w #[.slice A rs.length c, .slice A2 zs.length c2, .slice A3 ls.length c3] #[.int .i64 x0, .int .i64 2, .int .i64 x2, .string x3, .string x4, .bool x5, .int .i64 x6, .int .i64 y0, .int .i64 y1, .int .i64 y2, .int .i64 y3, .int .i64 y4, .int .i64 y5] z := fun z h => by rw [hCls] at h; exact h
      have hstart : Cls w6.drew := by rw [hCls]; exact HP6.out.drew
      have inst : Nonempty (Qt.In Cls) := ⟨⟨_, hstart⟩⟩
      have gE : ∀ (z : Qt.In Cls) (i : Nat), z.w.cell? ⟨w.heap.size + 1, i, none⟩ = #[.int .i64 x0, .int .i64 2, .int .i64 x2, .string x3, .string x4, .bool x5, .int .i64 x6, .int .i64 y0, .int .i64 y1, .int .i64 y2, .int .i64 y3, .int .i64 y4, .int .i64 y5][i]? := fun z i => (hC z.w z.h).era.cell i
      have HAc : Hid (∀ z, Cls z → Calls Tryz.prog 102 #[.string x4, .string fl, .int .i64 (x0 + fs), .int .i64 fs] z fun e z' => e = .returned (.string ab) ∧ Cls z') := fun z h => by
        rw [← Hab.out]
        exact (rabbr_any x4 fl (x0 + fs) fs z hfm hfo.2.2 (by omega) (by omega)).mono fun e z' ⟨he, hb⟩ => ⟨he, by rw [hCls]; exact (hC z h).step hb⟩
      have HCx := Lib.hid hC; have HSt := Lib.hid hstart
      clear hC hstart hCls HP HS HF
      refine Qt.wp_region_cls_tail Cls 15 (by kernel_rfl) (by kernel_rfl) HSt.out ?_
      simp only [List.take_succ_cons, List.take_zero, List.drop_succ_cons, List.drop_zero]
      repeat (go_big_quiet_step ((go_at_call 102; exact Qt.quiet_cls (HAc.out _ (Qt.In.h _)))))
      refine wpQuiet_nil ?_
      rintro wq ⟨⟨w9, hq⟩, e9⟩
      have HX := Lib.hid (HCx.out wq (by rw [e9]; exact hq))
      clear hq e9 gE inst HAc HCx HSt
      have cR := fun i => HX.out.res.cell i
      have fR := fun i => HX.out.res.frozen i
      go_wp2_with fail
      refine bodyPost_ret (rph_results (((HX.out.res.set_ 0 (.int .i64 (x0 + fs))).set_ 1 (.int .i64 fs)).set_ 2 (.string ab)) _ rfl) rfl ?_
      exact ⟨rfl, ((HX.out.bel.setCell (by simp; omega) _).setCell (by simp; omega) _).setCell (by simp; omega) _⟩
  · rw [if_neg hk]
    have hkb : (x1 == 2) = false := by simp [hk]
    simp only
    obtain ⟨ab, hab⟩ : ∃ ab, abbrB x4 ⟨#[]⟩ (x0 + x2) x2 = ab := ⟨_, rfl⟩
    rw [hab]
    have Hab := Lib.hid hab
    clear hab
    have hz0 : (⟨#[]⟩ : ByteArray).size ≤ 2097152 := by decide
    go_enter Tryz.func50, Tryz.ntmps50
    go_wp2_with fail
    have hw : IntKind.i64.wrap (x0 + x2) = x0 + x2 := by rw [IntKind.wrap_i64]; omega
    obtain ⟨Cls, hCls⟩ : ∃ C : World → Prop, C = Ph3 w #[.slice A rs.length c, .slice A2 zs.length c2, .slice A3 ls.length c3] #[.int .i64 x0, .int .i64 x1, .int .i64 x2, .string x3, .string x4, .bool x5, .int .i64 x6, .int .i64 y0, .int .i64 y1, .int .i64 y2, .int .i64 y3, .int .i64 y4, .int .i64 y5] := ⟨_, rfl⟩
    have hC : ∀ z, Cls z → Ph3 w #[.slice A rs.length c, .slice A2 zs.length c2, .slice A3 ls.length c3] #[.int .i64 x0, .int .i64 x1, .int .i64 x2, .string x3, .string x4, .bool x5, .int .i64 x6, .int .i64 y0, .int .i64 y1, .int .i64 y2, .int .i64 y3, .int .i64 y4, .int .i64 y5] z := fun z h => by rw [hCls] at h; exact h
    have hstart : Cls W.drew := by rw [hCls]; exact HP.out.drew
    have inst : Nonempty (Qt.In Cls) := ⟨⟨_, hstart⟩⟩
    have gE : ∀ (z : Qt.In Cls) (i : Nat), z.w.cell? ⟨w.heap.size + 1, i, none⟩ = #[.int .i64 x0, .int .i64 x1, .int .i64 x2, .string x3, .string x4, .bool x5, .int .i64 x6, .int .i64 y0, .int .i64 y1, .int .i64 y2, .int .i64 y3, .int .i64 y4, .int .i64 y5][i]? := fun z i => (hC z.w z.h).era.cell i
    have HAc : Hid (∀ z, Cls z → Calls Tryz.prog 102 #[.string x4, .string ⟨#[]⟩, .int .i64 (x0 + x2), .int .i64 x2] z fun e z' => e = .returned (.string ab) ∧ Cls z') := fun z h => by
      rw [← Hab.out]
      exact (rabbr_any x4 ⟨#[]⟩ (x0 + x2) x2 z hfm hz0 (by omega) (by omega)).mono fun e z' ⟨he, hb⟩ => ⟨he, by rw [hCls]; exact (hC z h).step hb⟩
    have HCx := Lib.hid hC; have HSt := Lib.hid hstart
    clear hC hstart hCls HS HF c1
    refine Qt.wp_region_cls_tail Cls 15 (by kernel_rfl) (by kernel_rfl) HSt.out ?_
    simp only [List.take_succ_cons, List.take_zero, List.drop_succ_cons, List.drop_zero]
    repeat (go_big_quiet_step ((go_at_call 102; exact Qt.quiet_cls (HAc.out _ (Qt.In.h _)))))
    refine wpQuiet_nil ?_
    rintro wq ⟨⟨w9, hq⟩, e9⟩
    have HX := Lib.hid (HCx.out wq (by rw [e9]; exact hq))
    clear hq e9 gE inst HAc HCx HSt
    have cR := fun i => HX.out.res.cell i
    have fR := fun i => HX.out.res.frozen i
    go_wp2_with fail
    refine bodyPost_ret (rph_results (((HX.out.res.set_ 0 (.int .i64 (x0 + x2))).set_ 1 (.int .i64 x2)).set_ 2 (.string ab)) _ rfl) rfl ?_
    exact ⟨rfl, ((HX.out.bel.setCell (by simp; omega) _).setCell (by simp; omega) _).setCell (by simp; omega) _⟩
theorem rat_results {w : World} {R0 : Nat} {a0 a1 a2 : Value} (h : Blk w R0 30 #[a0, a1, a2]) (tmps : Array Value) (ht : tmps[6]? = some (.pointer (some ⟨R0, 0, none⟩))) :
    (results Tryz.f21 tmps).run Tryz.prog w = .ok (.agg #[a0, a1, a2]) w := by
  have hc := fun i => h.cell i
  simp [results, Tryz.results21, go_sem, hc, ht]
/-- What At's frame holds in memory. -/
structure At3 (w : World) (cs es : Array Value) (W : World) : Prop where
  src : Blk W w.heap.size 26 cs
  zon : Blk W (w.heap.size + 1) 49 es
  res : Blk W (w.heap.size + 1 + 1) 30 #[.int .i64 0, .int .i64 0, .string ⟨#[]⟩]
  bel : Below w.heap.size w W
theorem At3.step {w W W' : World} {cs es : Array Value} (h : At3 w cs es W) (hb : Below W.heap.size W W') : At3 w cs es W' :=
  ⟨h.src.below hb h.src.lt, h.zon.below hb h.zon.lt, h.res.below hb h.res.lt, h.bel.trans (hb.mono h.bel.size)⟩
set_option maxHeartbeats 16000000 in
set_option maxRecDepth 100000 in
theorem refAt_any (s : Src) (A A2 A3 : Option Addr) (c c2 c3 : Nat) (z : ZoneM) (t : Int) (w : World) (h : SrcOk s A A2 A3 w) (hz : z ∈ s.zones) (hs : rulesB s.rules = true) (hx : ∀ x ∈ z.eras, EraD x ∧ (0 ≤ x.spot.ref ∧ x.spot.ref ≤ 2)) (h1 : -9223372036854775808 ≤ t) (h2 : t ≤ 9223372036854775807) :
    Calls Tryz.prog 21 #[.agg #[.slice A s.rules.length c, .slice A2 s.zones.length c2, .slice A3 s.links.length c3], .agg z.cells.toArray, .int .i64 t] w fun e w' =>
      e = .returned (.agg #[.int .i64 (refL s.rules (svF s) z.eras t).off, .int .i64 (refL s.rules (svF s) z.eras t).save, .string (refL s.rules (svF s) z.eras t).abbr]) ∧ Below w.heap.size w w' := by
  have HPh := Lib.hid (fun (x : Era) (hm : x ∈ z.eras) y (hb : Below w.heap.size w y) => rphase_any s A A2 A3 c c2 c3 x t y (h.below hb) hs (hx x hm).1 h1 h2)
  have HEn := Lib.hid (fun (x : Era) (hm : x ∈ z.eras) y (hb : Below w.heap.size w y) => rend_any s A A2 A3 c c2 c3 x y (h.below hb) hs (hx x hm).2)
  have HEc := Lib.hid (fun y (hb : Below w.heap.size w y) k hk => era_cells (k := k) ((h.re z hz).below hb) hk rfl)
  have hne := h.ne z hz
  obtain ⟨R, hR⟩ : ∃ R, refL s.rules (svF s) z.eras t = R := ⟨_, rfl⟩
  rw [hR]
  have HR := Lib.hid hR
  clear h hz hs hx hR
  obtain ⟨rs, zs, ls⟩ := s
  obtain ⟨z0, es, Az, cz⟩ := z
  simp only [ZoneM.cells] at HPh HEn HEc HR hne ⊢
  have hb3 := box3 w 26 49 30 #[.slice A rs.length c, .slice A2 zs.length c2, .slice A3 ls.length c3] #[.string z0, .slice Az es.length cz] #[.int .i64 0, .int .i64 0, .string ⟨#[]⟩]
  obtain ⟨W, hW⟩ : ∃ W, ((w.alloc (.cells #[.slice A rs.length c, .slice A2 zs.length c2, .slice A3 ls.length c3] 26)).alloc (.cells #[.string z0, .slice Az es.length cz] 49)).alloc (.cells #[.int .i64 0, .int .i64 0, .string ⟨#[]⟩] 30) = W := ⟨_, rfl⟩
  rw [hW] at hb3
  obtain ⟨b0, b1, b2, hbw, hsz⟩ := hb3
  have HP : Hid (At3 w #[.slice A rs.length c, .slice A2 zs.length c2, .slice A3 ls.length c3] #[.string z0, .slice Az es.length cz] W) := ⟨b0, b1, b2, hbw⟩
  clear b0 b1 b2 hbw
  go_enter Tryz.func21, Tryz.ntmps21
  go_wp2_with fail
  try rw [hW]
  go_loopw [7] (fun i wr => ∃ k : Nat, k ≤ es.length ∧ i = .int .i64 k ∧ refL rs (svF ⟨rs, zs, ls⟩) (es.drop k) t = R ∧ At3 w #[.slice A rs.length c, .slice A2 zs.length c2, .slice A3 ls.length c3] #[.string z0, .slice Az es.length cz] wr) (fun i _ => es.length - (intOf i).toNat)
  case atStart => exact ⟨0, Nat.zero_le _, rfl, by rw [List.drop_zero]; exact HR.out, HP.out⟩
  case round =>
    clear HP HR hW
    obtain ⟨k, hk, rfl, hq, hp⟩ := hrel
    have HP := Lib.hid hp
    have cz := fun i => hp.zon.cell i
    have cr := fun i => hp.res.cell i
    have fr := fun i => hp.res.frozen i
    clear hp
    by_cases hkn : k < es.length
    · obtain ⟨ae, hAe, _, a0, a1, a2, a3, a4, a5, a6, a7, a8, a9, a10, a11, a12⟩ := HEc.out _ HP.out.bel k hkn
      subst hAe
      rw [List.drop_eq_getElem_cons hkn] at hq
      have hkb : decide ((k : Int) < (es.length : Nat)) = true := decide_eq_true (by omega)
      have hph := HPh.out es[k] (List.getElem_mem hkn)
      have hen := HEn.out es[k] (List.getElem_mem hkn)
      unfold refL at hq
      have hep : (es[k]'hkn).till = true → endP (svF ⟨rs, zs, ls⟩) (es[k]'hkn) = endI (es[k]'hkn) (svF ⟨rs, zs, ls⟩ (es[k]'hkn)) := fun h => by unfold endP; rw [if_pos h]
      generalize (es[k]'hkn) = x at *
      obtain ⟨E, hE⟩ : ∃ E, endI x (svF ⟨rs, zs, ls⟩ x) = E := ⟨_, rfl⟩
      obtain ⟨F, hF⟩ : ∃ F, phaseE rs x t = F := ⟨_, rfl⟩
      rw [hE] at hen hep
      rw [hF] at hph hq
      have hq2 : (x.till = true ∧ E ≤ t) ∧ refL rs (svF ⟨rs, zs, ls⟩) (es.drop (k + 1)) t = R ∨ ((x.till = false ∨ ¬ E ≤ t) ∧ F = R) := by
        by_cases hc : x.till = true ∧ endP (svF ⟨rs, zs, ls⟩) x ≤ t
        · rw [if_pos hc] at hq
          exact .inl ⟨⟨hc.1, by rw [← hep hc.1]; exact hc.2⟩, hq⟩
        · rw [if_neg hc] at hq
          refine .inr ⟨?_, hq⟩
          cases hxt : x.till with
          | false => exact .inl rfl
          | true => exact .inr fun hle => hc ⟨hxt, by rw [hep hxt]; exact hle⟩
      obtain ⟨x0, x1, x2, x3, x4, x5, x6, ⟨y0, y1, y2, y3, y4, y5⟩⟩ := x
      simp only [Era.cells] at hph hen hq2 a0 a1 a2 a3 a4 a5 a6 a7 a8 a9 a10 a11 a12
      have HPx := Lib.hid hph; have HEx := Lib.hid hen
      clear hph hen hE hF hep hq HPh HEn
      rcases hq2 with ⟨⟨rfl, hle⟩, hq⟩ | ⟨hor, rfl⟩
      · have ha := HP.out.step ((Below.refl wr.heap.size wr).alloc (Nat.le_refl _) (.cells #[.int .i64 x0, .int .i64 x1, .int .i64 x2, .string x3, .string x4, .bool true, .int .i64 x6, .int .i64 y0, .int .i64 y1, .int .i64 y2, .int .i64 y3, .int .i64 y4, .int .i64 y5] 57))
        have hxb := Blk.new wr 57 #[.int .i64 x0, .int .i64 x1, .int .i64 x2, .string x3, .string x4, .bool true, .int .i64 x6, .int .i64 y0, .int .i64 y1, .int .i64 y2, .int .i64 y3, .int .i64 y4, .int .i64 y5]
        have cx := fun i => hxb.cell i
        have ca := fun i => ha.src.cell i
        have cra := fun i => ha.res.cell i
        have fra := fun i => ha.res.frozen i
        have HA := Lib.hid ha; have HXb := Lib.hid hxb
        clear ha hxb
        have hlb : decide (t < E) = false := decide_eq_false (by omega)
        have HQ := Lib.hid hq
        clear hq hle
        go_wp2_with ((go_at_call 54; refine (HEx.out _ HA.out.bel).mono ?_; rintro e w5 ⟨rfl, hb⟩; have h5 := HA.out.step hb; have hx5 := HXb.out.below hb HXb.out.lt; have c5 := fun i => h5.src.cell i; have cx5 := fun i => hx5.cell i; have cr5 := fun i => h5.res.cell i; have fr5 := fun i => h5.res.frozen i; have HA5 := Lib.hid h5; clear hb h5 hx5 cx ca cra fra))
        exact ⟨⟨k + 1, by omega, by go_num, HQ.out, HA5.out⟩, by simp [intOf]; omega⟩
      · obtain ⟨f0, f1, f2⟩ := F
        simp only at HPx ⊢
        cases hx5 : x5
        · subst hx5
          have ha := HP.out.step ((Below.refl wr.heap.size wr).alloc (Nat.le_refl _) (.cells #[.int .i64 x0, .int .i64 x1, .int .i64 x2, .string x3, .string x4, .bool false, .int .i64 x6, .int .i64 y0, .int .i64 y1, .int .i64 y2, .int .i64 y3, .int .i64 y4, .int .i64 y5] 57))
          have hxb := Blk.new wr 57 #[.int .i64 x0, .int .i64 x1, .int .i64 x2, .string x3, .string x4, .bool false, .int .i64 x6, .int .i64 y0, .int .i64 y1, .int .i64 y2, .int .i64 y3, .int .i64 y4, .int .i64 y5]
          have cx := fun i => hxb.cell i
          have ca := fun i => ha.src.cell i
          have cra := fun i => ha.res.cell i
          have fra := fun i => ha.res.frozen i
          have HA := Lib.hid ha; have HXb := Lib.hid hxb
          clear ha hxb
          go_wp2_with (first
            | (go_at_call 50; refine (HPx.out _ HA.out.bel).mono ?_; rintro e w6 ⟨rfl, hb⟩; have h6 := HA.out.step hb; have cr6 := fun i => h6.res.cell i; have fr6 := fun i => h6.res.frozen i; have HA6 := Lib.hid h6; clear hb h6))
          refine bodyPost_ret (rat_results (((HA6.out.res.set_ 0 (.int .i64 f0)).set_ 1 (.int .i64 f1)).set_ 2 (.string f2)) _ rfl) rfl ?_
          exact ⟨rfl, ((HA6.out.bel.setCell (by simp; omega) _).setCell (by simp; omega) _).setCell (by simp; omega) _⟩
        · subst hx5
          have hlt : ¬ E ≤ t := by simpa using hor
          have hlb : decide (t < E) = true := decide_eq_true (by omega)
          clear hlt hor
          have ha := HP.out.step ((Below.refl wr.heap.size wr).alloc (Nat.le_refl _) (.cells #[.int .i64 x0, .int .i64 x1, .int .i64 x2, .string x3, .string x4, .bool true, .int .i64 x6, .int .i64 y0, .int .i64 y1, .int .i64 y2, .int .i64 y3, .int .i64 y4, .int .i64 y5] 57))
          have hxb := Blk.new wr 57 #[.int .i64 x0, .int .i64 x1, .int .i64 x2, .string x3, .string x4, .bool true, .int .i64 x6, .int .i64 y0, .int .i64 y1, .int .i64 y2, .int .i64 y3, .int .i64 y4, .int .i64 y5]
          have cx := fun i => hxb.cell i
          have ca := fun i => ha.src.cell i
          have cra := fun i => ha.res.cell i
          have fra := fun i => ha.res.frozen i
          have HA := Lib.hid ha; have HXb := Lib.hid hxb
          clear ha hxb
          go_wp2_with (first
            | (go_at_call 54; refine (HEx.out _ HA.out.bel).mono ?_; rintro e w5 ⟨rfl, hb⟩; have h5 := HA.out.step hb; have hx5 := HXb.out.below hb HXb.out.lt; have c5 := fun i => h5.src.cell i; have cx5 := fun i => hx5.cell i; have cr5 := fun i => h5.res.cell i; have fr5 := fun i => h5.res.frozen i; have HA5 := Lib.hid h5; clear hb h5 hx5 cx ca cra fra)
            | (go_at_call 50; refine (HPx.out _ HA5.out.bel).mono ?_; rintro e w6 ⟨rfl, hb⟩; have h6 := HA5.out.step hb; have cr6 := fun i => h6.res.cell i; have fr6 := fun i => h6.res.frozen i; have HA6 := Lib.hid h6; clear hb h6))
          refine bodyPost_ret (rat_results (((HA6.out.res.set_ 0 (.int .i64 f0)).set_ 1 (.int .i64 f1)).set_ 2 (.string f2)) _ rfl) rfl ?_
          exact ⟨rfl, ((HA6.out.bel.setCell (by simp; omega) _).setCell (by simp; omega) _).setCell (by simp; omega) _⟩
    · obtain rfl : k = es.length := by omega
      rw [List.drop_length] at hq
      unfold refL at hq
      subst hq
      have hkb : decide (((es.length : Nat) : Int) < (es.length : Nat)) = false := decide_eq_false (by omega)
      go_wp2_with fail
      refine bodyPost_ret (rat_results (((HP.out.res.set_ 0 (.int .i64 0)).set_ 1 (.int .i64 0)).set_ 2 (.string ⟨#[]⟩)) _ rfl) rfl ?_
      exact ⟨rfl, ((HP.out.bel.setCell (by simp; omega) _).setCell (by simp; omega) _).setCell (by simp; omega) _⟩
end Go.Proofs.YtdicedpklpadgaaGreatDoor.Cmq
