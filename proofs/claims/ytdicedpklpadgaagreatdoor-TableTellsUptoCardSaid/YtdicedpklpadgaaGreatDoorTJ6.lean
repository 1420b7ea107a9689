/-
  The document's sets and an era's end (analemmaref12: Set, End). Conditions: what the source's slices hold is read; right rules; the era's clock is one of three.
  The document's Phase (package analemmaref12). Conditions: right rules, bounded eras; what the source's slices hold is read.
-/
import Derived.Test.YtdicedpklpadgaaGreatDoorY25
import Derived.Test.YtdicedpklpadgaaGreatDoorY14
import Derived.Test.YtdicedpklpadgaaGreatDoorTKR11Pc
import Derived.Test.YtdicedpklpadgaaGreatDoorY41
import Derived.Test.YtdicedpklpadgaaGreatDoorTJ0
import Derived.Test.YtdicedpklpadgaaGreatDoorY26
import Derived.Test.YtdicedpklpadgaaGreatDoorY27
import Derived.Test.YtdicedpklpadgaaGreatDoorY21
set_option linter.all false
section
namespace Go.Proofs.YtdicedpklpadgaaGreatDoor.Snd
open Go.RowKit Mem Civ Mom Img Plc Rul Src Go.Maps

set_option maxHeartbeats 1000000 in
set_option maxRecDepth 100000 in
theorem rset_any (s : Src) (A A2 A3 : Option Addr) (c c2 c3 : Nat) (nm : ByteArray) (w : World) (h : SrcOk s A A2 A3 w) :
    Calls Tryz.prog 36 #[.agg #[.slice A s.rules.length c, .slice A2 s.zones.length c2, .slice A3 s.links.length c3], .string nm] w fun e w' => ∃ v, e = .returned v ∧ w'.ownsRow w.heap.size 59 11 v (setL s.rules nm).length ((setL s.rules nm).flatMap Rule.cells) ∧ Below w.heap.size w w' := by
  obtain ⟨i1, hi1, hy0, hy1, hy2⟩ := info_parts info_rule
  have hrr := h.rr; have nr := h.nr
  clear h
  obtain ⟨rs, zs, ls⟩ := s
  simp only at hrr nr ⊢
  have hone := One.new w 26 #[.slice A rs.length c, .slice A2 zs.length c2, .slice A3 ls.length c3]
  obtain ⟨W, hW⟩ : ∃ W, w.alloc (.cells #[.slice A rs.length c, .slice A2 zs.length c2, .slice A3 ls.length c3] 26) = W := ⟨_, rfl⟩
  rw [hW] at hone
  have hsz : W.heap.size = w.heap.size + 1 := by rw [← hW]; simp
  have HO := Lib.hid hone; have HR := Lib.hid hrr; have HSz := Lib.hid hsz
  clear hone hrr hsz
  go_enter Tryz.func36, Tryz.ntmps36
  go_wp2_with fail
  go_loopw [5, 6] (fun v i wr => ∃ k : Nat, k ≤ rs.length ∧ i = .int .i64 k ∧ wr.ownsRow W.heap.size 59 11 v (setL (rs.take k) nm).length ((setL (rs.take k) nm).flatMap Rule.cells) ∧ Below W.heap.size W wr) (fun _ i _ => rs.length - (intOf i).toNat)
  case atStart => exact ⟨0, Nat.zero_le _, rfl, World.ownsRow_nil _ _ _ _, Below.refl _ _⟩
  case round =>
    obtain ⟨k, hk, rfl, hown, hb⟩ := hrel
    have hsl := setL_len (rs.take k) nm
    rw [List.length_take] at hsl
    have ho := HO.out.step hb
    have c0 := fun i => ho.1.cell i
    have HOw := Lib.hid hown; have HB := Lib.hid hb; have Hsz := Lib.hid hb.size; have HOr := Lib.hid ho
    clear hown hb ho
    by_cases hkn : k < rs.length
    · obtain ⟨ad, hA, hadb, a0, a1, a2, a3, a4, a5, a6, a7, a8, a9, a10⟩ := rule_cells (HR.out.below HOr.out.2) hkn
      subst hA
      have hst := setL_step (nm := nm) hkn
      have hbq := tl_beq rs[k].name nm
      have HSt := Lib.hid hst
      clear hst
      generalize rs[k] = x at *
      obtain ⟨x0, x1, x2, x3, x4, x5, x6, x7, x8, x9, x10⟩ := x
      simp only at a0 a1 a2 a3 a4 a5 a6 a7 a8 a9 a10 HSt hbq
      have m1 : (setL (rs.take k) nm).length + 1 ≤ maxLen := by unfold maxLen; omega
      have m2 : ((setL (rs.take k) nm).length + 1) * 104 ≤ 140737488355328 := by omega
      have M1 := Lib.hid m1; have M2 := Lib.hid m2
      clear m1 m2 hsl
      cases hd : decide (x0 = nm)
      · rw [hd] at HSt hbq
        go_wp2_with fail
        refine ⟨⟨k + 1, by omega, by go_num, ?_, HB.out⟩, by simp [intOf]; omega⟩
        rw [HSt.out]
        simp only [Bool.false_eq_true, if_false]
        exact HOw.out
      · rw [hd] at HSt hbq
        generalize setL (rs.take k) nm = l1 at *
        go_wp2_with ((at_builtin; refine wpList_append1g wr rfl (.tmp 22) (.tmp 28) 22 rfl W.heap.size 59 i1 _ 11 104 Tryz.underlying22 hi1 hy0 hy1 hy2 rfl (by decide) _ l1.length (l1.flatMap Rule.cells) rfl HOw.out (by simp [Act.eval]) rfl one_rule M1.out M2.out Hsz.out ?_; intro v' wB hown8 hg8; have HO2 := Lib.hid hown8; have HB2 := Lib.hid ((HB.out.alloc Hsz.out _).grown hg8 (by have := Hsz.out; simp; omega) (fun j hj => (HOw.out.lt j hj).1)); clear hown8 hg8))
        refine ⟨⟨k + 1, by omega, by go_num, ?_, HB2.out⟩, by simp [intOf]; omega⟩
        rw [HSt.out]
        simp only [if_true, List.length_append, List.flatMap_append, List.length_cons, List.length_nil, List.flatMap_cons, List.flatMap_nil, List.append_nil]
        exact HO2.out
    · obtain rfl : k = rs.length := by omega
      have hb := HOr.out.2
      have ho2 := HOw.out
      rw [List.take_length] at ho2
      have HO2 := Lib.hid (own_base ho2 (by have := HSz.out; omega : w.heap.size ≤ W.heap.size))
      clear ho2
      go_wp2_with fail
      go_ret
      exact ⟨_, rfl, HO2.out, HOr.out.2⟩
theorem set_right {rs : List Rule} (h : rulesB rs = true) (nm : ByteArray) : rulesB (setL rs nm) = true := by
  unfold rulesB at h ⊢
  rw [List.all_eq_true] at h ⊢
  exact fun r hr => h r (List.mem_filter.1 hr).1
end Go.Proofs.YtdicedpklpadgaaGreatDoor.Snd
end
section
namespace Go.Proofs.YtdicedpklpadgaaGreatDoor.Cmq
open Go.RowKit Mem Civ Mom Img Plc Rul Ahd Src Snd Att Abr

def phD (x : Era) (f : Int × ByteArray) : Phase := ⟨x.off + f.1, f.1, abbrB x.format f.2 (x.off + f.1) f.1⟩
theorem setL_mm {rs : List Rule} {nm : ByteArray} {r : Rule} : r ∈ setL rs nm ↔ r ∈ rs ∧ r.name = nm := by
  unfold setL
  simp [List.mem_filter]
theorem bel_nx {W W' W'' : World} (h : Below W.heap.size W W') (hb : Below W'.heap.size W' W'') : Below W.heap.size W W'' := h.trans (hb.mono h.size)
/-- What is asked of an era whose phase the document tells. -/
structure EraD (x : Era) : Prop where
  off : -86400 < x.off ∧ x.off < 86400
  save : -43200 ≤ x.save ∧ x.save ≤ 43200
  zero : x.kind ≠ 2 → x.kind ≠ 1 → x.save = 0
  fmt : x.format.size ≤ 2097152
theorem savE_doc {rs : List Rule} {x : Era} (h : EraD x) (t : Int) : savE rs x t = if x.kind = 2 then forceP (setL rs x.rules) x.off t else (x.save, ⟨#[]⟩) := by
  unfold savE
  by_cases hk : x.kind = 2
  · have e : setOf rs x = setL rs x.rules := by unfold setOf; rw [if_pos hk]
    rw [if_pos hk, if_pos hk, e]
  · rw [if_neg hk, if_neg hk]
    by_cases h1 : x.kind = 1
    · rw [if_pos h1]
    · rw [if_neg h1, h.zero hk h1]
theorem give_force {rs : List Rule} {off t : Int} (hr : rulesB rs = true) (h1 : -86400 < off) (h2 : off < 86400) : giveO rs (lastD rs off t) = forceP rs off t := by
  unfold forceP
  rw [if_pos ⟨hr, h1, h2⟩, lastD_is hr h1 h2]
theorem rph_results {w : World} {R0 : Nat} {a0 a1 a2 : Value} (h : Blk w R0 30 #[a0, a1, a2]) (tmps : Array Value) (ht : tmps[6]? = some (.pointer (some ⟨R0, 0, none⟩))) :
    (results Tryz.f50 tmps).run Tryz.prog w = .ok (.agg #[a0, a1, a2]) w := by
  have hc := fun i => h.cell i
  simp [results, Tryz.results50, go_sem, hc, ht]
/-- What Phase's frame holds in memory. -/
structure Ph3 (w : World) (cs es : Array Value) (W : World) : Prop where
  src : Blk W w.heap.size 26 cs
  era : Blk W (w.heap.size + 1) 57 es
  res : Blk W (w.heap.size + 1 + 1) 30 #[.int .i64 0, .int .i64 0, .string ⟨#[]⟩]
  bel : Below w.heap.size w W
theorem Ph3.step {w W W' : World} {cs es : Array Value} (h : Ph3 w cs es W) (hb : Below W.heap.size W W') : Ph3 w cs es W' :=
  ⟨h.src.below hb h.src.lt, h.era.below hb h.era.lt, h.res.below hb h.res.lt, h.bel.trans (hb.mono h.bel.size)⟩
theorem Ph3.drew {w W : World} {cs es : Array Value} (h : Ph3 w cs es W) : Ph3 w cs es W.drew := ⟨h.src.drew, h.era.drew, h.res.drew, h.bel.drew⟩
set_option maxHeartbeats 8000000 in
set_option maxRecDepth 100000 in
theorem rphase_any (s : Src) (A A2 A3 : Option Addr) (c c2 c3 : Nat) (x : Era) (t : Int) (w : World) (h : SrcOk s A A2 A3 w) (hs : rulesB s.rules = true) (hx : EraD x) (h1 : -9223372036854775808 ≤ t) (h2 : t ≤ 9223372036854775807) :
    Calls Tryz.prog 50 #[.agg #[.slice A s.rules.length c, .slice A2 s.zones.length c2, .slice A3 s.links.length c3], .agg x.cells.toArray, .int .i64 t] w fun e w' =>
      e = .returned (.agg #[.int .i64 (phaseE s.rules x t).off, .int .i64 (phaseE s.rules x t).save, .string (phaseE s.rules x t).abbr]) ∧ Below w.heap.size w w' := by
  have hsv : phaseE s.rules x t = phD x (savE s.rules x t) := rfl
  rw [hsv, savE_doc hx]
  have hlen := Nat.le_trans (setL_len s.rules x.rules) h.nr
  have hrs := set_right hs x.rules
  have hfo := force_ok (setL s.rules x.rules) x.off t (fun r hr => (h.tr r (setL_mm.1 hr).1).2)
  have hgv := give_force (t := t) hrs hx.off.1 hx.off.2
  have HS := Lib.hid (fun z (hb : Below w.heap.size w z) => rset_any s A A2 A3 c c2 c3 x.rules z (h.below hb))
  have HF := Lib.hid (fun Ae ce z hr => refForce_any (setL s.rules x.rules) Ae ce x.off t z hr hlen hrs h1 h2)
  rw [hgv] at HF
  have ho := hx.off; have hsb := hx.save; have hfm := hx.fmt
  clear h hs hx hsv hgv hrs hlen
  obtain ⟨rs, zs, ls⟩ := s
  obtain ⟨x0, x1, x2, x3, x4, x5, x6, ⟨y0, y1, y2, y3, y4, y5⟩⟩ := x
  simp only [Era.cells, phD] at HS HF hfo ho hsb hfm ⊢
  have hb3 := box3 w 26 57 30 #[.slice A rs.length c, .slice A2 zs.length c2, .slice A3 ls.length c3] #[.int .i64 x0, .int .i64 x1, .int .i64 x2, .string x3, .string x4, .bool x5, .int .i64 x6, .int .i64 y0, .int .i64 y1, .int .i64 y2, .int .i64 y3, .int .i64 y4, .int .i64 y5] #[.int .i64 0, .int .i64 0, .string ⟨#[]⟩]
  obtain ⟨W, hW⟩ : ∃ W, ((w.alloc (.cells #[.slice A rs.length c, .slice A2 zs.length c2, .slice A3 ls.length c3] 26)).alloc (.cells #[.int .i64 x0, .int .i64 x1, .int .i64 x2, .string x3, .string x4, .bool x5, .int .i64 x6, .int .i64 y0, .int .i64 y1, .int .i64 y2, .int .i64 y3, .int .i64 y4, .int .i64 y5] 57)).alloc (.cells #[.int .i64 0, .int .i64 0, .string ⟨#[]⟩] 30) = W := ⟨_, rfl⟩
  rw [hW] at hb3
  obtain ⟨b0, b1, b2, hbw, hsz⟩ := hb3
  have HP : Hid (Ph3 w #[.slice A rs.length c, .slice A2 zs.length c2, .slice A3 ls.length c3] #[.int .i64 x0, .int .i64 x1, .int .i64 x2, .string x3, .string x4, .bool x5, .int .i64 x6, .int .i64 y0, .int .i64 y1, .int .i64 y2, .int .i64 y3, .int .i64 y4, .int .i64 y5] W) := ⟨b0, b1, b2, hbw⟩
  have c1 := fun i => b1.cell i
  clear b0 b1 b2 hbw
  by_cases hk : x1 = 2
  · subst hk
    rw [if_pos rfl]
    obtain ⟨⟨fs, fl⟩, hF⟩ : ∃ f, forceP (setL rs x3) x0 t = f := ⟨_, rfl⟩
    rw [hF] at HF hfo ⊢
    simp only at HF hfo ⊢
    obtain ⟨ab, hab⟩ : ∃ ab, abbrB x4 fl (x0 + fs) fs = ab := ⟨_, rfl⟩
    rw [hab]
    have Hab := Lib.hid hab
    clear hab
    go_enter Tryz.func50, Tryz.ntmps50
    go_wp2_with fail
    have hSW : ∀ z, Below W.heap.size W z → Calls Tryz.prog 36 #[.agg #[.slice A rs.length c, .slice A2 zs.length c2, .slice A3 ls.length c3], .string x3] z fun e w' => ∃ v, e = .returned v ∧ w'.ownsRow z.heap.size 59 11 v (setL rs x3).length ((setL rs x3).flatMap Rule.cells) ∧ Below z.heap.size z w' := fun z hb => HS.out z (HP.out.bel.trans (hb.mono HP.out.bel.size))
    have hKe : ∀ w', Below W.heap.size W w' → w'.cell? ⟨w.heap.size, 0, none⟩ = some (.slice A rs.length c) ∧ w'.cell? ⟨w.heap.size, 1, none⟩ = some (.slice A2 zs.length c2) ∧ w'.cell? ⟨w.heap.size, 2, none⟩ = some (.slice A3 ls.length c3) ∧ w'.cell? ⟨w.heap.size + 1, 3, none⟩ = some (.string x3) ∧ w'.cell? ⟨w.heap.size + 1, 0, none⟩ = some (.int .i64 x0) ∧ Below W.heap.size W w' := fun w' h => ⟨(HP.out.step h).src.cell 0, (HP.out.step h).src.cell 1, (HP.out.step h).src.cell 2, (HP.out.step h).era.cell 3, (HP.out.step h).era.cell 0, h⟩
    have HSW := Lib.hid hSW; have HKe := Lib.hid hKe
    have kb0 : Below W.heap.size W W.drew := below_drew W
    clear hSW hKe c1
    go_region_held3 (fun w' => w'.cell? ⟨w.heap.size, 0, none⟩ = some (.slice A rs.length c) ∧ w'.cell? ⟨w.heap.size, 1, none⟩ = some (.slice A2 zs.length c2) ∧ w'.cell? ⟨w.heap.size, 2, none⟩ = some (.slice A3 ls.length c3) ∧ w'.cell? ⟨w.heap.size + 1, 3, none⟩ = some (.string x3) ∧ w'.cell? ⟨w.heap.size + 1, 0, none⟩ = some (.int .i64 x0) ∧ Below W.heap.size W w') (exact HKe.out _ (by go_grown)) (first
      | (go_at_call 36; refine (HSW.out _ (by go_grown)).mono ?_; rintro e w5 ⟨v, rfl, hown, hb⟩; obtain ⟨Av, cv, rfl⟩ := own_slice hown; have kb5 := bel_nx (W := W) (by go_grown) hb; have ks5 := kb5.size; have HRv := Lib.hid (Reads.of_own hown); clear hown)
      | (go_at_call 101; refine (HF.out _ _ _ HRv.out).mono ?_; rintro e w6 ⟨rfl, hb6⟩; have kb6 := bel_nx (W := W) (by go_grown) hb6; have ks6 := kb6.size))
    all_goals
      have HP6 := Lib.hid (HP.out.step kb6)
      clear kb0 kb5 kb6 ks5 ks6 hb hb6 HRv HSW HKe
      go_wp2_with fail
      have hw : IntKind.i64.wrap (x0 + fs) = x0 + fs := by rw [IntKind.wrap_i64]; omega
      obtain ⟨Cls, hCls⟩ : ∃ C : World → Prop, C = Ph3 w #[.slice A rs.length c, .slice A2 zs.length c2, .slice A3 ls.length c3] #[.int .i64 x0, .int .i64 2, .int .i64 x2, .string x3, .string x4, .bool x5, .int .i64 x6, .int .i64 y0, .int .i64 y1, .int .i64 y2, .int .i64 y3, .int .i64 y4, .int .i64 y5] := ⟨_, rfl⟩
      have hC : ∀ z, Cls z → Ph3 w #[.slice A rs.length c, .slice A2 zs.length c2, .slice A3 ls.length c3] #[.int .i64 x0, .int .i64 2, .int .i64 x2, .string x3, .string x4, .bool x5, .int .i64 x6, .int .i64 y0, .int .i64 y1, .int .i64 y2, .int .i64 y3, .int .i64 y4, .int .i64 y5] z := fun z h => by rw [hCls] at h; exact h
      have hstart : Cls w6.drew := by rw [hCls]; exact HP6.out.drew
      have inst : Nonempty (Qt.In Cls) := ⟨⟨_, hstart⟩⟩
      have gE : ∀ (z : Qt.In Cls) (i : Nat), z.w.cell? ⟨w.heap.size + 1, i, none⟩ = #[.int .i64 x0, .int .i64 2, .int .i64 x2, .string x3, .string x4, .bool x5, .int .i64 x6, .int .i64 y0, .int .i64 y1, .int .i64 y2, .int .i64 y3, .int .i64 y4, .int .i64 y5][i]? := fun z i => (hC z.w z.h).era.cell i
      have HAc : Hid (∀ z, Cls z → Calls Tryz.prog 102 #[.string x4, .string fl, .int .i64 (x0 + fs), .int .i64 fs] z fun e z' => e = .returned (.string ab) ∧ Cls z') := fun z h => by
        rw [← Hab.out]
        exact (rabbr_any x4 fl (x0 + fs) fs z hfm hfo.2.2 (by omega) (by omega)).mono fun e z' ⟨he, hb⟩ => ⟨he, by rw [hCls]; exact (hC z h).step hb⟩
      have HCx := Lib.hid hC; have HSt := Lib.hid hstart
      clear hC hstart hCls HP HS HF
      refine Qt.wp_region_cls_tail Cls 15 (by kernel_rfl) (by kernel_rfl) HSt.out ?_
      simp only [List.take_succ_cons, List.take_zero, List.drop_succ_cons, List.drop_zero]
      repeat (go_big_quiet_step ((go_at_call 102; exact Qt.quiet_cls (HAc.out _ (Qt.In.h _)))))
      refine wpQuiet_nil ?_
      rintro wq ⟨⟨w9, hq⟩, e9⟩
      have HX := Lib.hid (HCx.out wq (by rw [e9]; exact hq))
      clear hq e9 gE inst HAc HCx HSt
      have cR := fun i => HX.out.res.cell i
      have fR := fun i => HX.out.res.frozen i
      go_wp2_with fail
      refine bodyPost_ret (rph_results (((HX.out.res.set_ 0 (.int .i64 (x0 + fs))).set_ 1 (.int .i64 fs)).set_ 2 (.string ab)) _ rfl) rfl ?_
      exact ⟨rfl, ((HX.out.bel.setCell (by simp; omega) _).setCell (by simp; omega) _).setCell (by simp; omega) _⟩
  · rw [if_neg hk]
    have hkb : (x1 == 2) = false := by simp [hk]
    simp only
    obtain ⟨ab, hab⟩ : ∃ ab, abbrB x4 ⟨#[]⟩ (x0 + x2) x2 = ab := ⟨_, rfl⟩
    rw [hab]
    have Hab := Lib.hid hab
    clear hab
    have hz0 : (⟨#[]⟩ : ByteArray).size ≤ 2097152 := by decide
    go_enter Tryz.func50, Tryz.ntmps50
    go_wp2_with fail
    have hw : IntKind.i64.wrap (x0 + x2) = x0 + x2 := by rw [IntKind.wrap_i64]; omega
    obtain ⟨Cls, hCls⟩ : ∃ C : World → Prop, C = Ph3 w #[.slice A rs.length c, .slice A2 zs.length c2, .slice A3 ls.length c3] #[.int .i64 x0, .int .i64 x1, .int .i64 x2, .string x3, .string x4, .bool x5, .int .i64 x6, .int .i64 y0, .int .i64 y1, .int .i64 y2, .int .i64 y3, .int .i64 y4, .int .i64 y5] := ⟨_, rfl⟩
    have hC : ∀ z, Cls z → Ph3 w #[.slice A rs.length c, .slice A2 zs.length c2, .slice A3 ls.length c3] #[.int .i64 x0, .int .i64 x1, .int .i64 x2, .string x3, .string x4, .bool x5, .int .i64 x6, .int .i64 y0, .int .i64 y1, .int .i64 y2, .int .i64 y3, .int .i64 y4, .int .i64 y5] z := fun z h => by rw [hCls] at h; exact h
    have hstart : Cls W.drew := by rw [hCls]; exact HP.out.drew
    have inst : Nonempty (Qt.In Cls) := ⟨⟨_, hstart⟩⟩
    have gE : ∀ (z : Qt.In Cls) (i : Nat), z.w.cell? ⟨w.heap.size + 1, i, none⟩ = #[.int .i64 x0, .int .i64 x1, .int .i64 x2, .string x3, .string x4, .bool x5, .int .i64 x6, .int .i64 y0, .int .i64 y1, .int .i64 y2, .int .i64 y3, .int .i64 y4, .int .i64 y5][i]? := fun z i => (hC z.w z.h).era.cell i
    have HAc : Hid (∀ z, Cls z → Calls Tryz.prog 102 #[.string x4, .string ⟨#[]⟩, .int .i64 (x0 + x2), .int .i64 x2] z fun e z' => e = .returned (.string ab) ∧ Cls z') := fun z h => by
      rw [← Hab.out]
      exact (rabbr_any x4 ⟨#[]⟩ (x0 + x2) x2 z hfm hz0 (by omega) (by omega)).mono fun e z' ⟨he, hb⟩ => ⟨he, by rw [hCls]; exact (hC z h).step hb⟩
    have HCx := Lib.hid hC; have HSt := Lib.hid hstart
    clear hC hstart hCls HS HF c1
    refine Qt.wp_region_cls_tail Cls 15 (by kernel_rfl) (by kernel_rfl) HSt.out ?_
    simp only [List.take_succ_cons, List.take_zero, List.drop_succ_cons, List.drop_zero]
    repeat (go_big_quiet_step ((go_at_call 102; exact Qt.quiet_cls (HAc.out _ (Qt.In.h _)))))
    refine wpQuiet_nil ?_
    rintro wq ⟨⟨w9, hq⟩, e9⟩
    have HX := Lib.hid (HCx.out wq (by rw [e9]; exact hq))
    clear hq e9 gE inst HAc HCx HSt
    have cR := fun i => HX.out.res.cell i
    have fR := fun i => HX.out.res.frozen i
    go_wp2_with fail
    refine bodyPost_ret (rph_results (((HX.out.res.set_ 0 (.int .i64 (x0 + x2))).set_ 1 (.int .i64 x2)).set_ 2 (.string ab)) _ rfl) rfl ?_
    exact ⟨rfl, ((HX.out.bel.setCell (by simp; omega) _).setCell (by simp; omega) _).setCell (by simp; omega) _⟩
end Go.Proofs.YtdicedpklpadgaaGreatDoor.Cmq
end
