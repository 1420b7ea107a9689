/-
  Package eras: how clocks stand by an era (none, fixed, ruled, saving, phase, Phase). Conditions: what the source's slices hold is read; a right source; an int64.
-/
import Derived.Test.YtdicedpklpadgaaGreatDoorY26
set_option linter.all false
namespace Go.Proofs.YtdicedpklpadgaaGreatDoor.Cmq
open Go.RowKit Mem Civ Mom Img Rul Ahd Trn Src Snd Att Rgt Abr

/-- What an era's saving is, where its rules give f. -/
def savV (x : Era) (f : Int × ByteArray) : Int × ByteArray := if x.kind = 2 then f else if x.kind = 1 then (x.save, ⟨#[]⟩) else (0, ⟨#[]⟩)
/-- rules.Force answers f. -/
def ForceAt (A : Option Addr) (n c : Nat) (off t : Int) (f : Int × ByteArray) (w : World) : Prop :=
  ∀ z, Below w.heap.size w z → Calls Tryz.prog 37 #[.slice A n c, .int .i64 off, .int .i64 t] z fun e w' => e = .returned (.tuple #[.int .i64 f.1, .string f.2]) ∧ Below z.heap.size z w'
section
variable (x : Era) (A : Option Addr) (n c : Nat) (t : Int) (w : World)
set_option maxRecDepth 100000 in
theorem none_any : Calls Tryz.prog 167 #[.agg (eraV x A n c), .int .i64 t] w fun e w' => e = .returned (.tuple #[.int .i64 0, .string ⟨#[]⟩]) ∧ Below w.heap.size w w' := by
  simp only [eraV]
  go_enter Tryz.func167, Tryz.ntmps167
  go_wp2_with fail
  go_ret2
  exact ⟨rfl, (Below.refl _ _).alloc (Nat.le_refl _) _⟩
set_option maxRecDepth 100000 in
theorem fixed_any : Calls Tryz.prog 168 #[.agg (eraV x A n c), .int .i64 t] w fun e w' => e = .returned (.tuple #[.int .i64 x.save, .string ⟨#[]⟩]) ∧ Below w.heap.size w w' := by
  have hone := One.new w 100 (eraV x A n c)
  simp only [eraV] at hone ⊢
  obtain ⟨W, hW⟩ : ∃ W, w.alloc (.cells #[.int .i64 x.off, .int .i64 x.kind, .int .i64 x.save, .string x.rules, .string x.format, .bool x.till, .int .i64 x.year, .int .i64 x.spot.month, .int .i64 x.spot.kind, .int .i64 x.spot.weekday, .int .i64 x.spot.day, .int .i64 x.spot.time, .int .i64 x.spot.ref, .slice A n c] 100) = W := ⟨_, rfl⟩
  rw [hW] at hone
  have HO := Lib.hid hone
  have c0 := fun i => hone.1.cell i
  clear hone
  go_enter Tryz.func168, Tryz.ntmps168
  go_wp2_with fail
  go_ret2
  exact ⟨rfl, HO.out.2⟩
set_option maxRecDepth 100000 in
theorem ruled_any (f : Int × ByteArray) (hF : ForceAt A n c x.off t f w) : Calls Tryz.prog 169 #[.agg (eraV x A n c), .int .i64 t] w fun e w' => e = .returned (.tuple #[.int .i64 f.1, .string f.2]) ∧ Below w.heap.size w w' := by
  have hone := One.new w 100 (eraV x A n c)
  simp only [eraV] at hone ⊢
  obtain ⟨W, hW⟩ : ∃ W, w.alloc (.cells #[.int .i64 x.off, .int .i64 x.kind, .int .i64 x.save, .string x.rules, .string x.format, .bool x.till, .int .i64 x.year, .int .i64 x.spot.month, .int .i64 x.spot.kind, .int .i64 x.spot.weekday, .int .i64 x.spot.day, .int .i64 x.spot.time, .int .i64 x.spot.ref, .slice A n c] 100) = W := ⟨_, rfl⟩
  rw [hW] at hone
  have HO := Lib.hid hone; have HF := Lib.hid hF
  have c0 := fun i => hone.1.cell i
  clear hone hF
  go_enter Tryz.func169, Tryz.ntmps169
  go_wp2_with (go_at_call 37; refine (HF.out _ HO.out.2).mono ?_; rintro e w1 ⟨rfl, hb⟩; have HB := Lib.hid (HO.out.step hb); clear hb)
  go_ret2
  exact ⟨rfl, HB.out.2⟩
end
theorem sav0 (w : World) : (Instr.index 186 (.agg #[Value.func (Fn.func 167) #[] #[], Value.func (Fn.func 168) #[] #[], Value.func (Fn.func 169) #[] #[]]) (.int .i64 0)).run Tryz.prog w = .ok (Value.func (Fn.func 167) #[] #[]) w := by kernel_rfl
theorem sav1 (w : World) : (Instr.index 186 (.agg #[Value.func (Fn.func 167) #[] #[], Value.func (Fn.func 168) #[] #[], Value.func (Fn.func 169) #[] #[]]) (.int .i64 1)).run Tryz.prog w = .ok (Value.func (Fn.func 168) #[] #[]) w := by kernel_rfl
theorem sav2 (w : World) : (Instr.index 186 (.agg #[Value.func (Fn.func 167) #[] #[], Value.func (Fn.func 168) #[] #[], Value.func (Fn.func 169) #[] #[]]) (.int .i64 2)).run Tryz.prog w = .ok (Value.func (Fn.func 169) #[] #[]) w := by kernel_rfl
set_option maxHeartbeats 2000000 in
set_option maxRecDepth 100000 in
theorem saving_any (x : Era) (A : Option Addr) (n c : Nat) (t : Int) (f : Int × ByteArray) (w : World) (hk : x.kind = 0 ∨ x.kind = 1 ∨ x.kind = 2) (hF : x.kind = 2 → ForceAt A n c x.off t f w) :
    Calls Tryz.prog 114 #[.agg (eraV x A n c), .int .i64 t] w fun e w' => e = .returned (.tuple #[.int .i64 (savV x f).1, .string (savV x f).2]) ∧ Below w.heap.size w w' := by
  have hone := One.new w 100 (eraV x A n c)
  have hN : ∀ z, Calls _ _ _ z _ := fun z => none_any x A n c t z
  have hX : ∀ z, Calls _ _ _ z _ := fun z => fixed_any x A n c t z
  have hR := fun (h : x.kind = 2) z (hb : Below w.heap.size w z) => ruled_any x A n c t z f (fun z2 hb2 => hF h z2 (hb.trans (hb2.mono hb.size)))
  clear hF
  obtain ⟨x0, x1, x2, x3, x4, x5, x6, ⟨y0, y1, y2, y3, y4, y5⟩⟩ := x
  unfold savV
  simp only [eraV] at hone hk hN hX hR ⊢
  obtain ⟨W, hW⟩ : ∃ W, w.alloc (.cells #[.int .i64 x0, .int .i64 x1, .int .i64 x2, .string x3, .string x4, .bool x5, .int .i64 x6, .int .i64 y0, .int .i64 y1, .int .i64 y2, .int .i64 y3, .int .i64 y4, .int .i64 y5, .slice A n c] 100) = W := ⟨_, rfl⟩
  rw [hW] at hone
  have hOb := hone.2
  have inst : Nonempty (Qt.In (Below W.heap.size W)) := ⟨⟨_, Below.refl _ _⟩⟩
  have hlt := hone.1.lt
  rcases hk with rfl | rfl | rfl
  · have zc : ∀ (z : Qt.In (Below W.heap.size W)) (i : Nat), z.w.cell? ⟨w.heap.size, i, none⟩ = #[Value.int .i64 x0, .int .i64 0, .int .i64 x2, .string x3, .string x4, .bool x5, .int .i64 x6, .int .i64 y0, .int .i64 y1, .int .i64 y2, .int .i64 y3, .int .i64 y4, .int .i64 y5, .slice A n c][i]? := fun z i => (z.h.cell (p := ⟨w.heap.size, i, none⟩) hlt).trans (hone.1.cell i)
    have HC : Hid (∀ z, Below W.heap.size W z → Calls Tryz.prog 167 #[.agg #[.int .i64 x0, .int .i64 0, .int .i64 x2, .string x3, .string x4, .bool x5, .int .i64 x6, .int .i64 y0, .int .i64 y1, .int .i64 y2, .int .i64 y3, .int .i64 y4, .int .i64 y5, .slice A n c], .int .i64 t] z fun e z' => e = .returned (.tuple #[.int .i64 0, .string ⟨#[]⟩]) ∧ Below W.heap.size W z') := fun z h => (hN z).mono fun e z' ⟨he, hb⟩ => ⟨he, h.trans (hb.mono h.size)⟩
    have hs := sav0
    have HOb := Lib.hid hOb
    rw [if_neg (by decide), if_neg (by decide)]
    clear hN hX hR hone hOb
    go_enter Tryz.func114, Tryz.ntmps114
    go_wp2_with fail
    refine Qt.wp_region_cls (Below W.heap.size W) (by kernel_rfl) (by kernel_rfl) (below_dr (n := 1) (Below.refl _ _)) ?_
    repeat (go_big_quiet_step ((go_at_call 167; exact Qt.quiet_cls (HC.out _ (Qt.In.h _)))))
    refine wpQuiet_nil ?_
    rintro wq ⟨⟨w9, hq⟩, e9⟩
    have HQ : Hid (Below w.heap.size w wq) := HOb.out.trans ((show Below W.heap.size W wq by rw [e9]; exact hq).mono HOb.out.size)
    clear hq e9 zc hs inst
    go_wp2
    go_ret2
    exact ⟨rfl, HQ.out⟩
  · have zc : ∀ (z : Qt.In (Below W.heap.size W)) (i : Nat), z.w.cell? ⟨w.heap.size, i, none⟩ = #[Value.int .i64 x0, .int .i64 1, .int .i64 x2, .string x3, .string x4, .bool x5, .int .i64 x6, .int .i64 y0, .int .i64 y1, .int .i64 y2, .int .i64 y3, .int .i64 y4, .int .i64 y5, .slice A n c][i]? := fun z i => (z.h.cell (p := ⟨w.heap.size, i, none⟩) hlt).trans (hone.1.cell i)
    have HC : Hid (∀ z, Below W.heap.size W z → Calls Tryz.prog 168 #[.agg #[.int .i64 x0, .int .i64 1, .int .i64 x2, .string x3, .string x4, .bool x5, .int .i64 x6, .int .i64 y0, .int .i64 y1, .int .i64 y2, .int .i64 y3, .int .i64 y4, .int .i64 y5, .slice A n c], .int .i64 t] z fun e z' => e = .returned (.tuple #[.int .i64 x2, .string ⟨#[]⟩]) ∧ Below W.heap.size W z') := fun z h => (hX z).mono fun e z' ⟨he, hb⟩ => ⟨he, h.trans (hb.mono h.size)⟩
    have hs := sav1
    have HOb := Lib.hid hOb
    rw [if_neg (by decide), if_pos rfl]
    clear hN hX hR hone hOb
    go_enter Tryz.func114, Tryz.ntmps114
    go_wp2_with fail
    refine Qt.wp_region_cls (Below W.heap.size W) (by kernel_rfl) (by kernel_rfl) (below_dr (n := 1) (Below.refl _ _)) ?_
    repeat (go_big_quiet_step ((go_at_call 168; exact Qt.quiet_cls (HC.out _ (Qt.In.h _)))))
    refine wpQuiet_nil ?_
    rintro wq ⟨⟨w9, hq⟩, e9⟩
    have HQ : Hid (Below w.heap.size w wq) := HOb.out.trans ((show Below W.heap.size W wq by rw [e9]; exact hq).mono HOb.out.size)
    clear hq e9 zc hs inst
    go_wp2
    go_ret2
    exact ⟨rfl, HQ.out⟩
  · have zc : ∀ (z : Qt.In (Below W.heap.size W)) (i : Nat), z.w.cell? ⟨w.heap.size, i, none⟩ = #[Value.int .i64 x0, .int .i64 2, .int .i64 x2, .string x3, .string x4, .bool x5, .int .i64 x6, .int .i64 y0, .int .i64 y1, .int .i64 y2, .int .i64 y3, .int .i64 y4, .int .i64 y5, .slice A n c][i]? := fun z i => (z.h.cell (p := ⟨w.heap.size, i, none⟩) hlt).trans (hone.1.cell i)
    have HC : Hid (∀ z, Below W.heap.size W z → Calls Tryz.prog 169 #[.agg #[.int .i64 x0, .int .i64 2, .int .i64 x2, .string x3, .string x4, .bool x5, .int .i64 x6, .int .i64 y0, .int .i64 y1, .int .i64 y2, .int .i64 y3, .int .i64 y4, .int .i64 y5, .slice A n c], .int .i64 t] z fun e z' => e = .returned (.tuple #[.int .i64 f.1, .string f.2]) ∧ Below W.heap.size W z') := fun z h => (hR rfl z (hOb.trans (h.mono hOb.size))).mono fun e z' ⟨he, hb⟩ => ⟨he, h.trans (hb.mono h.size)⟩
    have hs := sav2
    have HOb := Lib.hid hOb
    rw [if_pos rfl]
    clear hN hX hR hone hOb
    go_enter Tryz.func114, Tryz.ntmps114
    go_wp2_with fail
    refine Qt.wp_region_cls (Below W.heap.size W) (by kernel_rfl) (by kernel_rfl) (below_dr (n := 1) (Below.refl _ _)) ?_
    repeat (go_big_quiet_step ((go_at_call 169; exact Qt.quiet_cls (HC.out _ (Qt.In.h _)))))
    refine wpQuiet_nil ?_
    rintro wq ⟨⟨w9, hq⟩, e9⟩
    have HQ : Hid (Below w.heap.size w wq) := HOb.out.trans ((show Below W.heap.size W wq by rw [e9]; exact hq).mono HOb.out.size)
    clear hq e9 zc hs inst
    go_wp2
    go_ret2
    exact ⟨rfl, HQ.out⟩
theorem phase_results {w : World} {R0 : Nat} {a0 a1 a2 : Value} (h : Blk w R0 30 #[a0, a1, a2]) (tmps : Array Value) (ht : tmps[4]? = some (.pointer (some ⟨R0, 0, none⟩))) : (results Tryz.f64 tmps).run Tryz.prog w = .ok (.agg #[a0, a1, a2]) w := by
  have hc := fun i => h.cell i
  simp [results, Tryz.results64, go_sem, hc, ht]
theorem ephase_results {w : World} {R0 : Nat} {b : Bool} {a0 a1 a2 : Value} (h : Blk w R0 30 #[a0, a1, a2]) (tmps : Array Value) (ht : tmps[8]? = some (.pointer (some ⟨R0, 0, none⟩))) (h9 : tmps[9]? = some (.bool b)) : (results Tryz.f26 tmps).run Tryz.prog w = .ok (.tuple #[.agg #[a0, a1, a2], .bool b]) w := by
  have hc := fun i => h.cell i
  simp [results, Tryz.results26, go_sem, hc, ht, h9]
/-- How clocks stand by an era, where its rules give f. -/
def phaseV (x : Era) (f : Int × ByteArray) : Phase := ⟨x.off + (savV x f).1, (savV x f).1, abbrB x.format (savV x f).2 (x.off + (savV x f).1) (savV x f).1⟩
set_option maxHeartbeats 2000000 in
set_option maxRecDepth 100000 in
theorem phase_any (x : Era) (A : Option Addr) (n c : Nat) (t m : Int) (f : Int × ByteArray) (w : World) (hm : w.cell? ⟨0, 0, none⟩ = some (.int .i64 m)) (hk : x.kind = 0 ∨ x.kind = 1 ∨ x.kind = 2) (hF : x.kind = 2 → ForceAt A n c x.off t f w)
    (ho : -86400 < x.off ∧ x.off < 86400) (hs : -43200 ≤ (savV x f).1 ∧ (savV x f).1 ≤ 43200) (hl : (savV x f).2.size ≤ 2097152) (hfm : x.format.size ≤ 2097152) :
    Calls Tryz.prog 64 #[.agg (eraV x A n c), .int .i64 t] w fun e w' => e = .returned (.agg #[.int .i64 (phaseV x f).off, .int .i64 (phaseV x f).save, .string (phaseV x f).abbr]) ∧ Below w.heap.size w w' := by
  have hS := fun z (hb : Below w.heap.size w z) => saving_any x A n c t f z hk (fun h z2 hb2 => hF h z2 (hb.trans (hb2.mono hb.size)))
  have hAb := fun z (hb : Below w.heap.size w z) => abbr_any x.format (savV x f).2 (x.off + (savV x f).1) (savV x f).1 m z hfm hl (by omega) (by omega) (cell_later hb hm)
  unfold phaseV
  clear hF hk hm
  generalize (savV x f).1 = sv at *
  generalize (savV x f).2 = lt at *
  have hw : -9223372036854775808 ≤ x.off + sv ∧ x.off + sv ≤ 9223372036854775807 := by omega
  obtain ⟨x0, x1, x2, x3, x4, x5, x6, ⟨y0, y1, y2, y3, y4, y5⟩⟩ := x
  have hb2 := box2 w 100 30 (eraV ⟨x0, x1, x2, x3, x4, x5, x6, ⟨y0, y1, y2, y3, y4, y5⟩⟩ A n c) #[.int .i64 0, .int .i64 0, .string ⟨#[]⟩]
  simp only [eraV] at hb2 hS hAb ho hw ⊢
  generalize abbrB x4 lt (x0 + sv) sv = ab at *
  obtain ⟨W, hW⟩ : ∃ W, (w.alloc (.cells #[.int .i64 x0, .int .i64 x1, .int .i64 x2, .string x3, .string x4, .bool x5, .int .i64 x6, .int .i64 y0, .int .i64 y1, .int .i64 y2, .int .i64 y3, .int .i64 y4, .int .i64 y5, .slice A n c] 100)).alloc (.cells #[.int .i64 0, .int .i64 0, .string ⟨#[]⟩] 30) = W := ⟨_, rfl⟩
  rw [hW] at hb2
  obtain ⟨b0, b1, hbw, hsz⟩ := hb2
  have HB0 := Lib.hid b0; have HB1 := Lib.hid b1; have HBw := Lib.hid hbw; have HS := Lib.hid hS; have HAb := Lib.hid hAb
  have c0 := fun i => b0.cell i
  obtain ⟨hw1, hw2⟩ := hw
  obtain ⟨ho1, ho2⟩ := ho
  obtain ⟨hs1, hs2⟩ := hs
  clear b0 b1 hbw hS hAb hl hfm
  go_enter Tryz.func64, Tryz.ntmps64
  go_wp2_with (first
    | (go_at_call 114; refine (HS.out _ HBw.out).mono ?_; rintro e w1 ⟨rfl, hb⟩; have hx0 := HB0.out.below hb HB0.out.lt; have d0 := fun i => hx0.cell i; have HX0 := Lib.hid hx0; have HX1 := Lib.hid (HB1.out.below hb HB1.out.lt); have HBx := Lib.hid (HBw.out.trans (hb.mono HBw.out.size)); clear hb hx0 c0)
    | (go_at_call 31; refine (HAb.out _ HBx.out).mono ?_; rintro e w2 ⟨rfl, hb⟩; have hx1 := HX1.out.below hb HX1.out.lt; have d1 := fun i => hx1.cell i; have f1 := fun i => hx1.frozen i; have HY1 := Lib.hid hx1; have HBy := Lib.hid (HBx.out.trans (hb.mono HBx.out.size)); clear hb hx1 d0))
  refine bodyPost_ret (phase_results (((HY1.out.set_ 0 (.int .i64 (x0 + sv))).set_ 1 (.int .i64 sv)).set_ 2 (.string ab)) _ rfl) rfl ?_
  exact ⟨rfl, (((HBy.out.setCell (le1 _) _).setCell (le1 _) _).setCell (le1 _) _)⟩
set_option maxHeartbeats 2000000 in
set_option maxRecDepth 100000 in
theorem ephase_any (s : Src) (A A2 A3 : Option Addr) (c c2 c3 : Nat) (m t : Int) (f : Int × ByteArray) (i j : Nat) (w : World) (h : SrcOk s A A2 A3 w) (hm : w.cell? ⟨0, 0, none⟩ = some (.int .i64 m)) (hs : srcB s = true) (hi : i < s.zones.length) (hj : j < (s.zones[i]'hi).eras.length) (x : Era) (hx : x = (s.zones[i]'hi).eras[j]'hj)
    (hF : x.kind = 2 → ∀ Ae ce z, Reads z z.heap.size 11 Ae (setOf s.rules x).length ((setOf s.rules x).flatMap Rule.cells) → ForceAt Ae (setOf s.rules x).length ce x.off t f z)
    (hk : x.kind = 0 ∨ x.kind = 1 ∨ x.kind = 2) (ho : -86400 < x.off ∧ x.off < 86400) (hsv : -43200 ≤ (savV x f).1 ∧ (savV x f).1 ≤ 43200) (hl : (savV x f).2.size ≤ 2097152) (hfm : x.format.size ≤ 2097152) :
    Calls Tryz.prog 26 #[.agg #[.slice A s.rules.length c, .slice A2 s.zones.length c2, .slice A3 s.links.length c3], .int .i64 i, .int .i64 j, .int .i64 t] w fun e w' =>
      e = .returned (.tuple #[.agg #[.int .i64 (phaseV x f).off, .int .i64 (phaseV x f).save, .string (phaseV x f).abbr], .bool true]) ∧ Below w.heap.size w w' := by
  have hFi := fun z (hb : Below w.heap.size w z) => find_yes s A A2 A3 c c2 c3 m i j z (h.below hb) (cell_later hb hm) hs hi hj
  rw [← hx] at hFi
  have hPh := fun Ae ce z (hbz : Below w.heap.size w z) (hr : Reads z z.heap.size 11 Ae (setOf s.rules x).length ((setOf s.rules x).flatMap Rule.cells)) => phase_any x Ae (setOf s.rules x).length ce t m f z (cell_later hbz hm) hk (fun h => hF h Ae ce z hr) ho hsv hl hfm
  clear h hm hs hx hF hk ho hsv hl hfm
  generalize setOf s.rules x = L at *
  generalize phaseV x f = ph at *
  obtain ⟨p0, p1, p2⟩ := ph
  obtain ⟨x0, x1, x2, x3, x4, x5, x6, ⟨y0, y1, y2, y3, y4, y5⟩⟩ := x
  simp only [eraV] at hFi hPh ⊢
  have HPh := Lib.hid hPh
  have hb2 := box2 w 26 30 #[.slice A s.rules.length c, .slice A2 s.zones.length c2, .slice A3 s.links.length c3] #[.int .i64 0, .int .i64 0, .string ⟨#[]⟩]
  obtain ⟨W, hW⟩ : ∃ W, (w.alloc (.cells #[.slice A s.rules.length c, .slice A2 s.zones.length c2, .slice A3 s.links.length c3] 26)).alloc (.cells #[.int .i64 0, .int .i64 0, .string ⟨#[]⟩] 30) = W := ⟨_, rfl⟩
  rw [hW] at hb2
  obtain ⟨b0, b1, hbw, hsz⟩ := hb2
  have HB1 := Lib.hid b1; have HBw := Lib.hid hbw; have HFi := Lib.hid hFi
  have c0 := fun i => b0.cell i
  clear b0 b1 hbw hFi hPh hsz
  go_enter Tryz.func26, Tryz.ntmps26
  go_wp2_with (first
    | (go_at_call 63; refine (HFi.out _ HBw.out).mono ?_; rintro e w1 ⟨Ae, ce, rfl, hrd, hb⟩; have hbx := HBw.out.trans (hb.mono HBw.out.size); have HX1 := Lib.hid (HB1.out.below hb HB1.out.lt); have HBx := Lib.hid hbx; have HRd := Lib.hid hrd; clear hb hrd hbx c0)
    | (go_at_call 64; refine (HPh.out _ _ _ (HBx.out.alloc HBx.out.size _) ((HRd.out.below ((Below.refl _ _).alloc (Nat.le_refl _) _)).more (by simp))).mono ?_; rintro e w2 ⟨rfl, hb⟩; have hx1 := (HX1.out.alloc _).below hb (by have := HX1.out.lt; simp; omega); have d1 := fun i => hx1.cell i; have f1 := fun i => hx1.frozen i; have HY1 := Lib.hid hx1; have HBy := Lib.hid ((HBx.out.alloc HBx.out.size _).trans (hb.mono (by have := HBx.out.size; simp; omega))); clear hb hx1))
  refine bodyPost_ret (ephase_results (((HY1.out.set_ 0 (.int .i64 p0)).set_ 1 (.int .i64 p1)).set_ 2 (.string p2)) _ rfl rfl) rfl ?_
  exact ⟨rfl, (((HBy.out.setCell (le1 _) _).setCell (le1 _) _).setCell (le1 _) _)⟩
end Go.Proofs.YtdicedpklpadgaaGreatDoor.Cmq
