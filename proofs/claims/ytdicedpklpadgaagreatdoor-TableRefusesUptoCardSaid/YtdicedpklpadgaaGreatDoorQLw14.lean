/-
  The walks of the laws TableSames, TableRefuses. Conditions: what the arguments' slices hold is read; the cell of bytealg.MaxLen holds a number.
-/
import Derived.Test.YtdicedpklpadgaaGreatDoorZ37
import Derived.Test.YtdicedpklpadgaaGreatDoorZ38
import Derived.Test.YtdicedpklpadgaaGreatDoorQSmx
set_option linter.all false
namespace Go.Proofs.YtdicedpklpadgaaGreatDoor.Lw14
open Go.RowKit Mem Civ Mom Img Plc Rul Ahd Trn Src Snd Att Rgt Abr Cmq

/-- Two blocks that a frame holds. -/
structure Bx2 (w : World) (b1 b2 : Nat) (t1 t2 : TypeId) (cs ds : Array Value) (W : World) : Prop where
  x : Blk W b1 t1 cs
  y : Blk W b2 t2 ds
  bel : Below w.heap.size w W
theorem Bx2.step {w W W' : World} {b1 b2 : Nat} {t1 t2 : TypeId} {cs ds : Array Value} (h : Bx2 w b1 b2 t1 t2 cs ds W) (hb : Below W.heap.size W W') : Bx2 w b1 b2 t1 t2 cs ds W' :=
  ⟨h.x.below hb h.x.lt, h.y.below hb h.y.lt, h.bel.trans (hb.mono h.bel.size)⟩
theorem Bx2.drew {w W : World} {b1 b2 : Nat} {t1 t2 : TypeId} {cs ds : Array Value} (h : Bx2 w b1 b2 t1 t2 cs ds W) : Bx2 w b1 b2 t1 t2 cs ds W.drew := ⟨h.x.drew, h.y.drew, h.bel.drew⟩
set_option maxHeartbeats 4000000 in
set_option maxRecDepth 100000 in
theorem sames (x y : Table) (A A2 A' A2' : Option Addr) (c c2 c' c2' : Nat) (m : Int) (w : World) (hx : TabOk x A A2 w) (hy : TabOk y A' A2' w) (hm : w.cell? ⟨0, 0, none⟩ = some (.int .i64 m)) :
    Calls Tryz.prog 5 #[.agg (tabCells x A c A2 c2), .agg (tabCells y A' c' A2' c2')] w fun e w' => e = .returned (.bool true) ∧ Below w.heap.size w w' := by
  have hA := fun z (hb : Below w.heap.size w z) => Cmq.alive_any m z (cell_later hb hm)
  have hS := fun z (hb : Below w.heap.size w z) => Sam.same_any x y A A2 A' A2' c c2 c' c2' z (hx.below hb) (hy.below hb)
  have hD := fun z (hb : Below w.heap.size w z) => Sam.same14_any x y A A2 A' A2' c c2 c' c2' z (hx.below hb) (hy.below hb)
  have hE := fun z (hb : Below w.heap.size w z) => Sam.same_any x x A A2 A A2 c c2 c c2 z (hx.below hb) (hx.below hb)
  rw [decide_eq_true rfl] at hE
  generalize decide (x = y) = q at *
  clear hx hy hm
  obtain ⟨h1, h2, h3, _⟩ := box2 w 33 33 (tabCells x A c A2 c2) (tabCells y A' c' A2' c2')
  simp only [tabCells] at *
  obtain ⟨W, hW⟩ : ∃ W, (w.alloc (.cells #[.string x.name, .int .i64 x.first.off, .int .i64 x.first.save, .string x.first.abbr, .slice A x.shifts.length c, .int .i64 x.till, .slice A2 x.tail.length c2, .int .i64 x.off, .string x.format] 33)).alloc (.cells #[.string y.name, .int .i64 y.first.off, .int .i64 y.first.save, .string y.first.abbr, .slice A' y.shifts.length c', .int .i64 y.till, .slice A2' y.tail.length c2', .int .i64 y.off, .string y.format] 33) = W := ⟨_, rfl⟩
  rw [hW] at h1 h2 h3
  have HA := Lib.hid hA; have HS := Lib.hid hS; have HD := Lib.hid hD; have HE := Lib.hid hE
  have HB : Hid (Bx2 w _ _ _ _ _ _ W) := ⟨h1, h2, h3⟩
  have cx := fun i => h1.cell i
  have cy := fun i => h2.cell i
  clear hA hS hD hE h1 h2 h3
  cases g1 : decide ((2000 : Int) < (x.shifts.length : Nat)) <;> cases g2 : decide ((2000 : Int) < (y.shifts.length : Nat)) <;> cases g3 : decide ((200 : Int) < (x.tail.length : Nat)) <;> cases g4 : decide ((200 : Int) < (y.tail.length : Nat))
  all_goals
    go_enter Tryz.func5, Tryz.ntmps5
    try (go_wp2_with (go_at_call 10; refine (HA.out _ HB.out.bel).mono ?_; rintro e w1 ⟨rfl, hb⟩; have HB1 := Lib.hid (HB.out.step hb); clear hb)
         go_ret
         exact ⟨rfl, HB1.out.bel⟩)
  · clear cx cy
    obtain ⟨Cls, hCls⟩ : ∃ C : World → Prop, C = Bx2 w w.heap.size (w.heap.size + 1) 33 33 #[.string x.name, .int .i64 x.first.off, .int .i64 x.first.save, .string x.first.abbr, .slice A x.shifts.length c, .int .i64 x.till, .slice A2 x.tail.length c2, .int .i64 x.off, .string x.format] #[.string y.name, .int .i64 y.first.off, .int .i64 y.first.save, .string y.first.abbr, .slice A' y.shifts.length c', .int .i64 y.till, .slice A2' y.tail.length c2', .int .i64 y.off, .string y.format] := ⟨_, rfl⟩
    have hC : ∀ z, Cls z → Bx2 w w.heap.size (w.heap.size + 1) 33 33 #[.string x.name, .int .i64 x.first.off, .int .i64 x.first.save, .string x.first.abbr, .slice A x.shifts.length c, .int .i64 x.till, .slice A2 x.tail.length c2, .int .i64 x.off, .string x.format] #[.string y.name, .int .i64 y.first.off, .int .i64 y.first.save, .string y.first.abbr, .slice A' y.shifts.length c', .int .i64 y.till, .slice A2' y.tail.length c2', .int .i64 y.off, .string y.format] z := fun z h => by rw [hCls] at h; exact h
    have hstart : Cls W.drew := by rw [hCls]; exact HB.out.drew
    have inst : Nonempty (Qt.In Cls) := ⟨⟨_, hstart⟩⟩
    have gx : ∀ (z : Qt.In Cls) (i : Nat), z.w.cell? ⟨w.heap.size, i, none⟩ = #[.string x.name, .int .i64 x.first.off, .int .i64 x.first.save, .string x.first.abbr, .slice A x.shifts.length c, .int .i64 x.till, .slice A2 x.tail.length c2, .int .i64 x.off, .string x.format][i]? := fun z i => (hC z.w z.h).x.cell i
    have gy : ∀ (z : Qt.In Cls) (i : Nat), z.w.cell? ⟨w.heap.size + 1, i, none⟩ = #[.string y.name, .int .i64 y.first.off, .int .i64 y.first.save, .string y.first.abbr, .slice A' y.shifts.length c', .int .i64 y.till, .slice A2' y.tail.length c2', .int .i64 y.off, .string y.format][i]? := fun z i => (hC z.w z.h).y.cell i
    have hk : ∀ z z', Cls z → Below z.heap.size z z' → Cls z' := fun z z' h hb => by rw [hCls]; exact (hC z h).step hb
    have HAc : Hid (∀ z, Cls z → Calls Tryz.prog 10 #[] z fun e z' => e = .returned (.bool true) ∧ Cls z') := fun z h => (HA.out z (hC z h).bel).mono fun e z' ⟨he, hb⟩ => ⟨he, hk z z' h hb⟩
    have HSc : Hid (∀ z, Cls z → Calls Tryz.prog 19 #[.agg #[.string x.name, .int .i64 x.first.off, .int .i64 x.first.save, .string x.first.abbr, .slice A x.shifts.length c, .int .i64 x.till, .slice A2 x.tail.length c2, .int .i64 x.off, .string x.format], .agg #[.string y.name, .int .i64 y.first.off, .int .i64 y.first.save, .string y.first.abbr, .slice A' y.shifts.length c', .int .i64 y.till, .slice A2' y.tail.length c2', .int .i64 y.off, .string y.format]] z fun e z' => e = .returned (.bool q) ∧ Cls z') := fun z h => (HS.out z (hC z h).bel).mono fun e z' ⟨he, hb⟩ => ⟨he, hk z z' h hb⟩
    have HDc : Hid (∀ z, Cls z → Calls Tryz.prog 13 #[.agg #[.string x.name, .int .i64 x.first.off, .int .i64 x.first.save, .string x.first.abbr, .slice A x.shifts.length c, .int .i64 x.till, .slice A2 x.tail.length c2, .int .i64 x.off, .string x.format], .agg #[.string y.name, .int .i64 y.first.off, .int .i64 y.first.save, .string y.first.abbr, .slice A' y.shifts.length c', .int .i64 y.till, .slice A2' y.tail.length c2', .int .i64 y.off, .string y.format]] z fun e z' => e = .returned (.bool q) ∧ Cls z') := fun z h => (HD.out z (hC z h).bel).mono fun e z' ⟨he, hb⟩ => ⟨he, hk z z' h hb⟩
    have HEc : Hid (∀ z, Cls z → Calls Tryz.prog 19 #[.agg #[.string x.name, .int .i64 x.first.off, .int .i64 x.first.save, .string x.first.abbr, .slice A x.shifts.length c, .int .i64 x.till, .slice A2 x.tail.length c2, .int .i64 x.off, .string x.format], .agg #[.string x.name, .int .i64 x.first.off, .int .i64 x.first.save, .string x.first.abbr, .slice A x.shifts.length c, .int .i64 x.till, .slice A2 x.tail.length c2, .int .i64 x.off, .string x.format]] z fun e z' => e = .returned (.bool true) ∧ Cls z') := fun z h => (HE.out z (hC z h).bel).mono fun e z' ⟨he, hb⟩ => ⟨he, hk z z' h hb⟩
    have HCx := Lib.hid hC; have HSt := Lib.hid hstart
    have cx := fun i => HB.out.x.cell i
    have cy := fun i => HB.out.y.cell i
    clear hC hstart hCls hk HA HS HD HE
    cases q
    all_goals
      go_wp2_with fail
      clear cx cy
      refine Qt.wp_region_cls Cls (by kernel_rfl) (by kernel_rfl) HSt.out ?_
      iterate 10 (go_big_quiet_step (first | ((go_at_call 10; exact Qt.quiet_cls (HAc.out _ (Qt.In.h _)))) | ((go_at_call 13; exact Qt.quiet_cls (HDc.out _ (Qt.In.h _)))) | ((go_at_call 19; exact Qt.quiet_cls (HSc.out _ (Qt.In.h _))))))
      clear HSc
      repeat (go_big_quiet_step ((go_at_call 19; exact Qt.quiet_cls (HEc.out _ (Qt.In.h _)))))
      refine wpQuiet_nil ?_
      rintro wq ⟨⟨w9, hq⟩, e9⟩
      have HX := Lib.hid (HCx.out wq (by rw [e9]; exact hq))
      clear hq e9 gx gy inst HAc HDc HEc
      go_wp2
      go_ret
      exact ⟨rfl, HX.out.bel⟩
theorem sames2 (x : Table) (A A2 : Option Addr) (c c2 : Nat) (y : Table) (A' A2' : Option Addr) (c' c2' : Nat) (m : Int) (w : World) (hx : TabOk x A A2 w) (hy : TabOk y A' A2' w) (hm : w.cell? ⟨0, 0, none⟩ = some (.int .i64 m)) (_ : In64 x.till) (_ : ∀ s ∈ x.shifts, In64 s.sec) (_ : In64 y.till) (_ : ∀ s ∈ y.shifts, In64 s.sec) :
    Calls Tryz.prog 5 #[.agg (tabCells x A c A2 c2), .agg (tabCells y A' c' A2' c2')] w fun e w' => e = .returned (.bool true) ∧ Below w.heap.size w w' :=
  sames x y A A2 A' A2' c c2 c' c2' m w hx hy hm
theorem check_c (s : Src) (A A2 A3 : Option Addr) (c c2 c3 : Nat) (m : Int) (w : World) (h : SrcOk s A A2 A3 w) (hm : w.cell? ⟨0, 0, none⟩ = some (.int .i64 m)) (a b d g : Int) (hq : checkB s = ⟨a, b, d, g⟩) :
    Calls Tryz.prog 22 #[.agg #[.slice A s.rules.length c, .slice A2 s.zones.length c2, .slice A3 s.links.length c3]] w fun e w' => e = .returned (.agg #[.int .i64 a, .int .i64 b, .int .i64 d, .int .i64 g]) ∧ Below w.heap.size w w' := by
  have h1 := check_any s A A2 A3 c c2 c3 m w h hm
  rw [hq] at h1
  exact h1
theorem check_eq (f : Flaw) : (∀ z, (Op.equalIn 10000 52 (.agg #[.int .i64 f.err, .int .i64 f.kind, .int .i64 f.at_, .int .i64 f.era]) (.agg #[.int .i64 0, .int .i64 0, .int .i64 0, .int .i64 0])).run Tryz.prog z = .ok (decide (f = noFlaw)) z) := fun z => eq_flaw f noFlaw z
set_option maxHeartbeats 4000000 in
set_option maxRecDepth 100000 in
theorem refuses (s : Src) (A A2 A3 : Option Addr) (c c2 c3 : Nat) (n : Int) (m : Int) (w : World) (h : SrcOk s A A2 A3 w) (hm : w.cell? ⟨0, 0, none⟩ = some (.int .i64 m)) (_ : In64 n) :
    Calls Tryz.prog 7 #[.agg #[.slice A s.rules.length c, .slice A2 s.zones.length c2, .slice A3 s.links.length c3], .int .i64 n] w fun e w' => e = .returned (.bool true) ∧ Below w.heap.size w w' := by
  have HA := Lib.hid (fun z (hb : Below w.heap.size w z) => Cmq.alive_any m z (cell_later hb hm))
  have HG := Lib.hid (fun z (hb : Below w.heap.size w z) => light_yrs s A A2 A3 c c2 c3 z (h.below hb))
  have hC := fun (hy : checkB s = noFlaw → YrsP s.rules) z (hb : Below w.heap.size w z) => compile_read s A A2 A3 c c2 c3 m n z (h.below hb) (cell_later hb hm) hy
  obtain ⟨⟨a0, a1, a2, a3⟩, hq⟩ : ∃ q, checkB s = q := ⟨_, rfl⟩
  have HK := Lib.hid (fun z (hb : Below w.heap.size w z) => check_c s A A2 A3 c c2 c3 m z (h.below hb) (cell_later hb hm) a0 a1 a2 a3 hq)
  have heq := check_eq ⟨a0, a1, a2, a3⟩
  have hone := Civ.One.new w 26 #[.slice A s.rules.length c, .slice A2 s.zones.length c2, .slice A3 s.links.length c3]
  obtain ⟨W, hW⟩ : ∃ W, w.alloc (.cells #[.slice A s.rules.length c, .slice A2 s.zones.length c2, .slice A3 s.links.length c3] 26) = W := ⟨_, rfl⟩
  rw [hW] at hone
  have HO := Lib.hid hone
  have c0 := fun i => hone.1.cell i
  clear hone
  by_cases hcond : checkB s = noFlaw ∧ 0 ≤ n ∧ n < s.zones.length
  rotate_left
  · rw [compileP_no hcond] at hC
    have HC := Lib.hid hC
    rw [hq] at hcond
    clear hC h hm hq
    by_cases hcl : (⟨a0, a1, a2, a3⟩ : Flaw) = noFlaw
    · rw [decide_eq_true hcl] at heq
      have hor : n < 0 ∨ (s.zones.length : Int) ≤ n := by
        by_cases h0 : n < 0
        · exact .inl h0
        · exact .inr (by
            by_cases h1 : n < s.zones.length
            · exact absurd ⟨hcl, by omega, h1⟩ hcond
            · omega)
      have ho : (∃ b, decide (n < 0) = true ∧ decide ((s.zones.length : Int) ≤ n) = b) ∨ (decide (n < 0) = false ∧ decide ((s.zones.length : Int) ≤ n) = true) := by
        by_cases h0 : n < 0
        · exact .inl ⟨_, decide_eq_true h0, rfl⟩
        · exact .inr ⟨decide_eq_false h0, decide_eq_true (by omega)⟩
      clear hcl hcond hor
      rcases ho with ⟨b, g1, g2⟩ | ⟨g1, g2⟩
      all_goals
        try cases b
      all_goals
        go_enter Tryz.func7, Tryz.ntmps7
        go_wp2_with (first
          | (go_at_call 20; refine (HG.out _ HO.out.2).mono ?_; rintro e w1 ⟨lb, rfl, hlp, hb⟩; have ho := HO.out.step hb; have c1 := fun i => ho.1.cell i; have HO1 := Lib.hid ho; have HLp := Lib.hid hlp; clear hb ho hlp c0; cases lb)
          | (go_at_call 11; refine (HC.out (HLp.out (by trivial)) _ HO1.out.2).mono ?_; rintro e w2 ⟨Ax, cx, Ay, cy, rfl, hok, hb⟩; simp only [tabCells, noTable, List.length_nil]; have hbX : Below w2.heap.size w2 (w2.alloc (.cells #[.string ⟨#[]⟩, .int .i64 0, .int .i64 0, .string ⟨#[]⟩, .slice Ax 0 cx, .int .i64 0, .slice Ay 0 cy, .int .i64 0, .string ⟨#[]⟩] 33)) := (Below.refl _ _).alloc (Nat.le_refl _) _; have ho := (HO1.out.step hb).step hbX; have k2 := fun i => ho.1.cell i; have HO2 := Lib.hid ho; have HX2 := Lib.hid (Blk.new w2 33 #[.string ⟨#[]⟩, .int .i64 0, .int .i64 0, .string ⟨#[]⟩, .slice Ax 0 cx, .int .i64 0, .slice Ay 0 cy, .int .i64 0, .string ⟨#[]⟩]); have HOk2 := Lib.hid (hok.below hbX); clear hb c1 hok hbX ho)
          | (go_at_call 22; refine (HK.out _ HO2.out.2).mono ?_; rintro e w3 ⟨rfl, hb⟩; have ho := HO2.out.step hb; have k3 := fun i => ho.1.cell i; have HO3 := Lib.hid ho; have HX3 := Lib.hid (HX2.out.below hb HX2.out.lt); have HOk3 := Lib.hid (HOk2.out.below hb); clear hb ho k2)
          | (go_at_call 10; refine (HA.out _ HO3.out.2).mono ?_; rintro e w4 ⟨rfl, hb⟩; have hx := HX3.out.below hb HX3.out.lt; have cX4 := fun i => hx.cell i; have hs4 := Sam.same_any noTable noTable Ax Ay none none cx cy 0 0 w4 (HOk3.out.below hb) tabOk_none; rw [decide_eq_true rfl] at hs4; simp only [tabCells, noTable, List.length_nil] at hs4; have HS4 := Lib.hid hs4; have HB4 := Lib.hid (HO3.out.step hb).2; clear hb hx hs4)
          | (go_at_call 10; refine (HA.out _ HO1.out.2).mono ?_; rintro e w4 ⟨rfl, hb⟩; have HB5 := Lib.hid (HO1.out.step hb).2; clear hb)
          | (go_at_call 19; refine HS4.out.mono ?_; rintro e w5 ⟨rfl, hb⟩; have HB5 := Lib.hid (HB4.out.trans (hb.mono HB4.out.size)); clear hb))
        all_goals go_ret
        all_goals exact ⟨rfl, HB5.out⟩
    · rw [decide_eq_false hcl] at heq
      have g1 : ∃ b, decide (n < 0) = b := ⟨_, rfl⟩
      have g2 : ∃ b, decide ((s.zones.length : Int) ≤ n) = b := ⟨_, rfl⟩
      obtain ⟨b1, g1⟩ := g1
      obtain ⟨b2, g2⟩ := g2
      clear hcl hcond
      cases b1 <;> cases b2
      all_goals
        go_enter Tryz.func7, Tryz.ntmps7
        go_wp2_with (first
          | (go_at_call 20; refine (HG.out _ HO.out.2).mono ?_; rintro e w1 ⟨lb, rfl, hlp, hb⟩; have ho := HO.out.step hb; have c1 := fun i => ho.1.cell i; have HO1 := Lib.hid ho; have HLp := Lib.hid hlp; clear hb ho hlp c0; cases lb)
          | (go_at_call 11; refine (HC.out (HLp.out (by trivial)) _ HO1.out.2).mono ?_; rintro e w2 ⟨Ax, cx, Ay, cy, rfl, hok, hb⟩; simp only [tabCells, noTable, List.length_nil]; have hbX : Below w2.heap.size w2 (w2.alloc (.cells #[.string ⟨#[]⟩, .int .i64 0, .int .i64 0, .string ⟨#[]⟩, .slice Ax 0 cx, .int .i64 0, .slice Ay 0 cy, .int .i64 0, .string ⟨#[]⟩] 33)) := (Below.refl _ _).alloc (Nat.le_refl _) _; have ho := (HO1.out.step hb).step hbX; have k2 := fun i => ho.1.cell i; have HO2 := Lib.hid ho; have HX2 := Lib.hid (Blk.new w2 33 #[.string ⟨#[]⟩, .int .i64 0, .int .i64 0, .string ⟨#[]⟩, .slice Ax 0 cx, .int .i64 0, .slice Ay 0 cy, .int .i64 0, .string ⟨#[]⟩]); have HOk2 := Lib.hid (hok.below hbX); clear hb c1 hok hbX ho)
          | (go_at_call 22; refine (HK.out _ HO2.out.2).mono ?_; rintro e w3 ⟨rfl, hb⟩; have ho := HO2.out.step hb; have k3 := fun i => ho.1.cell i; have HO3 := Lib.hid ho; have HX3 := Lib.hid (HX2.out.below hb HX2.out.lt); have HOk3 := Lib.hid (HOk2.out.below hb); clear hb ho k2)
          | (go_at_call 10; refine (HA.out _ HO3.out.2).mono ?_; rintro e w4 ⟨rfl, hb⟩; have hx := HX3.out.below hb HX3.out.lt; have cX4 := fun i => hx.cell i; have hs4 := Sam.same_any noTable noTable Ax Ay none none cx cy 0 0 w4 (HOk3.out.below hb) tabOk_none; rw [decide_eq_true rfl] at hs4; simp only [tabCells, noTable, List.length_nil] at hs4; have HS4 := Lib.hid hs4; have HB4 := Lib.hid (HO3.out.step hb).2; clear hb hx hs4)
          | (go_at_call 10; refine (HA.out _ HO1.out.2).mono ?_; rintro e w4 ⟨rfl, hb⟩; have HB5 := Lib.hid (HO1.out.step hb).2; clear hb)
          | (go_at_call 19; refine HS4.out.mono ?_; rintro e w5 ⟨rfl, hb⟩; have HB5 := Lib.hid (HB4.out.trans (hb.mono HB4.out.size)); clear hb))
        all_goals go_ret
        all_goals exact ⟨rfl, HB5.out⟩
  · obtain ⟨hclean, hn0, hnl⟩ := hcond
    have hcl : (⟨a0, a1, a2, a3⟩ : Flaw) = noFlaw := hq.symm.trans hclean
    rw [decide_eq_true hcl] at heq
    have g1 : decide (n < 0) = false := decide_eq_false (by omega)
    have g2 : decide ((s.zones.length : Int) ≤ n) = false := decide_eq_false (by omega)
    obtain ⟨q, rfl⟩ : ∃ q : Nat, n = q := ⟨n.toNat, by omega⟩
    have hql : q < s.zones.length := by omega
    have hnlN : decide (s.zones.length ≤ q) = false := decide_eq_false (by omega)
    have hZc := fun z (hb : Below w.heap.size w z) => zone_cells (h.rz.below hb) hql rfl
    obtain ⟨zn, hzn⟩ : ∃ z, z = s.zones[q]'hql := ⟨_, rfl⟩
    have hz? : s.zones[q]? = some zn := by rw [hzn]; exact List.getElem?_eq_getElem hql
    rw [← hzn] at hZc
    have HZc := Lib.hid hZc
    obtain ⟨T, hT⟩ : ∃ T, compileP s q = T := ⟨_, rfl⟩
    rw [hT] at hC
    have hT2 : YrsP s.rules → T.2 = 0 ∧ T.1.name = zn.name ∧ rightB T.1 (tailB T.1) = true := fun h2 => by
      obtain ⟨z, hz, _, e, hr, _⟩ := compile_case (i := (q : Int)) h2 hclean (by omega) (by omega)
      obtain rfl : z = zn := by
        rw [show ((q : Nat) : Int).toNat = q from by omega, hz?] at hz
        injection hz with hz
        exact hz.symm
      rw [← hT, e]
      exact ⟨rfl, rfl, hr⟩
    clear hZc hzn hz? hT
    have HM := Lib.hid hm
    have HCl := Lib.hid hclean
    clear h hm hn0 hnl hclean hq hcl
    obtain ⟨z0, es, Az, cz⟩ := zn
    obtain ⟨T, err⟩ := T
    simp only at hC hT2
    have HC := Lib.hid hC; have HT2 := Lib.hid hT2
    clear hC hT2
    dsimp only at HZc
    have hbq := tl_beq z0 z0
    rw [decide_eq_true rfl] at hbq
    go_enter Tryz.func7, Tryz.ntmps7
    go_wp2_with (first
      | (go_at_call 20; refine (HG.out _ HO.out.2).mono ?_; rintro e w1 ⟨lb, rfl, hlp, hb⟩; have ho := HO.out.step hb; have c1 := fun i => ho.1.cell i; have HO1 := Lib.hid ho; have HLp := Lib.hid hlp; clear hb ho hlp c0; cases lb)
      | (go_at_call 11; have hye := HLp.out (by trivial); obtain ⟨he0, hnm, hrt⟩ := HT2.out (hye HCl.out); subst he0; have HNm := Lib.hid hnm; have HRt := Lib.hid hrt; refine (HC.out hye _ HO1.out.2).mono ?_; rintro e w2 ⟨Ax, cx, Ay, cy, rfl, hok, hb⟩; simp only [tabCells]; have hbX : Below w2.heap.size w2 (w2.alloc (.cells #[.string T.name, .int .i64 T.first.off, .int .i64 T.first.save, .string T.first.abbr, .slice Ax T.shifts.length cx, .int .i64 T.till, .slice Ay T.tail.length cy, .int .i64 T.off, .string T.format] 33)) := (Below.refl _ _).alloc (Nat.le_refl _) _; have ho := (HO1.out.step hb).step hbX; have k2 := fun i => ho.1.cell i; have HO2 := Lib.hid ho; have HX2 := Lib.hid (Blk.new w2 33 #[.string T.name, .int .i64 T.first.off, .int .i64 T.first.save, .string T.first.abbr, .slice Ax T.shifts.length cx, .int .i64 T.till, .slice Ay T.tail.length cy, .int .i64 T.off, .string T.format]); have HOk2 := Lib.hid (hok.below hbX); clear hb c1 hok hbX ho hye hnm hrt)
      | (go_at_call 22; refine (HK.out _ HO2.out.2).mono ?_; rintro e w3 ⟨rfl, hb⟩; have ho := HO2.out.step hb; obtain ⟨az, hAz, _, q0, q1⟩ := HZc.out _ ho.2; subst hAz; have k3 := fun i => ho.1.cell i; have HO3 := Lib.hid ho; have HX3 := Lib.hid (HX2.out.below hb HX2.out.lt); have HOk3 := Lib.hid (HOk2.out.below hb); clear hb ho k2)
      | (go_at_call 10; refine (HA.out _ HO1.out.2).mono ?_; rintro e w4 ⟨rfl, hb⟩; have HB5 := Lib.hid (HO1.out.step hb).2; clear hb))
    · go_ret
      exact ⟨rfl, HB5.out⟩
    have hb2 : Bx2 w w.heap.size w2.heap.size 26 33 #[.slice A s.rules.length c, .slice (some az) s.zones.length c2, .slice A3 s.links.length c3] #[.string T.name, .int .i64 T.first.off, .int .i64 T.first.save, .string T.first.abbr, .slice Ax T.shifts.length cx, .int .i64 T.till, .slice Ay T.tail.length cy, .int .i64 T.off, .string T.format] w3 := ⟨HO3.out.1, HX3.out, HO3.out.2⟩
    have HNm2 := HNm.out
    rw [HNm2] at hb2 ⊢
    obtain ⟨Cls, hCls⟩ : ∃ C : World → Prop, C = fun z => Bx2 w w.heap.size w2.heap.size 26 33 #[.slice A s.rules.length c, .slice (some az) s.zones.length c2, .slice A3 s.links.length c3] #[.string z0, .int .i64 T.first.off, .int .i64 T.first.save, .string T.first.abbr, .slice Ax T.shifts.length cx, .int .i64 T.till, .slice Ay T.tail.length cy, .int .i64 T.off, .string T.format] z ∧ Below w3.heap.size w3 z := ⟨_, rfl⟩
    have hC : ∀ z, Cls z → Bx2 w w.heap.size w2.heap.size 26 33 #[.slice A s.rules.length c, .slice (some az) s.zones.length c2, .slice A3 s.links.length c3] #[.string z0, .int .i64 T.first.off, .int .i64 T.first.save, .string T.first.abbr, .slice Ax T.shifts.length cx, .int .i64 T.till, .slice Ay T.tail.length cy, .int .i64 T.off, .string T.format] z ∧ Below w3.heap.size w3 z := fun z h => by rw [hCls] at h; exact h
    have hstart : Cls w3.drew := by rw [hCls]; exact ⟨hb2.drew, below_dr (n := 1) (Below.refl _ _)⟩
    have inst : Nonempty (Qt.In Cls) := ⟨⟨_, hstart⟩⟩
    have gs : ∀ (z : Qt.In Cls) (i : Nat), z.w.cell? ⟨w.heap.size, i, none⟩ = #[.slice A s.rules.length c, .slice (some az) s.zones.length c2, .slice A3 s.links.length c3][i]? := fun z i => (hC z.w z.h).1.x.cell i
    have gx : ∀ (z : Qt.In Cls) (i : Nat), z.w.cell? ⟨w2.heap.size, i, none⟩ = #[.string z0, .int .i64 T.first.off, .int .i64 T.first.save, .string T.first.abbr, .slice Ax T.shifts.length cx, .int .i64 T.till, .slice Ay T.tail.length cy, .int .i64 T.off, .string T.format][i]? := fun z i => (hC z.w z.h).1.y.cell i
    have gz : ∀ z : Qt.In Cls, z.w.cell? (az.add (q * 2)) = some (.string z0) := fun z => by
      obtain ⟨az', e, _, q, _⟩ := HZc.out z.w (hC z.w z.h).1.bel
      obtain rfl : az = az' := by injection e
      exact q
    have hk : ∀ z z', Cls z → Below z.heap.size z z' → Cls z' := fun z z' h hb => by rw [hCls]; exact ⟨(hC z h).1.step hb, (hC z h).2.trans (hb.mono (hC z h).2.size)⟩
    have HAc : Hid (∀ z, Cls z → Calls Tryz.prog 10 #[] z fun e z' => e = .returned (.bool true) ∧ Cls z') := fun z h => (HA.out z (hC z h).1.bel).mono fun e z' ⟨he, hb⟩ => ⟨he, hk z z' h hb⟩
    have hRr : ∀ z, Cls z → Calls Tryz.prog 17 #[.agg #[.string z0, .int .i64 T.first.off, .int .i64 T.first.save, .string T.first.abbr, .slice Ax T.shifts.length cx, .int .i64 T.till, .slice Ay T.tail.length cy, .int .i64 T.off, .string T.format]] z fun e z' => e = .returned (.bool true) ∧ Cls z' := fun z h => by
      have h1 := right_t T Ax Ay cx cy m z (HOk3.out.below (hC z h).2) (cell_later (hC z h).1.bel HM.out)
      rw [HRt.out] at h1
      simp only [tabCells] at h1
      rw [HNm2] at h1
      exact h1.mono fun e z' ⟨he, hb⟩ => ⟨he, hk z z' h hb⟩
    have HRr := Lib.hid hRr; have HCx := Lib.hid hC; have HSt := Lib.hid hstart
    clear hC hstart hCls hk hRr HA HG HC HK HO HO1 HO2 HO3 HX2 HX3 HOk2 HOk3 HZc HT2 k3 q0 q1 hb2 HNm HNm2
    refine Qt.wp_region_cls Cls (by kernel_rfl) (by kernel_rfl) HSt.out ?_
    repeat (go_big_quiet_step (first | ((go_at_call 10; exact Qt.quiet_cls (HAc.out _ (Qt.In.h _)))) | ((go_at_call 17; exact Qt.quiet_cls (HRr.out _ (Qt.In.h _))))))
    refine wpQuiet_nil ?_
    rintro wq ⟨⟨w9, hq⟩, e9⟩
    have HX := Lib.hid (HCx.out wq (by rw [e9]; exact hq))
    clear hq e9 gx gs gz inst HAc HRr
    go_wp2
    go_ret
    exact ⟨rfl, HX.out.1.bel⟩
end Go.Proofs.YtdicedpklpadgaaGreatDoor.Lw14
