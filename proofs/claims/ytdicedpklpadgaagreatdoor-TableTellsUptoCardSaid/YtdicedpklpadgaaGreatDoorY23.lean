/-
  Package eras: the contracts of (era).ahead and (era).end, whatever rules.Ahead answers. Conditions: what the set's slice holds is read.
  Package eras: the contract of of. Conditions: what the source's slices hold is read.
  Package eras: the contract of find. Conditions: the source may be; what its slices hold is read.
  Package eras: the contract of find where there is an era. Conditions: the source may be; what its slices hold is read.
  Package eras: the contract of End. Conditions: the source may be; what its slices hold is read; rules.Ahead answers.
  Package sound: the contract of day. Conditions: none.
  Package sound: slices.ContainsFunc at era's closure. Conditions: what the set's slice holds is read.
-/
import Derived.Test.YtdicedpklpadgaaGreatDoorY22
set_option linter.all false
namespace Go.Proofs.YtdicedpklpadgaaGreatDoor.Snd
open Go.RowKit Mem Civ Mom Img Plc Rul Src Go.Maps

/-- An era with its set, as a value. -/
def eraV (x : Era) (A : Option Addr) (n c : Nat) : Array Value :=
  #[.int .i64 x.off, .int .i64 x.kind, .int .i64 x.save, .string x.rules, .string x.format, .bool x.till, .int .i64 x.year, .int .i64 x.spot.month, .int .i64 x.spot.kind, .int .i64 x.spot.weekday, .int .i64 x.spot.day, .int .i64 x.spot.time, .int .i64 x.spot.ref, .slice A n c]
/-- rules.Ahead answers, whose saving is sv. -/
def AheadAt (A : Option Addr) (n c : Nat) (t sv : Int) (w : World) : Prop :=
  ∀ z, Below w.heap.size w z → Calls Tryz.prog 92 #[.slice A n c, .int .i64 t] z fun e w' => ∃ (a r : Int) (s : ByteArray) (b : Bool), e = .returned (.tuple #[.agg #[.int .i64 a, .int .i64 r, .int .i64 sv, .string s], .bool b]) ∧ Below z.heap.size z w'
def savI (x : Era) (sv : Int) : Int := if x.kind = 2 then sv else x.save
set_option maxHeartbeats 1000000 in
set_option maxRecDepth 100000 in
theorem ahead_any (x : Era) (A : Option Addr) (n c : Nat) (t sv : Int) (w : World) (hA : x.kind = 2 → AheadAt A n c t sv w) :
    Calls Tryz.prog 116 #[.agg (eraV x A n c), .int .i64 t] w fun e w' => e = .returned (.int .i64 (savI x sv)) ∧ Below w.heap.size w w' := by
  have hone := One.new w 100 (eraV x A n c)
  obtain ⟨x0, x1, x2, x3, x4, x5, x6, ⟨y0, y1, y2, y3, y4, y5⟩⟩ := x
  unfold savI
  simp only [eraV] at hone hA ⊢
  obtain ⟨W, hW⟩ : ∃ W, w.alloc (.cells #[.int .i64 x0, .int .i64 x1, .int .i64 x2, .string x3, .string x4, .bool x5, .int .i64 x6, .int .i64 y0, .int .i64 y1, .int .i64 y2, .int .i64 y3, .int .i64 y4, .int .i64 y5, .slice A n c] 100) = W := ⟨_, rfl⟩
  rw [hW] at hone
  have HO := Lib.hid hone
  have c0 := fun i => hone.1.cell i
  clear hone
  go_enter Tryz.func116, Tryz.ntmps116
  by_cases h2 : x1 = 2
  · have HA := Lib.hid (hA h2)
    rw [if_pos h2]
    subst h2
    clear hA
    go_wp2_with (go_at_call 92; refine (HA.out _ HO.out.2).mono ?_; rintro e w1 ⟨a, r, s, b, rfl, hb⟩; have HB := Lib.hid (HO.out.step hb); clear hb)
    go_ret
    exact ⟨rfl, HB.out.2.alloc HB.out.2.size _⟩
  · have h2b : (x1 == 2) = false := by simp [h2]
    rw [if_neg h2]
    clear hA h2
    go_wp2_with fail
    go_ret
    exact ⟨rfl, HO.out.2⟩
def endT (x : Era) : Int := (localO x.spot x.year).getD 0
def endA (x : Era) : Int := if x.spot.ref = 2 then endT x else wrap64 (endT x - x.off)
def endI (x : Era) (sv : Int) : Int := if x.spot.ref = 0 then wrap64 (endA x - savI x sv) else endA x
/-- When an era ends, the saving ahead of it being sv. -/
def endO (x : Era) (sv : Int) : Value := if x.till = true then .tuple #[.int .i64 (endI x sv), .bool true] else .tuple #[.int .i64 0, .bool false]
set_option maxHeartbeats 2000000 in
set_option maxRecDepth 100000 in
theorem end_any (x : Era) (A : Option Addr) (n c : Nat) (sv : Int) (w : World) (hA : x.till = true → x.kind = 2 → AheadAt A n c (endT x) sv w) :
    Calls Tryz.prog 65 #[.agg (eraV x A n c)] w fun e w' => e = .returned (endO x sv) ∧ Below w.heap.size w w' := by
  have hone := One.new w 100 (eraV x A n c)
  have HAh := Lib.hid (fun (ht : x.till = true) z (hb : Below w.heap.size w z) => ahead_any x A n c (endT x) sv z (fun hk z2 hb2 => hA ht hk z2 (hb.trans (hb2.mono hb.size))))
  have HL := Lib.hid (fun z => local_any x.spot x.year z)
  clear hA
  obtain ⟨T, hT⟩ : ∃ T, endT x = T := ⟨_, rfl⟩
  obtain ⟨S, hS⟩ : ∃ S, savI x sv = S := ⟨_, rfl⟩
  unfold endO endI endA
  rw [hT, hS] at HAh
  rw [hT, hS]
  obtain ⟨q, hq⟩ : ∃ q, (localO x.spot x.year).isSome = q := ⟨_, rfl⟩
  have hd : dayV (localO x.spot x.year) = .tuple #[.int .i64 T, .bool q] := by
    rw [← hT, ← hq]
    unfold endT
    cases localO x.spot x.year <;> rfl
  rw [hd] at HL
  clear hd hq hT hS
  obtain ⟨x0, x1, x2, x3, x4, x5, x6, ⟨y0, y1, y2, y3, y4, y5⟩⟩ := x
  simp only [eraV, Spot.cells] at hone HAh HL ⊢
  obtain ⟨W, hW⟩ : ∃ W, w.alloc (.cells #[.int .i64 x0, .int .i64 x1, .int .i64 x2, .string x3, .string x4, .bool x5, .int .i64 x6, .int .i64 y0, .int .i64 y1, .int .i64 y2, .int .i64 y3, .int .i64 y4, .int .i64 y5, .slice A n c] 100) = W := ⟨_, rfl⟩
  rw [hW] at hone
  have HO := Lib.hid hone
  have c0 := fun i => hone.1.cell i
  clear hone
  go_enter Tryz.func65, Tryz.ntmps65
  cases x5
  · go_wp2_with fail
    go_ret2
    exact ⟨rfl, HO.out.2⟩
  · have HA := Lib.hid (HAh.out rfl)
    clear HAh
    by_cases h2 : y5 = 2
    · subst h2
      go_wp2_with (go_at_call 115; refine (HL.out _).mono ?_; rintro e w1 ⟨rfl, hb⟩; have ho := HO.out.step hb; have c1 := fun i => ho.1.cell i; have HO1 := Lib.hid ho; clear hb ho)
      go_ret2
      exact ⟨rfl, HO1.out.2⟩
    · have h2b : (y5 == 2) = false := by simp [h2]
      by_cases h0 : y5 = 0
      · subst h0
        clear h2 h2b
        go_wp2_with (first
          | (go_at_call 115; refine (HL.out _).mono ?_; rintro e w1 ⟨rfl, hb⟩; have ho := HO.out.step hb; have c1 := fun i => ho.1.cell i; have HO1 := Lib.hid ho; clear hb ho)
          | (go_at_call 116; refine (HA.out _ HO1.out.2).mono ?_; rintro e w2 ⟨rfl, hb⟩; have HO2 := Lib.hid (HO1.out.step hb); clear hb))
        go_ret2
        exact ⟨rfl, HO2.out.2⟩
      · have h0b : (y5 == 0) = false := by simp [h0]
        simp only [if_neg h2, if_neg h0]
        clear h2 h0
        go_wp2_with (go_at_call 115; refine (HL.out _).mono ?_; rintro e w1 ⟨rfl, hb⟩; have ho := HO.out.step hb; have c1 := fun i => ho.1.cell i; have HO1 := Lib.hid ho; clear hb ho)
        go_ret2
        exact ⟨rfl, HO1.out.2⟩
end Go.Proofs.YtdicedpklpadgaaGreatDoor.Snd
namespace Go.Proofs.YtdicedpklpadgaaGreatDoor.Snd
open Go.RowKit Mem Civ Mom Img Plc Rul Src Go.Maps

theorem row_to {w1 : World} {X : Nat} {t : TypeId} {cx cy : Array Value} (h : Blk w1 X t cx) : Blk (w1.setRow X cy) X t cy := setRow_heap w1 X cx cy t (0, 0) h
theorem grown_row (w : World) (b : Nat) (c : Array Value) : w.grownBy (w.setRow b c) (some b) := ⟨rfl, rfl, rfl, by simp, fun k _ hk => setRow_other w b k _ (fun e => hk (by simp [e]))⟩
theorem grown_setCell (w : World) (p : Addr) (v : Value) {g : Nat} (hp : p.block = g) : w.grownBy (w.setCell p v) (some g) :=
  ⟨rfl, rfl, rfl, by simp [World.setCell], fun k _ hk => Below.heap_setCell _ _ _ _ (fun e => hk (by rw [e, hp]))⟩
theorem own_set1 {w : World} {base size n b : Nat} {e : TypeId} {v : Value} {xs : List Value} (h : w.ownsRow base e size v n xs) (hne : v.ownBlock ≠ some b) (i : Nat) (u : Value) : (w.setCell ⟨b, i, none⟩ u).ownsRow base e size v n xs :=
  h.kept (grown_setCell w ⟨b, i, none⟩ u rfl) (.inr hne)
/-- Where a row of one's own lies. -/
def NewB (B : Nat) (A : Option Addr) (n : Nat) : Prop := 0 < n → ∃ b, A = some ⟨b, 0, none⟩ ∧ B ≤ b
theorem size_era : (Tryz.prog.info? 100).map (·.size) = some 14 := by kernel_rfl
def setOf (rs : List Rule) (x : Era) : List Rule := if x.kind = 2 then setL rs x.rules else []
theorem of_results {w : World} {R0 : Nat} {a0 a1 a2 a3 a4 a5 a6 a7 a8 a9 a10 a11 a12 a13 : Value} (h : Blk w R0 100 #[a0, a1, a2, a3, a4, a5, a6, a7, a8, a9, a10, a11, a12, a13]) (tmps : Array Value) (ht : tmps[4]? = some (.pointer (some ⟨R0, 0, none⟩))) : (results Tryz.f113 tmps).run Tryz.prog w = .ok (.agg #[a0, a1, a2, a3, a4, a5, a6, a7, a8, a9, a10, a11, a12, a13]) w := by
  have hc := fun i => h.cell i
  simp [results, Tryz.results113, go_sem, hc, ht]
theorem era_cells1 {x0 x1 x2 x6 y0 y1 y2 y3 y4 y5 : Int} {x3 x4 : ByteArray} {x5 : Bool} {A : Option Addr} {n c : Nat} : (#[.int .i64 x0, .int .i64 x1, .int .i64 x2, .string x3, .string x4, .bool x5, .int .i64 x6, .int .i64 y0, .int .i64 y1, .int .i64 y2, .int .i64 y3, .int .i64 y4, .int .i64 y5, .slice A n c] : Array Value).all (·.oneCell') = true := by
  simp [Value.oneCell']
set_option maxHeartbeats 2000000 in
set_option maxRecDepth 100000 in
theorem of_any (s : Src) (A A2 A3 : Option Addr) (c c2 c3 : Nat) (x : Era) (w : World) (h : SrcOk s A A2 A3 w) :
    Calls Tryz.prog 113 #[.agg #[.slice A s.rules.length c, .slice A2 s.zones.length c2, .slice A3 s.links.length c3], .agg #[.int .i64 x.off, .int .i64 x.kind, .int .i64 x.save, .string x.rules, .string x.format, .bool x.till, .int .i64 x.year, .int .i64 x.spot.month, .int .i64 x.spot.kind, .int .i64 x.spot.weekday, .int .i64 x.spot.day, .int .i64 x.spot.time, .int .i64 x.spot.ref]] w fun e w' =>
      ∃ Ae ce, e = .returned (.agg (eraV x Ae (setOf s.rules x).length ce)) ∧ Reads w' w'.heap.size 11 Ae (setOf s.rules x).length ((setOf s.rules x).flatMap Rule.cells) ∧ NewB w.heap.size Ae (setOf s.rules x).length ∧ Below w.heap.size w w' := by
  have hE := fun nm z (hb : Below w.heap.size w z) => eset_any s A A2 A3 c c2 c3 nm z (h.below hb)
  clear h
  obtain ⟨rs, zs, ls⟩ := s
  obtain ⟨x0, x1, x2, x3, x4, x5, x6, ⟨y0, y1, y2, y3, y4, y5⟩⟩ := x
  unfold setOf
  simp only [eraV] at hE ⊢
  have hb3 := box3 w 26 57 100 #[.slice A rs.length c, .slice A2 zs.length c2, .slice A3 ls.length c3] #[.int .i64 x0, .int .i64 x1, .int .i64 x2, .string x3, .string x4, .bool x5, .int .i64 x6, .int .i64 y0, .int .i64 y1, .int .i64 y2, .int .i64 y3, .int .i64 y4, .int .i64 y5] #[.int .i64 0, .int .i64 0, .int .i64 0, .string ⟨#[]⟩, .string ⟨#[]⟩, .bool false, .int .i64 0, .int .i64 0, .int .i64 0, .int .i64 0, .int .i64 0, .int .i64 0, .int .i64 0, .slice none 0 0]
  obtain ⟨W, hW⟩ : ∃ W, (((w.alloc (.cells #[.slice A rs.length c, .slice A2 zs.length c2, .slice A3 ls.length c3] 26)).alloc (.cells #[.int .i64 x0, .int .i64 x1, .int .i64 x2, .string x3, .string x4, .bool x5, .int .i64 x6, .int .i64 y0, .int .i64 y1, .int .i64 y2, .int .i64 y3, .int .i64 y4, .int .i64 y5] 57)).alloc (.cells #[.int .i64 0, .int .i64 0, .int .i64 0, .string ⟨#[]⟩, .string ⟨#[]⟩, .bool false, .int .i64 0, .int .i64 0, .int .i64 0, .int .i64 0, .int .i64 0, .int .i64 0, .int .i64 0, .slice none 0 0] 100)) = W := ⟨_, rfl⟩
  rw [hW] at hb3
  obtain ⟨b0, b1, b2, hbw, hsz⟩ := hb3
  have HE := Lib.hid hE; have HB0 := Lib.hid b0; have HB1 := Lib.hid b1; have HB2 := Lib.hid b2; have HBw := Lib.hid hbw
  have c1 := fun i => b1.cell i
  have ca1 := fun o i => (b1.alloc o).cell i
  have ca0 := fun o i => (b0.alloc o).cell i
  clear hE b0 b1 b2 hbw
  go_enter Tryz.func113, Tryz.ntmps113
  by_cases h2 : x1 = 2
  · subst h2
    simp only [if_true]
    obtain ⟨Wa, hWa⟩ : ∃ Wa, Wa = W.alloc (.cells #[.int .i64 x0, .int .i64 2, .int .i64 x2, .string x3, .string x4, .bool x5, .int .i64 x6, .int .i64 y0, .int .i64 y1, .int .i64 y2, .int .i64 y3, .int .i64 y4, .int .i64 y5, .slice none 0 0] 100) := ⟨_, rfl⟩
    have HB1a := Lib.hid (HB1.out.alloc (.cells #[.int .i64 x0, .int .i64 2, .int .i64 x2, .string x3, .string x4, .bool x5, .int .i64 x6, .int .i64 y0, .int .i64 y1, .int .i64 y2, .int .i64 y3, .int .i64 y4, .int .i64 y5, .slice none 0 0] 100))
    have HB2a := Lib.hid (HB2.out.alloc (.cells #[.int .i64 x0, .int .i64 2, .int .i64 x2, .string x3, .string x4, .bool x5, .int .i64 x6, .int .i64 y0, .int .i64 y1, .int .i64 y2, .int .i64 y3, .int .i64 y4, .int .i64 y5, .slice none 0 0] 100))
    have HBwa := Lib.hid (HBw.out.alloc HBw.out.size (.cells #[.int .i64 x0, .int .i64 2, .int .i64 x2, .string x3, .string x4, .bool x5, .int .i64 x6, .int .i64 y0, .int .i64 y1, .int .i64 y2, .int .i64 y3, .int .i64 y4, .int .i64 y5, .slice none 0 0] 100))
    have HX := Lib.hid (Blk.new W 100 #[.int .i64 x0, .int .i64 2, .int .i64 x2, .string x3, .string x4, .bool x5, .int .i64 x6, .int .i64 y0, .int .i64 y1, .int .i64 y2, .int .i64 y3, .int .i64 y4, .int .i64 y5, .slice none 0 0])
    go_wp2_with fail
    go_at_call 29
    refine (HE.out x3 _ HBwa.out).mono ?_
    rintro e w2 ⟨v, rfl, hown, hb⟩
    obtain ⟨Av, cv, rfl⟩ := own_slice hown
    have hx := HX.out.below hb HX.out.lt
    have h2 := HB2a.out.below hb HB2a.out.lt
    have hbe := HBwa.out.trans (hb.mono HBwa.out.size)
    have fx := fun i => hx.frozen i
    have cx := fun i => hx.cell i
    have hxs := hx.set_ 13 (.slice Av (setL rs x3).length cv)
    simp only [List.setIfInBounds_toArray, List.set_cons_succ, List.set_cons_zero] at hxs
    have cxs := fun i => hxs.cell i
    have h2s := h2.far (p := ⟨W.heap.size, 13, none⟩) (by simp; omega) (.slice Av (setL rs x3).length cv)
    have hos := own_set1 hown (own_blk_ne hown hx (by decide)) 13 (.slice Av (setL rs x3).length cv)
    have hbs := hbe.setCell (p := ⟨W.heap.size, 13, none⟩) HBw.out.size (.slice Av (setL rs x3).length cv)
    have H2s := Lib.hid h2s; have Hos := Lib.hid hos; have Hbs := Lib.hid hbs
    clear hown hb hx h2 hbe hxs h2s hos hbs hWa c1 ca1 ca0
    go_wp2_with ((refine wpList_store_row rfl 100 (.tmp 4) (.tmp 16) rfl (w.heap.size + 1 + 1) #[.int .i64 x0, .int .i64 2, .int .i64 x2, .string x3, .string x4, .bool x5, .int .i64 x6, .int .i64 y0, .int .i64 y1, .int .i64 y2, .int .i64 y3, .int .i64 y4, .int .i64 y5, .slice Av (setL rs x3).length cv] rfl rfl 100 _ H2s.out size_era rfl era_cells1 ?_))
    refine bodyPost_ret (of_results (row_to H2s.out) _ rfl) rfl ?_
    exact ⟨Av, cv, rfl, Reads.of_own (Hos.out.kept (grown_row _ _ _) (.inr (own_blk_ne Hos.out H2s.out (by decide)))), (fun hn => by obtain ⟨b, cap, e1, h1, h2⟩ := Hos.out.form hn; injection e1 with e1 _ _; exact ⟨b, e1, Nat.le_trans HBwa.out.size h1⟩), Hbs.out.grown (grown_row _ _ _) Hbs.out.size (fun k e => by injection e with e; omega)⟩
  · have h2b : (x1 == 2) = false := by simp [h2]
    simp only [if_neg h2]
    clear h2
    have HB2a := Lib.hid (HB2.out.alloc (.cells #[.int .i64 x0, .int .i64 x1, .int .i64 x2, .string x3, .string x4, .bool x5, .int .i64 x6, .int .i64 y0, .int .i64 y1, .int .i64 y2, .int .i64 y3, .int .i64 y4, .int .i64 y5, .slice none 0 0] 100))
    have HBwa := Lib.hid (HBw.out.alloc HBw.out.size (.cells #[.int .i64 x0, .int .i64 x1, .int .i64 x2, .string x3, .string x4, .bool x5, .int .i64 x6, .int .i64 y0, .int .i64 y1, .int .i64 y2, .int .i64 y3, .int .i64 y4, .int .i64 y5, .slice none 0 0] 100))
    go_wp2_with ((refine wpList_store_row rfl 100 (.tmp 4) (.tmp 16) rfl (w.heap.size + 1 + 1) #[.int .i64 x0, .int .i64 x1, .int .i64 x2, .string x3, .string x4, .bool x5, .int .i64 x6, .int .i64 y0, .int .i64 y1, .int .i64 y2, .int .i64 y3, .int .i64 y4, .int .i64 y5, .slice none 0 0] rfl rfl 100 _ HB2a.out size_era rfl era_cells1 ?_))
    refine bodyPost_ret (of_results (row_to HB2a.out) _ rfl) rfl ?_
    exact ⟨none, 0, rfl, Reads.none_, (fun hn => absurd hn (by simp)), HBwa.out.grown (grown_row _ _ _) HBwa.out.size (fun k e => by injection e with e; omega)⟩
end Go.Proofs.YtdicedpklpadgaaGreatDoor.Snd
namespace Go.Proofs.YtdicedpklpadgaaGreatDoor.Snd
open Go.RowKit Mem Civ Mom Img Plc Rul Src Go.Maps

theorem find_results {w : World} {R0 : Nat} {b : Bool} {a0 a1 a2 a3 a4 a5 a6 a7 a8 a9 a10 a11 a12 a13 : Value} (h : Blk w R0 100 #[a0, a1, a2, a3, a4, a5, a6, a7, a8, a9, a10, a11, a12, a13]) (tmps : Array Value) (ht : tmps[6]? = some (.pointer (some ⟨R0, 0, none⟩))) (h7 : tmps[7]? = some (.bool b)) : (results Tryz.f63 tmps).run Tryz.prog w = .ok (.tuple #[.agg #[a0, a1, a2, a3, a4, a5, a6, a7, a8, a9, a10, a11, a12, a13], .bool b]) w := by
  have hc := fun i => h.cell i
  simp [results, Tryz.results63, go_sem, hc, ht, h7]
def noEra : Array Value := #[.int .i64 0, .int .i64 0, .int .i64 0, .string ⟨#[]⟩, .string ⟨#[]⟩, .bool false, .int .i64 0, .int .i64 0, .int .i64 0, .int .i64 0, .int .i64 0, .int .i64 0, .int .i64 0, .slice none 0 0]
set_option maxHeartbeats 2000000 in
set_option maxRecDepth 100000 in
theorem find_no (s : Src) (A A2 A3 : Option Addr) (c c2 c3 : Nat) (m : Int) (i : Nat) (w : World) (h : SrcOk s A A2 A3 w) (hm : w.cell? ⟨0, 0, none⟩ = some (.int .i64 m)) (hs : srcB s = true) (hi : i < s.zones.length) :
    Calls Tryz.prog 63 #[.agg #[.slice A s.rules.length c, .slice A2 s.zones.length c2, .slice A3 s.links.length c3], .int .i64 i, .int .i64 (-1)] w fun e w' => e = .returned (.tuple #[.agg noEra, .bool false]) ∧ Below w.heap.size w w' := by
  have hR := fun z (hb : Below w.heap.size w z) => Src.right_any s A A2 A3 c c2 c3 m z (h.below hb) (cell_later hb hm)
  have nz := h.nz
  rw [hs] at hR
  clear h hm hs
  obtain ⟨rs, zs, ls⟩ := s
  unfold noEra
  simp only at hR nz hi ⊢
  have hb2 := box2 w 26 100 #[.slice A rs.length c, .slice A2 zs.length c2, .slice A3 ls.length c3] #[.int .i64 0, .int .i64 0, .int .i64 0, .string ⟨#[]⟩, .string ⟨#[]⟩, .bool false, .int .i64 0, .int .i64 0, .int .i64 0, .int .i64 0, .int .i64 0, .int .i64 0, .int .i64 0, .slice none 0 0]
  obtain ⟨W, hW⟩ : ∃ W, (w.alloc (.cells #[.slice A rs.length c, .slice A2 zs.length c2, .slice A3 ls.length c3] 26)).alloc (.cells #[.int .i64 0, .int .i64 0, .int .i64 0, .string ⟨#[]⟩, .string ⟨#[]⟩, .bool false, .int .i64 0, .int .i64 0, .int .i64 0, .int .i64 0, .int .i64 0, .int .i64 0, .int .i64 0, .slice none 0 0] 100) = W := ⟨_, rfl⟩
  rw [hW] at hb2
  obtain ⟨b0, b1, hbw, hsz⟩ := hb2
  have HB0 := Lib.hid b0; have HB1 := Lib.hid b1; have HBw := Lib.hid hbw; have HR := Lib.hid hR
  have c0 := fun i => b0.cell i
  have hd : decide (((i : Nat) : Int) < 0) = false := decide_eq_false (by omega)
  have hd2 : decide (((zs.length : Nat) : Int) ≤ (i : Nat)) = false := decide_eq_false (by omega)
  clear b0 b1 hbw hR hsz
  go_enter Tryz.func63, Tryz.ntmps63
  go_wp2_with (first
    | (go_at_call 55; refine (HR.out _ HBw.out).mono ?_; rintro e w1 ⟨rfl, hb⟩; have hx0 := HB0.out.below hb HB0.out.lt; have c1 := fun i => hx0.cell i; have HX1 := Lib.hid (HB1.out.below hb HB1.out.lt); have HBx := Lib.hid (HBw.out.trans (hb.mono HBw.out.size)); clear hb hx0)
    | (refine wpList_store_row rfl 100 (.tmp 6) (.tmp 37) rfl (w.heap.size + 1) #[.int .i64 0, .int .i64 0, .int .i64 0, .string ⟨#[]⟩, .string ⟨#[]⟩, .bool false, .int .i64 0, .int .i64 0, .int .i64 0, .int .i64 0, .int .i64 0, .int .i64 0, .int .i64 0, .slice none 0 0] rfl rfl 100 _ HX1.out size_era rfl era_cells1 ?_))
  refine bodyPost_ret (find_results (row_to HX1.out) _ rfl rfl) rfl ?_
  exact ⟨rfl, HBx.out.grown (grown_row _ _ _) HBx.out.size (fun k e => by injection e with e; omega)⟩
end Go.Proofs.YtdicedpklpadgaaGreatDoor.Snd
namespace Go.Proofs.YtdicedpklpadgaaGreatDoor.Snd
open Go.RowKit Mem Civ Mom Img Plc Rul Src Go.Maps

/-- A row of cells being filled, beside a set's own row. -/
structure Fl (w : World) (X : Nat) (cs : Array Value) (A : Option Addr) (n : Nat) (xs : List Value) (wr : World) : Prop where
  blk : Blk wr X 100 cs
  bel : Below w.heap.size w wr
  rd : Reads wr wr.heap.size 11 A n xs
theorem Fl.set {w wr : World} {X n : Nat} {cs : Array Value} {A : Option Addr} {xs : List Value} (h : Fl w X cs A n xs wr) (hX : w.heap.size ≤ X) (hn : NewB (X + 1) A n) (i : Nat) (u : Value) : Fl w X (cs.setIfInBounds i u) A n xs (wr.setCell ⟨X, i, none⟩ u) := by
  refine ⟨h.blk.set_ i u, h.bel.setCell hX u, ?_⟩
  have hr : Reads (wr.setCell ⟨X, i, none⟩ u) wr.heap.size 11 A n xs := ⟨h.rd.1, fun h0 => by
    obtain ⟨ad, e, hb, hc⟩ := h.rd.2 h0
    obtain ⟨b, e2, hx⟩ := hn h0
    rw [e] at e2
    injection e2 with e2
    refine ⟨ad, e, hb, fun j v hv => ?_⟩
    rw [← hc j v hv]
    have hbk : (ad.add j).block = b := by rw [block_of_add, e2]
    exact World.cell?_of_block (w := wr) (Below.heap_setCell wr ⟨X, i, none⟩ u _ (by rw [hbk]; show b ≠ X; omega))⟩
  exact hr.more (by simp)
set_option maxHeartbeats 2000000 in
set_option maxRecDepth 100000 in
theorem find_yes (s : Src) (A A2 A3 : Option Addr) (c c2 c3 : Nat) (m : Int) (i j : Nat) (w : World) (h : SrcOk s A A2 A3 w) (hm : w.cell? ⟨0, 0, none⟩ = some (.int .i64 m)) (hs : srcB s = true) (hi : i < s.zones.length) (hj : j < (s.zones[i]'hi).eras.length) :
    Calls Tryz.prog 63 #[.agg #[.slice A s.rules.length c, .slice A2 s.zones.length c2, .slice A3 s.links.length c3], .int .i64 i, .int .i64 j] w fun e w' =>
      ∃ Ae ce, e = .returned (.tuple #[.agg (eraV ((s.zones[i]'hi).eras[j]'hj) Ae (setOf s.rules ((s.zones[i]'hi).eras[j]'hj)).length ce), .bool true]) ∧ Reads w' w'.heap.size 11 Ae (setOf s.rules ((s.zones[i]'hi).eras[j]'hj)).length ((setOf s.rules ((s.zones[i]'hi).eras[j]'hj)).flatMap Rule.cells) ∧ Below w.heap.size w w' := by
  have hR := fun z (hb : Below w.heap.size w z) => Src.right_any s A A2 A3 c c2 c3 m z (h.below hb) (cell_later hb hm)
  have hOf := fun x z (hb : Below w.heap.size w z) => of_any s A A2 A3 c c2 c3 x z (h.below hb)
  have nz := h.nz; have hrz := h.rz
  have hre := h.re (s.zones[i]'hi) (List.getElem_mem hi)
  rw [hs] at hR
  clear h hm hs
  obtain ⟨rs, zs, ls⟩ := s
  simp only at hR hOf nz hrz hre hi hj ⊢
  obtain ⟨az, hA2, hazb, z0, z1⟩ := zone_cells hrz hi rfl
  subst hA2
  obtain ⟨ae, hAe, haeb, e0, e1, e2, e3, e4, e5, e6, e7, e8, e9, e10, e11, e12⟩ := era_cells hre hj rfl
  rw [hAe] at z1
  obtain ⟨N, hN⟩ : ∃ N, N = (zs[i]'hi).eras.length := ⟨_, rfl⟩
  obtain ⟨x, hx⟩ : ∃ x, x = (zs[i]'hi).eras[j]'hj := ⟨_, rfl⟩
  rw [← hN] at z1 hj
  rw [← hx] at e0 e1 e2 e3 e4 e5 e6 e7 e8 e9 e10 e11 e12 ⊢
  have HOf := Lib.hid (hOf x)
  obtain ⟨cz, hcz⟩ : ∃ cz, cz = (zs[i]'hi).c := ⟨_, rfl⟩
  rw [← hcz] at z1
  clear hN hx hcz hOf hre hrz hAe z0
  obtain ⟨x0, x1, x2, x3, x4, x5, x6, ⟨y0, y1, y2, y3, y4, y5⟩⟩ := x
  simp only [eraV] at HOf e0 e1 e2 e3 e4 e5 e6 e7 e8 e9 e10 e11 e12 ⊢
  generalize setOf rs _ = L at *
  have hb2 := box2 w 26 100 #[.slice A rs.length c, .slice (some az) zs.length c2, .slice A3 ls.length c3] #[.int .i64 0, .int .i64 0, .int .i64 0, .string ⟨#[]⟩, .string ⟨#[]⟩, .bool false, .int .i64 0, .int .i64 0, .int .i64 0, .int .i64 0, .int .i64 0, .int .i64 0, .int .i64 0, .slice none 0 0]
  obtain ⟨W, hW⟩ : ∃ W, (w.alloc (.cells #[.slice A rs.length c, .slice (some az) zs.length c2, .slice A3 ls.length c3] 26)).alloc (.cells #[.int .i64 0, .int .i64 0, .int .i64 0, .string ⟨#[]⟩, .string ⟨#[]⟩, .bool false, .int .i64 0, .int .i64 0, .int .i64 0, .int .i64 0, .int .i64 0, .int .i64 0, .int .i64 0, .slice none 0 0] 100) = W := ⟨_, rfl⟩
  rw [hW] at hb2
  obtain ⟨b0, b1, hbw, hsz⟩ := hb2
  have HB0 := Lib.hid b0; have HB1 := Lib.hid b1; have HBw := Lib.hid hbw; have HR := Lib.hid hR
  have c0 := fun i => b0.cell i
  have hd : decide (((i : Nat) : Int) < 0) = false := decide_eq_false (by omega)
  have hd2 : decide (((zs.length : Nat) : Int) ≤ (i : Nat)) = false := decide_eq_false (by omega)
  have hd3 : decide (((j : Nat) : Int) < 0) = false := decide_eq_false (by omega)
  have hd4 : decide (((N : Nat) : Int) ≤ (j : Nat)) = false := decide_eq_false (by omega)
  have hk : ∀ (z : World) (p : Addr) (u : Value), Below w.heap.size w z → p.block < w.heap.size → w.cell? p = some u → z.cell? p = some u := fun z p u hb hp hc => (hb.cell hp).trans hc
  have HZ := Lib.hid (fun (z : World) (hb : Below w.heap.size w z) => hk z _ _ hb (by rw [block_of_add]; exact hazb) z1)
  have HEr := Lib.hid (fun (z : World) (hb : Below w.heap.size w z) => And.intro (hk z _ _ hb (by rw [block_of_add]; exact haeb) e0) (And.intro (hk z _ _ hb (by rw [block_of_add]; exact haeb) e1) (And.intro (hk z _ _ hb (by rw [block_of_add]; exact haeb) e2) (And.intro (hk z _ _ hb (by rw [block_of_add]; exact haeb) e3) (And.intro (hk z _ _ hb (by rw [block_of_add]; exact haeb) e4) (And.intro (hk z _ _ hb (by rw [block_of_add]; exact haeb) e5) (And.intro (hk z _ _ hb (by rw [block_of_add]; exact haeb) e6) (And.intro (hk z _ _ hb (by rw [block_of_add]; exact haeb) e7) (And.intro (hk z _ _ hb (by rw [block_of_add]; exact haeb) e8) (And.intro (hk z _ _ hb (by rw [block_of_add]; exact haeb) e9) (And.intro (hk z _ _ hb (by rw [block_of_add]; exact haeb) e10) (And.intro (hk z _ _ hb (by rw [block_of_add]; exact haeb) e11) (hk z _ _ hb (by rw [block_of_add]; exact haeb) e12)))))))))))))
  clear b0 b1 hbw hR hsz hk z1 e0 e1 e2 e3 e4 e5 e6 e7 e8 e9 e10 e11 e12
  go_enter Tryz.func63, Tryz.ntmps63
  go_upto_region 3 with (go_at_call 55; refine (HR.out _ HBw.out).mono ?_; rintro e w1 ⟨rfl, hb⟩; have hx0 := HB0.out.below hb HB0.out.lt; have c1 := fun i => hx0.cell i; have HX0 := Lib.hid hx0; have HX1 := Lib.hid (HB1.out.below hb HB1.out.lt); have hbx := HBw.out.trans (hb.mono HBw.out.size); have z1 := HZ.out _ hbx; have HBx := Lib.hid hbx; clear hb hx0 hbx)
  obtain ⟨e0, e1, e2, e3, e4, e5, e6, e7, e8, e9, e10, e11, e12⟩ := HEr.out _ HBx.out
  have Hz := Lib.hid HX1.out.lt
  clear HZ HEr HR c0
  go_region_law (go_simp; go_at_call 113; refine (HOf.out _ HBx.out.drew).mono ?_; rintro e wA ⟨Ae, ce, rfl, hrd, hnb, hb⟩; have hx1 := HX1.out.drew.below hb HX1.out.drew.lt; have fA := fun i => hx1.frozen i; have cA := fun i => hx1.cell i; have HXA := Lib.hid hx1; have HRd := Lib.hid hrd; have HNb := Lib.hid hnb; have HBA := Lib.hid (HBx.out.drew.trans (hb.mono HBx.out.drew.size)); clear hx1 hrd hnb hb)
  all_goals
    have HF0 : Fl w (w.heap.size + 1) _ Ae L.length _ wA := ⟨HXA.out, HBA.out, HRd.out⟩
    have hX : w.heap.size ≤ w.heap.size + 1 := Nat.le_succ _
    have hn : NewB (w.heap.size + 1 + 1) Ae L.length := fun h0 => by
      obtain ⟨b, e1, h1⟩ := HNb.out h0
      have := Hz.out
      exact ⟨b, e1, Nat.le_trans (by simp; omega) h1⟩
    have hf := ((((((((((((((HF0.set hX hn 0 (.int .i64 x0)).set hX hn 1 (.int .i64 x1)).set hX hn 2 (.int .i64 x2)).set hX hn 3 (.string x3)).set hX hn 4 (.string x4)).set hX hn 5 (.bool x5)).set hX hn 6 (.int .i64 x6)).set hX hn 7 (.int .i64 y0)).set hX hn 8 (.int .i64 y1)).set hX hn 9 (.int .i64 y2)).set hX hn 10 (.int .i64 y3)).set hX hn 11 (.int .i64 y4)).set hX hn 12 (.int .i64 y5)).set hX hn 13 (.slice Ae L.length ce))
    simp only [List.setIfInBounds_toArray, List.set_cons_succ, List.set_cons_zero] at hf
    have HF := Lib.hid hf
    clear hf HF0 hn hX fA cA
    go_wp2
    refine bodyPost_ret (find_results HF.out.blk _ rfl rfl) rfl ?_
    exact ⟨Ae, ce, rfl, HF.out.rd, HF.out.bel⟩
end Go.Proofs.YtdicedpklpadgaaGreatDoor.Snd
namespace Go.Proofs.YtdicedpklpadgaaGreatDoor.Snd
open Go.RowKit Mem Civ Mom Img Plc Rul Src Go.Maps

set_option maxHeartbeats 2000000 in
set_option maxRecDepth 100000 in
theorem eend_no (s : Src) (A A2 A3 : Option Addr) (c c2 c3 : Nat) (m : Int) (i : Nat) (w : World) (h : SrcOk s A A2 A3 w) (hm : w.cell? ⟨0, 0, none⟩ = some (.int .i64 m)) (hs : srcB s = true) (hi : i < s.zones.length) :
    Calls Tryz.prog 27 #[.agg #[.slice A s.rules.length c, .slice A2 s.zones.length c2, .slice A3 s.links.length c3], .int .i64 i, .int .i64 (-1)] w fun e w' => e = .returned (.tuple #[.int .i64 0, .bool false]) ∧ Below w.heap.size w w' := by
  have hF := fun z (hb : Below w.heap.size w z) => find_no s A A2 A3 c c2 c3 m i z (h.below hb) (cell_later hb hm) hs hi
  clear h hm hs hi
  obtain ⟨rs, zs, ls⟩ := s
  simp only [noEra] at hF ⊢
  have hone := One.new w 26 #[.slice A rs.length c, .slice A2 zs.length c2, .slice A3 ls.length c3]
  obtain ⟨W, hW⟩ : ∃ W, w.alloc (.cells #[.slice A rs.length c, .slice A2 zs.length c2, .slice A3 ls.length c3] 26) = W := ⟨_, rfl⟩
  rw [hW] at hone
  have HO := Lib.hid hone; have HF := Lib.hid hF
  have c0 := fun i => hone.1.cell i
  clear hone hF
  go_enter Tryz.func27, Tryz.ntmps27
  go_wp2_with (go_at_call 63; refine (HF.out _ HO.out.2).mono ?_; rintro e w1 ⟨rfl, hb⟩; have HO1 := Lib.hid (HO.out.step hb); clear hb)
  go_ret2
  exact ⟨rfl, HO1.out.2.alloc HO1.out.2.size _⟩
set_option maxHeartbeats 2000000 in
set_option maxRecDepth 100000 in
theorem eend_yes (s : Src) (A A2 A3 : Option Addr) (c c2 c3 : Nat) (m sv : Int) (i j : Nat) (w : World) (h : SrcOk s A A2 A3 w) (hm : w.cell? ⟨0, 0, none⟩ = some (.int .i64 m)) (hs : srcB s = true) (hi : i < s.zones.length) (hj : j < (s.zones[i]'hi).eras.length) (x : Era) (hx : x = (s.zones[i]'hi).eras[j]'hj)
    (hA : x.till = true → x.kind = 2 → ∀ Ae ce z, Reads z z.heap.size 11 Ae (setOf s.rules x).length ((setOf s.rules x).flatMap Rule.cells) → AheadAt Ae (setOf s.rules x).length ce (endT x) sv z) :
    Calls Tryz.prog 27 #[.agg #[.slice A s.rules.length c, .slice A2 s.zones.length c2, .slice A3 s.links.length c3], .int .i64 i, .int .i64 j] w fun e w' => e = .returned (endO x sv) ∧ Below w.heap.size w w' := by
  have hF := fun z (hb : Below w.heap.size w z) => find_yes s A A2 A3 c c2 c3 m i j z (h.below hb) (cell_later hb hm) hs hi hj
  rw [← hx] at hF
  have hEnd := fun Ae ce z (hr : Reads z z.heap.size 11 Ae (setOf s.rules x).length ((setOf s.rules x).flatMap Rule.cells)) => end_any x Ae (setOf s.rules x).length ce sv z (fun h1 h2 => hA h1 h2 Ae ce z hr)
  clear h hm hs hx hA
  generalize setOf s.rules x = L at *
  have hq : ∃ r b, endO x sv = .tuple #[.int .i64 r, .bool b] := by
    unfold endO
    split
    · exact ⟨_, _, rfl⟩
    · exact ⟨_, _, rfl⟩
  obtain ⟨r, b, hq⟩ := hq
  rw [hq] at hEnd ⊢
  obtain ⟨x0, x1, x2, x3, x4, x5, x6, ⟨y0, y1, y2, y3, y4, y5⟩⟩ := x
  simp only [eraV] at hF hEnd
  have HEnd := Lib.hid hEnd
  have hone := One.new w 26 #[.slice A s.rules.length c, .slice A2 s.zones.length c2, .slice A3 s.links.length c3]
  obtain ⟨W, hW⟩ : ∃ W, w.alloc (.cells #[.slice A s.rules.length c, .slice A2 s.zones.length c2, .slice A3 s.links.length c3] 26) = W := ⟨_, rfl⟩
  rw [hW] at hone
  have HO := Lib.hid hone; have HF := Lib.hid hF
  have c0 := fun i => hone.1.cell i
  clear hone hF hEnd hq
  go_enter Tryz.func27, Tryz.ntmps27
  go_wp2_with (first
    | (go_at_call 63; refine (HF.out _ HO.out.2).mono ?_; rintro e w1 ⟨Ae, ce, rfl, hrd, hb⟩; have HO1 := Lib.hid (HO.out.step hb); have HRd := Lib.hid hrd; clear hb hrd)
    | (go_at_call 65; refine (HEnd.out _ _ _ ((HRd.out.below ((Below.refl _ _).alloc (Nat.le_refl _) _)).more (by simp))).mono ?_; rintro e w2 ⟨rfl, hb⟩; have HB2 := Lib.hid ((HO1.out.2.alloc HO1.out.2.size _).trans (hb.mono (by have := HO1.out.2.size; simp; omega))); clear hb))
  go_ret2
  exact ⟨rfl, HB2.out⟩
end Go.Proofs.YtdicedpklpadgaaGreatDoor.Snd
namespace Go.Proofs.YtdicedpklpadgaaGreatDoor.Snd
open Go.RowKit Mem Civ Mom Img Plc Rul Src Go.Maps

theorem day_any (n : Int) (w : World) : Calls Tryz.prog 162 #[.int .i64 n] w fun e w' => e = .returned (.bool (Rgt.dayB n)) ∧ w' = w := by
  unfold Rgt.dayB
  go_enter Tryz.func162, Tryz.ntmps162
  cases h1 : decide (-86400 < n) <;> cases h2 : decide (n < 86400)
  all_goals go_wp2_with fail
  all_goals go_ret
  all_goals exact ⟨rfl, rfl⟩
theorem era1_any (r : Rule) (off : Int) (b : Nat) (w : World) (hc : w.cell? ⟨b, 0, none⟩ = some (.int .i64 off)) :
    Calls Tryz.prog 161 #[.agg r.cells.toArray, .pointer (some ⟨b, 0, none⟩)] w fun e w' => e = .returned (.bool (!Rgt.dayB (wrap64 (off + r.save)))) ∧ Below w.heap.size w w' := by
  have HD := Lib.hid (fun n z => day_any n z)
  have hone := One.new w 59 r.cells.toArray
  obtain ⟨x0, x1, x2, x3, x4, x5, x6, x7, x8, x9, x10⟩ := r
  simp only [Rule.cells] at hone ⊢
  obtain ⟨W, hW⟩ : ∃ W, w.alloc (.cells #[.string x0, .int .i64 x1, .int .i64 x2, .int .i64 x3, .int .i64 x4, .int .i64 x5, .int .i64 x6, .int .i64 x7, .int .i64 x8, .int .i64 x9, .string x10] 59) = W := ⟨_, rfl⟩
  rw [hW] at hone
  have c2 : W.cell? ⟨b, 0, none⟩ = some (.int .i64 off) := cell_later hone.2 hc
  have HO := Lib.hid hone
  have c0 := fun i => hone.1.cell i
  clear hone hc
  go_enter Tryz.func161, Tryz.ntmps161
  go_wp2_with (go_at_call 162; refine (HD.out _ _).mono ?_; rintro e w1 ⟨rfl, rfl⟩)
  go_ret
  exact ⟨rfl, HO.out.2⟩
end Go.Proofs.YtdicedpklpadgaaGreatDoor.Snd
namespace Go.Proofs.YtdicedpklpadgaaGreatDoor.Snd
open Go.RowKit Mem Civ Mom Img Plc Rul Src Go.Maps

/-- Whether some rule of a set carries an offset a day away. -/
def farB (off : Int) (rs : List Rule) : Bool := !rs.all fun r => Rgt.dayB (wrap64 (off + r.save))
def FarP (off : Int) (rs : List Rule) (w : World) (e : Ending) (w' : World) : Prop := ∃ i : Int, e = .returned (.int .i64 i) ∧ decide (0 ≤ i) = farB off rs ∧ -1 ≤ i ∧ i ≤ 1000000 ∧ Below w.heap.size w w'
set_option maxHeartbeats 1000000 in
set_option maxRecDepth 100000 in
theorem farIndex_any (off : Int) (b : Nat) (rs : List Rule) (A : Option Addr) (c : Nat) (w : World) (h : Reads w w.heap.size 11 A rs.length (rs.flatMap Rule.cells)) (hn : rs.length ≤ 1000000) (hc : w.cell? ⟨b, 0, none⟩ = some (.int .i64 off)) :
    Calls Tryz.prog 181 #[.slice A rs.length c, .func (Fn.func 161) #[] #[.pointer (some ⟨b, 0, none⟩)]] w (FarP off rs w) := by
  have H := Lib.hid h; have HC := Lib.hid hc; clear h hc
  go_enter Tryz.func181, Tryz.ntmps181
  go_wp2
  go_loopw [8] (fun i wr => ∃ k : Nat, k ≤ rs.length ∧ i = .int .i64 k ∧ ((rs.take k).all fun r => Rgt.dayB (wrap64 (off + r.save))) = true ∧ Below w.heap.size w wr) (fun i _ => rs.length - (intOf i).toNat)
  case atStart => exact ⟨0, Nat.zero_le _, rfl, rfl, Below.refl _ _⟩
  case round =>
    obtain ⟨k, hk, rfl, hall, hb⟩ := hrel
    have Hall := Lib.hid hall; have HB := Lib.hid hb; clear hall hb
    by_cases hkn : k < rs.length
    · obtain ⟨ad, rfl, hadb, a0, a1, a2, a3, a4, a5, a6, a7, a8, a9, a10⟩ := rule_cells (H.out.below HB.out) hkn
      have Hc := Lib.hid (fun z (hb : Below w.heap.size w z) => era1_any rs[k] off b z (cell_later hb HC.out))
      have hq : ((rs.take (k + 1)).all fun r => Rgt.dayB (wrap64 (off + r.save))) = Rgt.dayB (wrap64 (off + rs[k].save)) := by
        rw [List.take_succ_eq_append_getElem hkn, List.all_append, Hall.out]
        simp
      have hq2 : Rgt.dayB (wrap64 (off + rs[k].save)) = false → farB off rs = true := fun e => by
        unfold farB
        rw [List.all_eq_false.2 ⟨rs[k], List.getElem_mem hkn, by rw [e]; decide⟩]
        rfl
      have HQ := Lib.hid hq
      have HQ2 := Lib.hid hq2
      clear hq hq2
      simp only [Rule.cells] at Hc
      generalize hb : Rgt.dayB (wrap64 (off + rs[k].save)) = b at *
      clear hb
      generalize rs[k] = s at *
      cases b
      · go_wp2_with (go_at_call 161; refine (Hc.out _ HB.out).mono ?_; rintro e w1 ⟨rfl, hb1⟩; have HB1 := Lib.hid (HB.out.trans (hb1.mono HB.out.size)); clear hb1)
        go_ret
        exact ⟨k, rfl, by rw [HQ2.out trivial]; simp, by omega, by omega, HB1.out⟩
      · go_wp2_with (go_at_call 161; refine (Hc.out _ HB.out).mono ?_; rintro e w1 ⟨rfl, hb1⟩; have HB1 := Lib.hid (HB.out.trans (hb1.mono HB.out.size)); clear hb1)
        exact ⟨⟨k + 1, by omega, by go_num, HQ.out, HB1.out⟩, by simp [intOf]; omega⟩
    · obtain rfl : k = rs.length := by omega
      have hall := Hall.out
      rw [List.take_length] at hall
      have hf : farB off rs = false := by unfold farB; rw [hall]; rfl
      have HF := Lib.hid hf
      clear hall Hall hf
      go_wp2
      go_ret
      exact ⟨-1, rfl, by rw [HF.out]; rfl, by omega, by omega, HB.out⟩
theorem far_any (off : Int) (b : Nat) (rs : List Rule) (A : Option Addr) (c : Nat) (w : World) (h : Reads w w.heap.size 11 A rs.length (rs.flatMap Rule.cells)) (hn : rs.length ≤ 1000000) (hc : w.cell? ⟨b, 0, none⟩ = some (.int .i64 off)) :
    Calls Tryz.prog 139 #[.slice A rs.length c, .func (Fn.func 161) #[] #[.pointer (some ⟨b, 0, none⟩)]] w fun e w' => e = .returned (.bool (farB off rs)) ∧ Below w.heap.size w w' := by
  have Hi := Lib.hid (farIndex_any off b rs A c w h hn hc)
  clear h hc
  go_enter Tryz.func139, Tryz.ntmps139
  go_wp2_with (go_at_call 181; refine Hi.out.mono ?_; rintro e w1 ⟨i, rfl, hq, hi1, hi2, hb⟩; have HQ := Lib.hid hq; have HB := Lib.hid hb; clear hq hb)
  go_ret
  exact ⟨by rw [← HQ.out]; rfl, HB.out⟩
end Go.Proofs.YtdicedpklpadgaaGreatDoor.Snd
