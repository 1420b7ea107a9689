/-
  Package eras: the contract of of. Conditions: what the source's slices hold is read.
-/
import Derived.Test.YtgfdmjldfahbpaaGreatDoorSndA
namespace Go.Proofs.YtgfdmjldfahbpaaGreatDoor.Snd
open Go.RowKit Mem Civ Mom Img Plc Rul Src Go.Maps

theorem row_to {w1 : World} {X : Nat} {t : TypeId} {cx cy : Array Value} (h : Blk w1 X t cx) : Blk (w1.setRow X cy) X t cy := setRow_heap w1 X cx cy t (0, 0) h
theorem grown_row (w : World) (b : Nat) (c : Array Value) : w.grownBy (w.setRow b c) (some b) := ⟨rfl, rfl, rfl, by simp, fun k _ hk => setRow_other w b k _ (fun e => hk (by simp [e]))⟩
theorem grown_setCell (w : World) (p : Addr) (v : Value) {g : Nat} (hp : p.block = g) : w.grownBy (w.setCell p v) (some g) :=
  ⟨rfl, rfl, rfl, by simp [World.setCell], fun k _ hk => Below.heap_setCell _ _ _ _ (fun e => hk (by rw [e, hp]))⟩
theorem own_set1 {w : World} {base size n b : Nat} {e : TypeId} {v : Value} {xs : List Value} (h : w.ownsRow base e size v n xs) (hne : v.ownBlock ≠ some b) (i : Nat) (u : Value) : (w.setCell ⟨b, i, none⟩ u).ownsRow base e size v n xs :=
  h.kept (grown_setCell w ⟨b, i, none⟩ u rfl) (.inr hne)
/-- Where a row of one's own lies. -/
def NewB (B : Nat) (A : Option Addr) (n : Nat) : Prop := 0 < n → ∃ b, A = some ⟨b, 0, none⟩ ∧ B ≤ b
theorem size_era : (Tryz.prog.info? 113).map (·.size) = some 14 := by kernel_rfl
def setOf (rs : List Rule) (x : Era) : List Rule := if x.kind = 2 then setL rs x.rules else []
theorem of_results {w : World} {R0 : Nat} {a0 a1 a2 a3 a4 a5 a6 a7 a8 a9 a10 a11 a12 a13 : Value} (h : Blk w R0 113 #[a0, a1, a2, a3, a4, a5, a6, a7, a8, a9, a10, a11, a12, a13]) (tmps : Array Value) (ht : tmps[4]? = some (.pointer (some ⟨R0, 0, none⟩))) : (results Tryz.f123 tmps).run Tryz.prog w = .ok (.agg #[a0, a1, a2, a3, a4, a5, a6, a7, a8, a9, a10, a11, a12, a13]) w := by
  have hc := fun i => h.cell i
  simp [results, Tryz.results123, go_sem, hc, ht]
theorem era_cells1 {x0 x1 x2 x6 y0 y1 y2 y3 y4 y5 : Int} {x3 x4 : ByteArray} {x5 : Bool} {A : Option Addr} {n c : Nat} : (#[.int .i64 x0, .int .i64 x1, .int .i64 x2, .string x3, .string x4, .bool x5, .int .i64 x6, .int .i64 y0, .int .i64 y1, .int .i64 y2, .int .i64 y3, .int .i64 y4, .int .i64 y5, .slice A n c] : Array Value).all (·.oneCell') = true := by
  simp [Value.oneCell']
set_option maxHeartbeats 2000000 in
set_option maxRecDepth 100000 in
theorem of_any (s : Src) (A A2 A3 : Option Addr) (c c2 c3 : Nat) (x : Era) (w : World) (h : SrcOk s A A2 A3 w) :
    Calls Tryz.prog 123 #[.agg #[.slice A s.rules.length c, .slice A2 s.zones.length c2, .slice A3 s.links.length c3], .agg #[.int .i64 x.off, .int .i64 x.kind, .int .i64 x.save, .string x.rules, .string x.format, .bool x.till, .int .i64 x.year, .int .i64 x.spot.month, .int .i64 x.spot.kind, .int .i64 x.spot.weekday, .int .i64 x.spot.day, .int .i64 x.spot.time, .int .i64 x.spot.ref]] w fun e w' =>
      ∃ Ae ce, e = .returned (.agg (eraV x Ae (setOf s.rules x).length ce)) ∧ Reads w' w'.heap.size 11 Ae (setOf s.rules x).length ((setOf s.rules x).flatMap Rule.cells) ∧ NewB w.heap.size Ae (setOf s.rules x).length ∧ Below w.heap.size w w' := by
  have hE := fun nm z (hb : Below w.heap.size w z) => eset_any s A A2 A3 c c2 c3 nm z (h.below hb)
  clear h
  obtain ⟨rs, zs, ls⟩ := s
  obtain ⟨x0, x1, x2, x3, x4, x5, x6, ⟨y0, y1, y2, y3, y4, y5⟩⟩ := x
  unfold setOf
  simp only [eraV] at hE ⊢
  have hb3 := box3 w 26 45 113 #[.slice A rs.length c, .slice A2 zs.length c2, .slice A3 ls.length c3] #[.int .i64 x0, .int .i64 x1, .int .i64 x2, .string x3, .string x4, .bool x5, .int .i64 x6, .int .i64 y0, .int .i64 y1, .int .i64 y2, .int .i64 y3, .int .i64 y4, .int .i64 y5] #[.int .i64 0, .int .i64 0, .int .i64 0, .string ⟨#[]⟩, .string ⟨#[]⟩, .bool false, .int .i64 0, .int .i64 0, .int .i64 0, .int .i64 0, .int .i64 0, .int .i64 0, .int .i64 0, .slice none 0 0]
  obtain ⟨W, hW⟩ : ∃ W, (((w.alloc (.cells #[.slice A rs.length c, .slice A2 zs.length c2, .slice A3 ls.length c3] 26)).alloc (.cells #[.int .i64 x0, .int .i64 x1, .int .i64 x2, .string x3, .string x4, .bool x5, .int .i64 x6, .int .i64 y0, .int .i64 y1, .int .i64 y2, .int .i64 y3, .int .i64 y4, .int .i64 y5] 45)).alloc (.cells #[.int .i64 0, .int .i64 0, .int .i64 0, .string ⟨#[]⟩, .string ⟨#[]⟩, .bool false, .int .i64 0, .int .i64 0, .int .i64 0, .int .i64 0, .int .i64 0, .int .i64 0, .int .i64 0, .slice none 0 0] 113)) = W := ⟨_, rfl⟩
  rw [hW] at hb3
  obtain ⟨b0, b1, b2, hbw, hsz⟩ := hb3
  have HE := Lib.hid hE; have HB0 := Lib.hid b0; have HB1 := Lib.hid b1; have HB2 := Lib.hid b2; have HBw := Lib.hid hbw
  have c1 := fun i => b1.cell i
  have ca1 := fun o i => (b1.alloc o).cell i
  have ca0 := fun o i => (b0.alloc o).cell i
  clear hE b0 b1 b2 hbw
  go_enter Tryz.func123, Tryz.ntmps123
  by_cases h2 : x1 = 2
  · subst h2
    simp only [if_true]
    obtain ⟨Wa, hWa⟩ : ∃ Wa, Wa = W.alloc (.cells #[.int .i64 x0, .int .i64 2, .int .i64 x2, .string x3, .string x4, .bool x5, .int .i64 x6, .int .i64 y0, .int .i64 y1, .int .i64 y2, .int .i64 y3, .int .i64 y4, .int .i64 y5, .slice none 0 0] 113) := ⟨_, rfl⟩
    have HB1a := Lib.hid (HB1.out.alloc (.cells #[.int .i64 x0, .int .i64 2, .int .i64 x2, .string x3, .string x4, .bool x5, .int .i64 x6, .int .i64 y0, .int .i64 y1, .int .i64 y2, .int .i64 y3, .int .i64 y4, .int .i64 y5, .slice none 0 0] 113))
    have HB2a := Lib.hid (HB2.out.alloc (.cells #[.int .i64 x0, .int .i64 2, .int .i64 x2, .string x3, .string x4, .bool x5, .int .i64 x6, .int .i64 y0, .int .i64 y1, .int .i64 y2, .int .i64 y3, .int .i64 y4, .int .i64 y5, .slice none 0 0] 113))
    have HBwa := Lib.hid (HBw.out.alloc HBw.out.size (.cells #[.int .i64 x0, .int .i64 2, .int .i64 x2, .string x3, .string x4, .bool x5, .int .i64 x6, .int .i64 y0, .int .i64 y1, .int .i64 y2, .int .i64 y3, .int .i64 y4, .int .i64 y5, .slice none 0 0] 113))
    have HX := Lib.hid (Blk.new W 113 #[.int .i64 x0, .int .i64 2, .int .i64 x2, .string x3, .string x4, .bool x5, .int .i64 x6, .int .i64 y0, .int .i64 y1, .int .i64 y2, .int .i64 y3, .int .i64 y4, .int .i64 y5, .slice none 0 0])
    go_wp2_with fail
    go_at_call 42
    refine (HE.out x3 _ HBwa.out).mono ?_
    rintro e w2 ⟨v, rfl, hown, hb⟩
    obtain ⟨Av, cv, rfl⟩ := own_slice hown
    have hx := HX.out.below hb HX.out.lt
    have h2 := HB2a.out.below hb HB2a.out.lt
    have hbe := HBwa.out.trans (hb.mono HBwa.out.size)
    have fx := fun i => hx.frozen i
    have cx := fun i => hx.cell i
    have hxs := hx.set_ 13 (.slice Av (setL rs x3).length cv)
    simp only [List.setIfInBounds_toArray, List.set_cons_succ, List.set_cons_zero] at hxs
    have cxs := fun i => hxs.cell i
    have h2s := h2.far (p := ⟨W.heap.size, 13, none⟩) (by simp; omega) (.slice Av (setL rs x3).length cv)
    have hos := own_set1 hown (own_blk_ne hown hx (by decide)) 13 (.slice Av (setL rs x3).length cv)
    have hbs := hbe.setCell (p := ⟨W.heap.size, 13, none⟩) HBw.out.size (.slice Av (setL rs x3).length cv)
    have H2s := Lib.hid h2s; have Hos := Lib.hid hos; have Hbs := Lib.hid hbs
    clear hown hb hx h2 hbe hxs h2s hos hbs hWa c1 ca1 ca0
    go_wp2_with ((refine wpList_store_row rfl 113 (.tmp 4) (.tmp 16) rfl (w.heap.size + 1 + 1) #[.int .i64 x0, .int .i64 2, .int .i64 x2, .string x3, .string x4, .bool x5, .int .i64 x6, .int .i64 y0, .int .i64 y1, .int .i64 y2, .int .i64 y3, .int .i64 y4, .int .i64 y5, .slice Av (setL rs x3).length cv] rfl rfl 113 _ H2s.out size_era rfl era_cells1 ?_))
    refine bodyPost_ret (of_results (row_to H2s.out) _ rfl) rfl ?_
    exact ⟨Av, cv, rfl, Reads.of_own (Hos.out.kept (grown_row _ _ _) (.inr (own_blk_ne Hos.out H2s.out (by decide)))), (fun hn => by obtain ⟨b, cap, e1, h1, h2⟩ := Hos.out.form hn; injection e1 with e1 _ _; exact ⟨b, e1, Nat.le_trans HBwa.out.size h1⟩), Hbs.out.grown (grown_row _ _ _) Hbs.out.size (fun k e => by injection e with e; omega)⟩
  · have h2b : (x1 == 2) = false := by simp [h2]
    simp only [if_neg h2]
    clear h2
    have HB2a := Lib.hid (HB2.out.alloc (.cells #[.int .i64 x0, .int .i64 x1, .int .i64 x2, .string x3, .string x4, .bool x5, .int .i64 x6, .int .i64 y0, .int .i64 y1, .int .i64 y2, .int .i64 y3, .int .i64 y4, .int .i64 y5, .slice none 0 0] 113))
    have HBwa := Lib.hid (HBw.out.alloc HBw.out.size (.cells #[.int .i64 x0, .int .i64 x1, .int .i64 x2, .string x3, .string x4, .bool x5, .int .i64 x6, .int .i64 y0, .int .i64 y1, .int .i64 y2, .int .i64 y3, .int .i64 y4, .int .i64 y5, .slice none 0 0] 113))
    go_wp2_with ((refine wpList_store_row rfl 113 (.tmp 4) (.tmp 16) rfl (w.heap.size + 1 + 1) #[.int .i64 x0, .int .i64 x1, .int .i64 x2, .string x3, .string x4, .bool x5, .int .i64 x6, .int .i64 y0, .int .i64 y1, .int .i64 y2, .int .i64 y3, .int .i64 y4, .int .i64 y5, .slice none 0 0] rfl rfl 113 _ HB2a.out size_era rfl era_cells1 ?_))
    refine bodyPost_ret (of_results (row_to HB2a.out) _ rfl) rfl ?_
    exact ⟨none, 0, rfl, Reads.none_, (fun hn => absurd hn (by simp)), HBwa.out.grown (grown_row _ _ _) HBwa.out.size (fun k e => by injection e with e; omega)⟩
end Go.Proofs.YtgfdmjldfahbpaaGreatDoor.Snd
