/-
  Images read: the contract of Load. Conditions: at most 8388608 bytes; the cell of bytealg.MaxLen holds a number; table.tail answers.
-/
import Derived.Test.YtpbojebnghcndaaGreatDoorRead
import Derived.Test.YtpbojebnghcndaaGreatDoorSave
import Derived.Recover
import Derived.Defers
import Derived.Laws.Pointers
namespace Go.Proofs.YtpbojebnghcndaaGreatDoor.Rd
open Go.RowKit Mem Img Rgt

theorem wpS_of_wp' {P : Program} {c : Code} {Q : Exit → Act → List Frame → World → Prop} {a : Act} {cs : List Frame} {w : World} (h : ∀ Q' : Exit → Act → World → Prop, (∀ e a' w', Q e a' cs w' → Q' e a' w') → c.wp P Q' a w) : c.wpS P Q a cs w :=
  wpS_of_wp (h _ fun _ _ _ h => h)
theorem assert_nil (w : World) : (Instr.typeAssert .nilIface 20 30 true).run Tryz.prog w = .ok (.tuple #[.int .i64 0, .bool false]) w := by kernel_rfl
theorem assert_some (n : Int) (w : World) : (Instr.typeAssert (.iface 30 (.int .i64 n)) 20 30 true).run Tryz.prog w = .ok (.tuple #[.int .i64 n, .bool true]) w := by kernel_rfl
set_option maxRecDepth 100000 in
theorem catch_idle (X E : Nat) (w : World) :
    CallsD Tryz.prog 53 #[.pointer (some ⟨X, 0, none⟩), .pointer (some ⟨E, 0, none⟩)] .returning w fun e u' w' => e = .returned (.tuple #[]) ∧ u' = .returning ∧ w' = w := by
  refine callsD_of_wpS Tryz.func53 rfl fun c₀ cs hu => ?_
  apply wpS_seq
  apply wpS_region
  simp [wpOpsS, go_sem, assert_nil, recoverD, hu, Tryz.ntmps53, Exit.thenS]
  refine wpS_of_wp ?_
  go_wp2
  cases c₀
  simp_all [bodyPostS, results, Tryz.results53]
set_option maxRecDepth 100000 in
theorem catch_panicking (X E : Nat) (n : Int) (older : List PanicEntry) (w : World) (cx : Array Value) (ce : Value) (hX : Blk w X 27 cx) (hE : Blk w E 30 #[ce]) (hs : cx.size = 9) :
    CallsD Tryz.prog 53 #[.pointer (some ⟨X, 0, none⟩), .pointer (some ⟨E, 0, none⟩)] (.panicking ({ v := .iface 30 (.int .i64 n), recovered := false } :: older)) w fun e u' w' => e = .returned (.tuple #[]) ∧ u' = .panicking ({ v := .iface 30 (.int .i64 n), recovered := true } :: older) ∧ w' = (w.setRow X zTab).setCell ⟨E, 0, none⟩ (.int .i64 n) := by
  have hne := hX.ne_ hE (by decide)
  have hE2 : Blk (w.setRow X zTab) E 30 #[ce] := (setRow_other w X E zTab hne.symm).trans hE
  have cE := hE2.cell 0
  have fE := hE2.frozen 0
  have HX := Lib.hid hX; clear hX hE hE2
  obtain ⟨W', hW⟩ : ∃ W', (w.setRow X zTab).setCell ⟨E, 0, none⟩ (.int .i64 n) = W' := ⟨_, rfl⟩
  rw [hW]
  have HW := Lib.hid hW; clear hW
  refine callsD_of_wpS Tryz.func53 rfl fun c₀ cs hu => ?_
  have Hu := Lib.hid hu
  apply wpS_seq
  apply wpS_region
  simp [wpOpsS, go_sem, assert_some, recoverD, hu, Tryz.ntmps53, Exit.thenS]
  clear hu
  simp only [Array.replicate, List.replicate, List.setIfInBounds_toArray, List.set_cons_succ, List.set_cons_zero, List.append_toArray, List.cons_append, List.nil_append]
  refine wpS_of_wp' fun Q' hQ => ?_
  have HQ := Lib.hid hQ; clear hQ
  go_wp2_with ((refine wpList_store_row rfl 27 (.tmp 0) (.tmp 10) rfl X zTab rfl rfl 27 _ HX.out size27 hs (by simp [zTab, Value.oneCell']) ?_))
  rw [HW.out]
  refine HQ.out _ _ _ ?_
  simp [bodyPostS, results, Tryz.results53]

/-- The table that an image is of, if it is one. -/
def loadM (tb : Table → Bool) (l : List UInt8) : Option Table := (readM l).bind fun y => if rightB y.1 (tb y.1) = true ∧ img y.1 = l then some y.1 else none
def LP (w : World) (r : Option Table) (e : Ending) (w' : World) : Prop :=
  Below w.heap.size w w' ∧ match r with
    | some x => ∃ A c A2 c2, e = .returned (.tuple #[.agg (tabCells x A c A2 c2), .int .i64 0]) ∧ TabOk x A A2 w'
    | none => e = .returned (.tuple #[.agg zTab, .int .i64 18])
/-- table.tail answers, at tables of a kind. -/
def TailIs (Pt : Table → Prop) (tb : Table → Bool) (m : Int) : Prop := ∀ (x : Table) (A A2 : Option Addr) (c c2 : Nat) (w : World), Pt x → TabOk x A A2 w → w.cell? ⟨0, 0, none⟩ = some (.int .i64 m) →
  Calls Tryz.prog 63 #[.agg (tabCells x A c A2 c2)] w fun e w' => e = .returned (.bool (tb x)) ∧ Below w.heap.size w w'

theorem load_results {w : World} {X E : Nat} {a0 a1 a2 a3 a4 a5 a6 a7 a8 : Value} {n : Int} (h : Blk w X 27 #[a0, a1, a2, a3, a4, a5, a6, a7, a8]) (h' : Blk w E 30 #[.int .i64 n]) (tmps : Array Value) (h2 : tmps[2]? = some (.pointer (some ⟨X, 0, none⟩))) (h3 : tmps[3]? = some (.pointer (some ⟨E, 0, none⟩))) :
    (results Tryz.f19 tmps).run Tryz.prog w = .ok (.tuple #[.agg #[a0, a1, a2, a3, a4, a5, a6, a7, a8], .int .i64 n]) w := by
  have hc := fun i => h.cell i
  have hc' := fun i => h'.cell i
  simp [results, Tryz.results19, go_sem, hc, hc', h2, h3]
theorem row_new {w1 : World} {X : Nat} {t : TypeId} {cx cy : Array Value} (h : Blk w1 X t cx) : Blk (w1.setRow X cy) X t cy := setRow_heap w1 X cx cy t (0, 0) h
theorem reads_row {w1 : World} {X B size n : Nat} {A : Option Addr} {xs : List Value} {cy : Array Value} (h : Reads w1 B size A n xs) (hn : NewAt (X + 1) A n) : Reads (w1.setRow X cy) B size A n xs :=
  ⟨h.1, fun h0 => by
    obtain ⟨ad, e, hb, hc⟩ := h.2 h0
    obtain ⟨b, e2, hb2⟩ := hn h0
    rw [e] at e2
    injection e2 with e2
    refine ⟨ad, e, hb, fun j u hu => ?_⟩
    rw [← hc j u hu]
    have hbk : (ad.add j).block = b := by rw [block_of_add, e2]
    exact World.cell?_of_block (w := w1) (setRow_other w1 X _ cy (by omega))⟩
theorem NewAt.mono {B B' : Nat} {A : Option Addr} {n : Nat} (h : NewAt B A n) (hB : B' ≤ B) : NewAt B' A n := fun h0 => by
  obtain ⟨b, e, hb⟩ := h h0
  exact ⟨b, e, by omega⟩
theorem tabOk_row {w1 : World} {X : Nat} {x : Table} {A A2 : Option Addr} {cy : Array Value} (h : TabOk x A A2 w1) (h1 : NewAt (X + 1) A x.shifts.length) (h2 : NewAt (X + 1) A2 x.tail.length) : TabOk x A A2 (w1.setRow X cy) := by
  have hs : w1.heap.size ≤ (w1.setRow X cy).heap.size := (grown_row w1 X cy).size
  exact ⟨(reads_row h.rs h1).more hs, (reads_row h.rt h2).more hs, h.ns, h.nt, h.name, h.format, h.first, h.shifts, h.rules⟩
theorem reads_set {w1 : World} {X i B size n : Nat} {A : Option Addr} {xs : List Value} {u : Value} (h : Reads w1 B size A n xs) (hn : NewAt (X + 1) A n) : Reads (w1.setCell ⟨X, i, none⟩ u) B size A n xs :=
  ⟨h.1, fun h0 => by
    obtain ⟨ad, e, hb, hc⟩ := h.2 h0
    obtain ⟨b, e2, hx⟩ := hn h0
    rw [e] at e2
    injection e2 with e2
    refine ⟨ad, e, hb, fun j v hv => ?_⟩
    rw [← hc j v hv]
    have hbk : (ad.add j).block = b := by rw [block_of_add, e2]
    exact World.cell?_of_block (w := w1) (Below.heap_setCell w1 ⟨X, i, none⟩ u _ (by rw [hbk]; show b ≠ X; omega))⟩
theorem tabOk_set {w1 : World} {X i : Nat} {x : Table} {A A2 : Option Addr} {u : Value} (h : TabOk x A A2 w1) (h1 : NewAt (X + 1) A x.shifts.length) (h2 : NewAt (X + 1) A2 x.tail.length) : TabOk x A A2 (w1.setCell ⟨X, i, none⟩ u) := by
  have hs : w1.heap.size ≤ (w1.setCell ⟨X, i, none⟩ u).heap.size := by simp
  exact ⟨(reads_set h.rs h1).more hs, (reads_set h.rt h2).more hs, h.ns, h.nt, h.name, h.format, h.first, h.shifts, h.rules⟩
theorem row_far {w1 : World} {X E : Nat} {t : TypeId} {cx cy : Array Value} (h : Blk w1 E t cx) (hne : E ≠ X) : Blk (w1.setRow X cy) E t cx := (setRow_other w1 X E cy hne).trans h
theorem row_below {w w1 : World} {B X : Nat} {cy : Array Value} (h : Below B w w1) (hB : B ≤ w1.heap.size) (hX : B ≤ X) : Below B w (w1.setRow X cy) := h.grown (grown_row w1 X cy) hB fun k e => by injection e with e; omega

set_option maxHeartbeats 4000000 in
set_option maxRecDepth 100000 in
theorem load_any (tb : Table → Bool) (l : List UInt8) (m : Int) (w : World) (hl : l.length ≤ 8388608) (hm : w.cell? ⟨0, 0, none⟩ = some (.int .i64 m)) (Pt : Table → Prop) (hT : TailIs Pt tb m) (hP : ∀ x r, readM l = some (x, r) → Pt x) :
    Calls Tryz.prog 19 #[.string ⟨l.toArray⟩] w (LP w (loadM tb l)) := by
  have hmf : ∀ (fn : Fn) (first cap : Array Value) (w : World), (Instr.makeFunc fn first cap).run Tryz.prog w = .ok (.func fn first cap) w := fun _ _ _ _ => rfl
  have HM := Lib.hid hm; clear hm
  have hb := box2 w 27 30 zTab #[.int .i64 0]
  obtain ⟨W, hW⟩ : ∃ W, (w.alloc (.cells zTab 27)).alloc (.cells #[.int .i64 0] 30) = W := ⟨_, rfl⟩
  rw [hW] at hb
  unfold zTab at hW
  obtain ⟨bX, bE, hbw, hz⟩ := hb
  have hb2 : Below W.heap.size W (W.alloc (.cells #[.string ⟨l.toArray⟩] 103)) := (Below.refl _ _).alloc (Nat.le_refl _) _
  have HXE := Lib.hid (And.intro bX bE)
  have HB := Lib.hid hbw
  have hm0 := World.block_lt_of_cell? w _ HM.out
  simp only at hm0
  have hz0 := hbw.size
  have Hr := Lib.hid (read_any W.heap.size l m _ (Blk.new W 103 #[.string ⟨l.toArray⟩]) hl (cell_later hb2 (cell_later hbw HM.out)))
  have HT := Lib.hid hT
  clear hT bX bE hbw hb2
  obtain ⟨R, hR⟩ : ∃ R, loadM tb l = R := ⟨_, rfl⟩
  rw [hR]
  have HR := Lib.hid hR; clear hR
  go_enter_defers Tryz.func19, Tryz.ntmps19
  cases hr : readM l with
  | none =>
    have hn : R = none := by rw [← HR.out, loadM, hr]; rfl
    rw [hr] at Hr
    clear hr HR hP
    subst hn
    go_wp2_with (go_at_call 54; refine Hr.out.mono ?_; rintro e w1 ⟨hg, rfl⟩; have bX := (HXE.out.1.alloc (.cells #[.string ⟨l.toArray⟩] 103)).grown hg (by simp; omega); have bE := (HXE.out.2.alloc (.cells #[.string ⟨l.toArray⟩] 103)).grown hg (by simp; omega); have Hg := Lib.hid hg; have HX1 := Lib.hid bX; have HE1 := Lib.hid bE; clear hg bX bE)
    have hb3 : Below w.heap.size w w1 := (HB.out.alloc hz0 _).grown Hg.out (by simp; omega) fun k e => by injection e with e; omega
    have hz1 := hb3.size
    have bX := (row_new (cy := zTab) HX1.out).far (p := ⟨w.heap.size + 1, 0, none⟩) (by simp) (.int .i64 18)
    have bE := (row_far (cy := zTab) (X := w.heap.size) HE1.out (by omega)).set_ 0 (.int .i64 18)
    have hb4 : Below w.heap.size w ((w1.setRow w.heap.size zTab).setCell ⟨w.heap.size + 1, 0, none⟩ (.int .i64 18)) := (row_below hb3 hz1 (Nat.le_refl _)).setCell (by simp) _
    refine leaves_cons (f := 53) (args := #[.pointer (some ⟨w.heap.size, 0, none⟩), .pointer (some ⟨w.heap.size + 1, 0, none⟩)]) (by simp) (by simp [go_sem]) ?_
    refine (catch_panicking w.heap.size (w.heap.size + 1) 18 [] w1 zTab (.int .i64 0) HX1.out HE1.out rfl).mono ?_
    rintro e u' w'' ⟨rfl, rfl, rfl⟩
    generalize (w1.setRow w.heap.size zTab).setCell ⟨w.heap.size + 1, 0, none⟩ (.int .i64 18) = W2 at *
    refine ⟨_, load_results bX bE _ rfl rfl, ?_⟩
    exact ⟨hb4, rfl⟩
  | some y =>
    obtain ⟨x, r⟩ := y
    rw [hr] at Hr
    have hn : R = if rightB x (tb x) = true ∧ img x = l then some x else none := by rw [← HR.out, loadM, hr]; rfl
    have HN := Lib.hid hn
    have HP := Lib.hid (hP x r hr)
    clear hn hr HR hP
    go_wp2_with fail
    go_at_call 54
    refine Hr.out.mono ?_
    rintro e w1 ⟨hg, ⟨A, c, A2, c2, he, hok, hA, hA2⟩, _⟩
    simp only [tabCells] at he
    obtain rfl := he
    have bX := (HXE.out.1.alloc (.cells #[.string ⟨l.toArray⟩] 103)).grown hg (by simp; omega)
    have bE := (HXE.out.2.alloc (.cells #[.string ⟨l.toArray⟩] 103)).grown hg (by simp; omega)
    have hb3 : Below w.heap.size w w1 := (HB.out.alloc hz0 _).grown hg (by simp; omega) fun k e => by injection e with e; omega
    have hz1 := hb3.size
    have hok2 := tabOk_row (X := w.heap.size) (cy := #[.string x.name, .int .i64 x.first.off, .int .i64 x.first.save, .string x.first.abbr, .slice A x.shifts.length c, .int .i64 x.till, .slice A2 x.tail.length c2, .int .i64 x.off, .string x.format]) hok (hA.mono (by simp; omega)) (hA2.mono (by simp; omega))
    have bX2 := row_new (cy := #[.string x.name, .int .i64 x.first.off, .int .i64 x.first.save, .string x.first.abbr, .slice A x.shifts.length c, .int .i64 x.till, .slice A2 x.tail.length c2, .int .i64 x.off, .string x.format]) bX
    have bE2 := row_far (X := w.heap.size) (cy := #[.string x.name, .int .i64 x.first.off, .int .i64 x.first.save, .string x.first.abbr, .slice A x.shifts.length c, .int .i64 x.till, .slice A2 x.tail.length c2, .int .i64 x.off, .string x.format]) bE (by omega)
    have hb4 := row_below (X := w.heap.size) (cy := #[.string x.name, .int .i64 x.first.off, .int .i64 x.first.save, .string x.first.abbr, .slice A x.shifts.length c, .int .i64 x.till, .slice A2 x.tail.length c2, .int .i64 x.off, .string x.format]) hb3 hz1 (Nat.le_refl _)
    have HX1 := Lib.hid bX
    have HA := Lib.hid (And.intro (hA.mono (B' := w.heap.size + 1 + 1) (by simp; omega)) (hA2.mono (B' := w.heap.size + 1 + 1) (by simp; omega)))
    clear hg hok hA hA2 bX bE hb3
    obtain ⟨W2, hW2⟩ : ∃ W2, w1.setRow w.heap.size #[.string x.name, .int .i64 x.first.off, .int .i64 x.first.save, .string x.first.abbr, .slice A x.shifts.length c, .int .i64 x.till, .slice A2 x.tail.length c2, .int .i64 x.off, .string x.format] = W2 := ⟨_, rfl⟩
    rw [hW2] at hok2 bX2 bE2 hb4
    have HO2 := Lib.hid hok2
    have HX2 := Lib.hid bX2
    have HE2 := Lib.hid bE2
    have HB2 := Lib.hid hb4
    have cX := fun i => bX2.cell i
    have hz2 := hb4.size
    clear hok2 bX2 bE2 hb4 hW
    have Hs := Lib.hid (save_any x A A2 c c2 (tb x) m W2 HO2.out (cell_later HB2.out HM.out) fun w5 hb5 => HT.out x A A2 c c2 w5 HP.out (HO2.out.below hb5) (cell_later hb5 (cell_later HB2.out HM.out)))
    simp only [tabCells] at Hs
    have hxe := HX2.out.lt
    have hee := HE2.out.lt
    have hcase : (rightB x (tb x) = false ∧ R = none) ∨ (rightB x (tb x) = true ∧ (img x == l) = false ∧ R = none) ∨ (rightB x (tb x) = true ∧ (img x == l) = true ∧ R = some x) := by
      rw [HN.out]
      by_cases h1 : rightB x (tb x) = true
      · by_cases h2 : img x = l
        · exact .inr (.inr ⟨h1, by simpa using h2, by rw [if_pos ⟨h1, h2⟩]⟩)
        · exact .inr (.inl ⟨h1, by simpa using h2, by rw [if_neg fun h => h2 h.2]⟩)
      · exact .inl ⟨by simpa using h1, by rw [if_neg fun h => h1 h.1]⟩
    clear HN
    rcases hcase with ⟨h1, rfl⟩ | ⟨h1, h2, rfl⟩ | ⟨h1, h2, rfl⟩
    · rw [h1] at Hs
      clear h1
      go_wp2_with (first
        | (refine wpList_store_row rfl 27 (.tmp 2) (.tmp 10) rfl w.heap.size #[.string x.name, .int .i64 x.first.off, .int .i64 x.first.save, .string x.first.abbr, .slice A x.shifts.length c, .int .i64 x.till, .slice A2 x.tail.length c2, .int .i64 x.off, .string x.format] rfl rfl 27 _ HX1.out size27 rfl tab_one ?_)
        | (go_at_call 18; refine Hs.out.mono ?_; rintro e w6 ⟨rfl, hb6⟩; have bX6 := HX2.out.below hb6 hxe; have bE6 := row_far (X := w.heap.size) (cy := zTab) (HE2.out.below hb6 hee) (by omega); have fE := fun i => bE6.frozen i; have cE := fun i => bE6.cell i; have HX6 := Lib.hid bX6; have HE6 := Lib.hid bE6; have HB6 := Lib.hid (HB2.out.trans (hb6.mono hz2)); clear bX6 bE6 hb6 HX1)
        | (refine wpList_store_row rfl 27 (.tmp 2) (.tmp 23) rfl w.heap.size zTab rfl rfl 27 _ HX6.out size27 rfl tab_one ?_))
      refine leaves_cons (f := 53) (args := #[.pointer (some ⟨w.heap.size, 0, none⟩), .pointer (some ⟨w.heap.size + 1, 0, none⟩)]) (by simp) (by simp [go_sem]) ?_
      refine (catch_idle w.heap.size (w.heap.size + 1) _).mono ?_
      rintro e u' w'' ⟨rfl, rfl, rfl⟩
      have hz6 := HB6.out.size
      refine ⟨_, load_results ((row_new HX6.out).far (p := ⟨w.heap.size + 1, 0, none⟩) (by simp) (.int .i64 18)) (HE6.out.set_ 0 (.int .i64 18)) _ rfl rfl, ?_⟩
      exact ⟨(row_below HB6.out hz6 (Nat.le_refl _)).setCell (by simp) _, rfl⟩
    · rw [h1] at Hs
      clear h1
      go_wp2_with (first
        | (refine wpList_store_row rfl 27 (.tmp 2) (.tmp 10) rfl w.heap.size #[.string x.name, .int .i64 x.first.off, .int .i64 x.first.save, .string x.first.abbr, .slice A x.shifts.length c, .int .i64 x.till, .slice A2 x.tail.length c2, .int .i64 x.off, .string x.format] rfl rfl 27 _ HX1.out size27 rfl tab_one ?_)
        | (go_at_call 18; refine Hs.out.mono ?_; rintro e w6 ⟨rfl, hb6⟩; have bX6 := HX2.out.below hb6 hxe; have bE6 := row_far (X := w.heap.size) (cy := zTab) (HE2.out.below hb6 hee) (by omega); have fE := fun i => bE6.frozen i; have cE := fun i => bE6.cell i; have HX6 := Lib.hid bX6; have HE6 := Lib.hid bE6; have HB6 := Lib.hid (HB2.out.trans (hb6.mono hz2)); clear bX6 bE6 hb6 HX1)
        | (refine wpList_store_row rfl 27 (.tmp 2) (.tmp 23) rfl w.heap.size zTab rfl rfl 27 _ HX6.out size27 rfl tab_one ?_))
      refine leaves_cons (f := 53) (args := #[.pointer (some ⟨w.heap.size, 0, none⟩), .pointer (some ⟨w.heap.size + 1, 0, none⟩)]) (by simp) (by simp [go_sem]) ?_
      refine (catch_idle w.heap.size (w.heap.size + 1) _).mono ?_
      rintro e u' w'' ⟨rfl, rfl, rfl⟩
      have hz6 := HB6.out.size
      refine ⟨_, load_results ((row_new HX6.out).far (p := ⟨w.heap.size + 1, 0, none⟩) (by simp) (.int .i64 18)) (HE6.out.set_ 0 (.int .i64 18)) _ rfl rfl, ?_⟩
      exact ⟨(row_below HB6.out hz6 (Nat.le_refl _)).setCell (by simp) _, rfl⟩
    · rw [h1] at Hs
      clear h1
      go_wp2_with (first
        | (refine wpList_store_row rfl 27 (.tmp 2) (.tmp 10) rfl w.heap.size #[.string x.name, .int .i64 x.first.off, .int .i64 x.first.save, .string x.first.abbr, .slice A x.shifts.length c, .int .i64 x.till, .slice A2 x.tail.length c2, .int .i64 x.off, .string x.format] rfl rfl 27 _ HX1.out size27 rfl tab_one ?_)
        | (go_at_call 18; refine Hs.out.mono ?_; rintro e w6 ⟨rfl, hb6⟩; have bX6 := HX2.out.below hb6 hxe; have cX6 := fun i => bX6.cell i; have bE6 := row_far (X := w.heap.size) (cy := #[.string x.name, .int .i64 x.first.off, .int .i64 x.first.save, .string x.first.abbr, .slice A x.shifts.length c, .int .i64 x.till, .slice A2 x.tail.length c2, .int .i64 x.off, .string x.format]) (HE2.out.below hb6 hee) (by omega); have fE := fun i => bE6.frozen i; have cE := fun i => bE6.cell i; have HX6 := Lib.hid bX6; have HE6 := Lib.hid bE6; have HO6 := Lib.hid (HO2.out.below hb6); have HB6 := Lib.hid (HB2.out.trans (hb6.mono hz2)); clear bX6 bE6 hb6 HX1)
        | (refine wpList_store_row rfl 27 (.tmp 2) (.tmp 24) rfl w.heap.size #[.string x.name, .int .i64 x.first.off, .int .i64 x.first.save, .string x.first.abbr, .slice A x.shifts.length c, .int .i64 x.till, .slice A2 x.tail.length c2, .int .i64 x.off, .string x.format] rfl rfl 27 _ HX6.out size27 rfl tab_one ?_))
      refine leaves_cons (f := 53) (args := #[.pointer (some ⟨w.heap.size, 0, none⟩), .pointer (some ⟨w.heap.size + 1, 0, none⟩)]) (by simp) (by simp [go_sem]) ?_
      refine (catch_idle w.heap.size (w.heap.size + 1) _).mono ?_
      rintro e u' w'' ⟨rfl, rfl, rfl⟩
      have hz6 := HB6.out.size
      refine ⟨_, load_results ((row_new HX6.out).far (p := ⟨w.heap.size + 1, 0, none⟩) (by simp) (.int .i64 0)) (HE6.out.set_ 0 (.int .i64 0)) _ rfl rfl, ?_⟩
      refine ⟨(row_below HB6.out hz6 (Nat.le_refl _)).setCell (by simp) _, A, c, A2, c2, rfl, ?_⟩
      exact tabOk_set (tabOk_row HO6.out (HA.out.1.mono (by omega)) (HA.out.2.mono (by omega))) HA.out.1 HA.out.2
end Go.Proofs.YtpbojebnghcndaaGreatDoor.Rd
