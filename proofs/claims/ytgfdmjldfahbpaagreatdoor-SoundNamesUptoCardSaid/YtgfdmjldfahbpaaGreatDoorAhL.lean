/-
  Package rules: the contract of latest. Conditions: bounded years; what the set's slice holds is read; the test answers.
-/
import Derived.Test.YtgfdmjldfahbpaaGreatDoorAhB
namespace Go.Proofs.YtgfdmjldfahbpaaGreatDoor.Ahd
open Go.RowKit Mem Civ Mom Img Rul
attribute [local go_sem] Oper.semAt_some

/-- One rule's latest turn that is so, beside the best one till then. -/
def stepT (so : Turn → Bool) (best : Option Turn) (l : List Turn) : Option Turn := match l.find? so with
  | none => best
  | some t => match best with
    | none => some t
    | some b => if b.at_ ≤ t.at_ then some t else some b
def latestL (so : Turn → Bool) (y : Int) (rs : List Rule) : Option Turn := rs.foldl (fun b x => stepT so b (backL x y)) none
def noTurn : Turn := ⟨0, 0, 0, ⟨#[]⟩⟩
/-- The test answers so, in whatever later world. -/
def SoAt (g : Nat) (lb : Array Value) (so : Turn → Bool) (w : World) : Prop :=
  ∀ t z, Below w.heap.size w z → Calls Tryz.prog g (encT t ++ lb) z fun e w' => e = .returned (.bool (so t)) ∧ Below z.heap.size z w'
/-- What latest's frame holds in memory: the test's box, the result's, the best turn, and whether there is one. -/
structure La (w : World) (g : Nat) (lb : Array Value) (best : Option Turn) (W : World) : Prop where
  so : Blk W w.heap.size 151 #[.func (.func g) #[] lb]
  res : Blk W (w.heap.size + 1) 86 #[.int .i64 0, .int .i64 0, .int .i64 0, .string ⟨#[]⟩]
  bst : Blk W (w.heap.size + 1 + 1) 86 (best.getD noTurn).cells.toArray
  fnd : Blk W (w.heap.size + 1 + 1 + 1) 4 #[.bool best.isSome]
  bel : Below w.heap.size w W
theorem La.grown {w W W' : World} {g : Nat} {lb : Array Value} {best : Option Turn} {r : Option Nat} (h : La w g lb best W) (hg : W.grownBy W' r) (hr : ∀ k, r = some k → w.heap.size + 4 ≤ k) : La w g lb best W' :=
  ⟨h.so.grown hg (fun e => by have := hr _ e.symm; omega), h.res.grown hg (fun e => by have := hr _ e.symm; omega), h.bst.grown hg (fun e => by have := hr _ e.symm; omega), h.fnd.grown hg (fun e => by have := hr _ e.symm; omega), h.bel.grown hg h.bel.size (fun k e => by have := hr _ e; omega)⟩
theorem La.alloc {w W : World} {g : Nat} {lb : Array Value} {best : Option Turn} (h : La w g lb best W) (o : Obj) : La w g lb best (W.alloc o) := h.grown (World.grownBy_alloc W o none) (fun k e => by cases e)
theorem La.step {w W W' : World} {g : Nat} {lb : Array Value} {best : Option Turn} (h : La w g lb best W) (hb : Below W.heap.size W W') : La w g lb best W' := h.grown (gr_of_below hb) (fun k e => by cases e)
theorem La.set {w W : World} {g : Nat} {lb : Array Value} {best : Option Turn} (h : La w g lb best W) (t : Turn) :
    La w g lb (some t) (((((W.setCell ⟨w.heap.size + 1 + 1, 0, none⟩ (.int .i64 t.at_)).setCell ⟨w.heap.size + 1 + 1, 1, none⟩ (.int .i64 t.ref)).setCell ⟨w.heap.size + 1 + 1, 2, none⟩ (.int .i64 t.save)).setCell ⟨w.heap.size + 1 + 1, 3, none⟩ (.string t.letter)).setCell ⟨w.heap.size + 1 + 1 + 1, 0, none⟩ (.bool true)) := by
  have hb := ((((h.bst.set_ 0 (.int .i64 t.at_)).set_ 1 (.int .i64 t.ref)).set_ 2 (.int .i64 t.save)).set_ 3 (.string t.letter)).far (p := ⟨w.heap.size + 1 + 1 + 1, 0, none⟩) (by simp) (.bool true)
  have hf := ((((h.fnd.far (p := ⟨w.heap.size + 1 + 1, 0, none⟩) (by simp) (.int .i64 t.at_)).far (p := ⟨w.heap.size + 1 + 1, 1, none⟩) (by simp) (.int .i64 t.ref)).far (p := ⟨w.heap.size + 1 + 1, 2, none⟩) (by simp) (.int .i64 t.save)).far (p := ⟨w.heap.size + 1 + 1, 3, none⟩) (by simp) (.string t.letter)).set_ 0 (.bool true)
  simp only [Turn.cells, List.setIfInBounds_toArray, List.set_cons_succ, List.set_cons_zero] at hb hf
  refine ⟨?_, ?_, hb, hf, ?_⟩
  · exact ((((h.so.far (by simp <;> omega) _).far (by simp <;> omega) _).far (by simp <;> omega) _).far (by simp <;> omega) _).far (by simp <;> omega) _
  · exact ((((h.res.far (by simp) _).far (by simp) _).far (by simp) _).far (by simp) _).far (by simp <;> omega) _
  · exact ((((h.bel.setCell (by simp <;> omega) _).setCell (by simp <;> omega) _).setCell (by simp <;> omega) _).setCell (by simp <;> omega) _).setCell (by simp <;> omega) _
theorem La.start (w : World) (g : Nat) (lb : Array Value) : La w g lb none ((((w.alloc (.cells #[.func (.func g) #[] lb] 151)).alloc (.cells #[.int .i64 0, .int .i64 0, .int .i64 0, .string ⟨#[]⟩] 86)).alloc (.cells #[.int .i64 0, .int .i64 0, .int .i64 0, .string ⟨#[]⟩] 86)).alloc (.cells #[.bool false] 4)) := by
  have h1 := Blk.new w 151 #[.func (.func g) #[] lb]
  have h2 := Blk.new (w.alloc (.cells #[.func (.func g) #[] lb] 151)) 86 #[.int .i64 0, .int .i64 0, .int .i64 0, .string ⟨#[]⟩]
  have h3 := Blk.new ((w.alloc (.cells #[.func (.func g) #[] lb] 151)).alloc (.cells #[.int .i64 0, .int .i64 0, .int .i64 0, .string ⟨#[]⟩] 86)) 86 #[.int .i64 0, .int .i64 0, .int .i64 0, .string ⟨#[]⟩]
  have h4 := Blk.new (((w.alloc (.cells #[.func (.func g) #[] lb] 151)).alloc (.cells #[.int .i64 0, .int .i64 0, .int .i64 0, .string ⟨#[]⟩] 86)).alloc (.cells #[.int .i64 0, .int .i64 0, .int .i64 0, .string ⟨#[]⟩] 86)) 4 #[.bool false]
  simp only [World.size_alloc] at h2 h3 h4
  exact ⟨((h1.alloc _).alloc _).alloc _, (h2.alloc _).alloc _, h3.alloc _, h4, ((((Below.refl _ _).alloc (Nat.le_refl _) _).alloc (by simp) _).alloc (by simp <;> omega) _).alloc (by simp <;> omega) _⟩
/-- All blocks lie as they lay, but the best turn's and the flag's. -/
structure Kd (B : Nat) (W W' : World) : Prop where
  size : W.heap.size ≤ W'.heap.size
  same : ∀ k, k < W.heap.size → k ≠ B + 1 + 1 → k ≠ B + 1 + 1 + 1 → W'.heap[k]? = W.heap[k]?
theorem Kd.refl (B : Nat) (W : World) : Kd B W W := ⟨Nat.le_refl _, fun _ _ _ _ => rfl⟩
theorem Kd.trans {B : Nat} {X Y Z : World} (h : Kd B X Y) (k : Kd B Y Z) : Kd B X Z := ⟨Nat.le_trans h.size k.size, fun i h1 h2 h3 => (k.same i (Nat.lt_of_lt_of_le h1 h.size) h2 h3).trans (h.same i h1 h2 h3)⟩
theorem Kd.of {B : Nat} {X Y : World} (h : Below X.heap.size X Y) : Kd B X Y := ⟨h.size, fun i h1 _ _ => h.block i h1⟩
theorem Kd.set {B : Nat} {X : World} {p : Addr} (h : p.block = B + 1 + 1 ∨ p.block = B + 1 + 1 + 1) (u : Value) : Kd B X (X.setCell p u) := ⟨by simp, fun i _ h2 h3 => Below.heap_setCell X p u i (by omega)⟩
/-- The marks of the loops that are over. -/
structure Mk (B : Nat) (Ds : List Nat) (W : World) : Prop where
  nod : Ds.Nodup
  at_ : ∀ D ∈ Ds, B + 4 ≤ D ∧ W.heap[D]? = some (.deferred (some []))
theorem Mk.kd {B : Nat} {Ds : List Nat} {W W' : World} (h : Mk B Ds W) (k : Kd B W W') : Mk B Ds W' := ⟨h.nod, fun D hD => by
  obtain ⟨h1, h2⟩ := h.at_ D hD
  exact ⟨h1, (k.same D (Array.getElem?_eq_some_iff.1 h2).1 (by omega) (by omega)).trans h2⟩⟩
theorem Mk.push {B : Nat} {Ds : List Nat} {W W' : World} {D : Nat} (h : Mk B Ds W) (k : Kd B W W') (hB : B + 4 ≤ D) (hD : W.heap.size ≤ D) (hh : W'.heap[D]? = some (.deferred (some []))) : Mk B (D :: Ds) W' := by
  refine ⟨List.nodup_cons.2 ⟨fun hm => ?_, h.nod⟩, fun D' hD' => ?_⟩
  · have := (Array.getElem?_eq_some_iff.1 (h.at_ D hm).2).1
    omega
  · rcases List.mem_cons.1 hD' with rfl | hD'
    · exact ⟨hB, hh⟩
    · exact (h.kd k).at_ D' hD'
theorem Kd.own {B : Nat} {w1 A C : World} {row : Option Nat} (h : Kd B w1 A) (hg : A.grownBy C row) (hr : ∀ r, row = some r → w1.heap.size ≤ r) : Kd B w1 C :=
  ⟨Nat.le_trans h.size hg.size, fun k h1 h2 h3 => (hg.block k (Nat.lt_of_lt_of_le h1 h.size) (fun e => by have := hr k e.symm; omega)).trans (h.same k h1 h2 h3)⟩
theorem step_none {so : Turn → Bool} {best : Option Turn} {pre : List Turn} (h : ∀ t ∈ pre, so t = false) : stepT so best pre = best := by
  unfold stepT
  rw [List.find?_eq_none.2 (fun t ht => by rw [h t ht]; decide)]
theorem step_first {so : Turn → Bool} {pre : List Turn} {t : Turn} (h : pre.find? so = some t) : stepT so none pre = some t := by
  unfold stepT
  rw [h]
theorem step_le {so : Turn → Bool} {pre : List Turn} {t b : Turn} (h : pre.find? so = some t) (hle : b.at_ ≤ t.at_) : stepT so (some b) pre = some t := by
  unfold stepT
  rw [h]
  simp only [if_pos hle]
theorem step_gt {so : Turn → Bool} {pre : List Turn} {t b : Turn} (h : pre.find? so = some t) (hle : ¬ b.at_ ≤ t.at_) : stepT so (some b) pre = some b := by
  unfold stepT
  rw [h]
  simp only [if_neg hle]
theorem find_snoc {so : Turn → Bool} {pre : List Turn} {x : Turn} (h : ∀ t ∈ pre, so t = false) (hx : so x = true) : (pre ++ [x]).find? so = some x := by
  rw [List.find?_append, List.find?_eq_none.2 (fun t ht => by rw [h t ht]; decide)]
  simp [hx]
theorem find_pre {so : Turn → Bool} {pre l : List Turn} {t : Turn} (h : pre <+: l) (ht : pre.find? so = some t) : l.find? so = some t := by
  obtain ⟨r, rfl⟩ := h
  rw [List.find?_append, ht]
  rfl
theorem Mk.set {B : Nat} {Ds : List Nat} {W : World} (h : Mk B Ds W) {p : Addr} (hp : p.block < B + 4) (u : Value) : Mk B Ds (W.setCell p u) := ⟨h.nod, fun D hD => by
  obtain ⟨h1, h2⟩ := h.at_ D hD
  exact ⟨h1, (Below.heap_setCell W p u D (by omega)).trans h2⟩⟩
theorem Mk.drew {B : Nat} {Ds : List Nat} {W : World} (h : Mk B Ds W) : Mk B Ds W.drew := ⟨h.nod, h.at_⟩
theorem latest_results {w : World} {R0 : Nat} {b : Bool} {a0 a1 a2 a3 : Value} (h : Blk w R0 86 #[a0, a1, a2, a3]) (tmps : Array Value) (ht : tmps[6]? = some (.pointer (some ⟨R0, 0, none⟩))) (h7 : tmps[7]? = some (.bool b)) : (results Tryz.f153 tmps).run Tryz.prog w = .ok (.tuple #[.agg #[a0, a1, a2, a3], .bool b]) w := by
  have hc := fun i => h.cell i
  simp [results, Tryz.results153, go_sem, hc, ht, h7]
def markD (D : Nat) : Deferred := { target := .collected D, args := #[] }
theorem leaves_marks {F : Fence} {n : Nat} {fn : Func} {tmps : Array Value} {R : Ending → World → Prop} {B : Nat} {P : World → Prop} (hP : ∀ W D o, P W → B + 4 ≤ D → P (W.putObj D o)) (hE : ∀ W, P W → LeavesInM F n Tryz.prog fn tmps R [] .returning W) :
    ∀ (Ds : List Nat) (W : World), Mk B Ds W → P W → LeavesInM F n Tryz.prog fn tmps R (Ds.map markD) .returning W
  | [], W, _, h => hE W h
  | D :: Ds, W, hm, h => by
    obtain ⟨h1, h2⟩ := hm.at_ D (by simp)
    refine ⟨by simp, .inl ⟨D, _, rfl, run_takeDeferred h2, ?_⟩⟩
    refine leaves_marks hP hE Ds _ ⟨(List.nodup_cons.1 hm.nod).2, fun D' hD' => ?_⟩ (hP W D _ h h1)
    obtain ⟨g1, g2⟩ := hm.at_ D' (by simp [hD'])
    refine ⟨g1, ?_⟩
    rw [← g2]
    exact World.putObj_heap_other (fun e => (List.nodup_cons.1 hm.nod).1 (by rw [← e]; exact hD'))
set_option maxRecDepth 100000 in
set_option maxHeartbeats 2000000 in
theorem latest_any (rs : List Rule) (A : Option Addr) (c g : Nat) (lb : Array Value) (so : Turn → Bool) (y : Int) (w : World) (h : Reads w w.heap.size 11 A rs.length (rs.flatMap Rule.cells)) (hn : rs.length ≤ 1000000) (hr : rulesB rs = true) (hy1 : -1000000 ≤ y) (hy2 : y ≤ 1000000) (hso : SoAt g lb so w) (hent : ∀ args z, (callFunc g args).run Tryz.prog z = .ok (.enter g args) z) :
    Calls Tryz.prog 153 #[.slice A rs.length c, .int .i64 y, .func (.func g) #[] lb] w fun e w' => e = .returned (.tuple #[.agg ((latestL so y rs).getD noTurn).cells.toArray, .bool (latestL so y rs).isSome]) ∧ Below w.heap.size w w' := by
  have HS := Lib.hid hso; have HR := Lib.hid h
  have hQ : latestL so y rs = (rs.foldl (fun b x => stepT so b (backL x y)) none) := rfl
  obtain ⟨Q, hQQ⟩ : ∃ Q, latestL so y rs = Q := ⟨_, rfl⟩
  rw [hQQ] at hQ ⊢
  have HQ := Lib.hid hQ
  have hru := fun (k : Nat) (hk : k < rs.length) => of_decide_eq_true (List.all_eq_true.1 hr _ (List.getElem_mem hk))
  have HRu := Lib.hid hru
  have HL0 := Lib.hid (La.start w g lb)
  clear h hso hr hQ hQQ hru
  refine (callsIn_wide (n := 3)).1 ?_
  refine callsIn_of_wp_marks Tryz.func153 rfl trivial ?_ rfl
  simp only [Tryz.ntmps153, List.size_toArray, List.length_cons, List.length_nil, Nat.reduceAdd, Nat.reduceSub, Array.replicate_succ, Array.replicate_zero, List.push_toArray, List.append_toArray, List.nil_append, List.cons_append]
  gi_wp2
  obtain ⟨W0, hW0⟩ : ∃ W0, ((((w.alloc (.cells #[.func (.func g) #[] lb] 151)).alloc (.cells #[.int .i64 0, .int .i64 0, .int .i64 0, .string ⟨#[]⟩] 86)).alloc (.cells #[.int .i64 0, .int .i64 0, .int .i64 0, .string ⟨#[]⟩] 86)).alloc (.cells #[.bool false] 4)) = W0 := ⟨_, rfl⟩
  rw [hW0] at HL0 ⊢
  refine wpIn_loop (fun a' W => ∃ (k : Nat) (best : Option Turn) (Ds : List Nat) (u11 u16 u17 u18 u19 u20 u21 u37 : Value), k ≤ rs.length ∧ (rs.drop k).foldl (fun b x => stepT so b (backL x y)) best = Q ∧ La w g lb best W ∧ Mk w.heap.size Ds W ∧
      a' = { tmps := #[.slice A rs.length c, .int .i64 y, .func (.func g) #[] lb, undef, undef, .pointer (some ⟨w.heap.size, 0, none⟩), .pointer (some ⟨w.heap.size + 1, 0, none⟩), .bool false, .pointer (some ⟨w.heap.size + 1 + 1, 0, none⟩), .pointer (some ⟨w.heap.size + 1 + 1 + 1, 0, none⟩), undef, u11, undef, .slice A rs.length c, .int .i64 rs.length, .int .i64 k, u16, u17, u18, u19, u20, u21, undef, undef, undef, undef, undef, undef, undef, undef, undef, undef, undef, undef, undef, undef, undef, u37, undef, undef], defers := Ds.map markD })
    (fun a' _ => rs.length - (intOf (a'.tmps.getD 15 undef)).toNat) ?start ?round
  case start =>
    exact ⟨0, none, [], _, _, _, _, _, _, _, _, Nat.zero_le _, by rw [List.drop_zero]; exact HQ.out.symm, HL0.out, ⟨List.nodup_nil, by simp⟩, rfl⟩
  case round =>
    rintro _ wr ⟨k, best, Ds, u11, u16, u17, u18, u19, u20, u21, u37, hk, hq, hla, hmk, rfl⟩
    clear HL0 HQ hW0
    have HLa := Lib.hid hla; have HMk := Lib.hid hmk; have Hq := Lib.hid hq
    clear hla hmk hq
    by_cases hkn : k < rs.length
    · obtain ⟨ad, hA, hadb, a0, a1, a2, a3, a4, a5, a6, a7, a8, a9, a10⟩ := rule_cells (HR.out.below HLa.out.bel) hkn
      subst hA
      have hru := HRu.out k hkn
      have hq := Hq.out
      rw [List.drop_eq_getElem_cons hkn, List.foldl_cons] at hq
      have Hq2 := Lib.hid hq
      obtain ⟨x, hx⟩ : ∃ x, x = rs[k] := ⟨_, rfl⟩
      simp only [← hx] at a0 a1 a2 a3 a4 a5 a6 a7 a8 a9 a10 hru Hq2
      have hback := fun z => back_any x y z
      have hst := fun n Br By w => back_stops x y n Br By w hru.1.1 hru.1.2 (by rcases hru.2.1 with h | h <;> (try have := h.1) <;> omega) (by rcases hru.2.1 with h | h <;> (try have := h.2) <;> omega) hy1 hy2
      obtain ⟨BL, hBL⟩ : ∃ BL, BL = backL x y := ⟨_, rfl⟩
      rw [← hBL] at hst Hq2
      clear hq hx hru Hq hBL
      obtain ⟨x0, x1, x2, x3, x4, x5, x6, x7, x8, x9, x10⟩ := x
      simp only [Rule.cells] at a0 a1 a2 a3 a4 a5 a6 a7 a8 a9 a10 hback hst
      have HBk := Lib.hid hback; have HSt := Lib.hid hst
      clear hback hst
      gi_wp2_with (refine ⟨trivial, ?_⟩; refine (callsIn_wide.2 (HBk.out _)).mono ?_; rintro e w1 ⟨rfl, hw⟩; have HW := Lib.hid hw; clear hw)
      have hsz : w1.heap.size = wr.heap.size + 3 := by rw [HW.out]; simp
      have hwr : w.heap.size + 4 ≤ wr.heap.size := HLa.out.fnd.lt
      have hla1 : La w g lb best w1 := by rw [HW.out]; exact ((HLa.out.alloc _).alloc _).alloc _
      have hkd1 : Kd w.heap.size wr w1 := by rw [HW.out]; exact Kd.of ((((Below.refl _ _).alloc (Nat.le_refl _) _).alloc (by simp) _).alloc (by simp; omega) _)
      have hBr : Blk w1 (wr.heap.size + 1) 47 #[.string x0, .int .i64 x1, .int .i64 x2, .int .i64 x3, .int .i64 x4, .int .i64 x5, .int .i64 x6, .int .i64 x7, .int .i64 x8, .int .i64 x9, .string x10] := by
        rw [HW.out]
        have h1 := Blk.new (wr.alloc (.cells #[.string x0, .int .i64 x1, .int .i64 x2, .int .i64 x3, .int .i64 x4, .int .i64 x5, .int .i64 x6, .int .i64 x7, .int .i64 x8, .int .i64 x9, .string x10] 47)) 47 #[.string x0, .int .i64 x1, .int .i64 x2, .int .i64 x3, .int .i64 x4, .int .i64 x5, .int .i64 x6, .int .i64 x7, .int .i64 x8, .int .i64 x9, .string x10]
        rw [World.size_alloc] at h1
        exact h1.alloc _
      have hBy : Blk w1 (wr.heap.size + 1 + 1) 3 #[.int .i64 y] := by
        rw [HW.out]
        have h1 := Blk.new ((wr.alloc (.cells #[.string x0, .int .i64 x1, .int .i64 x2, .int .i64 x3, .int .i64 x4, .int .i64 x5, .int .i64 x6, .int .i64 x7, .int .i64 x8, .int .i64 x9, .string x10] 47)).alloc (.cells #[.string x0, .int .i64 x1, .int .i64 x2, .int .i64 x3, .int .i64 x4, .int .i64 x5, .int .i64 x6, .int .i64 x7, .int .i64 x8, .int .i64 x9, .string x10] 47)) 3 #[.int .i64 y]
        rw [World.size_alloc, World.size_alloc] at h1
        exact h1
      have HBr := Lib.hid hBr; have HBy := Lib.hid hBy; have HLa1 := Lib.hid hla1; have HKd1 := Lib.hid hkd1
      have Hsz := Lib.hid hsz
      clear hBr hBy hla1 hkd1 hsz a0 a1 a2 a3 a4 a5 a6 a7 a8 a9 a10 HBk
      refine wpIn_rangeFunc_ownH (F := Fence.wide) (n := 3) (α := Turn) rfl (by decide) (gf := 164) (lb := #[.pointer (some ⟨wr.heap.size + 1, 0, none⟩), .pointer (some ⟨wr.heap.size + 1 + 1, 0, none⟩)]) rfl trivial (enters_of Tryz.func164 (by kernel_rfl) rfl)
        (HSt.out (3 - 1) _ _ w1 HBr.out HBy.out) (fun h k => h.trans k) (fun W l o o' hl _ _ _ => ⟨by simp, World.putObj_heap_other (by have := Hsz.out; omega), World.putObj_heap_other (by have := Hsz.out; omega)⟩) (Below.refl _ _) (fun _ => rfl)
        (fun pre W => (La w g lb best W ∧ ∀ t ∈ pre, so t = false) ∧ Kd w.heap.size w1 W)
        (fun c pre W => c = .exit 2 ∧ (∃ t, pre.find? so = some t) ∧ La w g lb (stepT so best pre) W ∧ Kd w.heap.size w1 W)
        (fun s X Y row hs hg hr => ⟨⟨hs.1.1.grown hg (fun k e => by have := (hr k e).1; have := Hsz.out; omega), hs.1.2⟩, hs.2.own hg (fun k e => (hr k e).1)⟩)
        (fun c s X Y row hs hg hr => ⟨hs.1, hs.2.1, hs.2.2.1.grown hg (fun k e => by have := (hr k e).1; have := Hsz.out; omega), hs.2.2.2.own hg (fun k e => (hr k e).1)⟩)
        ⟨⟨HLa1.out, by simp⟩, Kd.refl _ _⟩
        (fun x a' W => ∃ Bx, w1.heap.size ≤ Bx ∧ Blk W Bx 86 #[.int .i64 x.at_, .int .i64 x.ref, .int .i64 x.save, .string x.letter] ∧ a' = { tmps := #[.slice (some ad) rs.length c, .int .i64 y, .func (.func g) #[] lb, undef, undef, .pointer (some ⟨w.heap.size, 0, none⟩), .pointer (some ⟨w.heap.size + 1, 0, none⟩), .bool false, .pointer (some ⟨w.heap.size + 1 + 1, 0, none⟩), .pointer (some ⟨w.heap.size + 1 + 1 + 1, 0, none⟩), undef, .pointer (some ⟨wr.heap.size, 0, none⟩), .pointer (some ⟨Bx, 0, none⟩), .slice (some ad) rs.length c, .int .i64 rs.length, .int .i64 k, .bool true, .pointer (some (ad.add (k * 11))), .agg #[.string x0, .int .i64 x1, .int .i64 x2, .int .i64 x3, .int .i64 x4, .int .i64 x5, .int .i64 x6, .int .i64 x7, .int .i64 x8, .int .i64 x9, .string x10], .agg #[.string x0, .int .i64 x1, .int .i64 x2, .int .i64 x3, .int .i64 x4, .int .i64 x5, .int .i64 x6, .int .i64 x7, .int .i64 x8, .int .i64 x9, .string x10], .int .i64 y, .func (.func 164) #[] #[.pointer (some ⟨wr.heap.size + 1, 0, none⟩), .pointer (some ⟨wr.heap.size + 1 + 1, 0, none⟩)], .agg #[.int .i64 x.at_, .int .i64 x.ref, .int .i64 x.save, .string x.letter], undef, undef, undef, undef, undef, undef, undef, undef, undef, undef, undef, undef, undef, undef, u37, undef, undef], defers := [] })
        (fun x a' _ X Y row hs hg hr => by
          obtain ⟨Bx, h1, h2, h3⟩ := hs
          refine ⟨Bx, h1, h2.grown hg (fun e => ?_), h3⟩
          obtain ⟨_, o, ho, hc⟩ := hr Bx e.symm
          rw [show X.heap[Bx]? = _ from h2] at ho
          cases ho
          cases hc) ?assign ?body ?done ?stop
      case assign =>
        rintro l pre ⟨t0, t1, t2, t3⟩ W K ⟨⟨hla, hno⟩, hkd⟩ hK
        simp only [encT]
        gi_wp2
        have hb1 := (HBr.out : w1.heap[wr.heap.size + 1]? = _)
        have hs1 := hkd.size
        refine hK _ _ ((KeepsOthers.alloc _ _).from _) (Keep.of ((Below.refl _ _).alloc (Nat.le_refl _) _) (by have := Hsz.out; omega) (by have := Hsz.out; omega)) ⟨⟨hla.alloc _, hno⟩, hkd.trans (Kd.of ((Below.refl _ _).alloc (Nat.le_refl _) _))⟩ ⟨W.heap.size, hs1, Blk.new _ _ _, rfl⟩
      case body =>
        rintro l pre ⟨t0, t1, t2, t3⟩ a' W hl ⟨rr, hrr⟩ ⟨⟨hla, hno⟩, hkd⟩ ⟨Bx, hBx, hbx, rfl⟩ hlen
        have hS := HS.out ⟨t0, t1, t2, t3⟩
        simp only [encT] at hS hbx ⊢
        have hs1 := hkd.size
        have hlt1 := (HBr.out : w1.heap[wr.heap.size + 1]? = _)
        have cso := hla.so.cell 0
        have cb := fun i => hbx.cell i
        simp only [List.getElem?_toArray, List.getElem?_cons_zero] at cso
        have hkeep : ∀ W', Below W.heap.size W W' → Keep (wr.heap.size + 1) (wr.heap.size + 1 + 1) W W' := fun W' hb => Keep.of hb (by have := Hsz.out; omega) (by have := Hsz.out; omega)
        have HKp := Lib.hid hkeep
        have HNo := Lib.hid hno; have HLa2 := Lib.hid hla; have HKd2 := Lib.hid hkd; have HBx := Lib.hid hbx
        have Hs1 := Lib.hid hs1
        clear hla hno hkd hbx hlt1 hkeep hs1 hl hrr
        cases hsx : so ⟨t0, t1, t2, t3⟩
        · rw [hsx] at hS
          have HSx := Lib.hid hS
          have Hsx := Lib.hid hsx
          clear hS hsx
          gi_wp2_with (refine ⟨trivial, ?_⟩; refine (CallsIn.inRound l (callsIn_wide.2 (HSx.out _ HLa2.out.bel))).mono ?_; rintro e w2 ⟨rfl, hb⟩; have HB := Lib.hid hb; clear hb)
          refine ⟨KeepsFrom.of_grownBy (gr_of_below HB.out) (fun j e => by cases e), HKp.out _ HB.out, ⟨HLa2.out.step HB.out, ?_⟩, HKd2.out.trans (Kd.of HB.out)⟩
          intro t ht
          rcases List.mem_append.1 ht with ht | ht
          · exact HNo.out t ht
          · rw [List.mem_singleton.1 ht]; exact Hsx.out
        · rw [hsx] at hS
          have HSx := Lib.hid hS
          have hfi := find_snoc HNo.out hsx
          have Hfi := Lib.hid hfi
          clear hS hsx hfi
          cases best with
          | none =>
            have Hst2 := Lib.hid (step_first Hfi.out)
            gi_wp2_with (refine ⟨trivial, ?_⟩; refine (CallsIn.inRound l (callsIn_wide.2 (HSx.out _ HLa2.out.bel))).mono ?_; rintro e w2 ⟨rfl, hb⟩; have HB := Lib.hid hb; have hl2 := HLa2.out.step hb; have cf := hl2.fnd.cell 0; have ff := hl2.fnd.frozen 0; have cbs := fun i => hl2.bst.cell i; have fbs := fun i => hl2.bst.frozen i; have cbx := fun i => (HBx.out.below hb HBx.out.lt).cell i; simp only [Turn.cells, noTurn, Option.getD_none, Option.isSome_none, List.getElem?_toArray, List.getElem?_cons_zero] at cf cbs; have HL2 := Lib.hid hl2; clear hb hl2 cso cb)
            refine ⟨?_, rfl, ⟨_, Hfi.out⟩, ?_, ?_⟩
            · exact (KeepsFrom.of_grownBy (gr_of_below HB.out) (fun j e => by cases e)).trans ((((((KeepsOthers.setCell _ _ _).from _).trans ((KeepsOthers.setCell _ _ _).from _)).trans ((KeepsOthers.setCell _ _ _).from _)).trans ((KeepsOthers.setCell _ _ _).from _)).trans ((KeepsOthers.setCell _ _ _).from _))
            · rw [Hst2.out]
              exact HL2.out.set ⟨t0, t1, t2, t3⟩
            · exact (HKd2.out.trans (Kd.of HB.out)).trans (((((Kd.set (.inl rfl) _).trans (Kd.set (.inl rfl) _)).trans (Kd.set (.inl rfl) _)).trans (Kd.set (.inl rfl) _)).trans (Kd.set (.inr rfl) _))
          | some b =>
            obtain ⟨b0, b1, b2, b3⟩ := b
            by_cases hle : b0 ≤ t0
            · have Hst2 := Lib.hid (step_le (b := ⟨b0, b1, b2, b3⟩) Hfi.out hle)
              have hleb : decide (b0 ≤ t0) = true := decide_eq_true hle
              clear hle
              gi_wp2_with (refine ⟨trivial, ?_⟩; refine (CallsIn.inRound l (callsIn_wide.2 (HSx.out _ HLa2.out.bel))).mono ?_; rintro e w2 ⟨rfl, hb⟩; have HB := Lib.hid hb; have hl2 := HLa2.out.step hb; have cf := hl2.fnd.cell 0; have ff := hl2.fnd.frozen 0; have cbs := fun i => hl2.bst.cell i; have fbs := fun i => hl2.bst.frozen i; have cbx := fun i => (HBx.out.below hb HBx.out.lt).cell i; simp only [Turn.cells, Option.getD_some, Option.isSome_some, List.getElem?_toArray, List.getElem?_cons_zero] at cf cbs; have HL2 := Lib.hid hl2; clear hb hl2 cso cb)
              refine ⟨?_, rfl, ⟨_, Hfi.out⟩, ?_, ?_⟩
              · exact (KeepsFrom.of_grownBy (gr_of_below HB.out) (fun j e => by cases e)).trans ((((((KeepsOthers.setCell _ _ _).from _).trans ((KeepsOthers.setCell _ _ _).from _)).trans ((KeepsOthers.setCell _ _ _).from _)).trans ((KeepsOthers.setCell _ _ _).from _)).trans ((KeepsOthers.setCell _ _ _).from _))
              · rw [Hst2.out]
                exact HL2.out.set ⟨t0, t1, t2, t3⟩
              · exact (HKd2.out.trans (Kd.of HB.out)).trans (((((Kd.set (.inl rfl) _).trans (Kd.set (.inl rfl) _)).trans (Kd.set (.inl rfl) _)).trans (Kd.set (.inl rfl) _)).trans (Kd.set (.inr rfl) _))
            · have Hst2 := Lib.hid (step_gt (b := ⟨b0, b1, b2, b3⟩) Hfi.out hle)
              have hleb : decide (b0 ≤ t0) = false := decide_eq_false hle
              clear hle
              gi_wp2_with (refine ⟨trivial, ?_⟩; refine (CallsIn.inRound l (callsIn_wide.2 (HSx.out _ HLa2.out.bel))).mono ?_; rintro e w2 ⟨rfl, hb⟩; have HB := Lib.hid hb; have hl2 := HLa2.out.step hb; have cf := hl2.fnd.cell 0; have ff := hl2.fnd.frozen 0; have cbs := fun i => hl2.bst.cell i; have fbs := fun i => hl2.bst.frozen i; have cbx := fun i => (HBx.out.below hb HBx.out.lt).cell i; simp only [Turn.cells, Option.getD_some, Option.isSome_some, List.getElem?_toArray, List.getElem?_cons_zero] at cf cbs; have HL2 := Lib.hid hl2; clear hb hl2 cso cb)
              refine ⟨?_, rfl, ⟨_, Hfi.out⟩, ?_, ?_⟩
              · exact KeepsFrom.of_grownBy (gr_of_below HB.out) (fun j e => by cases e)
              · rw [Hst2.out]
                exact HL2.out
              · exact HKd2.out.trans (Kd.of HB.out)
      case done =>
        rintro D ys W hD rfl ⟨⟨hla, hno⟩, hkd⟩ hK
        have hq := Hq2.out
        rw [step_none hno] at hq
        have HMk2 : Hid (Mk w.heap.size (D :: Ds) W) := HMk.out.push (HKd1.out.trans hkd) (by have := Hsz.out; omega) (by have := Hsz.out; omega) hK
        have HLa2 := Lib.hid hla; have Hq3 := Lib.hid hq
        clear hla hno hkd hq hK
        gi_wp2
        exact ⟨⟨k + 1, best, D :: Ds, _, _, _, _, _, _, _, _, by omega, Hq3.out, HLa2.out, HMk2.out, rfl⟩, by simp [intOf]; omega⟩
      case stop =>
        rintro D c0 pre W hD hpre ⟨rfl, ⟨t, ht⟩, hla, hkd⟩ hK
        have hq := Hq2.out
        have hs2 : stepT so best BL = stepT so best pre := by
          unfold stepT
          rw [ht, find_pre hpre ht]
        rw [hs2] at hq
        have HMk2 : Hid (Mk w.heap.size (D :: Ds) W) := HMk.out.push (HKd1.out.trans hkd) (by have := Hsz.out; omega) (by have := Hsz.out; omega) hK
        have HLa2 := Lib.hid hla; have Hq3 := Lib.hid hq
        clear hla hkd hq hK hs2
        gi_wp2
        exact ⟨⟨k + 1, stepT so best pre, D :: Ds, _, _, _, _, _, _, _, _, by omega, Hq3.out, HLa2.out, HMk2.out, rfl⟩, by simp [intOf]; omega⟩
    · obtain rfl : k = rs.length := by omega
      have hq := Hq.out
      rw [List.drop_length, List.foldl_nil] at hq
      subst hq
      have cbs := fun i => HLa.out.bst.cell i
      have cf := HLa.out.fnd.cell 0
      simp only [List.getElem?_toArray, List.getElem?_cons_zero] at cf
      have cr := fun i => HLa.out.res.cell i
      have fr := fun i => HLa.out.res.frozen i
      clear Hq
      obtain ⟨B, hB⟩ : ∃ B : Turn, B = best.getD noTurn := ⟨_, rfl⟩
      rw [← hB] at cbs
      obtain ⟨b0, b1, b2, b3⟩ := B
      simp only [Turn.cells] at cbs
      have HB := Lib.hid hB
      clear hB
      gi_wp2
      refine wpIn_wide.2 ?_
      go_region
      have hf := ((((HLa.out.res.set_ 0 (.int .i64 b0)).set_ 1 (.int .i64 b1)).set_ 2 (.int .i64 b2)).set_ 3 (.string b3)).drew
      simp only [List.setIfInBounds_toArray, List.set_cons_succ, List.set_cons_zero] at hf
      have hbe := ((((HLa.out.bel.setCell (p := ⟨w.heap.size + 1, 0, none⟩) (by simp) (.int .i64 b0)).setCell (p := ⟨w.heap.size + 1, 1, none⟩) (by simp) (.int .i64 b1)).setCell (p := ⟨w.heap.size + 1, 2, none⟩) (by simp) (.int .i64 b2)).setCell (p := ⟨w.heap.size + 1, 3, none⟩) (by simp) (.string b3)).drew
      have hm := ((((HMk.out.set (p := ⟨w.heap.size + 1, 0, none⟩) (by simp) (.int .i64 b0)).set (p := ⟨w.heap.size + 1, 1, none⟩) (by simp) (.int .i64 b1)).set (p := ⟨w.heap.size + 1, 2, none⟩) (by simp) (.int .i64 b2)).set (p := ⟨w.heap.size + 1, 3, none⟩) (by simp) (.string b3)).drew
      have HF := Lib.hid hf; have HBe := Lib.hid hbe; have HM := Lib.hid hm
      clear hf hbe hm cbs cf cr fr HMk HLa
      generalize World.drew _ = W9 at *
      gi_wp2
      refine leaves_marks (B := w.heap.size) (P := fun W => Blk W (w.heap.size + 1) 86 #[.int .i64 b0, .int .i64 b1, .int .i64 b2, .string b3] ∧ Below w.heap.size w W) (fun W D o h hD => ⟨h.1.grown (grownBy_putObj' W D o) (fun e => by injection e with e; omega), h.2.grown (grownBy_putObj' W D o) h.2.size (fun k e => by injection e with e; omega)⟩) (fun W h => ?_) Ds W9 HM.out ⟨HF.out, HBe.out⟩
      refine ⟨_, latest_results h.1 _ rfl rfl, ?_, h.2⟩
      rw [← HB.out]
      rfl
end Go.Proofs.YtgfdmjldfahbpaaGreatDoor.Ahd
