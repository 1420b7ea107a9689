/-
  The insertion sort of turns in plain words: where an element comes to stand, and what an exchange does to the cells. Conditions: none.
  slices.insertionSortCmpFunc at turns: the contract. Conditions: the slice owns its row; at most 1000 turns.
  A year's turns, and whether turns are too near, in plain words. Conditions: none.
  The stable sort of turns, and the contract of rules.Turns. Conditions: a set that is not crowded; at most a million rules.
  Package rules: the contracts of nearer and Near. Conditions: at most a million rules.
-/
import Derived.Test.YtdicedpklpadgaaGreatDoorY05
import Derived.IntWalk
import Derived.RegionTactic
import Derived.Deep.RegionHeld3
import Derived.Test.YtdicedpklpadgaaGreatDoorY04
import Derived.Test.YtdicedpklpadgaaGreatDoorY00
set_option linter.all false
namespace Go.Proofs.YtdicedpklpadgaaGreatDoor.Rul
open Go.RowKit Mem Civ Mom Img

/-- Where x comes to stand among the first j of S, from the right. -/
def posT (x : Turn) (S : List Turn) : Nat → Nat
  | 0 => 0
  | j + 1 => match S[j]? with
    | some e => if x.at_ < e.at_ then posT x S j else j + 1
    | none => j + 1
def putT (x : Turn) (S : List Turn) (j : Nat) : List Turn := S.take j ++ x :: S.drop j
def insT (S : List Turn) (x : Turn) : List Turn := putT x S (posT x S S.length)
/-- Turns in order; those of one time as they stood. -/
def sortT (l : List Turn) : List Turn := l.foldl insT []
theorem putT_length (x : Turn) (S : List Turn) (j : Nat) : (putT x S j).length = S.length + 1 := by
  simp [putT]; omega
theorem sortT_snoc (l : List Turn) (x : Turn) : sortT (l ++ [x]) = insT (sortT l) x := by simp [sortT, List.foldl_append]
theorem sortT_length (l : List Turn) : (sortT l).length = l.length := by
  have : ∀ (l : List Turn) (S : List Turn), (l.foldl insT S).length = S.length + l.length := by
    intro l
    induction l with
    | nil => intro S; simp
    | cons a t ih =>
      intro S
      rw [List.foldl_cons, ih, insT, putT_length, List.length_cons]
      omega
  have h := this l []
  simpa [sortT] using h
theorem posT_go {x e : Turn} {S : List Turn} {j : Nat} (h : S[j]? = some e) (hlt : x.at_ < e.at_) : posT x S (j + 1) = posT x S j := by
  simp only [posT, h, if_pos hlt]
theorem posT_stay {x e : Turn} {S : List Turn} {j : Nat} (h : S[j]? = some e) (hlt : ¬ x.at_ < e.at_) : posT x S (j + 1) = j + 1 := by
  simp only [posT, h, if_neg hlt]
theorem putT_at {x : Turn} {S : List Turn} {j : Nat} (hj : j ≤ S.length) (rest : List Turn) : (putT x S j ++ rest)[j]? = some x := by
  unfold putT
  rw [List.append_assoc, List.getElem?_append_right (by rw [List.length_take]; omega), List.length_take, Nat.min_eq_left hj, Nat.sub_self]
  rfl
theorem putT_ahead {x : Turn} {S : List Turn} {j : Nat} (hj : j + 1 ≤ S.length) (rest : List Turn) : (putT x S (j + 1) ++ rest)[j]? = S[j]? := by
  unfold putT
  rw [List.append_assoc, List.getElem?_append_left (by rw [List.length_take]; omega), List.getElem?_take_of_lt (by omega)]
/-- The exchange of two neighbours. -/
theorem putT_split {x : Turn} {S : List Turn} {j : Nat} (hj : j < S.length) (rest : List Turn) :
    putT x S (j + 1) ++ rest = S.take j ++ S[j] :: x :: (S.drop (j + 1) ++ rest) ∧ putT x S j ++ rest = S.take j ++ x :: S[j] :: (S.drop (j + 1) ++ rest) := by
  unfold putT
  have h1 := List.take_succ_eq_append_getElem hj
  have h2 := List.drop_eq_getElem_cons hj
  constructor
  · rw [h1]
    simp only [List.append_assoc, List.cons_append, List.nil_append]
  · rw [show S.take j ++ x :: S.drop j = S.take j ++ x :: (S[j] :: S.drop (j + 1)) from by rw [← h2]]
    simp only [List.append_assoc, List.cons_append]
theorem len4 (l : List Turn) : (l.flatMap Turn.cells).length = l.length * 4 := by
  induction l with
  | nil => simp
  | cons a t ih => rw [List.flatMap_cons, List.length_append, ih, List.length_cons, Nat.succ_mul]; simp [Turn.cells]; omega
theorem swap_cells (p q : List Turn) (a b : Turn) {k : Nat} (hk : p.length = k) :
    (((((((((p ++ a :: b :: q).flatMap Turn.cells).set ((k + 1) * 4) (.int .i64 a.at_)).set ((k + 1) * 4 + 1) (.int .i64 a.ref)).set ((k + 1) * 4 + 2) (.int .i64 a.save)).set ((k + 1) * 4 + 3) (.string a.letter)).set (k * 4) (.int .i64 b.at_)).set (k * 4 + 1) (.int .i64 b.ref)).set (k * 4 + 2) (.int .i64 b.save)).set (k * 4 + 3) (.string b.letter) = (p ++ b :: a :: q).flatMap Turn.cells := by
  have hl : (p.flatMap Turn.cells).length = k * 4 := by rw [len4, hk]
  rw [List.flatMap_append, List.flatMap_append]
  generalize p.flatMap Turn.cells = P at *
  have e : ∀ (i : Nat) (u : Value) (M : List Value), (P ++ M).set (k * 4 + i) u = P ++ M.set i u := fun i u M => by
    rw [List.set_append_right _ _ (by omega), hl]; congr 2; omega
  rw [show (k + 1) * 4 = k * 4 + 4 by omega, show k * 4 + 4 + 1 = k * 4 + 5 by omega, show k * 4 + 4 + 2 = k * 4 + 6 by omega, show k * 4 + 4 + 3 = k * 4 + 7 by omega]
  rw [e, e, e, e, show (P ++ _ : List Value).set (k * 4) (.int .i64 b.at_) = _ from e 0 _ _, e, e, e]
  simp [Turn.cells]
end Go.Proofs.YtdicedpklpadgaaGreatDoor.Rul
namespace Go.Proofs.YtdicedpklpadgaaGreatDoor.Rul
open Go.RowKit Mem Civ Mom Img

theorem gr_of_below {w w' : World} (h : Below w.heap.size w w') : w.grownBy w' none := ⟨h.os, h.tape, h.output, h.size, fun j hj _ => h.block j hj⟩
theorem gr_trans {w w1 w2 : World} {r : Option Nat} (h : w.grownBy w1 r) (k : w1.grownBy w2 r) : w.grownBy w2 r :=
  ⟨k.os.trans h.os, k.tape.trans h.tape, k.output.trans h.output, Nat.le_trans h.size k.size, fun j hj hne => (k.block j (Nat.lt_of_lt_of_le hj h.size) hne).trans (h.block j hj hne)⟩
theorem gr_none {w w1 w2 : World} {r : Option Nat} (h : w.grownBy w1 r) (k : w1.grownBy w2 none) : w.grownBy w2 r :=
  ⟨k.os.trans h.os, k.tape.trans h.tape, k.output.trans h.output, Nat.le_trans h.size k.size, fun j hj hne => (k.block j (Nat.lt_of_lt_of_le hj h.size) (by simp)).trans (h.block j hj hne)⟩
theorem own_eq {w : World} {base size n : Nat} {e : TypeId} {v : Value} {xs ys : List Value} (h : w.ownsRow base e size v n xs) (he : xs = ys) : w.ownsRow base e size v n ys := he ▸ h
theorem own_dr {w : World} {base size n : Nat} {e : TypeId} {v : Value} {xs : List Value} (h : w.ownsRow base e size v n xs) : w.drew.ownsRow base e size v n xs := h
theorem gr_dr {w w1 : World} {r : Option Nat} (h : w.grownBy w1 r) : w.grownBy w1.drew r := ⟨h.os, h.tape, h.output, h.size, h.block⟩
theorem sortT_one (ts : List Turn) : sortT (ts.take 1) ++ ts.drop 1 = ts := by
  cases ts with
  | nil => rfl
  | cons a t => rfl
set_option maxHeartbeats 4000000 in
set_option maxRecDepth 100000 in
theorem insert_any (ts : List Turn) (g c base : Nat) (w : World) (h : w.ownsRow base 113 4 (.slice (some ⟨g, 0, none⟩) ts.length c) ts.length (ts.flatMap Turn.cells)) (hn : ts.length ≤ 1000) (h0 : 0 < ts.length) :
    Calls Tryz.prog 172 #[.slice (some ⟨g, 0, none⟩) ts.length c, .int .i64 0, .int .i64 ts.length, .func (Fn.func 118) #[] #[]] w fun e w' =>
      e = .returned (.tuple #[]) ∧ w'.ownsRow base 113 4 (.slice (some ⟨g, 0, none⟩) ts.length c) ts.length ((sortT ts).flatMap Turn.cells) ∧ w.grownBy w' (some g) := by
  have H := Lib.hid h
  clear h
  go_enter Tryz.func172, Tryz.ntmps172
  go_wp2
  go_loopw [8] (fun i wr => ∃ k : Nat, 1 ≤ k ∧ k ≤ ts.length ∧ i = .int .i64 k ∧ wr.ownsRow base 113 4 (.slice (some ⟨g, 0, none⟩) ts.length c) ts.length ((sortT (ts.take k) ++ ts.drop k).flatMap Turn.cells) ∧ w.grownBy wr (some g)) (fun i _ => ts.length - (intOf i).toNat)
  case atStart => exact ⟨1, Nat.le_refl _, h0, rfl, by rw [sortT_one]; exact H.out, World.grownBy.refl _ _⟩
  case round =>
    obtain ⟨k, hk1, hk, rfl, hown, hg⟩ := hrel
    have HO := Lib.hid hown; have HG := Lib.hid hg; clear hown hg
    by_cases hkn : k < ts.length
    · have hsl : (sortT (ts.take k)).length = k := by rw [sortT_length, List.length_take]; omega
      have hsn : sortT (ts.take (k + 1)) = insT (sortT (ts.take k)) ts[k] := by rw [List.take_succ_eq_append_getElem hkn, sortT_snoc]
      have hdr := List.drop_eq_getElem_cons hkn
      have Hsl := Lib.hid hsl; have Hsn := Lib.hid hsn; have Hdr := Lib.hid hdr
      clear hsl hsn hdr
      obtain ⟨wo, rfl⟩ : ∃ wo : World, wo = wr := ⟨_, rfl⟩
      go_wp2
      go_loopw [9] (fun i wi => ∃ j : Nat, j ≤ k ∧ i = .int .i64 j ∧ posT ts[k] (sortT (ts.take k)) k = posT ts[k] (sortT (ts.take k)) j ∧ wi.ownsRow base 113 4 (.slice (some ⟨g, 0, none⟩) ts.length c) ts.length ((putT ts[k] (sortT (ts.take k)) j ++ ts.drop (k + 1)).flatMap Turn.cells) ∧ w.grownBy wi (some g)) (fun i _ => (intOf i).toNat)
      case atStart =>
        refine ⟨k, Nat.le_refl _, rfl, rfl, ?_, HG.out⟩
        have e : putT ts[k] (sortT (ts.take k)) k ++ ts.drop (k + 1) = sortT (ts.take k) ++ ts.drop k := by
          rw [Hdr.out, putT, List.take_of_length_le (by rw [Hsl.out]; exact Nat.le_refl _), List.drop_of_length_le (by rw [Hsl.out]; exact Nat.le_refl _)]
          simp only [List.append_assoc, List.cons_append, List.nil_append]
        rw [e]
        exact HO.out
      case round =>
        clear HO HG
        obtain ⟨j, hj, rfl, hpos, hown, hg⟩ := hrel
        have Hpos := Lib.hid hpos; have HO := Lib.hid hown; have HG := Lib.hid hg; clear hpos hown hg
        generalize hS : sortT (ts.take k) = S at *
        have HS := Lib.hid hS; clear hS
        have ad : ∀ n : Nat, Addr.add ⟨g, 0, none⟩ n = ⟨g, n, none⟩ := fun n => by unfold Addr.add; split <;> simp_all
        rcases j with _ | jj
        · have hgt : decide ((0 : Int) < ((0 : Nat) : Int)) = false := rfl
          have hfp : sortT (ts.take (k + 1)) = putT ts[k] S 0 := by rw [Hsn.out, insT, Hsl.out, Hpos.out]; rfl
          have HFP := Lib.hid hfp
          clear hfp
          have inst : Nonempty (Qt.In (Below wr.heap.size wr)) := ⟨⟨_, Below.refl _ _⟩⟩
          go_wp2_with fail
          refine Qt.wp_region_cls (Below wr.heap.size wr) (by kernel_rfl) (by kernel_rfl) (below_dr (n := 1) (Below.refl _ _)) ?_
          repeat (go_big_quiet_step ((go_at_call 118; fail)))
          refine wpQuiet_nil ?_
          rintro wq ⟨⟨w9, hq⟩, e9⟩
          have hq2 : Below wr.heap.size wr wq := by rw [e9]; exact hq
          have HOq := Lib.hid (HO.out.kept (gr_of_below hq2) (.inr (by simp [Value.ownBlock])))
          have HGq := Lib.hid (gr_none HG.out (gr_of_below hq2))
          clear hq e9 hq2 inst
          go_wp2
          refine ⟨⟨k + 1, by omega, by omega, by go_num, ?_, HGq.out⟩, by simp [intOf]; omega⟩
          rw [HFP.out]
          exact HOq.out
        · have hjS : jj < S.length := by rw [Hsl.out]; omega
          have hx : ∀ i, i < 4 → wr.cell? ⟨g, (jj + 1) * 4 + i, none⟩ = ts[k].cells[i]? := fun i hi => by
            rw [HO.out.cellAt _ (by omega), flat_get Turn.cells 4 (fun _ => rfl) _ (jj + 1) i hi, putT_at (by omega)]; rfl
          have he : ∀ i, i < 4 → wr.cell? ⟨g, jj * 4 + i, none⟩ = S[jj].cells[i]? := fun i hi => by
            rw [HO.out.cellAt _ (by omega), flat_get Turn.cells 4 (fun _ => rfl) _ jj i hi, putT_ahead (by omega), List.getElem?_eq_getElem hjS]; rfl
          have hgl := (HO.out.lt g rfl).2
          have hpg := fun (h : ts[k].at_ < S[jj].at_) => posT_go (x := ts[k]) (List.getElem?_eq_getElem hjS) h
          have hps := fun (h : ¬ ts[k].at_ < S[jj].at_) => posT_stay (x := ts[k]) (List.getElem?_eq_getElem hjS) h
          have Hpg := Lib.hid hpg; have Hps := Lib.hid hps
          have hsp := putT_split (x := ts[k]) hjS (ts.drop (k + 1))
          have Hsp := Lib.hid hsp
          clear hpg hps hsp
          generalize hxx : ts[k] = x at *
          have Hxx := Lib.hid hxx; clear hxx
          generalize hee : S[jj] = e at *
          have Hee := Lib.hid hee; clear hee
          obtain ⟨x0, x1, x2, x3⟩ := x
          obtain ⟨e0, e1, e2, e3⟩ := e
          have HC : Hid (∀ z, Below wr.heap.size wr z → Calls Tryz.prog 118 #[.agg #[.int .i64 x0, .int .i64 x1, .int .i64 x2, .string x3], .agg #[.int .i64 e0, .int .i64 e1, .int .i64 e2, .string e3]] z fun e z' => e = .returned (.int .i64 (cmpI x0 e0)) ∧ Below wr.heap.size wr z') := fun z h => (turnsC_any ⟨x0, x1, x2, x3⟩ ⟨e0, e1, e2, e3⟩ z).mono fun e z' ⟨he, hb⟩ => ⟨he, h.trans (hb.mono h.size)⟩
          have inst : Nonempty (Qt.In (Below wr.heap.size wr)) := ⟨⟨_, Below.refl _ _⟩⟩
          have zx0 : ∀ z : Qt.In (Below wr.heap.size wr), z.w.cell? ⟨g, (jj + 1) * 4, none⟩ = some (.int .i64 x0) := fun z => (z.h.cell (p := ⟨g, (jj + 1) * 4, none⟩) hgl).trans (hx 0 (by omega))
          have zx1 : ∀ z : Qt.In (Below wr.heap.size wr), z.w.cell? ⟨g, (jj + 1) * 4 + 1, none⟩ = some (.int .i64 x1) := fun z => (z.h.cell (p := ⟨g, (jj + 1) * 4 + 1, none⟩) hgl).trans (hx 1 (by omega))
          have zx2 : ∀ z : Qt.In (Below wr.heap.size wr), z.w.cell? ⟨g, (jj + 1) * 4 + 2, none⟩ = some (.int .i64 x2) := fun z => (z.h.cell (p := ⟨g, (jj + 1) * 4 + 2, none⟩) hgl).trans (hx 2 (by omega))
          have zx3 : ∀ z : Qt.In (Below wr.heap.size wr), z.w.cell? ⟨g, (jj + 1) * 4 + 3, none⟩ = some (.string x3) := fun z => (z.h.cell (p := ⟨g, (jj + 1) * 4 + 3, none⟩) hgl).trans (hx 3 (by omega))
          have ze0 : ∀ z : Qt.In (Below wr.heap.size wr), z.w.cell? ⟨g, jj * 4, none⟩ = some (.int .i64 e0) := fun z => (z.h.cell (p := ⟨g, jj * 4, none⟩) hgl).trans (he 0 (by omega))
          have ze1 : ∀ z : Qt.In (Below wr.heap.size wr), z.w.cell? ⟨g, jj * 4 + 1, none⟩ = some (.int .i64 e1) := fun z => (z.h.cell (p := ⟨g, jj * 4 + 1, none⟩) hgl).trans (he 1 (by omega))
          have ze2 : ∀ z : Qt.In (Below wr.heap.size wr), z.w.cell? ⟨g, jj * 4 + 2, none⟩ = some (.int .i64 e2) := fun z => (z.h.cell (p := ⟨g, jj * 4 + 2, none⟩) hgl).trans (he 2 (by omega))
          have ze3 : ∀ z : Qt.In (Below wr.heap.size wr), z.w.cell? ⟨g, jj * 4 + 3, none⟩ = some (.string e3) := fun z => (z.h.cell (p := ⟨g, jj * 4 + 3, none⟩) hgl).trans (he 3 (by omega))
          have Hx := Lib.hid hx; have He := Lib.hid he
          clear hx he
          have hw1 : IntKind.i64.wrap (((jj + 1 : Nat) : Int) - 1) = (jj : Int) := by rw [show ((jj + 1 : Nat) : Int) - 1 = jj by omega]; exact IntWalk.i64_in _ (by omega)
          have hw2 : IntKind.i64.wrap (jj : Int) = jj := IntWalk.i64_in _ (by omega)
          have hgt : decide ((0 : Int) < ((jj + 1 : Nat) : Int)) = true := by simp <;> omega
          go_wp2_with fail
          refine Qt.wp_region_cls (Below wr.heap.size wr) (by kernel_rfl) (by kernel_rfl) (below_dr (n := 1) (Below.refl _ _)) ?_
          repeat (go_big_quiet_step ((go_at_call 118; exact Qt.quiet_cls (HC.out _ (Qt.In.h _)))))
          refine wpQuiet_nil ?_
          rintro wq ⟨⟨w9, hq⟩, e9⟩
          have hq2 : Below wr.heap.size wr wq := by rw [e9]; exact hq
          have HW := Lib.hid hq2
          have HOq := Lib.hid (HO.out.kept (gr_of_below hq2) (.inr (by simp [Value.ownBlock])))
          have HGq := Lib.hid (gr_none HG.out (gr_of_below hq2))
          clear hq e9 hq2 zx0 zx1 zx2 zx3 ze0 ze1 ze2 ze3 inst
          by_cases hlt : x0 < e0
          · have hcn : cmpI x0 e0 < 0 := by simp [cmpI, hlt]
            have hp := Hpg.out hlt
            have hpos2 := Hpos.out.trans hp
            have Hpos2 := Lib.hid hpos2
            clear hp hpos2 Hpos Hpg Hps
            have qx0 : wq.cell? ⟨g, (jj + 1) * 4, none⟩ = some (.int .i64 x0) := (HW.out.cell (p := ⟨g, (jj + 1) * 4, none⟩) hgl).trans (Hx.out 0 (by omega))
            have qx1 : wq.cell? ⟨g, (jj + 1) * 4 + 1, none⟩ = some (.int .i64 x1) := (HW.out.cell (p := ⟨g, (jj + 1) * 4 + 1, none⟩) hgl).trans (Hx.out 1 (by omega))
            have qx2 : wq.cell? ⟨g, (jj + 1) * 4 + 2, none⟩ = some (.int .i64 x2) := (HW.out.cell (p := ⟨g, (jj + 1) * 4 + 2, none⟩) hgl).trans (Hx.out 2 (by omega))
            have qx3 : wq.cell? ⟨g, (jj + 1) * 4 + 3, none⟩ = some (.string x3) := (HW.out.cell (p := ⟨g, (jj + 1) * 4 + 3, none⟩) hgl).trans (Hx.out 3 (by omega))
            have qe0 : wq.cell? ⟨g, jj * 4, none⟩ = some (.int .i64 e0) := (HW.out.cell (p := ⟨g, jj * 4, none⟩) hgl).trans (He.out 0 (by omega))
            have qe1 : wq.cell? ⟨g, jj * 4 + 1, none⟩ = some (.int .i64 e1) := (HW.out.cell (p := ⟨g, jj * 4 + 1, none⟩) hgl).trans (He.out 1 (by omega))
            have qe2 : wq.cell? ⟨g, jj * 4 + 2, none⟩ = some (.int .i64 e2) := (HW.out.cell (p := ⟨g, jj * 4 + 2, none⟩) hgl).trans (He.out 2 (by omega))
            have qe3 : wq.cell? ⟨g, jj * 4 + 3, none⟩ = some (.string e3) := (HW.out.cell (p := ⟨g, jj * 4 + 3, none⟩) hgl).trans (He.out 3 (by omega))
            have fq := fun i => HOq.out.frozenAt i
            go_wp2_with fail
            refine wp_region_noPanic ?_
            go_region
            clear qx0 qx1 qx2 qx3 qe0 qe1 qe2 qe3 fq
            have hown := HOq.out
            rw [Hsp.out.1] at hown
            have s1 := hown.stored ((jj + 1) * 4) (.int .i64 e0)
            have s2 := s1.1.stored ((jj + 1) * 4 + 1) (.int .i64 e1)
            have s3 := s2.1.stored ((jj + 1) * 4 + 2) (.int .i64 e2)
            have s4 := s3.1.stored ((jj + 1) * 4 + 3) (.string e3)
            have s5 := s4.1.stored (jj * 4) (.int .i64 x0)
            have s6 := s5.1.stored (jj * 4 + 1) (.int .i64 x1)
            have s7 := s6.1.stored (jj * 4 + 2) (.int .i64 x2)
            have s8 := s7.1.stored (jj * 4 + 3) (.string x3)
            have hsw := swap_cells (S.take jj) (S.drop (jj + 1) ++ ts.drop (k + 1)) ⟨e0, e1, e2, e3⟩ ⟨x0, x1, x2, x3⟩ (k := jj) (by rw [List.length_take]; omega)
            have hgr := gr_trans HGq.out (gr_trans s1.2 (gr_trans s2.2 (gr_trans s3.2 (gr_trans s4.2 (gr_trans s5.2 (gr_trans s6.2 (gr_trans s7.2 s8.2)))))))
            have hfin := own_eq s8.1 (hsw.trans (congrArg (List.flatMap Turn.cells) Hsp.out.2.symm))
            have hfd := own_dr hfin
            have hgd := gr_dr hgr
            have HF := Lib.hid (And.intro hfd hgd)
            clear hfin hgr hsw s1 s2 s3 s4 s5 s6 s7 s8 hown hfd hgd
            generalize World.drew _ = W9 at *
            refine NoPanic.normal ?_
            go_wp2
            refine ⟨⟨jj, by omega, by go_num, Hpos2.out, HF.out.1, HF.out.2⟩, by simp [intOf]; try omega⟩
          · have hcn : ¬ cmpI x0 e0 < 0 := by unfold cmpI; rw [if_neg hlt]; split <;> omega
            have hfp : sortT (ts.take (k + 1)) = putT ⟨x0, x1, x2, x3⟩ S (jj + 1) := by rw [Hsn.out, insT, Hsl.out, Hpos.out, Hps.out (by omega)]
            have HFP := Lib.hid hfp
            clear hfp Hpos Hpg Hps HW
            go_wp2
            refine ⟨⟨k + 1, by omega, by omega, by go_num, ?_, HGq.out⟩, by simp [intOf]; omega⟩
            rw [HFP.out]
            exact HOq.out
    · obtain rfl : k = ts.length := by omega
      have hfin : sortT (ts.take ts.length) ++ ts.drop ts.length = sortT ts := by rw [List.take_length, List.drop_length, List.append_nil]
      rw [hfin] at HO
      clear hfin
      go_wp2
      go_end0
      exact ⟨rfl, HO.out, HG.out⟩
end Go.Proofs.YtdicedpklpadgaaGreatDoor.Rul
namespace Go.Proofs.YtdicedpklpadgaaGreatDoor.Rul
open Go.RowKit Mem Civ Mom Img

def turnL (y : Int) (r : Rule) : Option Turn := if (turnO r y).2 = true then some (turnO r y).1 else none
/-- A year's turns. -/
def turnsL (rs : List Rule) (y : Int) : List Turn := if rulesB rs = true then sortT (rs.filterMap (turnL y)) else []
def nearT (a b : Turn) : Bool := decide (a.at_ - b.at_ < 172800) && decide (-172800 < a.at_ - b.at_)
def nearUpto (now had : List Turn) : Nat → Bool
  | 0 => false
  | k + 1 => nearUpto now had k || (match now[k]? with
    | some x => (now.take k ++ had).any (nearT x)
    | none => false)
def nearerB (now had : List Turn) : Bool := nearUpto now had now.length
def nearYears (rs : List Rule) : Nat → Int → List Turn → Bool
  | 0, _, _ => false
  | n + 1, y, had => nearerB (turnsL rs y) had || nearYears rs n (y + 1) (turnsL rs y)
def firstY (rs : List Rule) : Int := rs.foldl (fun m r => min m r.lo) 9999
def lastY1 (m : Int) (r : Rule) : Int := if r.hi = 1000000 then max m r.lo else max (max m r.lo) r.hi
def lastY (rs : List Rule) : Int := rs.foldl lastY1 1
/-- Whether turns of a set are too near to one another. -/
def nearB (rs : List Rule) : Bool := rulesB rs && (!crowdB rs && (!rs.isEmpty && nearYears rs (lastY rs + 401 - firstY rs + 1).toNat (firstY rs) []))

theorem mem_insT {S : List Turn} {x t : Turn} (h : t ∈ insT S x) : t = x ∨ t ∈ S := by
  unfold insT putT at h
  rcases List.mem_append.1 h with h | h
  · exact .inr (List.mem_of_mem_take h)
  · rcases List.mem_cons.1 h with h | h
    · exact .inl h
    · exact .inr (List.mem_of_mem_drop h)
theorem mem_sortT {l : List Turn} {t : Turn} (h : t ∈ sortT l) : t ∈ l := by
  have : ∀ (l S : List Turn), t ∈ l.foldl insT S → t ∈ l ∨ t ∈ S := by
    intro l
    induction l with
    | nil => intro S h; exact .inr h
    | cons a l ih =>
      intro S h
      rcases ih _ h with h | h
      · exact .inl (List.mem_cons_of_mem _ h)
      · rcases mem_insT h with h | h
        · exact .inl (h ▸ List.mem_cons_self)
        · exact .inr h
  rcases this l [] h with h | h
  · exact h
  · simp at h
/-- Most are in force when one begins. -/
theorem force_le {rs : List Rule} (h : rs.any (fun x => decide (10 < crowdAt rs x)) = false) (y : Int) : (rs.filter fun r => forceB r y).length ≤ 10 := by
  obtain ⟨F, hF⟩ : ∃ F, (rs.filter fun r => forceB r y) = F := ⟨_, rfl⟩
  rcases F with _ | ⟨a, t⟩
  · rw [hF]; simp
  · have hmax : ∃ x ∈ a :: t, ∀ z ∈ a :: t, z.lo ≤ x.lo := by
      clear hF
      induction t generalizing a with
      | nil => exact ⟨a, by simp, by intro z hz; simp at hz; subst hz; exact Int.le_refl _⟩
      | cons b t ih =>
        obtain ⟨x, hx, hm⟩ := ih b
        by_cases hle : a.lo ≤ x.lo
        · exact ⟨x, List.mem_cons_of_mem _ hx, by
            intro z hz
            rcases List.mem_cons.1 hz with rfl | hz
            · exact hle
            · exact hm z hz⟩
        · exact ⟨a, List.mem_cons_self, by
            intro z hz
            rcases List.mem_cons.1 hz with rfl | hz
            · exact Int.le_refl _
            · have := hm z hz; omega⟩
    obtain ⟨x, hx, hm⟩ := hmax
    have hxm : x ∈ rs ∧ forceB x y = true := by
      have : x ∈ rs.filter fun r => forceB r y := by rw [hF]; exact hx
      simpa using this
    have hc : ¬ 10 < crowdAt rs x := by
      have := List.any_eq_false.1 h x hxm.1
      simpa using this
    have hfx : x.lo ≤ y ∧ y ≤ x.hi := by have := hxm.2; unfold forceB at this; exact of_decide_eq_true this
    have hle : (rs.filter fun r => forceB r y).length ≤ crowdAt rs x := by
      unfold crowdAt
      have hsub : (rs.filter fun r => forceB r y) = (rs.filter fun z => decide (x.lo ≤ x.hi) && forceB z x.lo).filter fun r => forceB r y := by
        rw [List.filter_filter]
        refine List.filter_congr fun z hz => ?_
        by_cases hzf : forceB z y = true
        · have hz2 : z ∈ a :: t := by rw [← hF]; simp [hz, hzf]
          have hz3 := hm z hz2
          have hz4 : z.lo ≤ y ∧ y ≤ z.hi := by unfold forceB at hzf; exact of_decide_eq_true hzf
          have : forceB z x.lo = true := by unfold forceB; exact decide_eq_true ⟨hz3, by omega⟩
          rw [hzf, this]
          simp
          omega
        · simp only [Bool.not_eq_true] at hzf
          rw [hzf]; rfl
      rw [hsub]
      exact List.length_filter_le _ _
    omega
theorem turnO_force {r : Rule} {y : Int} (h : (turnO r y).2 = true) : forceB r y = true := by
  unfold turnO at h
  simp only [Bool.and_eq_true] at h
  exact h.2
theorem turnL_le (rs : List Rule) (y : Int) : (rs.filterMap (turnL y)).length ≤ (rs.filter fun r => forceB r y).length := by
  induction rs with
  | nil => simp
  | cons a t ih =>
    rw [List.filterMap_cons, List.filter_cons]
    unfold turnL
    by_cases h : (turnO a y).2 = true
    · rw [turnO_force h, if_pos h]
      simp only [if_true, List.length_cons]
      exact Nat.succ_le_succ ih
    · rw [if_neg h]
      simp only
      split
      · exact Nat.le_trans ih (Nat.le_succ _)
      · exact ih
theorem turnsL_le {rs : List Rule} (hc : crowdB rs = false) (y : Int) : (rs.filterMap (turnL y)).length ≤ 10 ∨ rulesB rs = false := by
  cases hr : rulesB rs
  · exact .inr rfl
  · refine .inl (Nat.le_trans (turnL_le rs y) (force_le ?_ y))
    rw [crowdB, hr, Bool.true_and] at hc
    exact hc
/-- Turns' times are small. -/
theorem turnO_bd {r : Rule} {y : Int} (h : (turnO r y).2 = true) : -10000000000000 ≤ (turnO r y).1.at_ ∧ (turnO r y).1.at_ ≤ 10000000000000 := by
  unfold turnO at h ⊢
  simp only [Bool.and_eq_true] at h ⊢
  obtain ⟨h1, _⟩ := h
  cases hl : localO (spotOf r) y with
  | none => rw [hl] at h1; cases h1
  | some n =>
    unfold localO at hl
    cases ho : onO (spotOf r) y with
    | none => rw [ho] at hl; cases hl
    | some d =>
      rw [ho] at hl
      obtain ⟨⟨h2, h3⟩, hok, _⟩ := onO_bd ho
      simp only [Option.map_some, Option.some.injEq] at hl
      have ht := hok
      simp only [Spot.okP] at ht
      simp only [Option.getD_some]
      omega
theorem turnsL_bd {rs : List Rule} {y : Int} {t : Turn} (h : t ∈ turnsL rs y) : -10000000000000 ≤ t.at_ ∧ t.at_ ≤ 10000000000000 := by
  unfold turnsL at h
  split at h
  · obtain ⟨r, _, hr⟩ := List.mem_filterMap.1 (mem_sortT h)
    unfold turnL at hr
    split at hr
    · next h2 =>
      injection hr with hr
      rw [← hr]
      exact turnO_bd h2
    · cases hr
  · simp at h
end Go.Proofs.YtdicedpklpadgaaGreatDoor.Rul
namespace Go.Proofs.YtdicedpklpadgaaGreatDoor.Rul
open Go.RowKit Mem Civ Mom Img

set_option maxRecDepth 100000 in
theorem insert_none (c : Nat) (w : World) :
    Calls Tryz.prog 172 #[.slice none 0 c, .int .i64 0, .int .i64 0, .func (Fn.func 118) #[] #[]] w fun e w' =>
      e = .returned (.tuple #[]) ∧ w' = w := by
  go_enter Tryz.func172, Tryz.ntmps172
  go_wp2
  go_loopw [8] (fun i wr => i = .int .i64 1 ∧ wr = w) (fun _ _ => 0)
  case atStart => exact ⟨rfl, rfl⟩
  case round =>
    obtain ⟨rfl, rfl⟩ := hrel
    go_wp2
    go_end0
    exact ⟨rfl, rfl⟩
set_option maxRecDepth 100000 in
theorem insert_zero (g c : Nat) (w : World) :
    Calls Tryz.prog 172 #[.slice (some ⟨g, 0, none⟩) 0 c, .int .i64 0, .int .i64 0, .func (Fn.func 118) #[] #[]] w fun e w' =>
      e = .returned (.tuple #[]) ∧ w' = w := by
  go_enter Tryz.func172, Tryz.ntmps172
  go_wp2
  go_loopw [8] (fun i wr => i = .int .i64 1 ∧ wr = w) (fun _ _ => 0)
  case atStart => exact ⟨rfl, rfl⟩
  case round =>
    obtain ⟨rfl, rfl⟩ := hrel
    go_wp2
    go_end0
    exact ⟨rfl, rfl⟩
/-- What the sort leaves: the row sorted. -/
def SortP (ts : List Turn) (v : Value) (base : Nat) (w : World) (e : Ending) (w' : World) : Prop :=
  e = .returned (.tuple #[]) ∧ w'.ownsRow base 113 4 v ts.length ((sortT ts).flatMap Turn.cells) ∧ w.grownBy w' v.ownBlock
theorem insert_sort (ts : List Turn) (v : Value) (base : Nat) (w : World) (h : w.ownsRow base 113 4 v ts.length (ts.flatMap Turn.cells)) (hn : ts.length ≤ 1000) :
    Calls Tryz.prog 172 #[v, .int .i64 0, .int .i64 ts.length, .func (Fn.func 118) #[] #[]] w (SortP ts v base w) := by
  rcases Nat.eq_zero_or_pos ts.length with h0 | h0
  · have hts : ts = [] := List.eq_nil_of_length_eq_zero h0
    subst hts
    rcases h.2 with ⟨hv, _⟩ | ⟨g, cap, cur, hv, _⟩
    · subst hv
      exact (insert_none 0 w).mono fun e w' ⟨he, hw⟩ => ⟨he, by rw [hw]; exact h, by rw [hw]; exact World.grownBy.refl _ _⟩
    · subst hv
      exact (insert_zero g cap w).mono fun e w' ⟨he, hw⟩ => ⟨he, by rw [hw]; exact h, by rw [hw]; exact World.grownBy.refl _ _⟩
  · obtain ⟨g, cap, hv, _, _⟩ := h.form h0
    subst hv
    exact insert_any ts g cap base w h hn h0
set_option maxRecDepth 100000 in
theorem stable_any (ts : List Turn) (v : Value) (base : Nat) (w : World) (h : w.ownsRow base 113 4 v ts.length (ts.flatMap Turn.cells)) (hn : ts.length < 20) :
    Calls Tryz.prog 120 #[v, .int .i64 ts.length, .func (Fn.func 118) #[] #[]] w (SortP ts v base w) := by
  have Hi := Lib.hid (insert_sort ts v base w h (by omega))
  clear h
  go_enter Tryz.func120, Tryz.ntmps120
  go_wp2
  go_loopw [7, 8] (fun a b wr => a = .int .i64 0 ∧ b = .int .i64 20 ∧ wr = w) (fun _ _ _ => 0)
  case atStart => exact ⟨rfl, rfl, rfl⟩
  case round =>
    obtain ⟨rfl, rfl, rfl⟩ := hrel
    go_wp2_with (go_at_call 172; refine Hi.out.mono ?_; rintro e w1 ⟨rfl, ho, hg⟩; have HO := Lib.hid (And.intro ho hg); clear ho hg)
    go_loopw [6] (fun a wr => a = .int .i64 20 ∧ wr = w1) (fun _ _ => 0)
    case atStart => exact ⟨rfl, rfl⟩
    case round =>
      obtain ⟨rfl, rfl⟩ := hrel
      go_wp2
      go_end0
      exact ⟨rfl, HO.out.1, HO.out.2⟩
set_option maxRecDepth 100000 in
theorem sortStable_any (ts : List Turn) (A : Option Addr) (c base : Nat) (w : World) (h : w.ownsRow base 113 4 (.slice A ts.length c) ts.length (ts.flatMap Turn.cells)) (hn : ts.length < 20) :
    Calls Tryz.prog 71 #[.slice A ts.length c, .func (Fn.func 118) #[] #[]] w (SortP ts (.slice A ts.length c) base w) := by
  have Hi := Lib.hid (stable_any ts _ base w h hn)
  clear h
  go_enter Tryz.func71, Tryz.ntmps71
  go_wp2_with (go_at_call 120; refine Hi.out.mono ?_; rintro e w1 ⟨rfl, ho, hg⟩; have HO := Lib.hid (And.intro ho hg); clear ho hg)
  go_end0
  exact ⟨rfl, HO.out.1, HO.out.2⟩

theorem turnL_succ (rs : List Rule) (y : Int) (k : Nat) (hk : k < rs.length) : (rs.take (k + 1)).filterMap (turnL y) = if (turnO rs[k] y).2 = true then (rs.take k).filterMap (turnL y) ++ [(turnO rs[k] y).1] else (rs.take k).filterMap (turnL y) := by
  rw [List.take_succ_eq_append_getElem hk, List.filterMap_append]
  unfold turnL
  by_cases h : (turnO rs[k] y).2 = true
  · simp [h]
  · simp [h]
theorem turnL_take_le (rs : List Rule) (y : Int) (k : Nat) : ((rs.take k).filterMap (turnL y)).length ≤ (rs.filterMap (turnL y)).length := by
  conv => rhs; rw [← List.take_append_drop k rs]
  rw [List.filterMap_append, List.length_append]
  omega
theorem info_turn : (Tryz.prog.info? 113).map (fun i => (i.zero, i.size, i.bytes)) = some (some (.agg #[.int .i64 0, .int .i64 0, .int .i64 0, .string ⟨#[]⟩]), 4, 40) := by kernel_rfl
theorem turn_oneCell {a b c : Int} {s : ByteArray} : ∀ u ∈ (#[Value.int .i64 a, .int .i64 b, .int .i64 c, .string s] : Array Value).toList, u.oneCell' = true := by
  intro u hu
  simp at hu
  rcases hu with rfl | rfl | rfl | rfl <;> rfl
theorem own_below {w w' : World} {base size n : Nat} {e : TypeId} {v : Value} {xs : List Value} (h : w.ownsRow base e size v n xs) (hb : Below w.heap.size w w') : w'.ownsRow base e size v n xs :=
  h.kept (gr_of_below hb) (by cases v.ownBlock <;> simp)
theorem own_slice {w : World} {base size n : Nat} {e : TypeId} {v : Value} {xs : List Value} (h : w.ownsRow base e size v n xs) : ∃ A c, v = .slice A n c := by
  rcases h.2 with ⟨hv, h0⟩ | ⟨g, cap, cur, hv, _⟩
  · exact ⟨none, 0, by rw [hv, h0]⟩
  · exact ⟨_, _, hv⟩
/-- What Turns answers: a slice of the call's own that holds the turns. -/
def TurnsP (ts : List Turn) (w : World) (e : Ending) (w' : World) : Prop :=
  ∃ A c, e = .returned (.slice A ts.length c) ∧ w'.ownsRow w.heap.size 113 4 (.slice A ts.length c) ts.length (ts.flatMap Turn.cells) ∧ Below w.heap.size w w'
set_option maxHeartbeats 1000000 in
set_option maxRecDepth 100000 in
theorem turns_any (rs : List Rule) (A : Option Addr) (c : Nat) (y : Int) (w : World) (h : Reads w w.heap.size 11 A rs.length (rs.flatMap Rule.cells)) (hn : rs.length ≤ 1000000) (hc : (rs.filterMap (turnL y)).length ≤ 19 ∨ rulesB rs = false) :
    Calls Tryz.prog 70 #[.slice A rs.length c, .int .i64 y] w (TurnsP (turnsL rs y) w) := by
  have Hr := Lib.hid (rulesRight_any rs A c w h hn)
  have H := Lib.hid h
  clear h
  obtain ⟨i0, hi0, hz0, hz1, hz2⟩ := info_parts info_turn
  go_enter Tryz.func70, Tryz.ntmps70
  cases hb : rulesB rs
  · have hts : turnsL rs y = [] := by unfold turnsL; rw [hb]; rfl
    rw [hb] at Hr
    rw [hts]
    clear hts hb hc
    go_wp2_with (go_at_call 88; refine Hr.out.mono ?_; rintro e w1 ⟨rfl, hb⟩; have HB := Lib.hid hb; clear hb)
    go_ret
    exact ⟨none, 0, rfl, World.ownsRow_nil _ _ _ _, HB.out⟩
  · have hts : turnsL rs y = sortT (rs.filterMap (turnL y)) := by unfold turnsL; rw [hb]; rfl
    have hlen : (rs.filterMap (turnL y)).length ≤ 19 := by
      rcases hc with hc | hc
      · exact hc
      · rw [hb] at hc; cases hc
    rw [hb] at Hr
    rw [hts]
    clear hts hb hc
    have Hlen := Lib.hid hlen; clear hlen
    go_wp2_with (go_at_call 88; refine Hr.out.mono ?_; rintro e w1 ⟨rfl, hb⟩; have HB := Lib.hid hb; clear hb)
    go_loopw [5, 15] (fun v i wr => ∃ k : Nat, k ≤ rs.length ∧ i = .int .i64 k ∧ wr.ownsRow w.heap.size 113 4 v ((rs.take k).filterMap (turnL y)).length (((rs.take k).filterMap (turnL y)).flatMap Turn.cells) ∧ Below w.heap.size w wr) (fun _ i _ => rs.length - (intOf i).toNat)
    case atStart => exact ⟨0, Nat.zero_le _, rfl, World.ownsRow_nil _ _ _ _, HB.out⟩
    case round =>
      obtain ⟨k, hk, rfl, hown, hb⟩ := hrel
      have Hown := Lib.hid hown; have HBr := Lib.hid hb; clear hown hb HB
      obtain ⟨wo, rfl⟩ : ∃ wo : World, wo = wr := ⟨_, rfl⟩
      by_cases hkn : k < rs.length
      · obtain ⟨ad, hA, hadb, a0, a1, a2, a3, a4, a5, a6, a7, a8, a9, a10⟩ := rule_cells (H.out.below HBr.out) hkn
        subst hA
        have hst := turnL_succ rs y k hkn
        have hle1 := turnL_take_le rs y (k + 1)
        have hle := turnL_take_le rs y k
        have Ht := Lib.hid (fun z => turn_any rs[k] y z)
        have Hst := Lib.hid hst
        have Hle := Lib.hid (And.intro hle1 hle)
        clear hst hle hle1
        simp only [Rule.cells] at Ht
        generalize hto : turnO rs[k] y = tt at *
        clear hto
        generalize rs[k] = x at *
        obtain ⟨t, ok⟩ := tt
        obtain ⟨t0, t1, t2, t3⟩ := t
        simp only [Turn.cells] at Ht Hst
        have hll : ((rs.take k).filterMap (turnL y)).length ≤ 19 := Nat.le_trans Hle.out.2 Hlen.out
        obtain ⟨L, hL⟩ : ∃ L, (rs.take k).filterMap (turnL y) = L := ⟨_, rfl⟩
        rw [hL] at Hst Hown hll
        clear hL
        have hzo := HBr.out.size
        have hbx := HBr.out.alloc hzo (.cells #[.string x.name, .int .i64 x.lo, .int .i64 x.hi, .int .i64 x.month, .int .i64 x.kind, .int .i64 x.weekday, .int .i64 x.day, .int .i64 x.time, .int .i64 x.ref, .int .i64 x.save, .string x.letter] 59)
        have HBX := Lib.hid hbx
        have HOX := Lib.hid (Hown.out.alloc (.cells #[.string x.name, .int .i64 x.lo, .int .i64 x.hi, .int .i64 x.month, .int .i64 x.kind, .int .i64 x.weekday, .int .i64 x.day, .int .i64 x.time, .int .i64 x.ref, .int .i64 x.save, .string x.letter] 59))
        clear hbx
        cases ok
        · have hst2 := Hst.out
          rw [if_neg (by decide)] at hst2
          have Hst2 := Lib.hid hst2
          clear hst2 Hst
          go_wp2_with (go_at_call 117; refine (Ht.out _).mono ?_; rintro e w2 ⟨rfl, hb2⟩; have HB2 := Lib.hid hb2; clear hb2)
          refine ⟨⟨k + 1, by omega, by go_num, ?_, ?_⟩, by simp [intOf]; omega⟩
          · rw [Hst2.out]
            exact (own_below HOX.out HB2.out).alloc _
          · exact (HBX.out.trans (HB2.out.mono HBX.out.size)).alloc (by have := HBX.out.size; have := HB2.out.size; omega) _
        · have hst2 := Hst.out
          rw [if_pos rfl] at hst2
          have Hst2 := Lib.hid hst2
          clear hst2 Hst
          go_wp2_with (first
            | (go_at_call 117; refine (Ht.out _).mono ?_; rintro e w2 ⟨rfl, hb2⟩; have HO2 := Lib.hid (own_below HOX.out hb2); have HB2 := Lib.hid (HBX.out.trans (hb2.mono HBX.out.size)); have cn := fun i => (Blk.new w2 113 #[.int .i64 t0, .int .i64 t1, .int .i64 t2, .string t3]).cell i; clear hb2)
            | (at_builtin; refine wpList_append1g (w2.alloc (.cells #[.int .i64 t0, .int .i64 t1, .int .i64 t2, .string t3] 113)) rfl (.tmp 26) (.tmp 28) 109 rfl w.heap.size 113 i0 _ 4 40 Tryz.underlying109 hi0 hz0 hz1 hz2 rfl (by decide) _ L.length _ rfl (HO2.out.alloc _) (by simp; rfl) rfl turn_oneCell ?m1 ?m2 ?m3 ?_))
          case m1 => unfold maxLen; omega
          case m2 => omega
          case m3 => have := HB2.out.size; simp; omega
          intro v' w3 ho3 hg3
          have R : Hid (w3.ownsRow w.heap.size 113 4 v' (L ++ [(⟨t0, t1, t2, t3⟩ : Turn)]).length ((L ++ [(⟨t0, t1, t2, t3⟩ : Turn)]).flatMap Turn.cells) ∧ Below w.heap.size w w3) := by
            refine ⟨by simpa [Turn.cells] using ho3, ?_⟩
            have hz := HB2.out.size
            exact ((HB2.out.alloc hz _).alloc (by simp; omega) _).grown hg3 (by simp; omega) (fun j hj => (HO2.out.lt j hj).1)
          clear ho3 hg3
          go_wp2
          refine ⟨⟨k + 1, by omega, by go_num, ?_⟩, by simp [intOf]; omega⟩
          rw [Hst2.out]
          exact R.out
      · obtain rfl : k = rs.length := by omega
        rw [List.take_length] at Hown
        have Hs := Lib.hid (fun A c h => sortStable_any (rs.filterMap (turnL y)) A c w.heap.size wo h (by have := Hlen.out; omega))
        have hlen : (sortT (rs.filterMap (turnL y))).length = (rs.filterMap (turnL y)).length := sortT_length _
        have HLn := Lib.hid hlen
        clear hlen
        generalize rs.filterMap (turnL y) = L at *
        obtain ⟨A2, c2, hv⟩ := own_slice Hown.out
        subst hv
        go_wp2_with (go_at_call 71; refine (Hs.out _ _ Hown.out).mono ?_; rintro e w2 ⟨rfl, ho, hg⟩; have HO2 := Lib.hid ho; have HG2 := Lib.hid hg; clear ho hg)
        go_ret
        refine ⟨A2, c2, by rw [HLn.out]; rfl, by rw [HLn.out]; exact HO2.out, ?_⟩
        exact HBr.out.grown HG2.out HBr.out.size fun j hj => (Hown.out.lt j hj).1
end Go.Proofs.YtdicedpklpadgaaGreatDoor.Rul
namespace Go.Proofs.YtdicedpklpadgaaGreatDoor.Rul
open Go.RowKit Mem Civ Mom Img

/-- A turn's cells at a place. -/
theorem turn_cells {w : World} {B : Nat} {A : Option Addr} {ss : List Turn} {n : Nat} (h : Reads w B 4 A n (ss.flatMap Turn.cells)) {k : Nat} (hk : k < ss.length) (hn : ss.length = n) :
    ∃ ad, A = some ad ∧ ad.block < B ∧ w.cell? (ad.add (k * 4)) = some (.int .i64 ss[k].at_) ∧ w.cell? ⟨(ad.add (k * 4)).block, (ad.add (k * 4)).off + 1, none⟩ = some (.int .i64 ss[k].ref) ∧
      w.cell? ⟨(ad.add (k * 4)).block, (ad.add (k * 4)).off + 2, none⟩ = some (.int .i64 ss[k].save) ∧ w.cell? ⟨(ad.add (k * 4)).block, (ad.add (k * 4)).off + 3, none⟩ = some (.string ss[k].letter) := by
  obtain ⟨ad, e, hb, hc⟩ := h.2 (by omega)
  have g : ∀ j, j < 4 → (ss.flatMap Turn.cells)[k * 4 + j]? = ss[k].cells[j]? := fun j hj => by
    rw [flat_get Turn.cells 4 (fun _ => rfl) ss k j hj, List.getElem?_eq_getElem hk]; rfl
  have ee : ∀ j, 0 < j → (⟨(ad.add (k * 4)).block, (ad.add (k * 4)).off + j, none⟩ : Addr) = ad.add (k * 4 + j) := fun j hj => by
    rw [← add_of_add, add_pos _ hj]
  refine ⟨ad, e, hb, ?_⟩
  rw [ee 1 (by omega), ee 2 (by omega), ee 3 (by omega)]
  exact ⟨hc (k * 4) _ (g 0 (by omega)), hc _ _ (g 1 (by omega)), hc _ _ (g 2 (by omega)), hc _ _ (g 3 (by omega))⟩
def bdT (l : List Turn) : Prop := ∀ t ∈ l, -10000000000000 ≤ t.at_ ∧ t.at_ ≤ 10000000000000
theorem nearUpto_true {now had : List Turn} {k : Nat} (hk : k < now.length) (h : nearUpto now had (k + 1) = true) : nearUpto now had now.length = true := by
  obtain ⟨d, hd⟩ : ∃ d, now.length = k + 1 + d := ⟨now.length - (k + 1), by omega⟩
  rw [hd]
  clear hd
  induction d with
  | zero => exact h
  | succ d ih => rw [← Nat.add_assoc, nearUpto, ih, Bool.true_or]
set_option maxHeartbeats 1000000 in
set_option maxRecDepth 100000 in
theorem nearer_any (now had : List Turn) (A A2 : Option Addr) (c c2 : Nat) (w : World) (h : Reads w w.heap.size 4 A now.length (now.flatMap Turn.cells)) (h2 : Reads w w.heap.size 4 A2 had.length (had.flatMap Turn.cells))
    (hn : now.length ≤ 1000) (hn2 : had.length ≤ 1000) (hc : now.length ≤ c) (hb1 : bdT now) (hb2 : bdT had) :
    Calls Tryz.prog 148 #[.slice A now.length c, .slice A2 had.length c2] w fun e w' => e = .returned (.bool (nearerB now had)) ∧ Below w.heap.size w w' := by
  obtain ⟨i0, hi0, hz0, hz1, hz2⟩ := info_parts info_turn
  have H := Lib.hid h; have H2 := Lib.hid h2; have HB1 := Lib.hid hb1; have HB2 := Lib.hid hb2
  clear h h2 hb1 hb2
  obtain ⟨Q, hQ⟩ : ∃ Q, nearerB now had = Q := ⟨_, rfl⟩
  rw [hQ]
  have HQ := Lib.hid hQ
  clear hQ
  go_enter Tryz.func148, Tryz.ntmps148
  go_wp2
  go_loopw [12] (fun i wr => ∃ k : Nat, k ≤ now.length ∧ i = .int .i64 k ∧ nearUpto now had k = false ∧ Below w.heap.size w wr) (fun i _ => now.length - (intOf i).toNat)
  case atStart => exact ⟨0, Nat.zero_le _, rfl, rfl, Below.refl _ _⟩
  case round =>
    obtain ⟨k, hk, rfl, hup, hb⟩ := hrel
    have Hup := Lib.hid hup; have HB := Lib.hid hb
    clear hup hb
    obtain ⟨wo, rfl⟩ : ∃ wo : World, wo = wr := ⟨_, rfl⟩
    by_cases hkn : k < now.length
    · obtain ⟨ad, hA, hadb, a0, a1, a2, a3⟩ := turn_cells (H.out.below HB.out) hkn rfl
      subst hA
      have hzo := HB.out.size
      have hux : nearUpto now had (k + 1) = (now.take k ++ had).any (nearT now[k]) := by
        rw [nearUpto, Hup.out, List.getElem?_eq_getElem hkn, Bool.false_or]
      have hbx := HB1.out now[k] (List.getElem_mem hkn)
      have hrf := (H.out.below HB.out).2 (by omega)
      obtain ⟨ad', hA', _, hcell⟩ := hrf
      obtain rfl : ad = ad' := by injection hA'
      have Hcell := Lib.hid hcell
      have Hux := Lib.hid hux
      clear hA' hcell hux
      generalize hx : now[k] = x at *
      have Hx := Lib.hid hx; clear hx
      obtain ⟨x0, x1, x2, x3⟩ := x
      simp only at hbx a0 a1 a2 a3
      have hX := Blk.new wo 113 #[.int .i64 x0, .int .i64 x1, .int .i64 x2, .string x3]
      have hbX := HB.out.alloc hzo (.cells #[.int .i64 x0, .int .i64 x1, .int .i64 x2, .string x3] 113)
      have HX := Lib.hid hX; have HBX := Lib.hid hbX
      clear hX hbX
      have hl4 : ((now.take k).flatMap Turn.cells).length = k * 4 := by rw [len4, List.length_take]; congr 1; omega
      have hpre : ∀ j u, ((now.take k).flatMap Turn.cells)[j]? = some u → (wo.alloc (.cells #[.int .i64 x0, .int .i64 x1, .int .i64 x2, .string x3] 113)).cell? (ad.add j) = some u := fun j u hu => by
        rw [World.cell?_alloc_lt _ _ _ (by rw [block_of_add]; omega)]
        refine Hcell.out j u ?_
        conv => lhs; rw [← List.take_append_drop k now]
        rw [List.flatMap_append, List.getElem?_append_left (List.getElem?_eq_some_iff.1 hu).1]
        exact hu
      have hh2 := (H2.out.below HB.out).alloc (Below.size HB.out) (.cells #[.int .i64 x0, .int .i64 x1, .int .i64 x2, .string x3] 113)
      have HL4 := Lib.hid hl4; have HPre := Lib.hid hpre; have HH2 := Lib.hid hh2
      clear hl4 hpre hh2 Hcell
      go_wp2_with (at_builtin; refine wpList_append_full _ rfl (.tmp 20) (.tmp 21) 109 rfl 113 i0 _ 4 40 Tryz.underlying109 hi0 hz0 hz1 hz2 ad k _ rfl HL4.out HPre.out (by simp; omega) w.heap.size A2 had.length c2 _ rfl HH2.out (by unfold maxLen; omega) (by omega) ?_; intro A3 c3 w3 hr3 hb3; have HR3 := Lib.hid hr3; have HX3 := Lib.hid (HX.out.below hb3 HX.out.lt); have HB3 := Lib.hid (HBX.out.trans (hb3.mono HBX.out.size)); clear hr3 hb3)
      clear a0 a1 a2 a3 HPre HH2 HX HBX
      have hlen2 : (now.take k ++ had).length = k + had.length := by rw [List.length_append, List.length_take]; omega
      have hbd : bdT (now.take k ++ had) := fun t ht => by
        rcases List.mem_append.1 ht with ht | ht
        · exact HB1.out t (List.mem_of_mem_take ht)
        · exact HB2.out t ht
      rw [← List.flatMap_append] at HR3
      have HLen := Lib.hid hlen2; have HBd := Lib.hid hbd
      clear hlen2 hbd
      generalize now.take k ++ had = L at *
      have HUx := Hux
      clear Hux
      go_loopw [24] (fun i wr => ∃ j : Nat, j ≤ k + had.length ∧ i = .int .i64 j ∧ (L.take j).any (nearT ⟨x0, x1, x2, x3⟩) = false ∧ Below w.heap.size w wr ∧ Below w3.heap.size w3 wr) (fun i _ => k + had.length - (intOf i).toNat)
      case atStart => exact ⟨0, Nat.zero_le _, rfl, rfl, HB3.out, Below.refl _ _⟩
      case round =>
        obtain ⟨j, hj, rfl, hany, hb, hb3⟩ := hrel
        have Hany := Lib.hid hany; have HBr := Lib.hid hb; have HBs := Lib.hid hb3
        clear hany hb hb3
        by_cases hjn : j < k + had.length
        · obtain ⟨ad3, hA3, had3, d0, d1, d2, d3⟩ := turn_cells (HR3.out.below HBs.out) (k := j) (by rw [HLen.out]; exact hjn) HLen.out
          subst hA3
          have hjL : j < L.length := by rw [HLen.out]; exact hjn
          have hby := HBd.out L[j] (List.getElem_mem hjL)
          have hsn : (L.take (j + 1)).any (nearT ⟨x0, x1, x2, x3⟩) = nearT ⟨x0, x1, x2, x3⟩ L[j] := by
            rw [List.take_succ_eq_append_getElem hjL, List.any_append, Hany.out]; simp
          have hyes : nearT ⟨x0, x1, x2, x3⟩ L[j] = true → L.any (nearT ⟨x0, x1, x2, x3⟩) = true := fun h => List.any_eq_true.2 ⟨_, List.getElem_mem hjL, h⟩
          have cx := fun i => (HX3.out.below HBs.out HX3.out.lt).cell i
          have hzr := HBr.out.size
          have hzs := HBs.out.size
          have hxl := HX3.out.lt
          have cx2 : ∀ o i, (wr.alloc o).cell? ⟨wo.heap.size, i, none⟩ = #[Value.int .i64 x0, .int .i64 x1, .int .i64 x2, .string x3][i]? := fun o i => ((HX3.out.below HBs.out HX3.out.lt).alloc o).cell i
          have HSn := Lib.hid hsn; have HYes := Lib.hid hyes
          have hbb := fun o => HBr.out.alloc hzr o
          have hbs := fun o => HBs.out.alloc hzs o
          have HBb := Lib.hid hbb; have HBq := Lib.hid hbs
          clear hsn hyes hbb hbs
          generalize L[j] = y at *
          obtain ⟨y0, y1, y2, y3⟩ := y
          simp only at hby d0 d1 d2 d3
          simp only [nearT] at HSn HYes
          have hwr : IntKind.i64.wrap (x0 - y0) = x0 - y0 := IntWalk.i64_in _ (by omega)
          by_cases h1 : x0 - y0 < 172800
          · by_cases h2 : -172800 < x0 - y0
            · have hy := HYes.out (by rw [decide_eq_true h1, decide_eq_true h2]; rfl)
              have hq : Q = true := by
                rw [← HQ.out, nearerB]
                exact nearUpto_true hkn (by rw [HUx.out]; exact hy)
              subst hq
              clear HQ
              go_wp2_with fail
              go_ret
              exact ⟨rfl, HBb.out _⟩
            · have hs := HSn.out
              rw [decide_eq_false h2, Bool.and_false] at hs
              have Hs := Lib.hid hs
              clear hs HSn
              go_wp2_with fail
              exact ⟨⟨j + 1, by omega, by go_num, Hs.out, HBb.out _, HBq.out _⟩, by simp [intOf]; omega⟩
          · have hs := HSn.out
            rw [decide_eq_false h1, Bool.false_and] at hs
            have Hs := Lib.hid hs
            clear hs HSn
            go_wp2_with fail
            exact ⟨⟨j + 1, by omega, by go_num, Hs.out, HBb.out _, HBq.out _⟩, by simp [intOf]; omega⟩
        · obtain rfl : j = k + had.length := by omega
          have hn2 : nearUpto now had (k + 1) = false := by
            rw [HUx.out, ← Hany.out, List.take_of_length_le (by rw [HLen.out]; exact Nat.le_refl _)]
          have Hn2 := Lib.hid hn2
          clear hn2
          go_wp2
          exact ⟨⟨k + 1, by omega, by go_num, Hn2.out, HBr.out⟩, by simp [intOf]; omega⟩
    · obtain rfl : k = now.length := by omega
      have hq : Q = false := by rw [← HQ.out, nearerB, Hup.out]
      subst hq
      clear HQ
      go_wp2
      go_ret
      exact ⟨rfl, HB.out⟩

theorem own_cap {w : World} {base size n c : Nat} {A : Option Addr} {e : TypeId} {xs : List Value} (h : w.ownsRow base e size (.slice A n c) n xs) : n ≤ c := by
  rcases h.2 with ⟨hv, h0⟩ | ⟨g, cap, cur, hv, _, _, hnc, _⟩
  · omega
  · injection hv with _ _ h3
    omega
theorem ruleB_bd {r : Rule} (h : ruleB r = true) : 1 ≤ r.lo ∧ r.lo ≤ 9999 ∧ (1 ≤ r.hi ∧ r.hi ≤ 9999 ∨ r.hi = 1000000) := by
  have h2 := of_decide_eq_true h
  unfold ruleP yearP at h2
  omega
theorem firstY_succ (rs : List Rule) (k : Nat) (hk : k < rs.length) : firstY (rs.take (k + 1)) = min (firstY (rs.take k)) rs[k].lo := by
  rw [List.take_succ_eq_append_getElem hk, firstY, firstY, List.foldl_append]; rfl
theorem lastY_succ (rs : List Rule) (k : Nat) (hk : k < rs.length) : lastY (rs.take (k + 1)) = lastY1 (lastY (rs.take k)) rs[k] := by
  rw [List.take_succ_eq_append_getElem hk, lastY, lastY, List.foldl_append]; rfl
theorem years_bd (rs : List Rule) (h : rulesB rs = true) (k : Nat) : (1 ≤ firstY (rs.take k) ∧ firstY (rs.take k) ≤ 9999) ∧ (1 ≤ lastY (rs.take k) ∧ lastY (rs.take k) ≤ 9999) := by
  induction k with
  | zero => simp [firstY, lastY]
  | succ k ih =>
    by_cases hk : k < rs.length
    · rw [firstY_succ rs k hk, lastY_succ rs k hk]
      have hb := ruleB_bd (List.all_eq_true.1 h _ (List.getElem_mem hk))
      unfold lastY1
      split <;> omega
    · rw [List.take_of_length_le (by omega)] at ih ⊢
      exact ih
theorem first_last {rs : List Rule} (h : rs ≠ []) : firstY rs ≤ lastY rs := by
  obtain ⟨k, hk⟩ : ∃ k, rs.length = k + 1 := ⟨rs.length - 1, by have := List.length_pos_iff.2 h; omega⟩
  have h1 := firstY_succ rs k (by omega)
  have h2 := lastY_succ rs k (by omega)
  rw [List.take_of_length_le (by omega)] at h1 h2
  rw [h1, h2, lastY1]
  split <;> omega
theorem turnsL_len {rs : List Rule} {y : Int} (h : (rs.filterMap (turnL y)).length ≤ 10) : (turnsL rs y).length ≤ 19 := by
  unfold turnsL
  cases rulesB rs
  · exact Nat.zero_le _
  · show (sortT _).length ≤ 19
    rw [sortT_length]
    omega
set_option maxHeartbeats 2000000 in
set_option maxRecDepth 100000 in
theorem near_any (rs : List Rule) (A : Option Addr) (c : Nat) (w : World) (h : Reads w w.heap.size 11 A rs.length (rs.flatMap Rule.cells)) (hn : rs.length ≤ 1000000) :
    Calls Tryz.prog 100 #[.slice A rs.length c] w fun e w' => e = .returned (.bool (nearB rs)) ∧ Below w.heap.size w w' := by
  have Hr := Lib.hid (rulesRight_any rs A c w h hn)
  have Hc := Lib.hid (fun z (hb : Below w.heap.size w z) => crowded_any rs A c z ((h.below hb).more hb.size) hn)
  have H := Lib.hid h
  clear h
  have hlc : ((((rs.length : Nat) : Int)) == 0) = rs.isEmpty := by cases rs with
    | nil => rfl
    | cons a t => simp; omega
  obtain ⟨Q, hQ⟩ : ∃ Q, nearB rs = Q := ⟨_, rfl⟩
  rw [hQ]
  unfold nearB at hQ
  go_enter Tryz.func100, Tryz.ntmps100
  cases hb : rulesB rs
  · rw [hb] at Hr hQ
    rw [Bool.false_and] at hQ
    subst hQ
    clear hb
    go_wp2_with (go_at_call 88; refine Hr.out.mono ?_; rintro e w1 ⟨rfl, hb⟩; have HB := Lib.hid hb; clear hb)
    go_ret
    exact ⟨rfl, HB.out⟩
  · rw [hb] at Hr hQ
    rw [Bool.true_and] at hQ
    have hyb := years_bd rs hb
    have hcr := fun (e : crowdB rs = false) (y : Int) => (turnsL_le e y).elim (fun h => h) (fun h => by rw [hb] at h; cases h)
    have HYb := Lib.hid hyb
    have HCr := Lib.hid hcr
    clear hyb hcr
    cases hc : crowdB rs
    · rw [hc] at Hc hQ HCr
      rw [Bool.not_false, Bool.true_and] at hQ
      clear hc
      have HCq := Lib.hid (HCr.out rfl)
      clear HCr
      cases he : rs.isEmpty
      · rw [he] at hQ hlc
        rw [Bool.not_false, Bool.true_and] at hQ
        have HQ := Lib.hid hQ
        clear hQ
        have hne : rs ≠ [] := fun e => by rw [e] at he; cases he
        clear he
        go_wp2_with (first
          | (go_at_call 88; refine Hr.out.mono ?_; rintro e w1 ⟨rfl, hb⟩; have HB := Lib.hid hb; clear hb)
          | (go_at_call 107; refine (Hc.out _ HB.out).mono ?_; rintro e w2 ⟨rfl, hb⟩; have HB2 := Lib.hid (HB.out.trans (hb.mono HB.out.size)); clear hb))
        clear HB
        go_loopw [3, 4, 24] (fun f l i wr => ∃ k : Nat, k ≤ rs.length ∧ i = .int .i64 k ∧ f = .int .i64 (firstY (rs.take k)) ∧ l = .int .i64 (lastY (rs.take k)) ∧ Below w.heap.size w wr) (fun _ _ i _ => rs.length - (intOf i).toNat)
        case atStart => exact ⟨0, Nat.zero_le _, rfl, rfl, rfl, HB2.out⟩
        case round =>
          obtain ⟨k, hk, rfl, rfl, rfl, hb⟩ := hrel
          have HBr := Lib.hid hb; clear hb HB2
          obtain ⟨wo, rfl⟩ : ∃ wo : World, wo = wr := ⟨_, rfl⟩
          by_cases hkn : k < rs.length
          · obtain ⟨ad, hA, hadb, a0, a1, a2, a3, a4, a5, a6, a7, a8, a9, a10⟩ := rule_cells (H.out.below HBr.out) hkn
            subst hA
            have hf := firstY_succ rs k hkn
            have hl := lastY_succ rs k hkn
            have HF := Lib.hid (And.intro hf hl)
            clear hf hl
            generalize firstY (rs.take k) = f0 at *
            generalize lastY (rs.take k) = l0 at *
            generalize rs[k] = x at *
            obtain ⟨x0, x1, x2, x3, x4, x5, x6, x7, x8, x9, x10⟩ := x
            have hzo := HBr.out.size
            have hxb := Blk.new wo 59 #[.string x0, .int .i64 x1, .int .i64 x2, .int .i64 x3, .int .i64 x4, .int .i64 x5, .int .i64 x6, .int .i64 x7, .int .i64 x8, .int .i64 x9, .string x10]
            have hbb := HBr.out.alloc hzo (.cells #[.string x0, .int .i64 x1, .int .i64 x2, .int .i64 x3, .int .i64 x4, .int .i64 x5, .int .i64 x6, .int .i64 x7, .int .i64 x8, .int .i64 x9, .string x10] 59)
            have HBX := Lib.hid hbb
            have HX := Lib.hid hxb
            clear hbb hxb
            have cx := fun i => HX.out.cell i
            go_upto_region 7 with fail
            refine wp_region_noPanic ?_
            go_region
            have hxd := HX.out.drew
            have hbd := HBX.out.drew
            have HXd := Lib.hid hxd; have HBd := Lib.hid hbd
            clear hxd hbd cx
            generalize World.drew _ = wd at *
            have cx := fun i => HXd.out.cell i
            refine NoPanic.normal ?_
            by_cases h6 : x2 = 1000000
            · subst h6
              go_wp2
              refine ⟨⟨k + 1, by omega, by go_num, ?_, ?_, HBd.out⟩, by simp [intOf]; omega⟩
              · rw [HF.out.1]
                all_goals (congr 1; dsimp only; first | omega | (split <;> omega))
              · rw [HF.out.2]; simp only [lastY1, if_pos]
                all_goals (congr 1; first | omega | (split <;> omega))
            · have h6b : (x2 == 1000000) = false := by simp [h6]
              go_wp2
              refine ⟨⟨k + 1, by omega, by go_num, ?_, ?_, HBd.out⟩, by simp [intOf]; omega⟩
              · rw [HF.out.1]
                all_goals (congr 1; dsimp only; first | omega | (split <;> omega))
              · rw [HF.out.2]; simp only [lastY1, if_neg h6]; congr 1; first | omega | ((repeat' split) <;> omega)
          · obtain rfl : k = rs.length := by omega
            have hyb := HYb.out rs.length
            rw [List.take_length] at *
            have HTs := Lib.hid (fun (y : Int) (z : World) (hb : Below w.heap.size w z) => turns_any rs A c y z ((H.out.below hb).more hb.size) hn (.inl (Nat.le_trans (HCq.out y) (by omega))))
            have hln := fun (y : Int) => turnsL_len (HCq.out y)
            have hfl := first_last hne
            have HLn := Lib.hid hln
            clear hln
            generalize firstY rs = f0 at *
            generalize lastY rs = l0 at *
            go_wp2
            go_loopw [7, 8] (fun v y wr => ∃ (n : Nat) (had : List Turn) (A2 : Option Addr) (c2 : Nat), v = .slice A2 had.length c2 ∧ y = .int .i64 (l0 + 402 - n) ∧ n ≤ 20000 ∧ had.length ≤ 19 ∧ bdT had ∧ Reads wr wr.heap.size 4 A2 had.length (had.flatMap Turn.cells) ∧ nearYears rs n (l0 + 402 - n) had = Q ∧ Below w.heap.size w wr) (fun _ y _ => (l0 + 402 - intOf y).toNat)
            case atStart =>
              refine ⟨(l0 + 401 - f0 + 1).toNat, [], none, 0, rfl, ?_, by omega, by simp, by simp [bdT], Reads.none_, ?_, HBr.out⟩
              · congr 1; omega
              · rw [← HQ.out]; congr 1; omega
            case round =>
              obtain ⟨n, had, A2, c2, rfl, rfl, hn2, hl, hbd, hrd, hny, hb⟩ := hrel
              have HBd := Lib.hid hbd; have HRd := Lib.hid hrd; have HNy := Lib.hid hny; have HB2 := Lib.hid hb
              clear hbd hrd hny hb
              have hwr1 : IntKind.i64.wrap (l0 + 401) = l0 + 401 := IntWalk.i64_in _ (by omega)
              rcases n with _ | n
              · have hq : Q = false := HNy.out.symm
                subst hq
                have hle : ¬ (l0 + 402 - (0 : Nat) ≤ l0 + 401) := by omega
                clear HNy
                go_wp2
                go_ret
                exact ⟨rfl, HB2.out⟩
              · have hle : (l0 + 402 - ((n + 1 : Nat) : Int) ≤ l0 + 401) := by omega
                have hwr2 : IntKind.i64.wrap (l0 + 402 - ((n + 1 : Nat) : Int) + 1) = l0 + 402 - (n : Int) := by rw [show l0 + 402 - ((n + 1 : Nat) : Int) + 1 = l0 + 402 - n by omega]; exact IntWalk.i64_in _ (by omega)
                have hny2 := HNy.out
                rw [nearYears, show l0 + 402 - ((n + 1 : Nat) : Int) + 1 = l0 + 402 - n by omega] at hny2
                have HT := Lib.hid (HTs.out (l0 + 402 - ((n + 1 : Nat) : Int)) wr HB2.out)
                have hbd2 : bdT (turnsL rs (l0 + 402 - ((n + 1 : Nat) : Int))) := fun t ht => turnsL_bd ht
                have hl2 := HLn.out (l0 + 402 - ((n + 1 : Nat) : Int))
                have HN2 := Lib.hid hny2
                have HBd2 := Lib.hid hbd2
                clear hny2 hbd2 HNy
                generalize turnsL rs (l0 + 402 - ((n + 1 : Nat) : Int)) = now at *
                have HNr := Lib.hid (fun A c w1 h1 h2 h3 => nearer_any now had A A2 c c2 w1 h1 h2 (by omega) (by omega) h3 HBd2.out HBd.out)
                cases hnr : nearerB now had
                · rw [hnr] at HNr HN2
                  rw [Bool.false_or] at HN2
                  clear hnr
                  go_wp2_with (first
                    | (go_at_call 70; refine HT.out.mono ?_; rintro e w5 ⟨A5, c5, rfl, ho, hb⟩; have HB5 := Lib.hid (HB2.out.trans (hb.mono HB2.out.size)); have HR5 := Lib.hid (Reads.of_own ho); have hc5 := own_cap ho; have HRd5 := Lib.hid ((HRd.out.below hb).more hb.size); clear ho hb)
                    | (go_at_call 148; refine (HNr.out _ _ _ HR5.out HRd5.out hc5).mono ?_; rintro e w6 ⟨rfl, hb⟩; have HB6 := Lib.hid (HB5.out.trans (hb.mono HB5.out.size)); have HR6 := Lib.hid ((HR5.out.below hb).more hb.size); clear hb))
                  refine ⟨⟨n, now, A5, c5, rfl, by congr 1; omega, by omega, hl2, HBd2.out, HR6.out, HN2.out, HB6.out⟩, by simp only [intOf]; omega⟩
                · rw [hnr] at HNr HN2
                  rw [Bool.true_or] at HN2
                  clear hnr
                  have hq : Q = true := HN2.out.symm
                  subst hq
                  clear HN2
                  go_wp2_with (first
                    | (go_at_call 70; refine HT.out.mono ?_; rintro e w5 ⟨A5, c5, rfl, ho, hb⟩; have HB5 := Lib.hid (HB2.out.trans (hb.mono HB2.out.size)); have HR5 := Lib.hid (Reads.of_own ho); have hc5 := own_cap ho; have HRd5 := Lib.hid ((HRd.out.below hb).more hb.size); clear ho hb)
                    | (go_at_call 148; refine (HNr.out _ _ _ HR5.out HRd5.out hc5).mono ?_; rintro e w6 ⟨rfl, hb⟩; have HB6 := Lib.hid (HB5.out.trans (hb.mono HB5.out.size)); have HR6 := Lib.hid ((HR5.out.below hb).more hb.size); clear hb))
                  go_ret
                  exact ⟨rfl, HB6.out⟩
      · rw [he] at hQ hlc
        rw [Bool.not_true, Bool.false_and] at hQ
        subst hQ
        clear he
        go_wp2_with (first
          | (go_at_call 88; refine Hr.out.mono ?_; rintro e w1 ⟨rfl, hb⟩; have HB := Lib.hid hb; clear hb)
          | (go_at_call 107; refine (Hc.out _ HB.out).mono ?_; rintro e w2 ⟨rfl, hb⟩; have HB2 := Lib.hid (HB.out.trans (hb.mono HB.out.size)); clear hb))
        go_ret
        exact ⟨rfl, HB2.out⟩
    · rw [hc] at Hc hQ
      rw [Bool.not_true, Bool.false_and] at hQ
      subst hQ
      clear hc
      go_wp2_with (first
        | (go_at_call 88; refine Hr.out.mono ?_; rintro e w1 ⟨rfl, hb⟩; have HB := Lib.hid hb; clear hb)
        | (go_at_call 107; refine (Hc.out _ HB.out).mono ?_; rintro e w2 ⟨rfl, hb⟩; have HB2 := Lib.hid (HB.out.trans (hb.mono HB.out.size)); clear hb))
      go_ret
      exact ⟨rfl, HB2.out⟩
end Go.Proofs.YtdicedpklpadgaaGreatDoor.Rul
