/-
  The stable sort of turns that wait (package table): at a slice whose first elements have been cut off. Conditions: twenty turns at most.
  A range over a function whose iterator turns cells of its own between two rounds (a slice that it sorts): the caller's law. Conditions: the class of those blocks holds no loop's record and no block of deferred calls.
-/
import Derived.Test.YtdicedpklpadgaaGreatDoorY15
import Derived.Test.YtdicedpklpadgaaGreatDoorY31
import Derived.RangeFuncNested
import Derived.RangeFuncBound
import Derived.RangeFuncCalls
import Derived.RangeFuncLeaves
set_option linter.all false
section
namespace Go.Proofs.YtdicedpklpadgaaGreatDoor.Trn
open Go.RowKit Mem Civ Mom Img Rul Ahd Slo

def cmpM (a b : Int) : Int := max (min (a - b) 1) (-1)
set_option maxRecDepth 100000 in
theorem cmp_any (a b : Turn) (w : World) (ha : -9000000000000 ≤ a.at_ ∧ a.at_ ≤ 9000000000000) (hb : -9000000000000 ≤ b.at_ ∧ b.at_ ≤ 9000000000000) :
    Calls Tryz.prog 72 #[.agg a.cells.toArray, .agg b.cells.toArray] w fun e w' => e = .returned (.int .i64 (cmpM a.at_ b.at_)) ∧ Below w.heap.size w w' := by
  have hb2 := box2 w 113 113 a.cells.toArray b.cells.toArray
  obtain ⟨a0, a1, a2, a3⟩ := a
  obtain ⟨b0, b1, b2, b3⟩ := b
  simp only [Turn.cells] at hb2 ha hb ⊢
  obtain ⟨W, hW⟩ : ∃ W, (w.alloc (.cells #[.int .i64 a0, .int .i64 a1, .int .i64 a2, .string a3] 113)).alloc (.cells #[.int .i64 b0, .int .i64 b1, .int .i64 b2, .string b3] 113) = W := ⟨_, rfl⟩
  rw [hW] at hb2
  obtain ⟨k1, k2, hbb, hz⟩ := hb2
  have c1 := fun i => k1.cell i
  have c2 := fun i => k2.cell i
  have HB := Lib.hid hbb
  have hq : cmpM a0 b0 = max (min (a0 - b0) 1) (-1) := rfl
  have HQ := Lib.hid hq
  clear k1 k2 hbb hq
  obtain ⟨h1, h2⟩ := ha
  obtain ⟨h3, h4⟩ := hb
  go_enter Tryz.func72, Tryz.ntmps72
  go_wp2_with fail
  go_ret
  exact ⟨rfl, HB.out⟩
theorem swap_o (pv : List Value) (p q : List Turn) (a b : Turn) {o j : Nat} (ho : pv.length = o) (hj : p.length = j) :
    ((((((((pv ++ (p ++ a :: b :: q).flatMap Turn.cells).set (o + (j + 1) * 4) (.int .i64 a.at_)).set (o + (j + 1) * 4 + 1) (.int .i64 a.ref)).set (o + (j + 1) * 4 + 2) (.int .i64 a.save)).set (o + (j + 1) * 4 + 3) (.string a.letter)).set (o + j * 4) (.int .i64 b.at_)).set (o + j * 4 + 1) (.int .i64 b.ref)).set (o + j * 4 + 2) (.int .i64 b.save)).set (o + j * 4 + 3) (.string b.letter) = pv ++ (p ++ b :: a :: q).flatMap Turn.cells := by
  have h := swap_cells p q a b hj
  have e : ∀ (i : Nat) (u : Value) (M : List Value), (pv ++ M).set (o + i) u = pv ++ M.set i u := fun i u M => by
    rw [List.set_append_right _ _ (by omega), ho]; congr 2; omega
  rw [← h]
  simp only [Nat.add_assoc, e]
set_option maxHeartbeats 4000000 in
set_option maxRecDepth 100000 in
theorem insertO_any (pv : List Value) (ts : List Turn) (g o k0 c base : Nat) (w : World) (hp : pv.length = o ∧ o = k0 * 4) (hbd : ∀ t ∈ ts, -9000000000000 ≤ t.at_ ∧ t.at_ ≤ 9000000000000) (h : w.ownsRow base 113 4 (.slice (some ⟨g, 0, none⟩) (k0 + ts.length) (k0 + c)) (k0 + ts.length) (pv ++ ts.flatMap Turn.cells)) (hn : ts.length ≤ 1000) (h0 : 0 < ts.length) :
    Calls Tryz.prog 172 #[.slice (some ⟨g, o, none⟩) ts.length c, .int .i64 0, .int .i64 ts.length, .func (Fn.func 72) #[] #[]] w fun e w' =>
      e = .returned (.tuple #[]) ∧ w'.ownsRow base 113 4 (.slice (some ⟨g, 0, none⟩) (k0 + ts.length) (k0 + c)) (k0 + ts.length) (pv ++ (sortT ts).flatMap Turn.cells) ∧ w.grownBy w' (some g) := by
  have H := Lib.hid h; have Hp := Lib.hid hp; have Hbd := Lib.hid hbd
  clear h hp hbd
  go_enter Tryz.func172, Tryz.ntmps172
  go_wp2
  go_loopw [8] (fun i wr => ∃ k : Nat, 1 ≤ k ∧ k ≤ ts.length ∧ i = .int .i64 k ∧ wr.ownsRow base 113 4 (.slice (some ⟨g, 0, none⟩) (k0 + ts.length) (k0 + c)) (k0 + ts.length) (pv ++ (sortT (ts.take k) ++ ts.drop k).flatMap Turn.cells) ∧ w.grownBy wr (some g)) (fun i _ => ts.length - (intOf i).toNat)
  case atStart => exact ⟨1, Nat.le_refl _, h0, rfl, by rw [sortT_one]; exact H.out, World.grownBy.refl _ _⟩
  case round =>
    obtain ⟨k, hk1, hk, rfl, hown, hg⟩ := hrel
    have HO := Lib.hid hown; have HG := Lib.hid hg; clear hown hg
    by_cases hkn : k < ts.length
    · have hsl : (sortT (ts.take k)).length = k := by rw [sortT_length, List.length_take]; omega
      have hsn : sortT (ts.take (k + 1)) = insT (sortT (ts.take k)) ts[k] := by rw [List.take_succ_eq_append_getElem hkn, sortT_snoc]
      have hdr := List.drop_eq_getElem_cons hkn
      have Hsl := Lib.hid hsl; have Hsn := Lib.hid hsn; have Hdr := Lib.hid hdr
      clear hsl hsn hdr
      obtain ⟨wo, rfl⟩ : ∃ wo : World, wo = wr := ⟨_, rfl⟩
      go_wp2
      go_loopw [9] (fun i wi => ∃ j : Nat, j ≤ k ∧ i = .int .i64 j ∧ posT ts[k] (sortT (ts.take k)) k = posT ts[k] (sortT (ts.take k)) j ∧ wi.ownsRow base 113 4 (.slice (some ⟨g, 0, none⟩) (k0 + ts.length) (k0 + c)) (k0 + ts.length) (pv ++ (putT ts[k] (sortT (ts.take k)) j ++ ts.drop (k + 1)).flatMap Turn.cells) ∧ w.grownBy wi (some g)) (fun i _ => (intOf i).toNat)
      case atStart =>
        refine ⟨k, Nat.le_refl _, rfl, rfl, ?_, HG.out⟩
        have e : putT ts[k] (sortT (ts.take k)) k ++ ts.drop (k + 1) = sortT (ts.take k) ++ ts.drop k := by
          rw [Hdr.out, putT, List.take_of_length_le (by rw [Hsl.out]; exact Nat.le_refl _), List.drop_of_length_le (by rw [Hsl.out]; exact Nat.le_refl _)]
          simp only [List.append_assoc, List.cons_append, List.nil_append]
        rw [e]
        exact HO.out
      case round =>
        clear HO HG
        obtain ⟨j, hj, rfl, hpos, hown, hg⟩ := hrel
        have Hpos := Lib.hid hpos; have HO := Lib.hid hown; have HG := Lib.hid hg; clear hpos hown hg
        generalize hS : sortT (ts.take k) = S at *
        have HS := Lib.hid hS; clear hS
        have ad : ∀ n : Nat, Addr.add ⟨g, o, none⟩ n = ⟨g, o + n, none⟩ := fun n => by unfold Addr.add; split <;> simp_all
        rcases j with _ | jj
        · have hgt : decide ((0 : Int) < ((0 : Nat) : Int)) = false := rfl
          have hfp : sortT (ts.take (k + 1)) = putT ts[k] S 0 := by rw [Hsn.out, insT, Hsl.out, Hpos.out]; rfl
          have HFP := Lib.hid hfp
          clear hfp
          have inst : Nonempty (Qt.In (Below wr.heap.size wr)) := ⟨⟨_, Below.refl _ _⟩⟩
          go_wp2_with fail
          refine Qt.wp_region_cls (Below wr.heap.size wr) (by kernel_rfl) (by kernel_rfl) (below_dr (n := 1) (Below.refl _ _)) ?_
          repeat (go_big_quiet_step ((go_at_call 72; fail)))
          refine wpQuiet_nil ?_
          rintro wq ⟨⟨w9, hq⟩, e9⟩
          have hq2 : Below wr.heap.size wr wq := by rw [e9]; exact hq
          have HOq := Lib.hid (HO.out.kept (gr_of_below hq2) (.inr (by simp [Value.ownBlock])))
          have HGq := Lib.hid (gr_none HG.out (gr_of_below hq2))
          clear hq e9 hq2 inst
          go_wp2
          refine ⟨⟨k + 1, by omega, by omega, by go_num, ?_, HGq.out⟩, by simp [intOf]; omega⟩
          rw [HFP.out]
          exact HOq.out
        · have hjS : jj < S.length := by rw [Hsl.out]; omega
          have hx : ∀ i, i < 4 → wr.cell? ⟨g, o + (jj + 1) * 4 + i, none⟩ = ts[k].cells[i]? := fun i hi => by
            rw [HO.out.cellAt _ (by have := Hp.out; omega), List.getElem?_append_right (by have := Hp.out; omega), show o + (jj + 1) * 4 + i - pv.length = (jj + 1) * 4 + i from by have := Hp.out; omega, flat_get Turn.cells 4 (fun _ => rfl) _ (jj + 1) i hi, putT_at (by omega)]; rfl
          have he : ∀ i, i < 4 → wr.cell? ⟨g, o + jj * 4 + i, none⟩ = S[jj].cells[i]? := fun i hi => by
            rw [HO.out.cellAt _ (by have := Hp.out; omega), List.getElem?_append_right (by have := Hp.out; omega), show o + jj * 4 + i - pv.length = jj * 4 + i from by have := Hp.out; omega, flat_get Turn.cells 4 (fun _ => rfl) _ jj i hi, putT_ahead (by omega), List.getElem?_eq_getElem hjS]; rfl
          have hgl := (HO.out.lt g rfl).2
          have hbx := Hbd.out ts[k] (List.getElem_mem hkn)
          have hbe := Hbd.out S[jj] (by have := mem_sortT (l := ts.take k) (t := S[jj]) (by rw [HS.out]; exact List.getElem_mem hjS); exact List.mem_of_mem_take this)
          have hpg := fun (h : ts[k].at_ < S[jj].at_) => posT_go (x := ts[k]) (List.getElem?_eq_getElem hjS) h
          have hps := fun (h : ¬ ts[k].at_ < S[jj].at_) => posT_stay (x := ts[k]) (List.getElem?_eq_getElem hjS) h
          have Hpg := Lib.hid hpg; have Hps := Lib.hid hps
          have hsp := putT_split (x := ts[k]) hjS (ts.drop (k + 1))
          have Hsp := Lib.hid hsp
          clear hpg hps hsp
          generalize hxx : ts[k] = x at *
          have Hxx := Lib.hid hxx; clear hxx
          generalize hee : S[jj] = e at *
          have Hee := Lib.hid hee; clear hee
          obtain ⟨x0, x1, x2, x3⟩ := x
          obtain ⟨e0, e1, e2, e3⟩ := e
          have HC : Hid (∀ z, Below wr.heap.size wr z → Calls Tryz.prog 72 #[.agg #[.int .i64 x0, .int .i64 x1, .int .i64 x2, .string x3], .agg #[.int .i64 e0, .int .i64 e1, .int .i64 e2, .string e3]] z fun e z' => e = .returned (.int .i64 (cmpM x0 e0)) ∧ Below wr.heap.size wr z') := fun z h => (cmp_any ⟨x0, x1, x2, x3⟩ ⟨e0, e1, e2, e3⟩ z hbx hbe).mono fun e z' ⟨he, hb⟩ => ⟨he, h.trans (hb.mono h.size)⟩
          have inst : Nonempty (Qt.In (Below wr.heap.size wr)) := ⟨⟨_, Below.refl _ _⟩⟩
          clear hbx hbe
          have zx0 : ∀ z : Qt.In (Below wr.heap.size wr), z.w.cell? ⟨g, o + (jj + 1) * 4, none⟩ = some (.int .i64 x0) := fun z => (z.h.cell (p := ⟨g, o + (jj + 1) * 4, none⟩) hgl).trans (hx 0 (by omega))
          have zx1 : ∀ z : Qt.In (Below wr.heap.size wr), z.w.cell? ⟨g, o + (jj + 1) * 4 + 1, none⟩ = some (.int .i64 x1) := fun z => (z.h.cell (p := ⟨g, o + (jj + 1) * 4 + 1, none⟩) hgl).trans (hx 1 (by omega))
          have zx2 : ∀ z : Qt.In (Below wr.heap.size wr), z.w.cell? ⟨g, o + (jj + 1) * 4 + 2, none⟩ = some (.int .i64 x2) := fun z => (z.h.cell (p := ⟨g, o + (jj + 1) * 4 + 2, none⟩) hgl).trans (hx 2 (by omega))
          have zx3 : ∀ z : Qt.In (Below wr.heap.size wr), z.w.cell? ⟨g, o + (jj + 1) * 4 + 3, none⟩ = some (.string x3) := fun z => (z.h.cell (p := ⟨g, o + (jj + 1) * 4 + 3, none⟩) hgl).trans (hx 3 (by omega))
          have ze0 : ∀ z : Qt.In (Below wr.heap.size wr), z.w.cell? ⟨g, o + jj * 4, none⟩ = some (.int .i64 e0) := fun z => (z.h.cell (p := ⟨g, o + jj * 4, none⟩) hgl).trans (he 0 (by omega))
          have ze1 : ∀ z : Qt.In (Below wr.heap.size wr), z.w.cell? ⟨g, o + jj * 4 + 1, none⟩ = some (.int .i64 e1) := fun z => (z.h.cell (p := ⟨g, o + jj * 4 + 1, none⟩) hgl).trans (he 1 (by omega))
          have ze2 : ∀ z : Qt.In (Below wr.heap.size wr), z.w.cell? ⟨g, o + jj * 4 + 2, none⟩ = some (.int .i64 e2) := fun z => (z.h.cell (p := ⟨g, o + jj * 4 + 2, none⟩) hgl).trans (he 2 (by omega))
          have ze3 : ∀ z : Qt.In (Below wr.heap.size wr), z.w.cell? ⟨g, o + jj * 4 + 3, none⟩ = some (.string e3) := fun z => (z.h.cell (p := ⟨g, o + jj * 4 + 3, none⟩) hgl).trans (he 3 (by omega))
          have Hx := Lib.hid hx; have He := Lib.hid he
          clear hx he
          have hw1 : IntKind.i64.wrap (((jj + 1 : Nat) : Int) - 1) = (jj : Int) := by rw [show ((jj + 1 : Nat) : Int) - 1 = jj by omega]; exact IntWalk.i64_in _ (by omega)
          have hw2 : IntKind.i64.wrap (jj : Int) = jj := IntWalk.i64_in _ (by omega)
          have hgt : decide ((0 : Int) < ((jj + 1 : Nat) : Int)) = true := by simp <;> omega
          go_wp2_with fail
          refine Qt.wp_region_cls (Below wr.heap.size wr) (by kernel_rfl) (by kernel_rfl) (below_dr (n := 1) (Below.refl _ _)) ?_
          repeat (go_big_quiet_step ((go_at_call 72; exact Qt.quiet_cls (HC.out _ (Qt.In.h _)))))
          refine wpQuiet_nil ?_
          rintro wq ⟨⟨w9, hq⟩, e9⟩
          have hq2 : Below wr.heap.size wr wq := by rw [e9]; exact hq
          have HW := Lib.hid hq2
          have HOq := Lib.hid (HO.out.kept (gr_of_below hq2) (.inr (by simp [Value.ownBlock])))
          have HGq := Lib.hid (gr_none HG.out (gr_of_below hq2))
          clear hq e9 hq2 zx0 zx1 zx2 zx3 ze0 ze1 ze2 ze3 inst
          by_cases hlt : x0 < e0
          · have hcn : cmpM x0 e0 < 0 := by unfold cmpM; omega
            have hp := Hpg.out hlt
            have hpos2 := Hpos.out.trans hp
            have Hpos2 := Lib.hid hpos2
            clear hp hpos2 Hpos Hpg Hps
            have qx0 : wq.cell? ⟨g, o + (jj + 1) * 4, none⟩ = some (.int .i64 x0) := (HW.out.cell (p := ⟨g, o + (jj + 1) * 4, none⟩) hgl).trans (Hx.out 0 (by omega))
            have qx1 : wq.cell? ⟨g, o + (jj + 1) * 4 + 1, none⟩ = some (.int .i64 x1) := (HW.out.cell (p := ⟨g, o + (jj + 1) * 4 + 1, none⟩) hgl).trans (Hx.out 1 (by omega))
            have qx2 : wq.cell? ⟨g, o + (jj + 1) * 4 + 2, none⟩ = some (.int .i64 x2) := (HW.out.cell (p := ⟨g, o + (jj + 1) * 4 + 2, none⟩) hgl).trans (Hx.out 2 (by omega))
            have qx3 : wq.cell? ⟨g, o + (jj + 1) * 4 + 3, none⟩ = some (.string x3) := (HW.out.cell (p := ⟨g, o + (jj + 1) * 4 + 3, none⟩) hgl).trans (Hx.out 3 (by omega))
            have qe0 : wq.cell? ⟨g, o + jj * 4, none⟩ = some (.int .i64 e0) := (HW.out.cell (p := ⟨g, o + jj * 4, none⟩) hgl).trans (He.out 0 (by omega))
            have qe1 : wq.cell? ⟨g, o + jj * 4 + 1, none⟩ = some (.int .i64 e1) := (HW.out.cell (p := ⟨g, o + jj * 4 + 1, none⟩) hgl).trans (He.out 1 (by omega))
            have qe2 : wq.cell? ⟨g, o + jj * 4 + 2, none⟩ = some (.int .i64 e2) := (HW.out.cell (p := ⟨g, o + jj * 4 + 2, none⟩) hgl).trans (He.out 2 (by omega))
            have qe3 : wq.cell? ⟨g, o + jj * 4 + 3, none⟩ = some (.string e3) := (HW.out.cell (p := ⟨g, o + jj * 4 + 3, none⟩) hgl).trans (He.out 3 (by omega))
            have fq := fun i => HOq.out.frozenAt i
            go_wp2_with fail
            refine wp_region_noPanic ?_
            go_region
            clear qx0 qx1 qx2 qx3 qe0 qe1 qe2 qe3 fq
            have hown := HOq.out
            rw [Hsp.out.1] at hown
            have s1 := hown.stored (o + (jj + 1) * 4) (.int .i64 e0)
            have s2 := s1.1.stored (o + (jj + 1) * 4 + 1) (.int .i64 e1)
            have s3 := s2.1.stored (o + (jj + 1) * 4 + 2) (.int .i64 e2)
            have s4 := s3.1.stored (o + (jj + 1) * 4 + 3) (.string e3)
            have s5 := s4.1.stored (o + jj * 4) (.int .i64 x0)
            have s6 := s5.1.stored (o + jj * 4 + 1) (.int .i64 x1)
            have s7 := s6.1.stored (o + jj * 4 + 2) (.int .i64 x2)
            have s8 := s7.1.stored (o + jj * 4 + 3) (.string x3)
            have hsw := swap_o pv (S.take jj) (S.drop (jj + 1) ++ ts.drop (k + 1)) ⟨e0, e1, e2, e3⟩ ⟨x0, x1, x2, x3⟩ (j := jj) Hp.out.1 (by rw [List.length_take]; omega)
            have hgr := gr_trans HGq.out (gr_trans s1.2 (gr_trans s2.2 (gr_trans s3.2 (gr_trans s4.2 (gr_trans s5.2 (gr_trans s6.2 (gr_trans s7.2 s8.2)))))))
            have hfin := own_eq s8.1 (hsw.trans (congrArg (fun l => pv ++ List.flatMap Turn.cells l) Hsp.out.2.symm))
            have hfd := own_dr hfin
            have hgd := gr_dr hgr
            have HF := Lib.hid (And.intro hfd hgd)
            clear hfin hgr hsw s1 s2 s3 s4 s5 s6 s7 s8 hown hfd hgd
            generalize World.drew _ = W9 at *
            refine NoPanic.normal ?_
            go_wp2
            refine ⟨⟨jj, by omega, by go_num, Hpos2.out, HF.out.1, HF.out.2⟩, by simp [intOf]; try omega⟩
          · have hcn : ¬ cmpM x0 e0 < 0 := by unfold cmpM; omega
            have hfp : sortT (ts.take (k + 1)) = putT ⟨x0, x1, x2, x3⟩ S (jj + 1) := by rw [Hsn.out, insT, Hsl.out, Hpos.out, Hps.out (by omega)]
            have HFP := Lib.hid hfp
            clear hfp Hpos Hpg Hps HW
            go_wp2
            refine ⟨⟨k + 1, by omega, by omega, by go_num, ?_, HGq.out⟩, by simp [intOf]; omega⟩
            rw [HFP.out]
            exact HOq.out
    · obtain rfl : k = ts.length := by omega
      have hfin : sortT (ts.take ts.length) ++ ts.drop ts.length = sortT ts := by rw [List.take_length, List.drop_length, List.append_nil]
      rw [hfin] at HO
      clear hfin
      go_wp2
      go_end0
      exact ⟨rfl, HO.out, HG.out⟩
set_option maxRecDepth 100000 in
theorem insertO_none (A : Option Addr) (n c : Nat) (a : Int) (w : World) (h : ((n : Nat) : Int) ≤ a + 1) (ha : 0 ≤ a ∧ a ≤ 100) :
    Calls Tryz.prog 172 #[.slice A n c, .int .i64 a, .int .i64 n, .func (Fn.func 72) #[] #[]] w fun e w' =>
      e = .returned (.tuple #[]) ∧ w' = w := by
  obtain ⟨ha1, ha2⟩ := ha
  have hb : decide (a + 1 < ((n : Nat) : Int)) = false := decide_eq_false (by omega)
  clear h
  go_enter Tryz.func172, Tryz.ntmps172
  go_wp2
  go_loopw [8] (fun i wr => i = .int .i64 (a + 1) ∧ wr = w) (fun _ _ => 0)
  case atStart => exact ⟨rfl, rfl⟩
  case round =>
    obtain ⟨rfl, rfl⟩ := hrel
    go_wp2
    go_end0
    exact ⟨rfl, rfl⟩
/-- What the sort leaves. -/
def SortO (ts : List Turn) (A : Option Addr) (c base : Nat) (w : World) (e : Ending) (w' : World) : Prop :=
  e = .returned (.tuple #[]) ∧ OwnO w' base 113 4 A ts.length c ((sortT ts).flatMap Turn.cells) ∧ w.grownBy w' (blockO A c)
theorem sortT_short {ts : List Turn} (h : ts.length ≤ 1) : sortT ts = ts := by
  have := sortT_one ts
  rw [List.take_of_length_le h, List.drop_of_length_le h, List.append_nil] at this
  exact this
theorem insertO_sort (ts : List Turn) (A : Option Addr) (c base : Nat) (w : World) (h : OwnO w base 113 4 A ts.length c (ts.flatMap Turn.cells)) (hn : ts.length ≤ 20) (hbd : ∀ t ∈ ts, -9000000000000 ≤ t.at_ ∧ t.at_ ≤ 9000000000000) :
    Calls Tryz.prog 172 #[.slice A ts.length c, .int .i64 0, .int .i64 ts.length, .func (Fn.func 72) #[] #[]] w (SortO ts A c base w) := by
  by_cases h0 : ts.length = 0
  · exact (insertO_none A ts.length c 0 w (by omega) (by omega)).mono fun e w' ⟨he, hw⟩ => ⟨he, by rw [hw, sortT_short (by omega)]; exact h, by rw [hw]; exact World.grownBy.refl _ _⟩
  · rcases h with ⟨h1, _⟩ | ⟨g, k, ps, rfl, hp, ho⟩
    · omega
    · have h4 := insertO_any ps ts g (k * 4) k c base w ⟨hp, rfl⟩ hbd ho (by omega) (by omega)
      have hc : c ≠ 0 := by
        have := OwnO.cap (w := w) (.inr ⟨g, k, ps, rfl, hp, ho⟩)
        omega
      exact h4.mono fun e w' ⟨he, h5, h6⟩ => ⟨he, .inr ⟨g, k, ps, rfl, hp, h5⟩, by unfold blockO; rw [if_neg hc]; exact h6⟩
set_option maxRecDepth 100000 in
theorem stableO_any (ts : List Turn) (A : Option Addr) (c base : Nat) (w : World) (h : OwnO w base 113 4 A ts.length c (ts.flatMap Turn.cells)) (hn : ts.length ≤ 20) (hbd : ∀ t ∈ ts, -9000000000000 ≤ t.at_ ∧ t.at_ ≤ 9000000000000) :
    Calls Tryz.prog 120 #[.slice A ts.length c, .int .i64 ts.length, .func (Fn.func 72) #[] #[]] w (SortO ts A c base w) := by
  have hi := insertO_sort ts A c base w h hn hbd
  have hs := fun (h2 : ts.length = 20) z => insertO_none A ts.length c 20 z (by omega) (by omega)
  clear h hbd
  go_enter Tryz.func120, Tryz.ntmps120
  go_wp2
  by_cases h2 : ts.length = 20
  · have hc : ((ts.length : Nat) : Int) = 20 := by omega
    have hs2 := hs h2
    obtain ⟨N, hN⟩ : ∃ N : Int, ((ts.length : Nat) : Int) = N := ⟨_, rfl⟩
    rw [hN] at hi hs2 ⊢
    have hN20 : N = 20 := by omega
    have hi2 : Calls Tryz.prog 172 #[.slice A ts.length c, .int .i64 0, .int .i64 20, .func (Fn.func 72) #[] #[]] w (SortO ts A c base w) := by rw [← hN20]; exact hi
    have HI := Lib.hid hi2; have HS := Lib.hid hs2
    have hb1 : decide ((20 : Int) ≤ N) = true := decide_eq_true (by omega)
    have hb2 : decide ((40 : Int) ≤ N) = false := decide_eq_false (by omega)
    have hb3 : decide ((20 : Int) < N) = false := decide_eq_false (by omega)
    clear hi hs hs2 hi2 hc hN h2 hN20
    go_loopw [7, 8] (fun a b wr => (a = .int .i64 0 ∧ b = .int .i64 20 ∧ wr = w) ∨ (a = .int .i64 20 ∧ b = .int .i64 40 ∧ SortO ts A c base w (.returned (.tuple #[])) wr)) (fun a _ _ => (20 - intOf a).toNat)
    case atStart => exact .inl ⟨rfl, rfl, rfl⟩
    case round =>
      rcases hrel with ⟨rfl, rfl, rfl⟩ | ⟨rfl, rfl, hS⟩
      · go_wp2_with (go_at_call 172; refine HI.out.mono ?_; rintro e w1 ⟨rfl, ho, hg⟩; have HO := Lib.hid (And.intro ho hg); clear ho hg)
        exact ⟨.inr ⟨rfl, rfl, rfl, HO.out.1, HO.out.2⟩, by simp [intOf]⟩
      · have HSo := Lib.hid hS
        clear hS
        go_wp2_with (go_at_call 172; refine (HS.out _).mono ?_; rintro e w1 ⟨rfl, rfl⟩)
        go_loopw [6] (fun a wr => a = .int .i64 20 ∧ wr = w1) (fun _ _ => 0)
        case atStart => exact ⟨rfl, rfl⟩
        case round =>
          obtain ⟨rfl, rfl⟩ := hrel
          go_wp2
          go_end0
          exact HSo.out
  · have HI := Lib.hid hi
    clear hs hi
    go_loopw [7, 8] (fun a b wr => a = .int .i64 0 ∧ b = .int .i64 20 ∧ wr = w) (fun _ _ _ => 0)
    case atStart => exact ⟨rfl, rfl, rfl⟩
    case round =>
      obtain ⟨rfl, rfl, rfl⟩ := hrel
      go_wp2_with (go_at_call 172; refine HI.out.mono ?_; rintro e w1 ⟨rfl, ho, hg⟩; have HO := Lib.hid (And.intro ho hg); clear ho hg)
      go_loopw [6] (fun a wr => a = .int .i64 20 ∧ wr = w1) (fun _ _ => 0)
      case atStart => exact ⟨rfl, rfl⟩
      case round =>
        obtain ⟨rfl, rfl⟩ := hrel
        go_wp2
        go_end0
        exact ⟨rfl, HO.out.1, HO.out.2⟩
set_option maxRecDepth 100000 in
theorem sortO_any (ts : List Turn) (A : Option Addr) (c base : Nat) (w : World) (h : OwnO w base 113 4 A ts.length c (ts.flatMap Turn.cells)) (hn : ts.length ≤ 20) (hbd : ∀ t ∈ ts, -9000000000000 ≤ t.at_ ∧ t.at_ ≤ 9000000000000) :
    Calls Tryz.prog 71 #[.slice A ts.length c, .func (Fn.func 72) #[] #[]] w (SortO ts A c base w) := by
  have Hi := Lib.hid (stableO_any ts A c base w h hn hbd)
  clear h hbd
  go_enter Tryz.func71, Tryz.ntmps71
  go_wp2_with (go_at_call 120; refine Hi.out.mono ?_; rintro e w1 ⟨rfl, ho, hg⟩; have HO := Lib.hid (And.intro ho hg); clear ho hg)
  go_end0
  exact ⟨rfl, HO.out.1, HO.out.2⟩
end Go.Proofs.YtdicedpklpadgaaGreatDoor.Trn
end
section
namespace Go.Proofs.YtdicedpklpadgaaGreatDoor.Rng
open Go Go.RowKit

/-- A word on worlds that abides the turn of a block of a class, laid since. -/
def AbidesC {β : Type} (cls : Obj → Prop) (B : Nat) (J : β → World → Prop) : Prop :=
  ∀ s W W' row, J s W → W.grownBy W' row → (∀ r, row = some r → B ≤ r ∧ ∃ o : Obj, W.heap[r]? = some o ∧ cls o) → J s W'
theorem AbidesC.mono {β : Type} {cls : Obj → Prop} {B B' : Nat} {J : β → World → Prop} (h : AbidesC cls B J) (hb : B ≤ B') : AbidesC cls B' J :=
  fun s W W' row hs hg hr => h s W W' row hs hg fun r e => ⟨Nat.le_trans hb (hr r e).1, (hr r e).2⟩
/-- The contract of such an iterator. -/
def SeqC {α : Type} (cls : Obj → Prop) (F : Fence) (n : Nat) (P : Program) (g : Nat) (lb : Array Value) (encs : α → Array Value) (Kp : World → World → Prop) (S Sp : List α → Prop) (N : Nat) (w : World) : Prop :=
  ∀ (l : Nat) (J Jx : List α → World → Prop) (W : World), Below w.heap.size w W → AbidesC cls W.heap.size J → AbidesC cls W.heap.size Jx →
    (∀ pre x W1, J pre W1 → pre.length < N → Sp (pre ++ [x]) → YieldAt F (n - 1) P l (encs x) W1 fun e W' =>
      (e = .returned (.bool true) ∧ J (pre ++ [x]) W' ∧ Kp W1 W') ∨ (e = .returned (.bool false) ∧ Jx (pre ++ [x]) W')) →
    J [] W →
    CallsIn F n P g (#[.func (.yield l) #[] #[]] ++ lb) W fun e W' => (∃ v, e = .returned v) ∧ ((∃ xs, S xs ∧ J xs W') ∨ (∃ pre, Sp pre ∧ Jx pre W'))

variable {F : Fence} {n : Nat} {P : Program}
/-- A body that only goes on: the law (no jump leaves the loop). -/
theorem wpIn_rangeC {α : Type} {cls : Obj → Prop} (hcls : ∀ o, cls o → (∀ r, o ≠ .loop r) ∧ ∀ d, o ≠ .deferred d) {g : Operand} {ps : Array Tmp} {assign body : Code} {Q : Exit → Act → World → Prop} {a : Act} {w : World}
    (hro : F.round = none) (h1 : 1 ≤ n) {gf : Nat} {lb : Array Value} (hg : a.eval g = .func (.func gf) #[] lb) (hFg : F.fn gf) (eg : ∀ args w, (callFunc gf args).run P w = .ok (.enter gf args) w)
    {encs : α → Array Value} {Kp : World → World → Prop} {S Sp : List α → Prop} {N : Nat} {w0 : World} (hseq : SeqC cls F (n - 1) P gf lb encs Kp S Sp N w0)
    (hKt : ∀ {A B C : World}, Kp A B → Kp B C → Kp A C) (hKb : ∀ (W : World) (l : Nat) (r : Loop) (o' : Obj), w.heap.size ≤ l → W.heap[l]? = some (.loop r) → Kp W (W.putObj l o')) (hb0 : Below w0.heap.size w0 w) (hps : ∀ x, (encs x).size = ps.size)
    (I : List α → World → Prop)
    (hI : ∀ s W W' row, I s W → W.grownBy W' row → (∀ r, row = some r → w.heap.size ≤ r ∧ ∃ o : Obj, W.heap[r]? = some o ∧ (o.isCells = false ∨ cls o)) → I s W') (h0 : I [] w) (Ax : α → Act → World → Prop)
    (hAx : ∀ x a' W l r o', Ax x a' W → w.heap.size ≤ l → W.heap[l]? = some (.loop r) → Ax x a' (W.putObj l o'))
    (hassign : ∀ (l : Nat) (pre : List α) (x : α) (W : World) (K : Act → World → Prop), I pre W → (∀ a' W', KeepsFrom w.heap.size W W' → Kp W W' → I pre W' → Ax x a' W' → K a' W') →
      assign.wpIn (F.inRound l) (n - 1 - 1) P (Exit.then K (fun _ _ _ => False)) { tmps := (ps.zip (encs x)).foldl (fun t (p, v) => t.setIfInBounds p v) a.tmps, defers := [] } W)
    (hbody : ∀ (l : Nat) (pre : List α) (x : α) (a' : Act) (W : World), I pre W → Ax x a' W → pre.length < N → Sp (pre ++ [x]) → body.wpIn (F.inRound l) (n - 1 - 1) P (ownPostG w.heap.size Kp I (fun _ _ _ => False) (pre ++ [x]) W) a' W)
    (hdone : ∀ (D : Nat) (xs : List α) (W : World), w.heap.size ≤ D → S xs → I xs W → W.heap[D]? = some (.deferred (some [])) → Q .normal { a with defers := { target := .collected D, args := #[] } :: a.defers } W) :
    (Code.rangeFunc g ps assign body).wpIn F n P Q a w := by
  have putI : ∀ (s : List α) (W : World) (l : Nat) (r : Loop) (o' : Obj), I s W → w.heap.size ≤ l → W.heap[l]? = some (.loop r) → I s (W.putObj l o') := fun s W l r o' hs hB hl =>
    hI s W _ (some l) hs (grownBy_putObj' W l o') (fun k e => by cases e; exact ⟨hB, _, hl, .inl rfl⟩)
  refine wpIn_rangeFunc ?_
  intro fn hfn
  rw [hro]
  -- the record of this loop, and the block for the rounds' deferred calls
  let rec_ : LoopState → Option Code → Loop := fun st pe => { state := st, pending := pe, fn, tmps := a.tmps, params := ps, assign, body, defers := w.heap.size }
  obtain ⟨L, hL⟩ : ∃ L, L = w.heap.size + 1 := ⟨_, rfl⟩
  obtain ⟨V, hV⟩ : ∃ V, (w.alloc (.deferred (some []))).alloc (.loop (rec_ .ready none)) = V := ⟨_, rfl⟩
  have rdy : V.heap[L]? = some (.loop (rec_ .ready none)) ∧ V.heap[w.heap.size]? = some (.deferred (some [])) := by
    have e := World.alloc_heap_new (w.alloc (.deferred (some []))) (.loop (rec_ .ready none))
    rw [World.size_alloc] at e
    rw [← hV, hL]
    exact ⟨e, (Below.heap_alloc _ _ _ (by simp)).trans (World.alloc_heap_new w _)⟩
  have hVz : w.heap.size ≤ V.heap.size := by rw [← hV]; simp; omega
  have iV : I [] V := by
    rw [← hV]
    exact hI _ _ _ none (hI _ _ _ none h0 (World.grownBy_alloc _ _ none) (fun r e => by cases e)) (World.grownBy_alloc _ _ none) (fun r e => by cases e)
  have bV : Below w0.heap.size w0 V := by
    rw [← hV]; exact hb0.trans ((((Below.refl _ w).alloc (Nat.le_refl _) _).alloc (by simp) _).mono hb0.size)
  refine ⟨L, [{ target := .collected w.heap.size, args := #[] }], V, { target := .fn (.func gf) lb, args := #[.func (.yield L) #[] #[]] }, V, gf, #[.func (.yield L) #[] #[]] ++ lb, V, ?_, ?_, ?_, ?_, fun _ => h1, ?_⟩
  · rw [← hV, hL]; exact run_enterLoop_outer _ _ _ _ _
  · simp only [resolve, hg]
    simp [go_sem]
  · intro f' hf'; simp [Target.leads] at hf'; subst hf'; exact hFg
  · simp [invoke, go_sem, eg]
  · -- what the two blocks of book-keeping abide
    have stay : ∀ {A B : World} {row : Option Nat} {k : Nat} {o : Obj}, A.grownBy B row → (∀ r, row = some r → V.heap.size ≤ r ∧ ∃ o : Obj, A.heap[r]? = some o ∧ cls o) → A.heap[k]? = some o → ((∃ r, o = .loop r) ∨ ∃ d, o = .deferred d) → B.heap[k]? = some o := by
      intro A B row k o hgr hr hk ho
      rw [hgr.block k (Array.getElem?_eq_some_iff.1 hk).1 ?_]
      · exact hk
      · intro e
        obtain ⟨_, o2, h2, h3⟩ := hr k e.symm
        rw [hk] at h2
        injection h2 with h2
        subst h2
        rcases ho with ⟨r, rfl⟩ | ⟨d, rfl⟩
        · exact (hcls _ h3).1 r rfl
        · exact (hcls _ h3).2 d rfl
    have widen : ∀ {A : World} {row : Option Nat}, (∀ r, row = some r → V.heap.size ≤ r ∧ ∃ o : Obj, A.heap[r]? = some o ∧ cls o) → (∀ r, row = some r → w.heap.size ≤ r ∧ ∃ o : Obj, A.heap[r]? = some o ∧ (o.isCells = false ∨ cls o)) :=
      fun hr r e => by obtain ⟨hB, o, ho, hw⟩ := hr r e; exact ⟨Nat.le_trans hVz hB, o, ho, .inr hw⟩
    refine (hseq L (fun pre W => I pre W ∧ W.heap[L]? = some (.loop (rec_ .ready none)) ∧ W.heap[w.heap.size]? = some (.deferred (some []))) (fun _ _ => False) V bV
      (fun s A B row hs hgr hr => ⟨hI s A B row hs.1 hgr (widen hr), stay hgr hr hs.2.1 (.inl ⟨_, rfl⟩), stay hgr hr hs.2.2 (.inr ⟨_, rfl⟩)⟩)
      (fun _ _ _ _ hs _ _ => hs.elim) ?_ ⟨iV, rdy⟩).mono ?_
    · rintro pre x W ⟨hi, hl, hk⟩ hlen hsp
      have hlt : L < W.heap.size := (Array.getElem?_eq_some_iff.1 hl).1
      have hy := run_yield (P := P) (args := encs x) hl (hps x)
      refine ⟨fn, _, assign, body, hy, roundIn_of_wpIn hfn (hassign L pre x W _ hi ?_)⟩
      intro a' Wa kfa kpa hia hxa
      replace hl := kfa.same _ _ (by omega) hl rfl
      replace hk := kfa.same _ _ (Nat.le_refl _) hk rfl
      replace hlt : L < Wa.heap.size := (Array.getElem?_eq_some_iff.1 hl).1
      refine ⟨_, run_beginRound hl rfl, ?_⟩
      obtain ⟨Wb, hWb⟩ : ∃ Wb, Wa.putObj L (.loop { rec_ .ready none with state := .busy }) = Wb := ⟨_, rfl⟩
      have hl2 : Wb.heap[L]? = some (.loop { rec_ .ready none with state := .busy }) := by rw [← hWb]; exact World.putObj_heap_same hlt
      have hk2 : Wb.heap[w.heap.size]? = some (.deferred (some [])) := by rw [← hWb]; exact (World.putObj_heap_other (by omega)).trans hk
      have ib : I pre Wb := by rw [← hWb]; exact putI _ _ _ _ _ hia (by omega) hl
      have kb : Kp W Wb := by rw [← hWb]; exact hKt kpa (hKb _ _ _ _ (by omega) hl)
      have xb : Ax x a' Wb := by rw [← hWb]; exact hAx _ _ _ _ _ _ hxa (by omega) hl
      rw [hWb]
      refine wpIn_mono (hbody L pre x a' Wb ib xb hlen hsp) ?_
      rintro e a3 W3 hp
      cases e with
      | normal =>
        obtain ⟨hk3, hkp3, hi3⟩ := hp
        have hl3 := hk3.same _ _ (by omega) hl2 rfl
        have hd3 := hk3.same _ _ (Nat.le_refl _) hk2 rfl
        have hr := run_endRound (P := P) none hl3
        exact ⟨_, _, hr, .inl ⟨rfl, ⟨putI _ _ _ _ _ hi3 (by omega) hl3, World.putObj_heap_same (Array.getElem?_eq_some_iff.1 hl3).1, (World.putObj_heap_other (by omega)).trans hd3⟩, hKt kb (hKt hkp3 (hKb _ _ _ _ (by omega) hl3))⟩⟩
      | ret => exact hp.2.elim
      | exit id => exact hp.2.elim
      | goto t => exact hp.2.elim
      | panic ch => exact hp.elim
      | outgrown => exact hp.elim
    · rintro e W2 ⟨⟨v, rfl⟩, (⟨xs, hS, hi, hl, hk⟩ | ⟨pre, _, h⟩)⟩
      · exact ⟨none, _, run_endLoop (P := P) hl (by simp [rec_]), hdone _ xs _ (Nat.le_refl _) hS (putI _ _ _ _ _ hi (by omega) hl) ((World.putObj_heap_other (by omega)).trans hk)⟩
      · exact h.elim
end Go.Proofs.YtdicedpklpadgaaGreatDoor.Rng
end
