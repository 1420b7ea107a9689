/-
  Package rules: the contracts of back and of its closure: a rule's turns of four years at most, the latest first. Conditions: bounded years.
-/
import Derived.RangeFuncNested
import Derived.RangeFuncBound
import Derived.RangeFuncCalls
import Derived.RangeFuncLeaves
import Derived.Shelf.Abstract
import Derived.Shelf.RegionOpen
import Derived.WalkKit
import Derived.OwnWalkIn
import Derived.TacticsInMore
import Derived.LoopNIn
import Derived.LoopIn
import Derived.Test.YtgfdmjldfahbpaaGreatDoorAhY
import Derived.Test.YtgfdmjldfahbpaaGreatDoorSrt
namespace Go.Proofs.YtgfdmjldfahbpaaGreatDoor.Ahd
open Go.RowKit Mem Civ Mom Img Rul
attribute [local go_sem] Oper.semAt_some

def lastY (r : Rule) (y : Int) : Int := min r.hi (y + 1)
/-- A rule's turns from a year's next one on back: of four years. -/
def partL (r : Rule) (y : Int) (k : Nat) : List Turn := (List.range k).filterMap fun i => turnL (lastY r y - (i : Nat)) r
def backL (r : Rule) (y : Int) : List Turn := partL r y 4
theorem partL_succ (r : Rule) (y : Int) (k : Nat) : partL r y (k + 1) = partL r y k ++ (turnL (lastY r y - (k : Nat)) r).toList := by
  unfold partL
  rw [List.range_succ, List.filterMap_append]
  cases h : turnL (lastY r y - (k : Nat)) r <;> simp [h]
theorem partL_pre (r : Rule) (y : Int) {j k : Nat} (h : j ≤ k) : partL r y j <+: partL r y k := by
  obtain ⟨d, rfl⟩ : ∃ d, k = j + d := ⟨k - j, by omega⟩
  clear h
  induction d with
  | zero => exact List.prefix_refl _
  | succ d ih =>
    rw [← Nat.add_assoc, partL_succ]
    exact ih.trans (List.prefix_append _ _)
theorem partL_len (r : Rule) (y : Int) (k : Nat) : (partL r y k).length ≤ k := by
  have := List.length_filterMap_le (fun i : Nat => turnL (lastY r y - (i : Nat)) r) (List.range k)
  simpa [partL] using this
theorem turnL_low {r : Rule} {y : Int} (h : y < r.lo) : turnL y r = none := by
  unfold turnL turnO
  have : decide (r.lo ≤ y ∧ y ≤ r.hi) = false := decide_eq_false (by omega)
  simp only [this, Bool.and_false]
  rfl
theorem partL_stop {r : Rule} {y : Int} {j : Nat} (h : lastY r y - (j : Nat) < r.lo) : ∀ d, partL r y (j + d) = partL r y j
  | 0 => rfl
  | d + 1 => by
    rw [← Nat.add_assoc, partL_succ, partL_stop h d, turnL_low (by omega)]
    simp
theorem partL_end {r : Rule} {y : Int} {j : Nat} (h : lastY r y - (j : Nat) < r.lo) (hj : j ≤ 4) : partL r y j = backL r y := by
  have := partL_stop h (4 - j)
  rw [show j + (4 - j) = 4 from by omega] at this
  exact this.symm
theorem _root_.Go.AbidesFrom.from {β : Type} {B B' : Nat} {J : β → World → Prop} (h : AbidesFrom B J) (hb : B ≤ B') : AbidesFrom B' J := fun s A C row hs hg hr => h s A C row hs hg fun r e => ⟨Nat.le_trans hb (hr r e).1, (hr r e).2⟩
/-- What a round keeps: the rule's box and the year's. -/
structure Keep (Br By : Nat) (W W' : World) : Prop where
  size : W.heap.size ≤ W'.heap.size
  r : W'.heap[Br]? = W.heap[Br]?
  y : W'.heap[By]? = W.heap[By]?
theorem Keep.refl (Br By : Nat) (W : World) : Keep Br By W W := ⟨Nat.le_refl _, rfl, rfl⟩
theorem Keep.trans {Br By : Nat} {A B C : World} (h : Keep Br By A B) (k : Keep Br By B C) : Keep Br By A C := ⟨Nat.le_trans h.size k.size, k.r.trans h.r, k.y.trans h.y⟩
theorem Keep.of {Br By : Nat} {A B : World} (h : Below A.heap.size A B) (h1 : Br < A.heap.size) (h2 : By < A.heap.size) : Keep Br By A B := ⟨h.size, h.block _ h1, h.block _ h2⟩
def encT (t : Turn) : Array Value := #[.agg #[.int .i64 t.at_, .int .i64 t.ref, .int .i64 t.save, .string t.letter]]
/-- What one round of the closure's loop is handed. -/
theorem part_none {r : Rule} {y : Int} {k : Nat} (h : (turnO r (lastY r y - (k : Nat))).2 = false) : partL r y (k + 1) = partL r y k := by
  rw [partL_succ, turnL, h]
  simp
theorem part_some {r : Rule} {y : Int} {k : Nat} (h : (turnO r (lastY r y - (k : Nat))).2 = true) : partL r y (k + 1) = partL r y k ++ [(turnO r (lastY r y - (k : Nat))).1] := by
  rw [partL_succ, turnL, h]
  simp
set_option maxRecDepth 100000 in
set_option maxHeartbeats 2000000 in
theorem back1_in (r : Rule) (y : Int) (n l Br By : Nat) (hlo : 1 ≤ r.lo) (hlo2 : r.lo ≤ 9999) (hhi : 1 ≤ r.hi) (hhi2 : r.hi ≤ 1000000) (hy1 : -1000000 ≤ y) (hy2 : y ≤ 1000000) (J Jx : List Turn → World → Prop) (W : World)
    (hJ : AbidesFrom W.heap.size J)
    (hY : ∀ pre x W1, J pre W1 → pre.length < 4 → YieldAt Fence.wide (n - 1) Tryz.prog l (encT x) W1 fun e W' =>
      (e = .returned (.bool true) ∧ J (pre ++ [x]) W' ∧ Keep Br By W1 W') ∨ (e = .returned (.bool false) ∧ Jx (pre ++ [x]) W'))
    (hr : Blk W Br 47 r.cells.toArray) (hy : Blk W By 3 #[.int .i64 y]) (h0 : J [] W) :
    CallsIn Fence.wide n Tryz.prog 164 #[.func (.yield l) #[] #[], .pointer (some ⟨Br, 0, none⟩), .pointer (some ⟨By, 0, none⟩)] W fun e W' => (∃ v, e = .returned v) ∧
      ((∃ ys, ys = backL r y ∧ J ys W') ∨ (∃ pre, pre <+: backL r y ∧ Jx pre W')) := by
  have hT := fun i z => turn_any r (lastY r y - (i : Nat)) z
  have hL : lastY r y = min r.hi (y + 1) := rfl
  have hStop := fun (k : Nat) h hk => partL_end (r := r) (y := y) (j := k) h hk
  have hNone := fun (k : Nat) => part_none (r := r) (y := y) (k := k)
  have hSome := fun (k : Nat) => part_some (r := r) (y := y) (k := k)
  have hlen := partL_len r y
  have hpre := fun (k : Nat) (hk : k ≤ 4) => partL_pre r y hk
  have hb4 : partL r y 4 = backL r y := rfl
  have h00 : partL r y 0 = [] := rfl
  obtain ⟨T, hTT⟩ : ∃ T : Nat → Turn, T = fun k => (turnO r (lastY r y - (k : Nat))).1 := ⟨_, rfl⟩
  obtain ⟨q, hqq⟩ : ∃ q : Nat → Bool, q = fun k => (turnO r (lastY r y - (k : Nat))).2 := ⟨_, rfl⟩
  have hT2 : ∀ (i : Nat) z, Calls Tryz.prog 97 #[.agg r.cells.toArray, .int .i64 (lastY r y - (i : Nat))] z fun e w' => e = .returned (.tuple #[.agg #[.int .i64 (T i).at_, .int .i64 (T i).ref, .int .i64 (T i).save, .string (T i).letter], .bool (q i)]) ∧ Below z.heap.size z w' := by
    intro i z
    rw [hTT, hqq]
    exact hT i z
  have hNone2 : ∀ k, q k = false → partL r y (k + 1) = partL r y k := fun k h => hNone k (by rw [hqq] at h; exact h)
  have hSome2 : ∀ k, q k = true → partL r y (k + 1) = partL r y k ++ [T k] := fun k h => by rw [hTT]; exact hSome k (by rw [hqq] at h; exact h)
  obtain ⟨PL, hPL⟩ : ∃ PL, PL = partL r y := ⟨_, rfl⟩
  rw [← hPL] at hStop hlen hpre hb4 h00 hNone2 hSome2
  rw [← hb4] at hStop ⊢
  obtain ⟨r0, r1, r2, r3, r4, r5, r6, r7, r8, r9, r10⟩ := r
  simp only [Rule.cells] at hr hT2 hlo hlo2 hhi hhi2 hL hStop
  obtain ⟨L, hLL⟩ : ∃ L, L = lastY ⟨r0, r1, r2, r3, r4, r5, r6, r7, r8, r9, r10⟩ y := ⟨_, rfl⟩
  rw [← hLL] at hL hT2 hStop
  have hLb : -1000000 ≤ L ∧ L ≤ 1000000 := by omega
  obtain ⟨hLb1, hLb2⟩ := hLb
  have HT := Lib.hid hT2; have HStop := Lib.hid hStop; have HNone := Lib.hid hNone2; have HSome := Lib.hid hSome2; have HLen := Lib.hid hlen; have HPre := Lib.hid hpre; have HJ := Lib.hid hJ; have HY := Lib.hid hY; have HR := Lib.hid hr; have H00 := Lib.hid h00; have HL := Lib.hid hL; have Hy := Lib.hid hy
  have hBr := hr.lt; have hBy := hy.lt; have cy := hy.cell 0
  simp only [List.getElem?_toArray, List.getElem?_cons_zero] at cy
  have c0 := fun i => hr.cell i
  clear hT hStop hNone hSome hlen hpre hb4 h00 hTT hqq hT2 hNone2 hSome2 hPL hLL hJ hY hL
  refine callsIn_of_wp Tryz.func164 rfl trivial ?_ rfl
  simp only [Tryz.ntmps164, List.size_toArray, List.length_cons, List.length_nil, Nat.reduceAdd, Nat.reduceSub, Array.replicate_succ, Array.replicate_zero, List.push_toArray, List.append_toArray, List.nil_append, List.cons_append]
  gi_wp2
  all_goals
    first
      | (rw [show y + 1 = L from by have := HL.out; omega])
      | (rw [show Value.int .i64 r2 = .int .i64 L from by have := HL.out; congr 1; omega])
    gi_loopw [5] (fun v wr => ∃ k : Nat, k ≤ 4 ∧ v = .int .i64 (L - (k : Nat)) ∧ J (PL k) wr ∧ Keep Br By W wr) (fun v _ => (intOf v - L + 5).toNat)
    case atStart => exact ⟨0, Nat.zero_le _, by simp, by rw [H00.out]; exact h0, Keep.refl _ _ _⟩
    case round =>
      obtain ⟨k, hk, rfl, hJs, hnx⟩ := hrel
      have hsz := hnx.size
      have hr2 : Blk wr Br 47 #[.string r0, .int .i64 r1, .int .i64 r2, .int .i64 r3, .int .i64 r4, .int .i64 r5, .int .i64 r6, .int .i64 r7, .int .i64 r8, .int .i64 r9, .string r10] := hnx.r.trans HR.out
      have hy2 : Blk wr By 3 #[.int .i64 y] := hnx.y.trans Hy.out
      have c1 := fun i => hr2.cell i
      have hyz := hy2.cell 0
      have hB1 := hr2.lt; have hB2 := hy2.lt
      clear c0 cy
      by_cases hlow : L - (k : Nat) < r1
      · have hd : decide (r1 ≤ L - (k : Nat)) = false := decide_eq_false (by omega)
        have he := HStop.out k hlow hk
        have HE := Lib.hid he
        clear he hlow
        gi_wp2
        go_end0
        exact ⟨⟨_, rfl⟩, .inl ⟨_, HE.out, hJs⟩⟩
      · have hd : decide (r1 ≤ L - (k : Nat)) = true := decide_eq_true (by omega)
        by_cases hk4 : k = 4
        · subst hk4
          have hd2 : decide (L - 4 < L - ((4 : Nat) : Int)) = false := decide_eq_false (by omega)
          gi_wp2
          go_end0
          exact ⟨⟨_, rfl⟩, .inl hJs⟩
        · have hd2 : decide (L - 4 < L - (k : Nat)) = true := decide_eq_true (by omega)
          cases hq : q k
          · have hN := HNone.out k hq
            have hTk := HT.out k
            rw [hq] at hTk
            have HTk := Lib.hid hTk
            have HN := Lib.hid hN
            clear hN hTk hq
            gi_wp2_with (refine ⟨trivial, fun h => (by cases h), ?_⟩; refine (callsIn_wide.2 (HTk.out _)).mono ?_; rintro e w1 ⟨rfl, hb⟩; have HB := Lib.hid hb; clear hb)
            refine ⟨fun _ h => (by cases h), ?_⟩
            gi_wp2
            go_roundw
            case rel =>
              refine ⟨k + 1, by omega, by go_num, ?_, ?_⟩
              · rw [HN.out]
                exact (HJ.out.from hsz) _ _ _ none ((HJ.out.from hsz) _ _ _ none hJs (gr_of_below HB.out) (fun r e => by cases e)) (World.grownBy_alloc _ _ none) (fun r e => by cases e)
              · exact hnx.trans (Keep.of (HB.out.alloc HB.out.size _) hB1 hB2)
            case measure => simp [intOf]; omega
          · have hN := HSome.out k hq
            have hTk := HT.out k
            rw [hq] at hTk
            have HTk := Lib.hid hTk
            have HN := Lib.hid hN
            clear hN hTk hq
            gi_wp2_with (refine ⟨trivial, fun h => (by cases h), ?_⟩; refine (callsIn_wide.2 (HTk.out _)).mono ?_; rintro e w1 ⟨rfl, hb⟩; have HB := Lib.hid hb; obtain ⟨fn, tmps, assign, body, hy, hRr⟩ := HY.out (PL k) (T k) (w1.alloc (.cells #[.int .i64 (T k).at_, .int .i64 (T k).ref, .int .i64 (T k).save, .string (T k).letter] 86)) ((HJ.out.from hsz) _ _ _ none ((HJ.out.from hsz) _ _ _ none hJs (gr_of_below hb) (fun r e => by cases e)) (World.grownBy_alloc _ _ none) (fun r e => by cases e)) (by have := HLen.out k; omega); simp only [encT] at hy; have HRr := Lib.hid hRr; clear hb hRr)
            refine ⟨fun h => (by cases h), HRr.out.mono ?_⟩
            rintro e W3 (⟨rfl, hJ3, hk3⟩ | ⟨rfl, hJx3⟩)
            · gi_wp2
              go_roundw
              case rel =>
                refine ⟨k + 1, by omega, by go_num, ?_, ?_⟩
                · rw [HN.out]
                  exact hJ3
                · exact (hnx.trans (Keep.of (HB.out.alloc HB.out.size _) hB1 hB2)).trans hk3
              case measure => simp [intOf]; omega
            · gi_wp2
              refine bodyPost_ret (results_none rfl _ _ _) rfl ?_
              exact ⟨⟨_, rfl⟩, .inr ⟨_, by rw [← HN.out]; exact HPre.out (k + 1) (by omega), hJx3⟩⟩
theorem back_any (r : Rule) (y : Int) (w : World) :
    Calls Tryz.prog 161 #[.agg r.cells.toArray, .int .i64 y] w fun e w' => e = .returned (.func (.func 164) #[] #[.pointer (some ⟨w.heap.size, 0, none⟩), .pointer (some ⟨w.heap.size + 1, 0, none⟩)]) ∧
      w' = (w.alloc (.cells r.cells.toArray 47)).alloc (.cells #[.int .i64 y] 3) := by
  go_enter Tryz.func161, Tryz.ntmps161
  go_wp2_with fail
  go_ret
  exact ⟨rfl, rfl⟩
theorem back_stops (r : Rule) (y : Int) (n Br By : Nat) (w : World) (hlo : 1 ≤ r.lo) (hlo2 : r.lo ≤ 9999) (hhi : 1 ≤ r.hi) (hhi2 : r.hi ≤ 1000000) (hy1 : -1000000 ≤ y) (hy2 : y ≤ 1000000)
    (hr : Blk w Br 47 r.cells.toArray) (hy : Blk w By 3 #[.int .i64 y]) :
    SeqStopsK Fence.wide n Tryz.prog 164 #[.pointer (some ⟨Br, 0, none⟩), .pointer (some ⟨By, 0, none⟩)] encT (Keep Br By) (fun ys => ys = backL r y) (fun pre => pre <+: backL r y) 4 w := fun l J Jx W hW hJ _ hY h0 =>
  back1_in r y n l Br By hlo hlo2 hhi hhi2 hy1 hy2 J Jx W hJ hY (hr.below hW hr.lt) (hy.below hW hy.lt) h0
end Go.Proofs.YtgfdmjldfahbpaaGreatDoor.Ahd
