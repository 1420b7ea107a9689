/-
  The document's turns (analemmaref11): the contract of Turn. Conditions: none.
  The document's turns of a year (analemmaref11.Turns): the contract. Conditions: what the slice holds is read, its length is bounded.
  Whether two turns lie near, by the document (analemmaref11.Near): the contract. Conditions: what the slice holds is read, its length is bounded; the rules are right.
  The document's word that turns lie near, and the program's: one answer (plain). Conditions: right rules, not crowded, at least one.
-/
import Derived.Test.YtdicedpklpadgaaGreatDoorY09
import Derived.Test.YtdicedpklpadgaaGreatDoorY05
import Derived.Test.YtdicedpklpadgaaGreatDoorY12
import Derived.Test.YtdicedpklpadgaaGreatDoorY06
set_option linter.all false
namespace Go.Proofs.YtdicedpklpadgaaGreatDoor.R11
open Go.RowKit Mem Civ Mom Img Rul Src

def turnV (o : Option Turn) : Value := match o with
  | some t => .tuple #[.agg t.cells.toArray, .bool true]
  | none => .tuple #[.agg #[.int .i64 0, .int .i64 0, .int .i64 0, .string ⟨#[]⟩], .bool false]
theorem turnL_out {r : Rule} {y : Int} (h : y < r.lo ∨ r.hi < y) : turnL y r = none := by
  unfold turnL turnO
  rw [if_neg]
  rw [decide_eq_false (by omega), Bool.and_false]
  exact Bool.false_ne_true
theorem turnL_in {r : Rule} {y : Int} (h1 : r.lo ≤ y) (h2 : y ≤ r.hi) : turnL y r = (localO (spotOf r) y).map fun n => ⟨n, r.ref, r.save, r.letter⟩ := by
  unfold turnL turnO
  rw [decide_eq_true (And.intro h1 h2), Bool.and_true]
  cases localO (spotOf r) y <;> rfl
theorem turn_results {w : World} {R0 : Nat} {a0 a1 a2 a3 : Value} {b : Bool} (h : Blk w R0 113 #[a0, a1, a2, a3]) (tmps : Array Value) (ht : tmps[4]? = some (.pointer (some ⟨R0, 0, none⟩))) (h5 : tmps[5]? = some (.bool b)) : (results Tryz.f138 tmps).run Tryz.prog w = .ok (.tuple #[.agg #[a0, a1, a2, a3], .bool b]) w := by
  have hc := fun i => h.cell i
  simp [results, Tryz.results138, go_sem, hc, ht, h5]
set_option maxHeartbeats 4000000 in
set_option maxRecDepth 100000 in
theorem turn_any (r : Rule) (y : Int) (w : World) : Calls Tryz.prog 138 #[.agg r.cells.toArray, .int .i64 y] w fun e w' => e = .returned (turnV (turnL y r)) ∧ Below w.heap.size w w' := by
  have HL := Lib.hid (fun z => R09.local_any (spotOf r) y z)
  have hb2 := box2 w 59 113 r.cells.toArray #[.int .i64 0, .int .i64 0, .int .i64 0, .string ⟨#[]⟩]
  have hout := @turnL_out r y
  have hin := @turnL_in r y
  obtain ⟨R, hR⟩ : ∃ R, turnL y r = R := ⟨_, rfl⟩
  rw [hR] at hout hin ⊢
  have HIn := Lib.hid hin; have HOut := Lib.hid hout
  clear hR hin hout
  cases hl : localO (spotOf r) y
  all_goals rw [hl] at HL HIn
  all_goals clear hl
  all_goals obtain ⟨r0, r1, r2, r3, r4, r5, r6, r7, r8, r9, r10⟩ := r
  all_goals simp only [Rule.cells, Spot.cells, spotOf, dayV, Option.map_none, Option.map_some] at HL hb2 HIn HOut ⊢
  all_goals obtain ⟨W, hW⟩ : ∃ W, (w.alloc (.cells #[.string r0, .int .i64 r1, .int .i64 r2, .int .i64 r3, .int .i64 r4, .int .i64 r5, .int .i64 r6, .int .i64 r7, .int .i64 r8, .int .i64 r9, .string r10] 59)).alloc (.cells #[.int .i64 0, .int .i64 0, .int .i64 0, .string ⟨#[]⟩] 113) = W := ⟨_, rfl⟩
  all_goals rw [hW] at hb2
  all_goals obtain ⟨b1, b2, hb, hz⟩ := hb2
  all_goals have HB1 := Lib.hid b1; have HB2 := Lib.hid b2; have HB := Lib.hid hb
  all_goals have c1 := fun i => b1.cell i
  all_goals have e2 := fun i => b2.cell i
  all_goals have f2 := fun i => b2.frozen i
  all_goals clear b1 b2 hb
  all_goals go_enter Tryz.func138, Tryz.ntmps138
  rotate_left
  rename_i n
  · by_cases h1 : y < r1
    · have hr : R = none := HOut.out (.inl h1)
      subst hr
      clear HOut HIn
      go_wp2
      have hf := (((HB2.out.set_ 0 (.int .i64 0)).set_ 1 (.int .i64 0)).set_ 2 (.int .i64 0)).set_ 3 (.string ⟨#[]⟩)
      simp only [List.setIfInBounds_toArray, List.set_cons_succ, List.set_cons_zero] at hf
      have hbe := (((HB.out.setCell (p := ⟨w.heap.size + 1, 0, none⟩) (by simp) (.int .i64 0)).setCell (p := ⟨w.heap.size + 1, 1, none⟩) (by simp) (.int .i64 0)).setCell (p := ⟨w.heap.size + 1, 2, none⟩) (by simp) (.int .i64 0)).setCell (p := ⟨w.heap.size + 1, 3, none⟩) (by simp) (.string ⟨#[]⟩)
      refine bodyPost_ret (turn_results hf _ rfl rfl) rfl ?_
      exact ⟨rfl, hbe⟩
    · by_cases h2 : r2 < y
      · have hr : R = none := HOut.out (.inr h2)
        subst hr
        clear HOut HIn
        go_wp2
        have hf := (((HB2.out.set_ 0 (.int .i64 0)).set_ 1 (.int .i64 0)).set_ 2 (.int .i64 0)).set_ 3 (.string ⟨#[]⟩)
        simp only [List.setIfInBounds_toArray, List.set_cons_succ, List.set_cons_zero] at hf
        have hbe := (((HB.out.setCell (p := ⟨w.heap.size + 1, 0, none⟩) (by simp) (.int .i64 0)).setCell (p := ⟨w.heap.size + 1, 1, none⟩) (by simp) (.int .i64 0)).setCell (p := ⟨w.heap.size + 1, 2, none⟩) (by simp) (.int .i64 0)).setCell (p := ⟨w.heap.size + 1, 3, none⟩) (by simp) (.string ⟨#[]⟩)
        refine bodyPost_ret (turn_results hf _ rfl rfl) rfl ?_
        exact ⟨rfl, hbe⟩
      · have hr : R = some ⟨n, r8, r9, r10⟩ := HIn.out (by omega) (by omega)
        subst hr
        clear HOut HIn
        go_wp2_with (go_at_call 103; refine (HL.out _).mono ?_; rintro e w1 ⟨rfl, hb⟩; have d1 := HB1.out.below hb HB1.out.lt; have d2 := HB2.out.below hb HB2.out.lt; have e3 := fun i => d1.cell i; have e4 := fun i => d2.cell i; have f4 := fun i => d2.frozen i; have D2 := Lib.hid d2; have HBB := Lib.hid (HB.out.trans (hb.mono HB.out.size)); clear hb d1 d2)
        have hz1 := HBB.out.size
        have hf := (((D2.out.set_ 0 (.int .i64 n)).set_ 1 (.int .i64 r8)).set_ 2 (.int .i64 r9)).set_ 3 (.string r10)
        simp only [List.setIfInBounds_toArray, List.set_cons_succ, List.set_cons_zero] at hf
        have hbe := (((HBB.out.setCell (p := ⟨w.heap.size + 1, 0, none⟩) (by simp) (.int .i64 n)).setCell (p := ⟨w.heap.size + 1, 1, none⟩) (by simp) (.int .i64 r8)).setCell (p := ⟨w.heap.size + 1, 2, none⟩) (by simp) (.int .i64 r9)).setCell (p := ⟨w.heap.size + 1, 3, none⟩) (by simp) (.string r10)
        refine bodyPost_ret (turn_results hf _ rfl rfl) rfl ?_
        exact ⟨rfl, hbe⟩
  · by_cases h1 : y < r1
    · have hr : R = none := HOut.out (.inl h1)
      subst hr
      clear HOut HIn
      go_wp2
      have hf := (((HB2.out.set_ 0 (.int .i64 0)).set_ 1 (.int .i64 0)).set_ 2 (.int .i64 0)).set_ 3 (.string ⟨#[]⟩)
      simp only [List.setIfInBounds_toArray, List.set_cons_succ, List.set_cons_zero] at hf
      have hbe := (((HB.out.setCell (p := ⟨w.heap.size + 1, 0, none⟩) (by simp) (.int .i64 0)).setCell (p := ⟨w.heap.size + 1, 1, none⟩) (by simp) (.int .i64 0)).setCell (p := ⟨w.heap.size + 1, 2, none⟩) (by simp) (.int .i64 0)).setCell (p := ⟨w.heap.size + 1, 3, none⟩) (by simp) (.string ⟨#[]⟩)
      refine bodyPost_ret (turn_results hf _ rfl rfl) rfl ?_
      exact ⟨rfl, hbe⟩
    · by_cases h2 : r2 < y
      · have hr : R = none := HOut.out (.inr h2)
        subst hr
        clear HOut HIn
        go_wp2
        have hf := (((HB2.out.set_ 0 (.int .i64 0)).set_ 1 (.int .i64 0)).set_ 2 (.int .i64 0)).set_ 3 (.string ⟨#[]⟩)
        simp only [List.setIfInBounds_toArray, List.set_cons_succ, List.set_cons_zero] at hf
        have hbe := (((HB.out.setCell (p := ⟨w.heap.size + 1, 0, none⟩) (by simp) (.int .i64 0)).setCell (p := ⟨w.heap.size + 1, 1, none⟩) (by simp) (.int .i64 0)).setCell (p := ⟨w.heap.size + 1, 2, none⟩) (by simp) (.int .i64 0)).setCell (p := ⟨w.heap.size + 1, 3, none⟩) (by simp) (.string ⟨#[]⟩)
        refine bodyPost_ret (turn_results hf _ rfl rfl) rfl ?_
        exact ⟨rfl, hbe⟩
      · have hr : R = none := HIn.out (by omega) (by omega)
        subst hr
        clear HOut HIn
        go_wp2_with (go_at_call 103; refine (HL.out _).mono ?_; rintro e w1 ⟨rfl, hb⟩; have d1 := HB1.out.below hb HB1.out.lt; have d2 := HB2.out.below hb HB2.out.lt; have e3 := fun i => d1.cell i; have e4 := fun i => d2.cell i; have f4 := fun i => d2.frozen i; have D2 := Lib.hid d2; have HBB := Lib.hid (HB.out.trans (hb.mono HB.out.size)); clear hb d1 d2)
        have hz1 := HBB.out.size
        have hf := (((D2.out.set_ 0 (.int .i64 0)).set_ 1 (.int .i64 0)).set_ 2 (.int .i64 0)).set_ 3 (.string ⟨#[]⟩)
        simp only [List.setIfInBounds_toArray, List.set_cons_succ, List.set_cons_zero] at hf
        have hbe := (((HBB.out.setCell (p := ⟨w.heap.size + 1, 0, none⟩) (by simp) (.int .i64 0)).setCell (p := ⟨w.heap.size + 1, 1, none⟩) (by simp) (.int .i64 0)).setCell (p := ⟨w.heap.size + 1, 2, none⟩) (by simp) (.int .i64 0)).setCell (p := ⟨w.heap.size + 1, 3, none⟩) (by simp) (.string ⟨#[]⟩)
        refine bodyPost_ret (turn_results hf _ rfl rfl) rfl ?_
        exact ⟨rfl, hbe⟩
end Go.Proofs.YtdicedpklpadgaaGreatDoor.R11
namespace Go.Proofs.YtdicedpklpadgaaGreatDoor.R11
open Go.RowKit Mem Civ Mom Img Rul

end Go.Proofs.YtdicedpklpadgaaGreatDoor.R11
namespace Go.Proofs.YtdicedpklpadgaaGreatDoor.R11
open Go.RowKit Mem Civ Mom Img Rul

def firstR (rs : List Rule) : Int := rs.foldl (fun m r => if r.lo < m then r.lo else m) 10000
def hiStep (m : Int) (r : Rule) : Int := if r.hi ≠ 1000000 ∧ (if m < r.lo then r.lo else m) < r.hi then r.hi else (if m < r.lo then r.lo else m)
def hiR (rs : List Rule) : Int := rs.foldl hiStep 0
def yearR (rs : List Rule) (y : Int) : List Turn := sortT (rs.filterMap (turnL y))
def nearYearsR (rs : List Rule) : Nat → Int → List Turn → Bool
  | 0, _, _ => false
  | n + 1, y, had => nearUpto (had ++ yearR rs y) [] (had ++ yearR rs y).length || nearYearsR rs n (y + 1) (yearR rs y)
/-- The document's word. -/
def nearR (rs : List Rule) : Bool := nearYearsR rs (hiR rs + 402 - firstR rs + 1).toNat (firstR rs) []
end Go.Proofs.YtdicedpklpadgaaGreatDoor.R11
namespace Go.Proofs.YtdicedpklpadgaaGreatDoor.R11
open Go.RowKit Mem Civ Mom Img Rul

def later (c : Int) (t : Turn) : Turn := ⟨t.at_ + c, t.ref, t.save, t.letter⟩
end Go.Proofs.YtdicedpklpadgaaGreatDoor.R11
