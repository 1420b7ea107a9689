/-
  The contract of the document's Light, with what it says of the rules' years. Conditions: what the source's slices hold is read.
  What the world's shape says of bytealg.MaxLen's cell; a world in which the two listed tables are laid. Conditions: none.
  Layer 14's rows: the two listed tables are laid in the witness' world. Conditions: none.
-/
import Derived.Test.YtdicedpklpadgaaGreatDoorY36
import Derived.Test.YtdicedpklpadgaaGreatDoorRows
import Derived.WalkKit
import Derived.ProofKit
import Derived.Deep.DeepHandedRow
import Derived.Shelf.Vars
import Derived.LaidLaws
set_option linter.all false
section
namespace Go.Proofs.YtdicedpklpadgaaGreatDoor.Cmq
open Go.RowKit Mem Civ Mom Img Plc Rul Ahd Trn Src Snd Att Rgt Abr

/-- Rules whose years lie where a flawless source's do. -/
def InR (rs : List Rule) : Prop := ∀ r ∈ rs, (1 ≤ r.lo ∧ r.lo ≤ 9999) ∧ (r.hi = 1000000 ∨ r.hi ≤ 9999)
theorem in_clean {s : Src} (h : checkB s = noFlaw) : InR s.rules := fun r hr => by
  have h1 := src_rules (clean_parts h).1 r hr
  unfold ruleR yearB at h1
  simp only [Bool.and_eq_true, Bool.or_eq_true, decide_eq_true_eq] at h1
  exact ⟨h1.2.1, by omega⟩
structure InvY (rs : List Rule) (k : Nat) (lo hi : Int) : Prop where
  blo : 0 ≤ lo ∧ lo ≤ 10000
  bhi : 0 ≤ hi ∧ hi ≤ 9999
  all : ∀ (j : Nat) (r : Rule), j < k → rs[j]? = some r → lo ≤ r.lo ∧ r.lo ≤ hi ∧ (r.hi = 1000000 ∨ r.hi ≤ hi)
theorem InvY.zero (rs : List Rule) : InvY rs 0 10000 0 := ⟨by omega, by omega, fun _ _ h => by omega⟩
theorem InvY.step {rs : List Rule} {k : Nat} {lo hi : Int} (h : InvY rs k lo hi) (hin : InR rs) (hk : k < rs.length) (lo' hi' : Int) (h1 : lo' ≤ lo ∧ lo' ≤ (rs[k]'hk).lo) (h2 : lo' = lo ∨ lo' = (rs[k]'hk).lo) (h3 : hi ≤ hi' ∧ (rs[k]'hk).lo ≤ hi') (h4 : (rs[k]'hk).hi < 10000 → (rs[k]'hk).hi ≤ hi') (h5 : hi' = hi ∨ hi' = (rs[k]'hk).lo ∨ ((rs[k]'hk).hi < 10000 ∧ hi' = (rs[k]'hk).hi)) : InvY rs (k + 1) lo' hi' := by
  have ⟨a1, a2⟩ := h.blo
  have ⟨b1, b2⟩ := h.bhi
  have ⟨⟨c1, c2⟩, c3⟩ := hin _ (List.getElem_mem hk)
  refine ⟨by omega, by omega, fun j r hj hr => ?_⟩
  rcases Nat.lt_or_ge j k with hjk | hjk
  · obtain ⟨d1, d2, d3⟩ := h.all j r hjk hr
    exact ⟨by omega, by omega, by omega⟩
  · obtain rfl : j = k := by omega
    rw [List.getElem?_eq_getElem hk] at hr
    injection hr with hr
    subst hr
    exact ⟨by omega, by omega, by omega⟩
theorem InvY.fin {rs : List Rule} {lo hi : Int} (h : InvY rs rs.length lo hi) (hb : hi < lo ∨ (1 ≤ lo ∧ hi - lo ≤ 600)) : YrsP rs := by
  have hall : ∀ r ∈ rs, lo ≤ r.lo ∧ r.lo ≤ hi ∧ (r.hi = 1000000 ∨ r.hi ≤ hi) := fun r hr => by
    obtain ⟨k, hk, e⟩ := List.mem_iff_getElem.1 hr
    exact h.all k r hk (by rw [List.getElem?_eq_getElem hk, e])
  rcases Int.lt_or_le hi lo with hl | hl
  · refine ⟨0, 0, by omega, fun r hr => ?_⟩
    have := hall r hr
    omega
  · exact ⟨lo, hi, ⟨hl, h.bhi.1, by omega⟩, fun r hr => ⟨(hall r hr).1, (hall r hr).2.2⟩⟩
set_option maxHeartbeats 2000000 in
set_option maxRecDepth 100000 in
theorem light_in (s : Src) (A A2 A3 : Option Addr) (c c2 c3 : Nat) (w : World) (h : SrcOk s A A2 A3 w) (hin : InR s.rules) :
    Calls Tryz.prog 20 #[.agg #[.slice A s.rules.length c, .slice A2 s.zones.length c2, .slice A3 s.links.length c3]] w fun e w' => ∃ b, e = .returned (.bool b) ∧ (b = true → YrsP s.rules) ∧ Below w.heap.size w w' := by
  have hrr := h.rr; have hrz := h.rz; have nr := h.nr; have nz := h.nz; have nl := h.nl; have ne := h.ne
  clear h
  obtain ⟨rs, zs, ls⟩ := s
  simp only at hrr hrz nr nz nl ne hin ⊢
  have hone := One.new w 26 #[.slice A rs.length c, .slice A2 zs.length c2, .slice A3 ls.length c3]
  obtain ⟨W, hW⟩ : ∃ W, w.alloc (.cells #[.slice A rs.length c, .slice A2 zs.length c2, .slice A3 ls.length c3] 26) = W := ⟨_, rfl⟩
  rw [hW] at hone
  have HO := Lib.hid hone; have HR := Lib.hid (hrr.below hone.2); have HZ := Lib.hid (hrz.below hone.2); have HE := Lib.hid ne; have HIn := Lib.hid hin
  have c0 := fun i => hone.1.cell i
  clear hone hrr hrz ne hin
  go_enter Tryz.func20, Tryz.ntmps20
  by_cases h1 : rs.length ≤ 60
  rotate_left
  · have h1b : decide ((60 : Int) < (rs.length : Nat)) = true := decide_eq_true (by omega)
    go_wp2_with fail
    go_ret
    exact ⟨false, rfl, by simp, HO.out.2⟩
  have h1b : decide ((60 : Int) < (rs.length : Nat)) = false := decide_eq_false (by omega)
  by_cases h2 : zs.length ≤ 60
  rotate_left
  · have h2b : decide ((60 : Int) < (zs.length : Nat)) = true := decide_eq_true (by omega)
    go_wp2_with fail
    go_ret
    exact ⟨false, rfl, by simp, HO.out.2⟩
  have h2b : decide ((60 : Int) < (zs.length : Nat)) = false := decide_eq_false (by omega)
  by_cases h3 : ls.length ≤ 200
  rotate_left
  · have h3b : decide ((200 : Int) < (ls.length : Nat)) = true := decide_eq_true (by omega)
    go_wp2_with fail
    go_ret
    exact ⟨false, rfl, by simp, HO.out.2⟩
  have h3b : decide ((200 : Int) < (ls.length : Nat)) = false := decide_eq_false (by omega)
  go_wp2_with fail
  go_loopw [3, 4, 5] (fun l g i wr => ∃ (k : Nat) (lo hi : Int), k ≤ rs.length ∧ l = .int .i64 lo ∧ g = .int .i64 hi ∧ i = .int .i64 k ∧ wr = W ∧ InvY rs k lo hi) (fun _ _ i _ => rs.length - (intOf i).toNat)
  case atStart => exact ⟨0, 10000, 0, Nat.zero_le _, rfl, rfl, rfl, rfl, InvY.zero rs⟩
  case round =>
    obtain ⟨k, lo, hi, hk, rfl, rfl, rfl, rfl, hinv⟩ := hrel
    have HInv := Lib.hid hinv
    clear hinv
    by_cases hkn : k < rs.length
    · obtain ⟨ad, hA, hadb, a0, a1, a2, a3, a4, a5, a6, a7, a8, a9, a10⟩ := rule_cells HR.out hkn
      subst hA
      have hst := HInv.out.step HIn.out hkn
      generalize (rs[k]'hkn) = r at *
      have HSt := Lib.hid hst
      clear hst
      cases hd : decide (r.hi < 10000)
      all_goals go_wp2_with fail
      · exact ⟨⟨k + 1, _, _, by omega, rfl, rfl, by go_num, trivial, HSt.out _ _ (by omega) (by omega) (by omega) (by have := of_decide_eq_false hd; omega) (by omega)⟩, by simp [intOf]; omega⟩
      · exact ⟨⟨k + 1, _, _, by omega, rfl, rfl, by go_num, trivial, HSt.out _ _ (by omega) (by omega) (by omega) (by omega) (by have := of_decide_eq_true hd; omega)⟩, by simp [intOf]; omega⟩
    · obtain rfl : k = rs.length := by omega
      have hfin := HInv.out.fin
      have hlo := HInv.out.blo; have hhi := HInv.out.bhi
      have HFin := Lib.hid hfin
      clear hfin
      go_wp2_with fail
      go_loopw [6, 7] (fun n i wz => ∃ (k m : Nat), k ≤ zs.length ∧ m ≤ k * 60 ∧ n = .int .i64 m ∧ i = .int .i64 k ∧ wz = wr) (fun _ i _ => zs.length - (intOf i).toNat)
      case atStart => exact ⟨0, 0, Nat.zero_le _, Nat.zero_le _, rfl, rfl, rfl⟩
      case round =>
        obtain ⟨j, m, hj, hm, rfl, rfl, rfl⟩ := hrel
        by_cases hjn : j < zs.length
        · obtain ⟨ad, hA, hadb, a0, a1⟩ := zone_cells HZ.out hjn rfl
          subst hA
          obtain ⟨z, hz⟩ : ∃ z, z = zs[j] := ⟨_, rfl⟩
          rw [← hz] at a0 a1
          clear hz
          by_cases h4 : z.eras.length ≤ 60
          · have h4b : decide ((60 : Int) < (z.eras.length : Nat)) = false := decide_eq_false (by omega)
            go_wp2_with fail
            exact ⟨⟨j + 1, m + z.eras.length, by omega, by omega, by go_num, by go_num, trivial⟩, by simp [intOf]; omega⟩
          · have h4b : decide ((60 : Int) < (z.eras.length : Nat)) = true := decide_eq_true (by omega)
            go_wp2_with fail
            go_ret
            exact ⟨false, rfl, by simp, HO.out.2⟩
        · obtain rfl : j = zs.length := by omega
          have hwr : wrap64 (hi - lo) = hi - lo := by unfold wrap64; omega
          cases h5 : decide (((m : Nat) : Int) ≤ 300) <;> cases h6 : decide (hi < lo) <;> cases h7 : decide (1 ≤ lo) <;> cases h8 : decide (hi - lo ≤ 600)
          all_goals go_wp2_with fail
          all_goals go_ret
          all_goals exact ⟨_, rfl, fun hb => HFin.out (by first | exact .inl (of_decide_eq_true h6) | exact .inr ⟨of_decide_eq_true h7, of_decide_eq_true h8⟩ | cases hb | simp at hb), HO.out.2⟩
/-- The document's Light: what it says of a flawless source. -/
theorem light_yrs (s : Src) (A A2 A3 : Option Addr) (c c2 c3 : Nat) (w : World) (h : SrcOk s A A2 A3 w) :
    Calls Tryz.prog 20 #[.agg #[.slice A s.rules.length c, .slice A2 s.zones.length c2, .slice A3 s.links.length c3]] w fun e w' => ∃ b, e = .returned (.bool b) ∧ (b = true → checkB s = noFlaw → YrsP s.rules) ∧ Below w.heap.size w w' := by
  by_cases hck : checkB s = noFlaw
  · refine (light_in s A A2 A3 c c2 c3 w h (in_clean hck)).mono ?_
    rintro e w' ⟨b, he, hb, hw⟩
    exact ⟨b, he, fun h _ => hb h, hw⟩
  · refine (light_any s A A2 A3 c c2 c3 w h).mono ?_
    rintro e w' ⟨b, he, hb, hw⟩
    exact ⟨b, he, fun _ h => absurd h hck, hw⟩
end Go.Proofs.YtdicedpklpadgaaGreatDoor.Cmq
end
section
namespace Go.Proofs.YtdicedpklpadgaaGreatDoor.Wit
open Go.RowKit

theorem maxLen_cell {W : World} (h : W.ShapedOpen Tryz.prog) : ∃ m, W.cell? ⟨0, 0, none⟩ = some (.int .i64 m) :=
  cell_of_shapedOpen_int (g := 0) (t := 3) (zero := #[.int .i64 0]) h (of_decide_eq_true (by kernel_rfl)) (by kernel_rfl) rfl (by kernel_rfl) (by kernel_rfl) Tryz.underlying3
/-- The two listed tables' cells. -/
def firstC : Array Value := (Go.Pinned.utf8FirstZ.map fun (n : Nat) => Value.int .u8 n).toArray
def rangesC : Array Value := #[.int .u8 128, .int .u8 191, .int .u8 160, .int .u8 191, .int .u8 128, .int .u8 159, .int .u8 144, .int .u8 191, .int .u8 128, .int .u8 143, .int .u8 0, .int .u8 0, .int .u8 0, .int .u8 0, .int .u8 0, .int .u8 0,
  .int .u8 0, .int .u8 0, .int .u8 0, .int .u8 0, .int .u8 0, .int .u8 0, .int .u8 0, .int .u8 0, .int .u8 0, .int .u8 0, .int .u8 0, .int .u8 0, .int .u8 0, .int .u8 0, .int .u8 0, .int .u8 0]
def recell (cs : Array Value) : Obj → Obj
  | .cells _ t frozen => .cells cs t frozen
  | o => o
/-- A world in which they are laid. -/
noncomputable def laidWorld (os : Os) : World :=
  { World.holding Tryz.prog os ⟨#[], #[], []⟩ with heap := ((World.holding Tryz.prog os ⟨#[], #[], []⟩).heap.modify 1 (recell firstC)).modify 2 (recell rangesC) }
theorem own : ownKnob Tryz.prog.godebug = none := by kernel_rfl
end Go.Proofs.YtdicedpklpadgaaGreatDoor.Wit
end
section
namespace Go.Proofs.YtdicedpklpadgaaGreatDoor.Wit
open Go.RowKit

set_option maxRecDepth 100000 in
theorem laid_met (os : Os) (args : Array Value) : laidMet Tryz.prog Rows.tableSamesUptoRow.laid ((laidWorld os).forCall (fun _ _ => 0) ⟨#[], args, []⟩).memory :=
  laidMet_of_run' 8 (by kernel_rfl) (by kernel_rfl)
end Go.Proofs.YtdicedpklpadgaaGreatDoor.Wit
end
