/-
  Package sound: what era answers at every place of a source. Conditions: the source may be; what its slices hold is read; rules.Ahead answers.
-/
import Derived.Test.YtgfdmjldfahbpaaGreatDoorSndZ
namespace Go.Proofs.YtgfdmjldfahbpaaGreatDoor.Snd
open Go.RowKit Mem Civ Mom Img Plc Rul Src Go.Maps

/-- rules.Ahead answers for every era that asks it, with a saving by the era. -/
def EA (s : Src) (sv : Era → Int) : Prop :=
  ∀ zn ∈ s.zones, ∀ x ∈ zn.eras, x.till = true → x.kind = 2 → ∀ Ae ce z, Reads z z.heap.size 11 Ae (setOf s.rules x).length ((setOf s.rules x).flatMap Rule.cells) → AheadAt Ae (setOf s.rules x).length ce (endT x) (sv x) z
def endP (sv : Era → Int) (x : Era) : Int := if x.till = true then endI x (sv x) else 0
def prevP (sv : Era → Int) (es : List Era) : Nat → Int × Bool
  | 0 => (0, false)
  | k + 1 => match es[k]? with
    | some y => (endP sv y, y.till)
    | none => (0, false)
def eraAt (rs : List Rule) (sv : Era → Int) (es : List Era) (k : Nat) : Int := match es[k]? with
  | some x => eraE rs x (prevP sv es k).1 (prevP sv es k).2 (endP sv x) x.till
  | none => 0
theorem endO_is (sv : Era → Int) (x : Era) : endO x (sv x) = .tuple #[.int .i64 (endP sv x), .bool x.till] := by
  unfold endO endP
  cases x.till <;> rfl
theorem end_at (s : Src) (sv : Era → Int) (A A2 A3 : Option Addr) (c c2 c3 : Nat) (m : Int) (i j : Nat) (w : World) (h : SrcOk s A A2 A3 w) (hm : w.cell? ⟨0, 0, none⟩ = some (.int .i64 m)) (hs : srcB s = true) (hE : EA s sv) (hi : i < s.zones.length) (hj : j < (s.zones[i]'hi).eras.length) :
    EndAt s A A2 A3 c c2 c3 i j (endP sv ((s.zones[i]'hi).eras[j]'hj)) ((s.zones[i]'hi).eras[j]'hj).till w := fun z hb => by
  have h1 := eend_yes s A A2 A3 c c2 c3 m (sv ((s.zones[i]'hi).eras[j]'hj)) i j z (h.below hb) (cell_later hb hm) hs hi hj _ rfl (hE _ (List.getElem_mem hi) _ (List.getElem_mem hj))
  rw [endO_is] at h1
  exact h1
theorem era_at (s : Src) (sv : Era → Int) (A A2 A3 : Option Addr) (c c2 c3 : Nat) (m : Int) (i k : Nat) (w : World) (h : SrcOk s A A2 A3 w) (hm : w.cell? ⟨0, 0, none⟩ = some (.int .i64 m)) (hs : srcB s = true) (hE : EA s sv) (hi : i < s.zones.length) (hk : k < (s.zones[i]'hi).eras.length) :
    Calls Tryz.prog 45 #[.agg #[.slice A s.rules.length c, .slice A2 s.zones.length c2, .slice A3 s.links.length c3], .int .i64 i, .int .i64 k, .agg ((s.zones[i]'hi).eras[k]'hk).cells.toArray] w fun e w' => e = .returned (.int .i64 (eraAt s.rules sv (s.zones[i]'hi).eras k)) ∧ Below w.heap.size w w' := by
  have hn := h.ne _ (List.getElem_mem hi)
  have hQ := end_at s sv A A2 A3 c c2 c3 m i k w h hm hs hE hi hk
  have hP : EndAt s A A2 A3 c c2 c3 i (wrap64 (((k : Nat) : Int) - 1)) (prevP sv (s.zones[i]'hi).eras k).1 (prevP sv (s.zones[i]'hi).eras k).2 w := by
    cases k with
    | zero =>
      intro z hb
      rw [show wrap64 (((0 : Nat) : Int) - 1) = -1 from by unfold wrap64; omega]
      exact eend_no s A A2 A3 c c2 c3 m i z (h.below hb) (cell_later hb hm) hs hi
    | succ j =>
      have hj : j < (s.zones[i]'hi).eras.length := by omega
      have hw : wrap64 (((j + 1 : Nat) : Int) - 1) = (j : Nat) := by
        have e : (((j + 1 : Nat) : Int) - 1) = (j : Nat) := by omega
        rw [e]
        unfold wrap64; omega
      rw [hw]
      simp only [prevP, List.getElem?_eq_getElem hj]
      exact end_at s sv A A2 A3 c c2 c3 m i j w h hm hs hE hi hj
  have h1 := era_any s A A2 A3 c c2 c3 ((s.zones[i]'hi).eras[k]'hk) i k _ _ _ _ w h hP hQ
  simp only [eraAt, List.getElem?_eq_getElem hk]
  exact h1
end Go.Proofs.YtgfdmjldfahbpaaGreatDoor.Snd
