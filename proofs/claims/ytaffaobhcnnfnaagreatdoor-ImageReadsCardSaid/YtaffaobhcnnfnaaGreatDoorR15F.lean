/-
  What the program's Load answers, by what the document reads (plain). Conditions: none but the text's length.
-/
import Derived.Test.YtaffaobhcnnfnaaGreatDoorR15L
namespace Go.Proofs.YtaffaobhcnnfnaaGreatDoor.R15
open Go.RowKit Mem Img Rgt Rd Plc Src Bck

theorem numM_in64 {k : Nat} {l r : List UInt8} {n : Int} (h : numM .i64 k l = some (n, r)) : In64 n := by
  unfold numM at h
  obtain ⟨y, _, e⟩ := Option.map_eq_some_iff.1 h
  cases e
  unfold In64
  rw [IntKind.wrap_i64]
  omega
theorem readM_in {l r : List UInt8} {x : Table} (h : readM l = some (x, r)) : In64 x.till ∧ ∀ s ∈ x.shifts, In64 s.sec := by
  unfold readM at h
  obtain ⟨y0, h0, h⟩ := Option.bind_eq_some_iff.1 h
  split at h
  rotate_left
  · cases h
  unfold r1 at h
  obtain ⟨a, ha, h⟩ := Option.bind_eq_some_iff.1 h
  obtain ⟨n, hn, h⟩ := Option.bind_eq_some_iff.1 h
  obtain ⟨k, hk, h⟩ := Option.bind_eq_some_iff.1 h
  obtain ⟨m, hm, h⟩ := Option.bind_eq_some_iff.1 h
  unfold Rd.r2 at h
  obtain ⟨⟨s, rs⟩, hs, h⟩ := Option.bind_eq_some_iff.1 h
  obtain ⟨p, hp, h⟩ := Option.bind_eq_some_iff.1 h
  obtain ⟨q, hq, h⟩ := Option.bind_eq_some_iff.1 h
  obtain ⟨t, ht, h⟩ := Option.bind_eq_some_iff.1 h
  unfold r2c at h
  obtain ⟨phs, hphs, h⟩ := Option.bind_eq_some_iff.1 h
  obtain ⟨ss, hss, h⟩ := Option.bind_eq_some_iff.1 h
  obtain ⟨f, hf, h⟩ := Option.bind_eq_some_iff.1 h
  unfold Rd.r3 at h
  obtain ⟨⟨till, r9⟩, htill, h⟩ := Option.bind_eq_some_iff.1 h
  obtain ⟨tn, htn, h⟩ := Option.bind_eq_some_iff.1 h
  obtain ⟨rl, hrl, h⟩ := Option.bind_eq_some_iff.1 h
  obtain ⟨off, hoff, h⟩ := Option.bind_eq_some_iff.1 h
  obtain ⟨fm, hfm, e⟩ := Option.map_eq_some_iff.1 h
  cases e
  refine ⟨numM_in64 htill, mapO_all hss (F := fun s : Shift => In64 s.sec) fun z hz b hb => ?_⟩
  unfold shM at hb
  obtain ⟨ph, _, e⟩ := Option.map_eq_some_iff.1 hb
  cases e
  have hm := (List.of_mem_zip (a := z.1) (b := z.2) hz).1
  exact (repM_all (F := fun v : Int => In64 v) (fun l v r h => ⟨numM_in64 h, numM_le h⟩) hs).1 _ hm
theorem load_some {l : List UInt8} {x : Table} (h : loadM tailB l = some x) : rightB x (tailB x) = true ∧ img x = l ∧ ∃ r, refM l = some (x, r) := by
  unfold loadM at h
  obtain ⟨⟨y, r⟩, hy, h⟩ := Option.bind_eq_some_iff.1 h
  split at h
  · next hc =>
    cases h
    obtain ⟨h1, h2⟩ := readM_in hy
    refine ⟨hc.1, hc.2, ?_⟩
    obtain ⟨r2, hr⟩ := ref_back y hc.1 h1 h2
    exact ⟨r2, by rw [← hc.2]; exact hr⟩
  · cases h
theorem load_yes {l : List UInt8} {y : Table} (h : rightB y (tailB y) = true) (hi : img y = l) (h1 : In64 y.till) (h2 : ∀ s ∈ y.shifts, In64 s.sec) : loadM tailB l = some y := by
  rw [← hi]
  exact load_back y h h1 h2
theorem load_none {l : List UInt8} (h : refM l = none) : loadM tailB l = none := by
  cases hl : loadM tailB l with
  | none => rfl
  | some x =>
    obtain ⟨_, _, r, hr⟩ := load_some hl
    rw [h] at hr
    cases hr
theorem load_no {l r : List UInt8} {y : Table} (h : refM l = some (y, r)) (hn : ¬ (rightB y (tailB y) = true ∧ img y = l)) : loadM tailB l = none := by
  cases hl : loadM tailB l with
  | none => rfl
  | some x =>
    obtain ⟨h1, h2, r, hr⟩ := load_some hl
    rw [h] at hr
    cases hr
    exact absurd ⟨h1, h2⟩ hn
end Go.Proofs.YtaffaobhcnnfnaaGreatDoor.R15
