/-
  The contract of analemmaref13.Light: what it holds back. Conditions: what the source's slices hold is read.
-/
import Derived.Test.YtgfdmjldfahbpaaGreatDoorSndU
namespace Go.Proofs.YtgfdmjldfahbpaaGreatDoor.Snd
open Go.RowKit Mem Civ Mom Img Plc Rul Src

def LightP (s : Src) : Prop := s.rules.length ≤ 60 ∧ s.zones.length ≤ 60 ∧ s.links.length ≤ 200
set_option maxHeartbeats 2000000 in
set_option maxRecDepth 100000 in
theorem light_any (s : Src) (A A2 A3 : Option Addr) (c c2 c3 : Nat) (w : World) (h : SrcOk s A A2 A3 w) :
    Calls Tryz.prog 7 #[.agg #[.slice A s.rules.length c, .slice A2 s.zones.length c2, .slice A3 s.links.length c3]] w fun e w' => ∃ b, e = .returned (.bool b) ∧ (b = true → LightP s) ∧ Below w.heap.size w w' := by
  have hrr := h.rr; have hrz := h.rz; have nr := h.nr; have nz := h.nz; have nl := h.nl; have ne := h.ne
  clear h
  unfold LightP
  obtain ⟨rs, zs, ls⟩ := s
  simp only at hrr hrz nr nz nl ne ⊢
  have hone := One.new w 26 #[.slice A rs.length c, .slice A2 zs.length c2, .slice A3 ls.length c3]
  obtain ⟨W, hW⟩ : ∃ W, w.alloc (.cells #[.slice A rs.length c, .slice A2 zs.length c2, .slice A3 ls.length c3] 26) = W := ⟨_, rfl⟩
  rw [hW] at hone
  have HO := Lib.hid hone; have HR := Lib.hid (hrr.below hone.2); have HZ := Lib.hid (hrz.below hone.2); have HE := Lib.hid ne
  have c0 := fun i => hone.1.cell i
  clear hone hrr hrz ne
  go_enter Tryz.func7, Tryz.ntmps7
  by_cases h1 : rs.length ≤ 60
  rotate_left
  · have h1b : decide ((60 : Int) < (rs.length : Nat)) = true := decide_eq_true (by omega)
    go_wp2_with fail
    go_ret
    exact ⟨false, rfl, by simp, HO.out.2⟩
  have h1b : decide ((60 : Int) < (rs.length : Nat)) = false := decide_eq_false (by omega)
  by_cases h2 : zs.length ≤ 60
  rotate_left
  · have h2b : decide ((60 : Int) < (zs.length : Nat)) = true := decide_eq_true (by omega)
    go_wp2_with fail
    go_ret
    exact ⟨false, rfl, by simp, HO.out.2⟩
  have h2b : decide ((60 : Int) < (zs.length : Nat)) = false := decide_eq_false (by omega)
  by_cases h3 : ls.length ≤ 200
  rotate_left
  · have h3b : decide ((200 : Int) < (ls.length : Nat)) = true := decide_eq_true (by omega)
    go_wp2_with fail
    go_ret
    exact ⟨false, rfl, by simp, HO.out.2⟩
  have h3b : decide ((200 : Int) < (ls.length : Nat)) = false := decide_eq_false (by omega)
  go_wp2_with fail
  go_loopw [3, 4, 5] (fun l g i wr => ∃ (k : Nat) (lo hi : Int), k ≤ rs.length ∧ l = .int .i64 lo ∧ g = .int .i64 hi ∧ i = .int .i64 k ∧ wr = W) (fun _ _ i _ => rs.length - (intOf i).toNat)
  case atStart => exact ⟨0, 10000, 0, Nat.zero_le _, rfl, rfl, rfl, rfl⟩
  case round =>
    obtain ⟨k, lo, hi, hk, rfl, rfl, rfl, rfl⟩ := hrel
    by_cases hkn : k < rs.length
    · obtain ⟨ad, hA, hadb, a0, a1, a2, a3, a4, a5, a6, a7, a8, a9, a10⟩ := rule_cells HR.out hkn
      subst hA
      cases hd : decide ((rs[k]'hkn).hi < 10000)
      all_goals go_wp2_with fail
      all_goals exact ⟨⟨k + 1, _, _, by omega, rfl, rfl, by go_num, trivial⟩, by simp [intOf]; omega⟩
    · obtain rfl : k = rs.length := by omega
      go_wp2_with fail
      go_loopw [6, 7] (fun n i wz => ∃ (k m : Nat), k ≤ zs.length ∧ m ≤ k * 60 ∧ n = .int .i64 m ∧ i = .int .i64 k ∧ wz = wr) (fun _ i _ => zs.length - (intOf i).toNat)
      case atStart => exact ⟨0, 0, Nat.zero_le _, Nat.zero_le _, rfl, rfl, rfl⟩
      case round =>
        obtain ⟨j, m, hj, hm, rfl, rfl, rfl⟩ := hrel
        by_cases hjn : j < zs.length
        · obtain ⟨ad, hA, hadb, a0, a1⟩ := zone_cells HZ.out hjn rfl
          subst hA
          obtain ⟨z, hz⟩ : ∃ z, z = zs[j] := ⟨_, rfl⟩
          rw [← hz] at a0 a1
          clear hz
          by_cases h4 : z.eras.length ≤ 60
          · have h4b : decide ((60 : Int) < (z.eras.length : Nat)) = false := decide_eq_false (by omega)
            go_wp2_with fail
            exact ⟨⟨j + 1, m + z.eras.length, by omega, by omega, by go_num, by go_num, trivial⟩, by simp [intOf]; omega⟩
          · have h4b : decide ((60 : Int) < (z.eras.length : Nat)) = true := decide_eq_true (by omega)
            go_wp2_with fail
            go_ret
            exact ⟨false, rfl, by simp, HO.out.2⟩
        · obtain rfl : j = zs.length := by omega
          cases h5 : decide (((m : Nat) : Int) ≤ 300) <;> cases h6 : decide (hi < lo) <;> cases h7 : decide (1 ≤ lo)
          all_goals go_wp2_with fail
          all_goals go_ret
          all_goals exact ⟨_, rfl, fun _ => ⟨h1, h2, h3⟩, HO.out.2⟩
end Go.Proofs.YtgfdmjldfahbpaaGreatDoor.Snd
