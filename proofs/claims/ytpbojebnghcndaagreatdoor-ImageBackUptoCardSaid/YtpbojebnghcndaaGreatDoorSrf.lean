/-
  sort.Search at a closure. Conditions: the closure's contract at every index within.
-/
import Derived.Test.YtpbojebnghcndaaGreatDoorSch
namespace Go.Proofs.YtpbojebnghcndaaGreatDoor.Sch
open Go.RowKit Mem Img

set_option maxHeartbeats 2000000 in
set_option maxRecDepth 100000 in
theorem search_any (n g : Nat) (lb : Array Value) (f : Nat → Bool) (w : World) (hn : n ≤ 1000000) (hent : ∀ args z, (callFunc g args).run Tryz.prog z = .ok (.enter g args) z)
    (hf : ∀ (i : Nat) z, i < n → Below w.heap.size w z → Calls Tryz.prog g (#[.int .i64 i] ++ lb) z fun e w' => e = .returned (.bool (f i)) ∧ Below z.heap.size z w') :
    Calls Tryz.prog 57 #[.int .i64 n, .func (.func g) #[] lb] w fun e w' => e = .returned (.int .i64 (searchF f n 0 n : Nat)) ∧ Below w.heap.size w w' := by
  have HF := Lib.hid hf
  obtain ⟨Q, hQ⟩ : ∃ Q, searchF f n 0 n = Q := ⟨_, rfl⟩
  rw [hQ]
  have HQ := Lib.hid hQ
  clear hf hQ
  go_enter Tryz.func57, Tryz.ntmps57
  go_wp2
  go_loopw [5, 6] (fun s5 s6 wr => Below w.heap.size w wr ∧ ∃ i j : Nat, i ≤ j ∧ j ≤ n ∧ s5 = .int .i64 i ∧ s6 = .int .i64 j ∧ searchF f (j - i) i j = Q) (fun s5 s6 _ => (intOf s6).toNat - (intOf s5).toNat)
  case atStart => exact ⟨Below.refl _ _, 0, n, Nat.zero_le _, Nat.le_refl _, rfl, rfl, by rw [Nat.sub_zero]; exact HQ.out⟩
  case round =>
    obtain ⟨hb, i, j, hij, hjn, rfl, rfl, hq⟩ := hrel
    have HB := Lib.hid hb; have Hq := Lib.hid hq
    clear hb hq HQ
    by_cases hlt : i < j
    · have hltb : decide ((i : Int) < (j : Int)) = true := decide_eq_true (by omega)
      go_wp2
      rw [show ((i : Int) + (j : Int)) / 2 = (((i + j) / 2 : Nat) : Int) by omega]
      have hs := search_step (f := f) hlt
      rw [Hq.out] at hs
      have hm1 : i ≤ (i + j) / 2 := by omega
      have hm2 : (i + j) / 2 < j := by omega
      generalize (i + j) / 2 = k at *
      refine (HF.out k wr (by omega) HB.out).mono ?_
      rintro e w1 ⟨rfl, hb⟩
      have HB2 := Lib.hid (HB.out.trans (hb.mono HB.out.size))
      clear hb HB
      have Hs := Lib.hid hs
      clear hs hltb
      cases hfk : f k
      · have hs := Hs.out
        rw [if_neg (by rw [hfk]; decide)] at hs
        have Hs2 := Lib.hid hs
        clear hs Hs hfk
        go_wp2
        exact ⟨⟨HB2.out, k + 1, j, by omega, hjn, by go_num, rfl, Hs2.out.symm⟩, by simp [intOf]; omega⟩
      · have hs := Hs.out
        rw [if_pos hfk] at hs
        have Hs2 := Lib.hid hs
        clear hs Hs hfk
        go_wp2
        exact ⟨⟨HB2.out, i, k, by omega, by omega, rfl, rfl, Hs2.out.symm⟩, by simp [intOf]; omega⟩
    · obtain rfl : i = j := by omega
      have hltb : decide ((i : Int) < (i : Int)) = false := decide_eq_false (by omega)
      have hq := Hq.out
      rw [Nat.sub_self, searchF] at hq
      subst hq
      go_wp2
      go_ret
      exact ⟨rfl, HB.out⟩
end Go.Proofs.YtpbojebnghcndaaGreatDoor.Sch
