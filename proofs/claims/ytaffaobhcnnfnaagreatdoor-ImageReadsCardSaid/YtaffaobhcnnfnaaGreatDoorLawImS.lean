/-
  Layer 15: the contract of the reference's Sum, and the walk of the law ImageSums. Conditions: the cell of bytealg.MaxLen holds a number.
-/
import Derived.Test.YtaffaobhcnnfnaaGreatDoorAlive
namespace Go.Proofs.YtaffaobhcnnfnaaGreatDoor.LawImS
open Go.RowKit Mem Img

set_option maxRecDepth 100000 in
theorem ref_sum (s : ByteArray) (w : World) (hs : s.size ≤ 140737488355328) :
    Calls Tryz.prog 16 #[.string s] w fun e w' => e = .returned (.int .u32 (sumB s.data.toList)) ∧ w' = w := by
  go_enter Tryz.func16, Tryz.ntmps16
  go_wp2
  go_loop [3, 4] (fun n i => ∃ k : Nat, k ≤ s.size ∧ i = .int .i64 k ∧ n = .int .u64 (sumB (s.data.toList.take k))) (fun _ i => s.size - (intOf i).toNat)
  case atStart => exact ⟨0, Nat.zero_le _, rfl, rfl⟩
  case round =>
    obtain ⟨k, hk, rfl, rfl⟩ := hrel
    have hb := sumB_lt (s.data.toList.take k)
    by_cases hlt : k < s.size
    · have hb2 := (s[k]'hlt).toNat_lt
      have hsn : Hid (sumB (s.data.toList.take (k + 1)) = (31 * sumB (s.data.toList.take k) + (s[k]'hlt).toNat) % 4294967296) := by
        show _ = _
        rw [List.take_succ_eq_append_getElem (by simpa using hlt), sumB_snoc]
        rfl
      generalize sumB (s.data.toList.take k) = q at *
      go_wp2
      go_round
      case rel =>
        refine ⟨k + 1, by omega, by go_num, ?_⟩
        rw [hsn.out]
        simp <;> omega
      case measure => simp [intOf]; omega
    · obtain rfl : k = s.size := by omega
      rw [show s.data.toList.take s.size = s.data.toList from List.take_of_length_le (by simp)] at hb ⊢
      go_wp2
      go_ret
      refine ⟨?_, rfl⟩
      congr 2
set_option maxHeartbeats 1000000 in
set_option maxRecDepth 100000 in
theorem sums (s : ByteArray) (m : Int) (w : World) (hs : s.size ≤ 9223372036854775807) (hm : w.cell? ⟨0, 0, none⟩ = some (.int .i64 m)) :
    Calls Tryz.prog 5 #[.string s] w fun e w' => e = .returned (.bool true) ∧ Below w.heap.size w w' := by
  have HA := Lib.hid (Alv.alive_any m w hm)
  clear hm
  go_enter Tryz.func5, Tryz.ntmps5
  by_cases h : 65536 < s.size
  · go_wp2_with (go_at_call 9; refine HA.out.mono ?_; rintro e w1 ⟨rfl, hb⟩; have HB := Lib.hid hb; clear hb)
    go_ret
    exact ⟨rfl, HB.out⟩
  · have HS := Lib.hid (fun w1 => sum_any s w1 (by omega))
    have HR := Lib.hid (fun w1 => ref_sum s w1 (by omega))
    go_wp2_with (first
      | (go_at_call 9; refine HA.out.mono ?_; rintro e w1 ⟨rfl, hb⟩; have HB := Lib.hid hb; clear hb)
      | (go_at_call 15; refine (HS.out _).mono ?_; rintro e w2 ⟨rfl, rfl⟩)
      | (go_at_call 16; refine (HR.out _).mono ?_; rintro e w3 ⟨rfl, rfl⟩))
    go_ret
    exact ⟨rfl, HB.out⟩
end Go.Proofs.YtaffaobhcnnfnaaGreatDoor.LawImS
