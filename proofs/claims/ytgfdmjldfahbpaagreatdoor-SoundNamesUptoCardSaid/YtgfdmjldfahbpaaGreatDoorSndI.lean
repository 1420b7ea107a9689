/-
  Package sound: slices.ContainsFunc at era's closure. Conditions: what the set's slice holds is read.
-/
import Derived.Test.YtgfdmjldfahbpaaGreatDoorSndY
namespace Go.Proofs.YtgfdmjldfahbpaaGreatDoor.Snd
open Go.RowKit Mem Civ Mom Img Plc Rul Src Go.Maps

/-- Whether some rule of a set carries an offset a day away. -/
def farB (off : Int) (rs : List Rule) : Bool := !rs.all fun r => Rgt.dayB (wrap64 (off + r.save))
def FarP (off : Int) (rs : List Rule) (w : World) (e : Ending) (w' : World) : Prop := ∃ i : Int, e = .returned (.int .i64 i) ∧ decide (0 ≤ i) = farB off rs ∧ -1 ≤ i ∧ i ≤ 1000000 ∧ Below w.heap.size w w'
set_option maxHeartbeats 1000000 in
set_option maxRecDepth 100000 in
theorem farIndex_any (off : Int) (b : Nat) (rs : List Rule) (A : Option Addr) (c : Nat) (w : World) (h : Reads w w.heap.size 11 A rs.length (rs.flatMap Rule.cells)) (hn : rs.length ≤ 1000000) (hc : w.cell? ⟨b, 0, none⟩ = some (.int .i64 off)) :
    Calls Tryz.prog 101 #[.slice A rs.length c, .func (Fn.func 69) #[] #[.pointer (some ⟨b, 0, none⟩)]] w (FarP off rs w) := by
  have H := Lib.hid h; have HC := Lib.hid hc; clear h hc
  go_enter Tryz.func101, Tryz.ntmps101
  go_wp2
  go_loopw [8] (fun i wr => ∃ k : Nat, k ≤ rs.length ∧ i = .int .i64 k ∧ ((rs.take k).all fun r => Rgt.dayB (wrap64 (off + r.save))) = true ∧ Below w.heap.size w wr) (fun i _ => rs.length - (intOf i).toNat)
  case atStart => exact ⟨0, Nat.zero_le _, rfl, rfl, Below.refl _ _⟩
  case round =>
    obtain ⟨k, hk, rfl, hall, hb⟩ := hrel
    have Hall := Lib.hid hall; have HB := Lib.hid hb; clear hall hb
    by_cases hkn : k < rs.length
    · obtain ⟨ad, rfl, hadb, a0, a1, a2, a3, a4, a5, a6, a7, a8, a9, a10⟩ := rule_cells (H.out.below HB.out) hkn
      have Hc := Lib.hid (fun z (hb : Below w.heap.size w z) => era1_any rs[k] off b z (cell_later hb HC.out))
      have hq : ((rs.take (k + 1)).all fun r => Rgt.dayB (wrap64 (off + r.save))) = Rgt.dayB (wrap64 (off + rs[k].save)) := by
        rw [List.take_succ_eq_append_getElem hkn, List.all_append, Hall.out]
        simp
      have hq2 : Rgt.dayB (wrap64 (off + rs[k].save)) = false → farB off rs = true := fun e => by
        unfold farB
        rw [List.all_eq_false.2 ⟨rs[k], List.getElem_mem hkn, by rw [e]; decide⟩]
        rfl
      have HQ := Lib.hid hq
      have HQ2 := Lib.hid hq2
      clear hq hq2
      simp only [Rule.cells] at Hc
      generalize hb : Rgt.dayB (wrap64 (off + rs[k].save)) = b at *
      clear hb
      generalize rs[k] = s at *
      cases b
      · go_wp2_with (go_at_call 69; refine (Hc.out _ HB.out).mono ?_; rintro e w1 ⟨rfl, hb1⟩; have HB1 := Lib.hid (HB.out.trans (hb1.mono HB.out.size)); clear hb1)
        go_ret
        exact ⟨k, rfl, by rw [HQ2.out trivial]; simp, by omega, by omega, HB1.out⟩
      · go_wp2_with (go_at_call 69; refine (Hc.out _ HB.out).mono ?_; rintro e w1 ⟨rfl, hb1⟩; have HB1 := Lib.hid (HB.out.trans (hb1.mono HB.out.size)); clear hb1)
        exact ⟨⟨k + 1, by omega, by go_num, HQ.out, HB1.out⟩, by simp [intOf]; omega⟩
    · obtain rfl : k = rs.length := by omega
      have hall := Hall.out
      rw [List.take_length] at hall
      have hf : farB off rs = false := by unfold farB; rw [hall]; rfl
      have HF := Lib.hid hf
      clear hall Hall hf
      go_wp2
      go_ret
      exact ⟨-1, rfl, by rw [HF.out]; rfl, by omega, by omega, HB.out⟩
theorem far_any (off : Int) (b : Nat) (rs : List Rule) (A : Option Addr) (c : Nat) (w : World) (h : Reads w w.heap.size 11 A rs.length (rs.flatMap Rule.cells)) (hn : rs.length ≤ 1000000) (hc : w.cell? ⟨b, 0, none⟩ = some (.int .i64 off)) :
    Calls Tryz.prog 68 #[.slice A rs.length c, .func (Fn.func 69) #[] #[.pointer (some ⟨b, 0, none⟩)]] w fun e w' => e = .returned (.bool (farB off rs)) ∧ Below w.heap.size w w' := by
  have Hi := Lib.hid (farIndex_any off b rs A c w h hn hc)
  clear h hc
  go_enter Tryz.func68, Tryz.ntmps68
  go_wp2_with (go_at_call 101; refine Hi.out.mono ?_; rintro e w1 ⟨i, rfl, hq, hi1, hi2, hb⟩; have HQ := Lib.hid hq; have HB := Lib.hid hb; clear hq hb)
  go_ret
  exact ⟨by rw [← HQ.out]; rfl, HB.out⟩
end Go.Proofs.YtgfdmjldfahbpaaGreatDoor.Snd
