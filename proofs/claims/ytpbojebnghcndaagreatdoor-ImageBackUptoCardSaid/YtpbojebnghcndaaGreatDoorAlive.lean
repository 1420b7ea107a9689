/-
  Layer 15: the contract of the laws' function alive. Conditions: the cell of bytealg.MaxLen holds a number.
-/
import Derived.Test.YtpbojebnghcndaaGreatDoorLoad
import Derived.Test.YtpbojebnghcndaaGreatDoorSame
namespace Go.Proofs.YtpbojebnghcndaaGreatDoor.Alv
open Go.RowKit Mem Img Rgt Rd

def x0 : Table := ⟨⟨#[65]⟩, ⟨0, 0, ⟨#[88]⟩⟩, [], 0, [], 0, ⟨#[]⟩⟩
theorem img_len : (img x0).length = 50 := by kernel_rfl
theorem img_six : (img x0).take 6 = [65, 78, 76, 49, 1, 65] := by kernel_rfl
theorem right_x0 : rightB x0 true = true := by kernel_rfl
theorem read_x0 : readM (img x0) = some (x0, [10, 183, 157, 221]) := by kernel_rfl
theorem load_x0 : loadM (fun _ => true) (img x0) = some x0 := by
  rw [loadM, read_x0, Option.bind_some, if_pos ⟨right_x0, rfl⟩]

theorem tail_x0 (A A2 : Option Addr) (c c2 : Nat) (w : World) : Calls Tryz.prog 63 #[.agg (tabCells x0 A c A2 c2)] w fun e w' => e = .returned (.bool true) ∧ Below w.heap.size w w' := by
  have hb := box1 w 27 (tabCells x0 A c A2 c2)
  simp only [tabCells, x0, List.length_nil] at hb ⊢
  obtain ⟨W, hW⟩ : ∃ W, w.alloc (.cells #[.string ⟨#[65]⟩, .int .i64 0, .int .i64 0, .string ⟨#[88]⟩, .slice A 0 c, .int .i64 0, .slice A2 0 c2, .int .i64 0, .string ⟨#[]⟩] 27) = W := ⟨_, rfl⟩
  rw [hW] at hb
  have HB := Lib.hid hb.2.1
  have cc := fun i => hb.1.cell i
  have hz := hb.2.2
  clear hb
  go_enter Tryz.func63, Tryz.ntmps63
  go_wp2
  go_ret
  exact ⟨rfl, HB.out⟩
theorem ok_x0 (w : World) : TabOk x0 none none w :=
  ⟨Reads.none_, Reads.none_, by simp [x0], by simp [x0], by decide, by decide, ⟨by unfold In64; decide, by unfold In64; decide, by decide⟩, by simp [x0], by simp [x0]⟩
/-- The table's cells, where its slices are A and A2. -/
def c0 (A : Option Addr) (c : Nat) (A2 : Option Addr) (c2 : Nat) : Array Value := #[.string ⟨#[65]⟩, .int .i64 0, .int .i64 0, .string ⟨#[88]⟩, .slice A 0 c, .int .i64 0, .slice A2 0 c2, .int .i64 0, .string ⟨#[]⟩]
theorem save_x0 (m : Int) (w : World) (hm : w.cell? ⟨0, 0, none⟩ = some (.int .i64 m)) :
    Calls Tryz.prog 18 #[.agg (c0 none 0 none 0)] w fun e w' => e = .returned (.tuple #[.string ⟨(img x0).toArray⟩, .int .i64 0]) ∧ Below w.heap.size w w' := by
  have h := save_any x0 none none 0 0 true m w (ok_x0 w) hm fun w1 _ => tail_x0 none none 0 0 w1
  rw [if_pos right_x0] at h
  exact h
theorem load_x0c (m : Int) (w : World) (hm : w.cell? ⟨0, 0, none⟩ = some (.int .i64 m)) :
    Calls Tryz.prog 19 #[.string ⟨(img x0).toArray⟩] w fun e w' => (∃ A c A2 c2, e = .returned (.tuple #[.agg (c0 A c A2 c2), .int .i64 0]) ∧ TabOk x0 A A2 w') ∧ Below w.heap.size w w' := by
  have h := load_any (fun _ => true) (img x0) m w (by rw [img_len]; decide) hm (fun x => x = x0) (fun x A A2 c c2 w1 h _ _ => by subst h; exact tail_x0 A A2 c c2 w1) (fun x r h => by rw [read_x0] at h; injection h with h; injection h with h _; exact h.symm)
  rw [load_x0] at h
  exact h.mono fun e w' h => ⟨h.2, h.1⟩
theorem same_x0 (A A2 : Option Addr) (c c2 : Nat) (w : World) (h : TabOk x0 A A2 w) :
    Calls Tryz.prog 21 #[.agg (c0 none 0 none 0), .agg (c0 A c A2 c2)] w fun e w' => e = .returned (.bool true) ∧ Below w.heap.size w w' := by
  have h := Sam.same_any x0 x0 none none A A2 0 0 c c2 w (ok_x0 w) h
  rw [decide_eq_true rfl] at h
  exact h
theorem sum_ab (w : World) : Calls Tryz.prog 47 #[.string ⟨#[97, 98]⟩] w fun e w' => e = .returned (.int .u32 3105) ∧ w' = w := by
  have h := sum_any ⟨#[97, 98]⟩ w (by decide)
  rw [show ((sumB (⟨#[97, 98]⟩ : ByteArray).data.toList : Nat) : Int) = 3105 from by kernel_rfl] at h
  exact h
set_option maxHeartbeats 4000000 in
set_option maxRecDepth 100000 in
theorem alive_any (m : Int) (w : World) (hm : w.cell? ⟨0, 0, none⟩ = some (.int .i64 m)) :
    Calls Tryz.prog 17 #[] w fun e w' => e = .returned (.bool true) ∧ Below w.heap.size w w' := by
  have HM := Lib.hid hm; clear hm
  have hb := box1 w 27 (c0 none 0 none 0)
  have hs := fun (W : World) => save_x0 m W
  have hl := fun (W : World) => load_x0c m W
  have hlen := img_len
  have h6 := img_six
  generalize img x0 = l at *
  have h7 : ((⟨l.toArray⟩ : ByteArray).extract 0 6).toList = [65, 78, 76, 49, 1, 65] := by
    rw [Rd.ext_take, h6, ByteArray.toList_eq]
  have Hs := Lib.hid hs
  have Hl := Lib.hid hl
  simp only [c0] at Hs Hl hb
  obtain ⟨bX, hbw, hz⟩ := hb
  have hmW := Lib.hid (cell_later hbw HM.out)
  have HB := Lib.hid hbw
  have HX := Lib.hid bX
  clear h6 hs hl bX hbw hz
  go_enter Tryz.func17, Tryz.ntmps17
  go_wp2_with (first
    | (go_at_call 18; refine (Hs.out _ hmW.out).mono ?_; rintro e w1 ⟨rfl, hb1⟩; have bX1 := HX.out.below hb1 HX.out.lt; have cX := fun i => bX1.cell i; have HX1 := Lib.hid bX1; have hb2 := HB.out.trans (hb1.mono HB.out.size); have HB1 := Lib.hid hb2; clear hb1 bX1 hb2 HX)
    | (go_at_call 19; refine (Hl.out _ (cell_later HB1.out HM.out)).mono ?_; rintro e w2 ⟨⟨A, c, A2, c2, rfl, hok⟩, hb1⟩; have bX1 := HX1.out.below hb1 HX1.out.lt; have cX2 := fun i => bX1.cell i; have hz2 := bX1.lt; have HX2 := Lib.hid bX1; have hb2 := HB1.out.trans (hb1.mono HB1.out.size); have HB2 := Lib.hid hb2; have hsm := same_x0 A A2 c c2 _ (hok.below ((Below.refl _ _).alloc (Nat.le_refl _) (.cells (c0 A c A2 c2) 27))); simp only [c0] at hsm; have HSm := Lib.hid hsm; clear hb1 bX1 hb2 HX1 HB1 hok hsm)
    | (go_at_call 21; refine HSm.out.mono ?_; rintro e w3 ⟨rfl, hb1⟩; have HB3 := Lib.hid ((HB2.out.alloc HB2.out.size _).trans (hb1.mono (by simp; have := HB2.out.size; omega))); clear hb1)
    | (go_at_call 47; refine (sum_ab _).mono ?_; rintro e w4 ⟨rfl, rfl⟩))
  go_ret
  exact ⟨rfl, HB3.out⟩
end Go.Proofs.YtpbojebnghcndaaGreatDoor.Alv
