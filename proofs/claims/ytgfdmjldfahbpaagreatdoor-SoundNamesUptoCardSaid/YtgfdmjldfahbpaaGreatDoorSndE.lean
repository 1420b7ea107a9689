/-
  Package eras: the contract of Set; the document's Set. Conditions: what the source's slices hold is read.
-/
import Derived.Test.YtgfdmjldfahbpaaGreatDoorSndH
namespace Go.Proofs.YtgfdmjldfahbpaaGreatDoor.Snd
open Go.RowKit Mem Civ Mom Img Plc Rul Src Go.Maps

def setL (rs : List Rule) (nm : ByteArray) : List Rule := rs.filter fun r => decide (r.name = nm)
theorem setL_step {rs : List Rule} {nm : ByteArray} {k : Nat} (hk : k < rs.length) : setL (rs.take (k + 1)) nm = if decide (rs[k].name = nm) = true then setL (rs.take k) nm ++ [rs[k]] else setL (rs.take k) nm := by
  unfold setL
  rw [List.take_succ_eq_append_getElem hk, List.filter_append]
  split
  · next h => simp [h]
  · next h => simp [h]
theorem setL_len (rs : List Rule) (nm : ByteArray) : (setL rs nm).length ≤ rs.length := List.length_filter_le _ _
theorem info_rule : (Tryz.prog.info? 47).map (fun i => (i.zero, i.size, i.bytes)) = some (some (.agg #[.string ⟨#[]⟩, .int .i64 0, .int .i64 0, .int .i64 0, .int .i64 0, .int .i64 0, .int .i64 0, .int .i64 0, .int .i64 0, .int .i64 0, .string ⟨#[]⟩]), 11, 104) := by kernel_rfl
theorem one_rule {x0 x10 : ByteArray} {x1 x2 x3 x4 x5 x6 x7 x8 x9 : Int} : ∀ u ∈ (#[Value.string x0, .int .i64 x1, .int .i64 x2, .int .i64 x3, .int .i64 x4, .int .i64 x5, .int .i64 x6, .int .i64 x7, .int .i64 x8, .int .i64 x9, .string x10] : Array Value).toList, u.oneCell' = true := by
  intro u hu
  simp at hu
  rcases hu with rfl | rfl | rfl | rfl | rfl | rfl | rfl | rfl | rfl | rfl | rfl <;> rfl
set_option maxHeartbeats 1000000 in
set_option maxRecDepth 100000 in
theorem eset_any (s : Src) (A A2 A3 : Option Addr) (c c2 c3 : Nat) (nm : ByteArray) (w : World) (h : SrcOk s A A2 A3 w) :
    Calls Tryz.prog 42 #[.agg #[.slice A s.rules.length c, .slice A2 s.zones.length c2, .slice A3 s.links.length c3], .string nm] w fun e w' => ∃ v, e = .returned v ∧ w'.ownsRow w.heap.size 47 11 v (setL s.rules nm).length ((setL s.rules nm).flatMap Rule.cells) ∧ Below w.heap.size w w' := by
  obtain ⟨i1, hi1, hy0, hy1, hy2⟩ := info_parts info_rule
  have hrr := h.rr; have nr := h.nr
  clear h
  obtain ⟨rs, zs, ls⟩ := s
  simp only at hrr nr ⊢
  have hone := One.new w 26 #[.slice A rs.length c, .slice A2 zs.length c2, .slice A3 ls.length c3]
  obtain ⟨W, hW⟩ : ∃ W, w.alloc (.cells #[.slice A rs.length c, .slice A2 zs.length c2, .slice A3 ls.length c3] 26) = W := ⟨_, rfl⟩
  rw [hW] at hone
  have HO := Lib.hid hone; have HR := Lib.hid hrr
  have c0 := fun i => hone.1.cell i
  clear hone hrr
  go_enter Tryz.func42, Tryz.ntmps42
  go_wp2_with fail
  clear c0
  go_loopw [5, 11] (fun v i wr => ∃ k : Nat, k ≤ rs.length ∧ i = .int .i64 k ∧ wr.ownsRow w.heap.size 47 11 v (setL (rs.take k) nm).length ((setL (rs.take k) nm).flatMap Rule.cells) ∧ Below w.heap.size w wr) (fun _ i _ => rs.length - (intOf i).toNat)
  case atStart => exact ⟨0, Nat.zero_le _, rfl, World.ownsRow_nil _ _ _ _, HO.out.2⟩
  case round =>
    clear HO
    obtain ⟨k, hk, rfl, hown, hb⟩ := hrel
    have hsl := setL_len (rs.take k) nm
    rw [List.length_take] at hsl
    have HOw := Lib.hid hown; have HB := Lib.hid hb; have Hsz := Lib.hid hb.size
    clear hown hb
    by_cases hkn : k < rs.length
    · obtain ⟨ad, hA, hadb, a0, a1, a2, a3, a4, a5, a6, a7, a8, a9, a10⟩ := rule_cells (HR.out.below HB.out) hkn
      subst hA
      have hst := setL_step (nm := nm) hkn
      have hbq := tl_beq rs[k].name nm
      have HSt := Lib.hid hst
      clear hst
      generalize rs[k] = x at *
      obtain ⟨x0, x1, x2, x3, x4, x5, x6, x7, x8, x9, x10⟩ := x
      simp only at a0 a1 a2 a3 a4 a5 a6 a7 a8 a9 a10 HSt hbq
      have m1 : (setL (rs.take k) nm).length + 1 ≤ maxLen := by unfold maxLen; omega
      have m2 : ((setL (rs.take k) nm).length + 1) * 104 ≤ 140737488355328 := by omega
      have M1 := Lib.hid m1; have M2 := Lib.hid m2
      clear m1 m2 hsl
      cases hd : decide (x0 = nm)
      · rw [hd] at HSt hbq
        go_wp2_with fail
        refine ⟨⟨k + 1, by omega, by go_num, ?_, HB.out.alloc Hsz.out _⟩, by simp [intOf]; omega⟩
        rw [HSt.out]
        simp only [Bool.false_eq_true, if_false]
        exact HOw.out.alloc _
      · rw [hd] at HSt hbq
        have HOa := Lib.hid (HOw.out.alloc (.cells #[.string x0, .int .i64 x1, .int .i64 x2, .int .i64 x3, .int .i64 x4, .int .i64 x5, .int .i64 x6, .int .i64 x7, .int .i64 x8, .int .i64 x9, .string x10] 47))
        have HBa := Lib.hid (HB.out.alloc Hsz.out (.cells #[.string x0, .int .i64 x1, .int .i64 x2, .int .i64 x3, .int .i64 x4, .int .i64 x5, .int .i64 x6, .int .i64 x7, .int .i64 x8, .int .i64 x9, .string x10] 47))
        have HSa := Lib.hid HBa.out.size
        generalize setL (rs.take k) nm = l1 at *
        go_wp2_with ((at_builtin; refine wpList_append1g (wr.alloc (.cells #[.string x0, .int .i64 x1, .int .i64 x2, .int .i64 x3, .int .i64 x4, .int .i64 x5, .int .i64 x6, .int .i64 x7, .int .i64 x8, .int .i64 x9, .string x10] 47)) rfl (.tmp 19) (.tmp 21) 22 rfl w.heap.size 47 i1 _ 11 104 Tryz.underlying22 hi1 hy0 hy1 hy2 rfl (by decide) _ l1.length (l1.flatMap Rule.cells) rfl HOa.out (by simp [Act.eval]) rfl one_rule M1.out M2.out HSa.out ?_; intro v' wB hown8 hg8; have HO2 := Lib.hid hown8; have HB2 := Lib.hid ((HBa.out.alloc HSa.out _).grown hg8 (by simp; have := HSa.out; simp at this; omega) (fun j hj => (HOa.out.lt j hj).1)); clear hown8 hg8))
        refine ⟨⟨k + 1, by omega, by go_num, ?_, HB2.out⟩, by simp [intOf]; omega⟩
        rw [HSt.out]
        simp only [if_true]
        simpa [Rule.cells] using HO2.out
    · obtain rfl : k = rs.length := by omega
      rw [List.take_length] at HOw
      go_wp2_with fail
      go_ret
      exact ⟨_, rfl, HOw.out, HB.out⟩
end Go.Proofs.YtgfdmjldfahbpaaGreatDoor.Snd
