/-
  The document's names of a source (analemmaref13.Names), analemmaref08.SameTexts, analemmaref13.Light: the contracts. Conditions: what the slices hold is read, the lengths are bounded.
-/
import Derived.Test.YtgfdmjldfahbpaaGreatDoorSndN
namespace Go.Proofs.YtgfdmjldfahbpaaGreatDoor.Snd
open Go.RowKit Mem Civ Mom Img Plc Rul Src

def namesL (ns : List ByteArray) : List ByteArray := ns.foldl (fun l n => putL n l) []
theorem namesL_snoc (ns : List ByteArray) (n : ByteArray) : namesL (ns ++ [n]) = putL n (namesL ns) := by simp [namesL, List.foldl_append]
theorem namesL_len (ns : List ByteArray) : (namesL ns).length ≤ ns.length := by
  suffices h : ∀ (ns : List ByteArray), (namesL ns.reverse).length ≤ ns.length by have := h ns.reverse; simpa using this
  intro ns
  induction ns with
  | nil => simp [namesL]
  | cons a t ih =>
    rw [List.reverse_cons, namesL_snoc, List.length_cons]
    have := (putL_len a (namesL t.reverse)).2
    omega
theorem own_txs {w : World} {base : Nat} {e : TypeId} {v : Value} {l P : List ByteArray} (h : w.ownsRow base e 1 v l.length (txs l)) (he : l = P) : w.ownsRow base e 1 v P.length (txs P) := by subst he; exact h
def allNames (s : Src) : List ByteArray := s.zones.map (·.name) ++ s.links.map (·.name)

set_option maxHeartbeats 1000000 in
set_option maxRecDepth 100000 in
theorem rnames_any (s : Src) (A A2 A3 : Option Addr) (c c2 c3 : Nat) (w : World) (h : SrcOk s A A2 A3 w) (hn : s.zones.length + s.links.length ≤ 1000000) :
    Calls Tryz.prog 15 #[.agg #[.slice A s.rules.length c, .slice A2 s.zones.length c2, .slice A3 s.links.length c3]] w fun e w' => ∃ v, e = .returned v ∧ w'.ownsRow w.heap.size 9 1 v (namesL (allNames s)).length (txs (namesL (allNames s))) ∧ Below w.heap.size w w' := by
  have hrz := h.rz; have hrl := h.rl
  clear h
  obtain ⟨P, hP⟩ : ∃ P, namesL (allNames s) = P := ⟨_, rfl⟩
  rw [hP]
  unfold allNames at hP
  obtain ⟨rs, zs, ls⟩ := s
  simp only at hrz hrl hn hP ⊢
  have HP := Lib.hid hP
  have hone := One.new w 26 #[.slice A rs.length c, .slice A2 zs.length c2, .slice A3 ls.length c3]
  obtain ⟨W, hW⟩ : ∃ W, w.alloc (.cells #[.slice A rs.length c, .slice A2 zs.length c2, .slice A3 ls.length c3] 26) = W := ⟨_, rfl⟩
  rw [hW] at hone
  have HO := Lib.hid hone; have HZ := Lib.hid hrz; have HL := Lib.hid hrl
  have c0 := fun i => hone.1.cell i
  clear hone hrz hrl hP
  go_enter Tryz.func15, Tryz.ntmps15
  go_wp2_with fail
  clear c0
  go_loopw [3, 4] (fun v i wr => ∃ k : Nat, k ≤ zs.length ∧ i = .int .i64 k ∧ wr.ownsRow w.heap.size 9 1 v (namesL ((zs.take k).map (·.name))).length (txs (namesL ((zs.take k).map (·.name)))) ∧ One w w.heap.size 26 #[.slice A rs.length c, .slice A2 zs.length c2, .slice A3 ls.length c3] wr) (fun _ i _ => zs.length - (intOf i).toNat)
  case atStart => exact ⟨0, Nat.zero_le _, rfl, World.ownsRow_nil _ _ _ _, HO.out⟩
  case round =>
    clear HO
    obtain ⟨k, hk, rfl, hown, ho⟩ := hrel
    obtain ⟨Av, cv, rfl⟩ := own_slice hown
    have HOw := Lib.hid hown; have HO := Lib.hid ho
    have c0 := fun i => ho.1.cell i
    have hl := namesL_len ((zs.take k).map (·.name))
    rw [List.length_map, List.length_take] at hl
    clear hown ho
    by_cases hkn : k < zs.length
    · obtain ⟨ad, rfl, hadb, a0, a1⟩ := zone_cells (HZ.out.below HO.out.2) hkn rfl
      have hst : namesL ((zs.take (k + 1)).map (·.name)) = putL zs[k].name (namesL ((zs.take k).map (·.name))) := by
        rw [List.take_succ_eq_append_getElem hkn, List.map_append, List.map_cons, List.map_nil, namesL_snoc]
      have HPut := Lib.hid (put_any (namesL ((zs.take k).map (·.name))) zs[k].name Av cv wr (Reads.of_own HOw.out) (by omega))
      obtain ⟨l2, hl2⟩ : ∃ l2, l2 = namesL ((zs.take (k + 1)).map (·.name)) := ⟨_, rfl⟩
      rw [← hst, ← hl2] at HPut
      have Hsz := Lib.hid HO.out.2.size
      have HL2 := Lib.hid hl2
      clear hst hl hl2
      generalize namesL ((zs.take k).map (·.name)) = l1 at *
      go_wp2_with (go_at_call 37; refine HPut.out.mono ?_; rintro e w1 ⟨v, rfl, hown, hb⟩; have HOw2 := Lib.hid (own_base hown Hsz.out); have HO2 := Lib.hid (HO.out.step hb); clear hown hb)
      exact ⟨⟨k + 1, by omega, by go_num, own_txs HOw2.out HL2.out, HO2.out⟩, by simp [intOf]; omega⟩
    · obtain rfl : k = zs.length := by omega
      rw [List.take_length] at HOw
      go_wp2_with fail
      clear c0
      go_loopw [3, 5] (fun v i wr => ∃ k : Nat, k ≤ ls.length ∧ i = .int .i64 k ∧ wr.ownsRow w.heap.size 9 1 v (namesL (zs.map (·.name) ++ (ls.take k).map (·.name))).length (txs (namesL (zs.map (·.name) ++ (ls.take k).map (·.name)))) ∧ One w w.heap.size 26 #[.slice A rs.length c, .slice A2 zs.length c2, .slice A3 ls.length c3] wr) (fun _ i _ => ls.length - (intOf i).toNat)
      case atStart =>
        refine ⟨0, Nat.zero_le _, rfl, ?_, HO.out⟩
        rw [List.take_zero, List.map_nil, List.append_nil]
        exact HOw.out
      case round =>
        clear HO HOw hl
        obtain ⟨k, hk, rfl, hown, ho⟩ := hrel
        obtain ⟨Av, cv, rfl⟩ := own_slice hown
        have HOw := Lib.hid hown; have HO := Lib.hid ho
        have c0 := fun i => ho.1.cell i
        have hl := namesL_len (zs.map (·.name) ++ (ls.take k).map (·.name))
        rw [List.length_append, List.length_map, List.length_map, List.length_take] at hl
        clear hown ho
        by_cases hkn : k < ls.length
        · obtain ⟨ad, rfl, hadb, a0, a1⟩ := link_cells (HL.out.below HO.out.2) hkn rfl
          have hst : namesL (zs.map (·.name) ++ (ls.take (k + 1)).map (·.name)) = putL ls[k].name (namesL (zs.map (·.name) ++ (ls.take k).map (·.name))) := by
            rw [List.take_succ_eq_append_getElem hkn, List.map_append, List.map_cons, List.map_nil, ← List.append_assoc, namesL_snoc]
          have HPut := Lib.hid (put_any (namesL (zs.map (·.name) ++ (ls.take k).map (·.name))) ls[k].name Av cv wr (Reads.of_own HOw.out) (by omega))
          obtain ⟨l2, hl2⟩ : ∃ l2, l2 = namesL (zs.map (·.name) ++ (ls.take (k + 1)).map (·.name)) := ⟨_, rfl⟩
          rw [← hst, ← hl2] at HPut
          have Hsz := Lib.hid HO.out.2.size
          have HL2 := Lib.hid hl2
          clear hst hl hl2
          generalize namesL (zs.map (·.name) ++ (ls.take k).map (·.name)) = l1 at *
          go_wp2_with (go_at_call 37; refine HPut.out.mono ?_; rintro e w1 ⟨v, rfl, hown, hb⟩; have HOw2 := Lib.hid (own_base hown Hsz.out); have HO2 := Lib.hid (HO.out.step hb); clear hown hb)
          exact ⟨⟨k + 1, by omega, by go_num, own_txs HOw2.out HL2.out, HO2.out⟩, by simp [intOf]; omega⟩
        · obtain rfl : k = ls.length := by omega
          clear hl
          rw [List.take_length] at HOw
          go_wp2_with fail
          go_ret
          exact ⟨_, rfl, own_txs HOw.out HP.out, HO.out.2⟩
set_option maxHeartbeats 1000000 in
set_option maxRecDepth 100000 in
theorem sameTexts_any (xs : List ByteArray) (A A' : Option Addr) (B B' c c' : Nat) (w : World) (h : Reads w B 1 A xs.length (txs xs)) (h' : Reads w B' 1 A' xs.length (txs xs)) (hn : xs.length ≤ 1000000) :
    Calls Tryz.prog 13 #[.slice A xs.length c, .slice A' xs.length c'] w fun e w' => e = .returned (.bool true) ∧ ∃ n, w' = w.drewN n := by
  have H := Lib.hid h; have H' := Lib.hid h'; clear h h'
  go_enter Tryz.func13, Tryz.ntmps13
  go_wp2_with fail
  go_loopw [5] (fun i wr => ∃ k n : Nat, k ≤ xs.length ∧ i = .int .i64 k ∧ wr = w.drewN n) (fun i _ => xs.length - (intOf i).toNat)
  case atStart => exact ⟨0, 0, Nat.zero_le _, rfl, rfl⟩
  case round =>
    obtain ⟨k, n, hk, rfl, rfl⟩ := hrel
    by_cases hkn : k < xs.length
    · obtain ⟨ad, hA, _, a0⟩ := txt_at H.out hkn
      obtain ⟨ad', hA', _, b0⟩ := txt_at H'.out hkn
      subst hA hA'
      have heq : (xs[k].toList == xs[k].toList) = true := by simp
      generalize xs[k] = x at *
      go_wp2_with fail
      go_quiet (fail)
      go_wp2_with fail
      exact ⟨⟨k + 1, n + nq, by omega, by go_num, rfl⟩, by simp [intOf]; omega⟩
    · obtain rfl : k = xs.length := by omega
      go_wp2_with fail
      go_ret
      exact ⟨rfl, n, rfl⟩
end Go.Proofs.YtgfdmjldfahbpaaGreatDoor.Snd
