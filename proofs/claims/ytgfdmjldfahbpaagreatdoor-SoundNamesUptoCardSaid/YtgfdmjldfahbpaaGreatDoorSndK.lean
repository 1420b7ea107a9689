/-
  Package sound: the contract of links. Conditions: what the source's slices hold is read, the names' lengths are bounded.
-/
import Derived.Test.YtgfdmjldfahbpaaGreatDoorSndF
namespace Go.Proofs.YtgfdmjldfahbpaaGreatDoor.Snd
open Go.RowKit Mem Civ Mom Img Plc Rul Src Go.Maps

def dupL (seen : List ByteArray) : List Link → Nat → Option Nat
  | [], _ => none
  | x :: t, i => if inL seen x.name = true then some i else dupL (seen ++ [x.name]) t (i + 1)
def linksB (s : Src) : Flaw := flawAt 10 3 (dupL (s.zones.map (·.name)) s.links 0)
set_option maxHeartbeats 1000000 in
set_option maxRecDepth 100000 in
theorem links_any (s : Src) (A A2 A3 : Option Addr) (c c2 c3 : Nat) (w : World) (h : SrcOk s A A2 A3 w) :
    Calls Tryz.prog 21 #[.agg #[.slice A s.rules.length c, .slice A2 s.zones.length c2, .slice A3 s.links.length c3]] w fun e w' => e = .returned (.agg (linksB s).cells.toArray) ∧ Below w.heap.size w w' := by
  have hN := fun z (hb : Below w.heap.size w z) => named_any s A A2 A3 c c2 c3 z (h.below hb)
  have hrl := h.rl; have nz := h.nz; have nl := h.nl; have tl := h.tl
  clear h
  obtain ⟨Q, hQ⟩ : ∃ Q, linksB s = Q := ⟨_, rfl⟩
  rw [hQ]
  unfold linksB at hQ
  obtain ⟨rs, zs, ls⟩ := s
  simp only at hN hrl nz nl tl hQ ⊢
  have hst := Two.start w #[.slice A rs.length c, .slice A2 zs.length c2, .slice A3 ls.length c3]
  obtain ⟨W, hW⟩ : ∃ W, (w.alloc (.cells #[.slice A rs.length c, .slice A2 zs.length c2, .slice A3 ls.length c3] 26)).alloc (.cells #[.int .i64 0, .int .i64 0, .int .i64 0, .int .i64 0] 31) = W := ⟨_, rfl⟩
  rw [hW] at hst
  have hsz : w.heap.size + 1 < W.heap.size := hst.res.lt
  have HT := Lib.hid hst; have HL := Lib.hid hrl; have HQ := Lib.hid hQ; have HN := Lib.hid hN; have Htl := Lib.hid tl
  have c0 := fun i => hst.src.cell i
  clear hst hrl hQ hN tl
  go_enter Tryz.func21, Tryz.ntmps21
  go_wp2_with fail
  go_at_call 35
  refine (HN.out W HT.out.bel).mono ?_
  rintro e w1 ⟨b, rfl, hbz, hm, hb1⟩
  have HM := Lib.hid hm; have HT1 := Lib.hid (HT.out.step hb1)
  have hbw : w.heap.size + 1 < b := by omega
  have c1 := fun i => HT1.out.src.cell i
  clear c0 hm hb1 HT hbz hW hsz
  go_wp2_with fail
  clear c1
  go_loopw [11] (fun i wr => ∃ k : Nat, k ≤ ls.length ∧ i = .int .i64 k ∧ MapOf wr b (zs.length + k) (zs.map (·.name) ++ (ls.take k).map (·.name)) ∧ flawAt 10 3 (dupL (zs.map (·.name) ++ (ls.take k).map (·.name)) (ls.drop k) k) = Q ∧ Two w #[.slice A rs.length c, .slice A2 zs.length c2, .slice A3 ls.length c3] #[.int .i64 0, .int .i64 0, .int .i64 0, .int .i64 0] wr) (fun i _ => ls.length - (intOf i).toNat)
  case atStart =>
    refine ⟨0, Nat.zero_le _, rfl, ?_, ?_, HT1.out⟩
    · rw [List.take_zero, List.map_nil, List.append_nil]; exact HM.out
    · rw [List.take_zero, List.map_nil, List.append_nil, List.drop_zero]; exact HQ.out
  case round =>
    clear HM HT1 HQ
    obtain ⟨k, hk, rfl, hm, hq, ht⟩ := hrel
    have HT := Lib.hid ht; have Hq := Lib.hid hq
    clear ht hq
    by_cases hkn : k < ls.length
    · obtain ⟨ad, hA, hadb, a0, a1⟩ := link_cells (HL.out.below HT.out.bel) hkn rfl
      subst hA
      have hsz := (Htl.out ls[k] (List.getElem_mem hkn)).2
      have hkey := nm_key hsz
      have hst : zs.map (·.name) ++ (ls.take (k + 1)).map (·.name) = (zs.map (·.name) ++ (ls.take k).map (·.name)) ++ [ls[k].name] := by rw [List.take_succ_eq_append_getElem hkn, List.map_append, List.append_assoc]; rfl
      have hdr : ls.drop k = ls[k] :: ls.drop (k + 1) := List.drop_eq_getElem_cons hkn
      have hq := Hq.out
      rw [hdr, dupL, ← hst] at hq
      have hlook := fun o => (hm.alloc o).look hsz
      obtain ⟨D, hown, hsm⟩ := hm
      have Hown := Lib.hid hown; have Hsm := Lib.hid hsm; have HSt := Lib.hid hst; have Hq2 := Lib.hid hq; have Hbw := Lib.hid hbw
      clear hown hsm hst hdr hq Hq hsz
      obtain ⟨x, hx⟩ : ∃ x, x = ls[k] := ⟨_, rfl⟩
      rw [← hx] at a0 a1 hkey hlook HSt Hq2
      clear hx
      obtain ⟨q, hqq⟩ : ∃ q, inL (zs.map (·.name) ++ (ls.take k).map (·.name)) x.name = q := ⟨_, rfl⟩
      simp only [hqq] at hlook Hq2
      clear hqq
      cases q
      · go_wp2_with (at_mapUpdate; refine wpList_mapUpdate_own (H := Unit) _ rfl _ _ _ 61 rfl 9 4 setLaw Tryz.underlying61 (plainElem Tryz.prog 4) b (zs.length + k) D rfl (Hown.out.alloc _) (by unfold maxLen; omega) _ _ _ rfl rfl hkey (.lit (.bool true)) [] (plainElem_bool Tryz.underlying4 true) ?_; intro w1 hmap1 hg1; have Hmap1 := Lib.hid hmap1; have Hg1 := Lib.hid hg1; clear hmap1 hg1)
        have ht := HT.out.alloc (.cells #[.string x.target, .string x.name] 50)
        refine ⟨⟨k + 1, by omega, by go_num, ⟨_, Hmap1.out, ?_⟩, ?_, ?_, ?_, ?_⟩, by simp [intOf]; omega⟩
        · rw [HSt.out, keyL, List.map_append]
          exact Hsm.out.put _
        · have hq := Hq2.out
          simp only [Bool.false_eq_true, if_false] at hq
          exact hq
        · exact ht.src.grown Hg1.out (by have := Hbw.out; intro e; injection e with e; omega)
        · exact ht.res.grown Hg1.out (by have := Hbw.out; intro e; injection e with e; omega)
        · exact ht.bel.grown Hg1.out ht.bel.size (fun j hj => by have := Hbw.out; injection hj with hj; omega)
      · have hq := Hq2.out
        simp only [if_true] at hq
        subst hq
        have ht := HT.out.alloc (.cells #[.string x.target, .string x.name] 50)
        have fR := fun i => ht.res.frozen i
        have cR := fun i => ht.res.cell i
        have HF := Lib.hid (ht.fill (.int .i64 10) (.int .i64 3) (.int .i64 k) (.int .i64 0))
        clear ht Hq2 HSt Hown Hsm
        go_wp2_with fail
        refine bodyPost_ret (links_results HF.out.res _ rfl) rfl ?_
        exact ⟨rfl, HF.out.bel⟩
    · obtain rfl : k = ls.length := by omega
      have hq := Hq.out
      rw [List.drop_length, dupL] at hq
      subst hq
      have fR := fun i => HT.out.res.frozen i
      have cR := fun i => HT.out.res.cell i
      have HF := Lib.hid (HT.out.fill (.int .i64 0) (.int .i64 0) (.int .i64 0) (.int .i64 0))
      clear Hq hm
      go_wp2_with fail
      refine bodyPost_ret (links_results HF.out.res _ rfl) rfl ?_
      exact ⟨rfl, HF.out.bel⟩
end Go.Proofs.YtgfdmjldfahbpaaGreatDoor.Snd
