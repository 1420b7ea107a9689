/-
  Package sound: the contract of Names. Conditions: what the source's slices hold is read, the names' lengths are bounded.
-/
import Derived.Test.YtgfdmjldfahbpaaGreatDoorSndM
import Derived.Shelf.Slices.In.SortNone
namespace Go.Proofs.YtgfdmjldfahbpaaGreatDoor.Snd
open Go.RowKit Mem Civ Mom Img Plc Rul Src Go.Maps Go.Sort

theorem one_enc {x : List UInt8} : ∀ u ∈ (#[encStr x] : Array Value).toList, u.oneCell' = true := by intro u hu; simp at hu; subst hu; rfl
theorem bool_any (v : Value) (y : DataW Unit × List MemPlace) (_ : plainElem (H := Unit) Tryz.prog 4 v = some y) : ∃ c : Value, v = id c := ⟨v, rfl⟩
theorem str_inv (key : Value) (kl : Lit) (h : keyOf Tryz.prog 9 key = some kl) : ∃ x, key = encStr x := by
  obtain ⟨x, hx, _⟩ := Maps.keyOf_str Tryz.underlying9 h
  exact ⟨x, hx⟩
theorem own_n {w : World} {base size n n' : Nat} {e : TypeId} {v : Value} {xs : List Value} (h : w.ownsRow base e size v n xs) (he : n' = n) : w.ownsRow base e size v n' xs := by subst he; exact h
/-- Names in order, each once: what Names answers. -/
def NamesP (w : World) (l : List ByteArray) (e : Ending) (w' : World) : Prop :=
  ∃ (v : Value) (ts : List (List UInt8)), e = .returned v ∧ w'.ownsRow w.heap.size 9 1 v ts.length (ts.map encStr) ∧ ts.Pairwise (· ≤ ·) ∧ ts.Nodup ∧ (∀ x, x ∈ ts ↔ x ∈ keyL l) ∧ Below w.heap.size w w'
theorem sorted_of {D : DataW Unit} {left : Lit → Bool} {ss ks : List (List UInt8)} (hc : Collected D left ss) (hl : ∀ kl, left kl = false) (hs : SM ks D) :
    (ss.mergeSort fun x y => decide (x ≤ y)).Pairwise (· ≤ ·) ∧ (ss.mergeSort fun x y => decide (x ≤ y)).Nodup ∧ ∀ x, x ∈ (ss.mergeSort fun x y => decide (x ≤ y)) ↔ x ∈ ks := by
  have hp := List.mergeSort_perm ss fun x y => decide (x ≤ y)
  refine ⟨?_, hp.nodup_iff.2 hc.1, fun x => ?_⟩
  · have h := List.pairwise_mergeSort (le := fun x y : List UInt8 => decide (x ≤ y)) (fun a b c h1 h2 => by simp only [decide_eq_true_eq] at *; exact List.le_trans h1 h2) (fun a b => by simp only [Bool.or_eq_true, decide_eq_true_eq]; exact List.le_total a b) ss
    exact h.imp fun h => by simpa using h
  · rw [hp.mem_iff, hc.2 x, hl, (hs.2 x).1]
    simp
set_option maxHeartbeats 2000000 in
set_option maxRecDepth 100000 in
theorem names_any (s : Src) (A A2 A3 : Option Addr) (c c2 c3 : Nat) (w : World) (h : SrcOk s A A2 A3 w) :
    Calls Tryz.prog 14 #[.agg #[.slice A s.rules.length c, .slice A2 s.zones.length c2, .slice A3 s.links.length c3]] w (NamesP w (allNames s)) := by
  obtain ⟨i1, hi1, hy0, hy1, hy2⟩ := info_parts info_str
  have hN := fun z (hb : Below w.heap.size w z) => named_any s A A2 A3 c c2 c3 z (h.below hb)
  have hrl := h.rl; have nz := h.nz; have nl := h.nl; have tl := h.tl
  clear h
  unfold allNames
  obtain ⟨rs, zs, ls⟩ := s
  simp only at hN hrl nz nl tl ⊢
  have hone := One.new w 26 #[.slice A rs.length c, .slice A2 zs.length c2, .slice A3 ls.length c3]
  obtain ⟨W, hW⟩ : ∃ W, w.alloc (.cells #[.slice A rs.length c, .slice A2 zs.length c2, .slice A3 ls.length c3] 26) = W := ⟨_, rfl⟩
  have hsz : w.heap.size < W.heap.size := by rw [← hW]; simp
  rw [hW] at hone
  have HO := Lib.hid hone; have HN := Lib.hid hN; have HL := Lib.hid hrl; have HT := Lib.hid tl; have Hsz := Lib.hid hsz
  have c0 := fun i => hone.1.cell i
  clear hone hrl tl hsz hN
  go_enter Tryz.func14, Tryz.ntmps14
  go_wp2_with fail
  go_at_call 35
  refine (HN.out W HO.out.2).mono ?_
  rintro e w1 ⟨b, rfl, hbz, hm, hb1⟩
  have HM := Lib.hid hm; have HO1 := Lib.hid (HO.out.step hb1)
  have hbw : w.heap.size < b := Nat.lt_of_lt_of_le Hsz.out hbz
  have c1 := fun i => HO1.out.1.cell i
  clear c0 hm hb1 HO hbz
  go_wp2_with fail
  clear c1
  go_loopw [13] (fun i wr => ∃ k : Nat, k ≤ ls.length ∧ i = .int .i64 k ∧ MapOf wr b (zs.length + k) (zs.map (·.name) ++ (ls.take k).map (·.name)) ∧ One w w.heap.size 26 #[.slice A rs.length c, .slice A2 zs.length c2, .slice A3 ls.length c3] wr) (fun i _ => ls.length - (intOf i).toNat)
  case atStart =>
    refine ⟨0, Nat.zero_le _, rfl, ?_, HO1.out⟩
    rw [List.take_zero, List.map_nil, List.append_nil]
    exact HM.out
  case round =>
    clear HM HO1
    obtain ⟨k, hk, rfl, hm, ho⟩ := hrel
    have HO1 := Lib.hid ho
    clear ho
    by_cases hkn : k < ls.length
    · obtain ⟨ad, rfl, hadb, a0, a1⟩ := link_cells (HL.out.below HO1.out.2) hkn rfl
      have hkey := nm_key (HT.out ls[k] (List.getElem_mem hkn)).2
      have hst : zs.map (·.name) ++ (ls.take (k + 1)).map (·.name) = (zs.map (·.name) ++ (ls.take k).map (·.name)) ++ [ls[k].name] := by rw [List.take_succ_eq_append_getElem hkn, List.map_append, List.append_assoc]; rfl
      have HSt := Lib.hid hst
      obtain ⟨D, hown, hsm⟩ := hm
      have Hown := Lib.hid hown; have Hsm := Lib.hid hsm
      have Hbw := Lib.hid hbw
      clear hown hsm hst
      generalize ls[k] = z at *
      go_wp2_with (at_mapUpdate; refine wpList_mapUpdate_own (H := Unit) _ rfl _ _ _ 61 rfl 9 4 setLaw Tryz.underlying61 (plainElem Tryz.prog 4) b (zs.length + k) D rfl (Hown.out.alloc _) (by unfold maxLen; omega) _ _ _ rfl rfl hkey (.lit (.bool true)) [] (plainElem_bool Tryz.underlying4 true) ?_; intro w1 hmap1 hg1; have Hmap1 := Lib.hid hmap1; have Hg1 := Lib.hid hg1; clear hmap1 hg1)
      refine ⟨⟨k + 1, by omega, by go_num, ⟨_, Hmap1.out, ?_⟩, ?_, ?_⟩, by simp [intOf]; omega⟩
      · rw [HSt.out, keyL, List.map_append]
        exact Hsm.out.put _
      · exact (HO1.out.1.alloc _).grown Hg1.out (by have := Hbw.out; intro e; injection e with e; omega)
      · exact (HO1.out.2.alloc HO1.out.2.size _).grown Hg1.out (by have := HO1.out.2.size; simp; omega) (fun j hj => by have := Hbw.out; injection hj with hj; omega)
    · obtain rfl : k = ls.length := by omega
      rw [List.take_length] at hm
      obtain ⟨D, hown, hsm⟩ := hm
      have hzl := hown.size_le
      have hblt := hown.lt
      have Hown := Lib.hid hown; have Hsm := Lib.hid hsm; have Hzl := Lib.hid hzl
      have HB := Lib.hid HO1.out.2
      obtain ⟨W5, hW5⟩ : ∃ W5, W5 = wr := ⟨_, rfl⟩
      clear hown hsm hzl
      go_wp2_with ((at_range; refine wpList_range_own _ rfl _ 61 rfl 9 4 setLaw Tryz.underlying61 _ b _ D rfl Hown.out ?_; intro w0 hrg0 hg0 hs0; have Hrg0 := Lib.hid hrg0; have Hg0 := Lib.hid hg0; have Hs0' := Lib.hid hs0; clear hrg0 hg0 hs0))
      go_frame
      have hr0 : w.heap.size ≤ wr.heap.size := HB.out.size
      obtain ⟨r, hr⟩ : ∃ r, r = wr.heap.size := ⟨_, rfl⟩
      have HB0 := Lib.hid (HB.out.grown Hg0.out hr0 (fun j hj => by cases hj))
      rw [← hr] at Hrg0 hr0 Hs0' hblt ⊢
      have Hs0 : Hid (w0.heap.size = r + 1) := Hs0'
      have hrg_b := hblt
      clear hr hW5 hW Hs0' hblt
      obtain ⟨N, hN⟩ : ∃ N, N = zs.length + ls.length := ⟨_, rfl⟩
      have hN2 : N ≤ 2000000 := by omega
      rw [← hN] at Hrg0 Hzl
      clear hN
      go_loopw [6] (fun v wr => ∃ (left : Lit → Bool) (cnt : Nat) (ss : List (List UInt8)), wr.ranges Tryz.prog 9 (plainElem (H := Unit) Tryz.prog 4) b r N D left cnt ∧ ss.length + cnt ≤ Maps.size D ∧
        wr.ownsRow w0.heap.size 9 1 v ss.length (ss.map encStr) ∧ Collected D left ss ∧ Below w.heap.size w wr ∧ w0.heap.size ≤ wr.heap.size) (fun _ wr => wr.rangeLeft b r)
      case atStart => exact ⟨_, _, [], Hrg0.out, by simp, World.ownsRow_nil _ _ _ _, Collected.start D, HB0.out, Nat.le_refl _⟩
      case round =>
        obtain ⟨left, cnt, ss, hrg, hcs, hrow, hC, hb, hz0⟩ := hrel
        have Hrg := Lib.hid hrg; have HRow := Lib.hid hrow; have HC := Lib.hid hC; have HBB := Lib.hid hb; have Hz0 := Lib.hid hz0; have Hcs := Lib.hid hcs
        clear hrg hrow hC hb hz0 hcs
        go_wp2_with ((at_next; refine wpList_next_ranges (H := Unit) _ rfl _ rfl 9 setLaw (plainElem Tryz.prog 4) encStr id str_inv bool_any b r N D left cnt rfl Hrg.out ?_ ?_))
        · intro hc0 hl0
          have HS := Lib.hid (sorted_of HC.out hl0 Hsm.out)
          have hsl : ss.length ≤ N := by have := Hcs.out; have := Hzl.out; omega
          rcases HRow.out.2 with ⟨hv, hz⟩ | ⟨g, cap, cur, hv, hbase, hb, h1, h2, h3, h4⟩
          · obtain rfl : ss = [] := List.length_eq_zero_iff.1 hz
            subst hv
            have hc : Calls Tryz.prog 36 #[.slice none 0 0] wr fun e w' => e = .returned (.tuple #[]) ∧ w' = wr := Any.slices_Sort_string_none Tryz.lays190 none 0 wr
            have Hc := Lib.hid hc
            clear hc hc0 hl0
            go_wp2_with (go_at_call 36; refine Hc.out.mono ?_; rintro e w' ⟨rfl, rfl⟩)
            go_ret
            refine ⟨_, _, rfl, ?_, HS.out.1, HS.out.2.1, HS.out.2.2, HBB.out⟩
            rw [List.mergeSort_nil]
            exact World.ownsRow_nil _ _ _ _
          · subst hv
            have hH : Holds encStr wr g 0 ss.toArray := holds_of_block hb (by simpa using h4)
            have hgl : g < wr.heap.size := (Array.getElem?_eq_some_iff.1 hb).1
            have hc := Tryz.slices_Sort_string g 0 cap ss wr hH hgl (by omega)
            have Hc := Lib.hid hc
            have hlen : (ss.mergeSort fun x y => decide (x ≤ y)).length = ss.length := List.length_mergeSort _
            have hbb : w.heap.size ≤ g := Nat.le_trans (Nat.le_trans hr0 (by have := Hs0.out; omega)) hbase
            have HE := Lib.hid (fun nn os => own_base (ownsRow_sorted (n := nn) (os := os) hlen hbb hb h1 h2 h3) (Nat.le_refl _))
            have HBe := Lib.hid (fun nn os (d : Array (List UInt8)) => HBB.out.grown (grownBy_sorted (w := wr) (g := g) (n := nn) (os := os) d) HBB.out.size (fun j hj => by cases hj; exact hbb))
            have Hlen := Lib.hid hlen
            clear hc hc0 hl0 hH hb h3 h4 h1 h2 hlen
            go_wp2_with (go_at_call 36; refine Hc.out.mono ?_; rintro e w' ⟨rfl, nn, os, rfl⟩)
            go_ret
            exact ⟨_, _, rfl, own_n (HE.out nn os) Hlen.out, HS.out.1, HS.out.2.1, HS.out.2.2, HBe.out nn os _⟩
        · intro x cv kl yd yp w2 cnt2 hkey hlk hv hat hrg2 hlt hg2 hs2 hen
          obtain ⟨x', ex, hkl, _⟩ := Maps.keyOf_str Tryz.underlying9 hkey
          obtain rfl : x = x' := encStr_inj ex
          subst hkl
          have hb2 := HBB.out.grown hg2 HBB.out.size (fun j hj => by cases hj; exact hr0)
          have hrow2 := HRow.out.kept hg2 (.inr (row_ne_iter HRow.out Hrg.out).symm)
          have hz2 : w0.heap.size ≤ w2.heap.size := by rw [hs2]; exact Hz0.out
          have m1 : ss.length + 1 ≤ maxLen := by have := Hcs.out; have := Hzl.out; unfold maxLen; omega
          have m2 : (ss.length + 1) * 16 ≤ 140737488355328 := by have := Hcs.out; have := Hzl.out; omega
          have HB2 := Lib.hid hb2; have HRow2 := Lib.hid hrow2; have Hz2 := Lib.hid hz2; have M1 := Lib.hid m1; have M2 := Lib.hid m2; have Hrg2 := Lib.hid hrg2; have Hst := Lib.hid (HC.out.step hlk hat); have Hlt := Lib.hid hlt
          clear hb2 hrow2 hz2 m1 m2 hrg2 hs2 hg2 hlk hat hv hkey ex hlt
          go_wp2_with ((at_builtin; refine wpList_append1g w2 rfl (.tmp 27) (.tmp 29) 36 rfl w0.heap.size 9 i1 _ 1 16 Tryz.underlying36 hi1 hy0 hy1 hy2 rfl (by decide) _ ss.length (ss.map encStr) rfl HRow2.out rfl rfl one_enc M1.out M2.out Hz2.out ?_; intro v' wB hown8 hg8; have HO3 := Lib.hid hown8; have Hg3 := Lib.hid hg8; clear hown8 hg8))
          have hrg3 := (Hrg2.out.alloc (.cells #[encStr x] 9)).kept Hg3.out (row_ne_low HRow2.out (by have := Hs0.out; have := hrg_b; omega)) (row_ne_low HRow2.out (by have := Hs0.out; omega))
          refine ⟨⟨_, cnt2, ss ++ [x], hrg3, ?_, ?_, Hst.out, ?_, ?_⟩, ?_⟩
          · have := Hcs.out; have := Hlt.out; rw [List.length_append]; simp only [List.length_cons, List.length_nil]; omega
          · simpa using HO3.out
          · exact (HB2.out.alloc HB2.out.size _).grown Hg3.out (by have := HB2.out.size; simp; omega) (fun j hj => Nat.le_trans (by have := Hs0.out; omega) (HRow2.out.lt j hj).1)
          · have := Hg3.out.size; have := Hz2.out; simp at *; omega
          · rw [hrg3.left_eq, Hrg.out.left_eq]; exact Hlt.out
end Go.Proofs.YtgfdmjldfahbpaaGreatDoor.Snd
