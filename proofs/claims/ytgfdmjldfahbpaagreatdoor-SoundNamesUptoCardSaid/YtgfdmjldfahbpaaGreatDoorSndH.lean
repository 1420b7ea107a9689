/-
  Package sound: the contract of targets. Conditions: what the source's slices hold is read, the names' lengths are bounded.
-/
import Derived.Test.YtgfdmjldfahbpaaGreatDoorSndK
namespace Go.Proofs.YtgfdmjldfahbpaaGreatDoor.Snd
open Go.RowKit Mem Civ Mom Img Plc Rul Src Go.Maps

def targetsB (s : Src) : Flaw := match s.links.findIdx? fun l => !inL (allNames s) l.target with
  | some i => ⟨8, 3, i, 0⟩
  | none => flawAt 16 3 (s.links.findIdx? fun l => !(resolveB s l.name).isSome)
theorem targets_results {w : World} {R0 : Nat} {a0 a1 a2 a3 : Value} (h : Blk w R0 31 #[a0, a1, a2, a3]) (tmps : Array Value) (ht : tmps[2]? = some (.pointer (some ⟨R0, 0, none⟩))) : (results Tryz.f22 tmps).run Tryz.prog w = .ok (.agg #[a0, a1, a2, a3]) w := by
  have hc := fun i => h.cell i
  simp [results, Tryz.results22, go_sem, hc, ht]
set_option maxHeartbeats 2000000 in
set_option maxRecDepth 100000 in
theorem targets_any (s : Src) (A A2 A3 : Option Addr) (c c2 c3 : Nat) (w : World) (h : SrcOk s A A2 A3 w) :
    Calls Tryz.prog 22 #[.agg #[.slice A s.rules.length c, .slice A2 s.zones.length c2, .slice A3 s.links.length c3]] w fun e w' => e = .returned (.agg (targetsB s).cells.toArray) ∧ Below w.heap.size w w' := by
  have hN := fun z (hb : Below w.heap.size w z) => named_any s A A2 A3 c c2 c3 z (h.below hb)
  have hR := fun nm z (hb : Below w.heap.size w z) => resolve_any s A A2 A3 c c2 c3 nm z (h.below hb)
  have hrl := h.rl; have nz := h.nz; have nl := h.nl; have tl := h.tl
  clear h
  obtain ⟨Q, hQ⟩ : ∃ Q, targetsB s = Q := ⟨_, rfl⟩
  rw [hQ]
  unfold targetsB allNames at hQ
  generalize hrv : resolveB s = rv at *
  clear hrv
  obtain ⟨rs, zs, ls⟩ := s
  simp only at hN hR hrl nz nl tl hQ ⊢
  have hst := Two.start w #[.slice A rs.length c, .slice A2 zs.length c2, .slice A3 ls.length c3]
  obtain ⟨W, hW⟩ : ∃ W, (w.alloc (.cells #[.slice A rs.length c, .slice A2 zs.length c2, .slice A3 ls.length c3] 26)).alloc (.cells #[.int .i64 0, .int .i64 0, .int .i64 0, .int .i64 0] 31) = W := ⟨_, rfl⟩
  rw [hW] at hst
  have hsz : w.heap.size + 1 < W.heap.size := hst.res.lt
  have HT := Lib.hid hst; have HL := Lib.hid hrl; have HQ := Lib.hid hQ; have HN := Lib.hid hN; have HRv := Lib.hid hR; have Htl := Lib.hid tl
  have c0 := fun i => hst.src.cell i
  clear hst hrl hQ hN hR tl
  go_enter Tryz.func22, Tryz.ntmps22
  go_wp2_with fail
  go_at_call 35
  refine (HN.out W HT.out.bel).mono ?_
  rintro e w1 ⟨b, rfl, hbz, hm, hb1⟩
  have HM := Lib.hid hm; have HT1 := Lib.hid (HT.out.step hb1)
  have hbw : w.heap.size + 1 < b := by omega
  have c1 := fun i => HT1.out.src.cell i
  clear c0 hm hb1 HT hbz hW hsz
  go_wp2_with fail
  clear c1
  go_loopw [17] (fun i wr => ∃ k : Nat, k ≤ ls.length ∧ i = .int .i64 k ∧ MapOf wr b (zs.length + k) (zs.map (·.name) ++ (ls.take k).map (·.name)) ∧ Two w #[.slice A rs.length c, .slice A2 zs.length c2, .slice A3 ls.length c3] #[.int .i64 0, .int .i64 0, .int .i64 0, .int .i64 0] wr) (fun i _ => ls.length - (intOf i).toNat)
  case atStart =>
    refine ⟨0, Nat.zero_le _, rfl, ?_, HT1.out⟩
    rw [List.take_zero, List.map_nil, List.append_nil]; exact HM.out
  case round =>
    clear HM HT1
    obtain ⟨k, hk, rfl, hm, ht⟩ := hrel
    have HT := Lib.hid ht
    clear ht
    by_cases hkn : k < ls.length
    · obtain ⟨ad, hA, hadb, a0, a1⟩ := link_cells (HL.out.below HT.out.bel) hkn rfl
      subst hA
      have hkey := nm_key (Htl.out ls[k] (List.getElem_mem hkn)).2
      have hst : zs.map (·.name) ++ (ls.take (k + 1)).map (·.name) = (zs.map (·.name) ++ (ls.take k).map (·.name)) ++ [ls[k].name] := by rw [List.take_succ_eq_append_getElem hkn, List.map_append, List.append_assoc]; rfl
      obtain ⟨D, hown, hsm⟩ := hm
      have Hown := Lib.hid hown; have Hsm := Lib.hid hsm; have HSt := Lib.hid hst; have Hbw := Lib.hid hbw
      clear hown hsm hst
      generalize ls[k] = x at *
      go_wp2_with (at_mapUpdate; refine wpList_mapUpdate_own (H := Unit) _ rfl _ _ _ 61 rfl 9 4 setLaw Tryz.underlying61 (plainElem Tryz.prog 4) b (zs.length + k) D rfl (Hown.out.alloc _) (by unfold maxLen; omega) _ _ _ rfl rfl hkey (.lit (.bool true)) [] (plainElem_bool Tryz.underlying4 true) ?_; intro w1 hmap1 hg1; have Hmap1 := Lib.hid hmap1; have Hg1 := Lib.hid hg1; clear hmap1 hg1)
      have ht := HT.out.alloc (.cells #[.string x.target, .string x.name] 50)
      refine ⟨⟨k + 1, by omega, by go_num, ⟨_, Hmap1.out, ?_⟩, ?_, ?_, ?_⟩, by simp [intOf]; omega⟩
      · rw [HSt.out, keyL, List.map_append]
        exact Hsm.out.put _
      · exact ht.src.grown Hg1.out (by have := Hbw.out; intro e; injection e with e; omega)
      · exact ht.res.grown Hg1.out (by have := Hbw.out; intro e; injection e with e; omega)
      · exact ht.bel.grown Hg1.out ht.bel.size (fun j hj => by have := Hbw.out; injection hj with hj; omega)
    · obtain rfl : k = ls.length := by omega
      rw [List.take_length] at hm
      obtain ⟨ns, hns⟩ : ∃ ns, zs.map (·.name) ++ ls.map (·.name) = ns := ⟨_, rfl⟩
      have hq := HQ.out
      rw [hns] at hm hq
      have HM := Lib.hid hm; have HQ2 := Lib.hid hq
      clear hm hq hns HQ HN
      have cS := fun i => HT.out.src.cell i
      go_wp2_with fail
      clear cS
      go_loopw [28] (fun i wz => ∃ k : Nat, k ≤ ls.length ∧ i = .int .i64 k ∧ (ls.take k).all (fun l => !!inL ns l.target) = true ∧ MapOf wz b (zs.length + ls.length) ns ∧ Two w #[.slice A rs.length c, .slice A2 zs.length c2, .slice A3 ls.length c3] #[.int .i64 0, .int .i64 0, .int .i64 0, .int .i64 0] wz) (fun i _ => ls.length - (intOf i).toNat)
      case atStart => exact ⟨0, Nat.zero_le _, rfl, rfl, HM.out, HT.out⟩
      case round =>
        clear HM HT
        obtain ⟨k, hk, rfl, hall, hm, ht⟩ := hrel
        have HT := Lib.hid ht; have Hall := Lib.hid hall; have HM := Lib.hid hm
        clear ht hall hm
        by_cases hkn : k < ls.length
        · obtain ⟨ad, hA, hadb, a0, a1⟩ := link_cells (HL.out.below HT.out.bel) hkn rfl
          subst hA
          have hlook := fun o => (HM.out.alloc o).look (Htl.out ls[k] (List.getElem_mem hkn)).1
          have hstep : (!inL ns ls[k].target) = false → (ls.take (k + 1)).all (fun l => !!inL ns l.target) = true := no_step (p := fun l : Link => !inL ns l.target) hkn Hall.out
          have hhit : (!inL ns ls[k].target) = true → (ls.findIdx? fun l => !inL ns l.target) = some k := find_hit (p := fun l : Link => !inL ns l.target) hkn Hall.out
          have HS := Lib.hid hstep; have HH := Lib.hid hhit
          clear hstep hhit Hall
          obtain ⟨x, hx⟩ : ∃ x, x = ls[k] := ⟨_, rfl⟩
          rw [← hx] at a0 a1 hlook HS HH
          clear hx
          obtain ⟨q, hqq⟩ : ∃ q, inL ns x.target = q := ⟨_, rfl⟩
          simp only [hqq] at hlook HS HH
          clear hqq
          have ht := HT.out.alloc (.cells #[.string x.target, .string x.name] 50)
          cases q
          · have hq := HQ2.out
            rw [HH.out (by rfl)] at hq
            subst hq
            have fR := fun i => ht.res.frozen i
            have cR := fun i => ht.res.cell i
            have HF := Lib.hid (ht.fill (.int .i64 8) (.int .i64 3) (.int .i64 k) (.int .i64 0))
            clear ht HS HH HQ2
            go_wp2_with fail
            refine bodyPost_ret (targets_results HF.out.res _ rfl) rfl ?_
            exact ⟨rfl, HF.out.bel⟩
          · have HT2 := Lib.hid ht
            clear ht HH
            go_wp2_with fail
            exact ⟨⟨k + 1, by omega, by go_num, HS.out (by rfl), HM.out.alloc _, HT2.out⟩, by simp [intOf]; omega⟩
        · obtain rfl : k = ls.length := by omega
          have hall := Hall.out
          rw [List.take_length] at hall
          have hq := HQ2.out
          rw [find_miss (p := fun l : Link => !inL ns l.target) hall] at hq
          have HQ3 := Lib.hid hq
          clear hq hall Hall HQ2 HM
          have cS := fun i => HT.out.src.cell i
          go_wp2_with fail
          clear cS
          go_loopw [44] (fun i wz => ∃ k : Nat, k ≤ ls.length ∧ i = .int .i64 k ∧ (ls.take k).all (fun l => !!(rv l.name).isSome) = true ∧ Two w #[.slice A rs.length c, .slice A2 zs.length c2, .slice A3 ls.length c3] #[.int .i64 0, .int .i64 0, .int .i64 0, .int .i64 0] wz) (fun i _ => ls.length - (intOf i).toNat)
          case atStart => exact ⟨0, Nat.zero_le _, rfl, rfl, HT.out⟩
          case round =>
            clear HT
            obtain ⟨k, hk, rfl, hall, ht⟩ := hrel
            have HT := Lib.hid ht; have Hall := Lib.hid hall
            clear ht hall
            by_cases hkn : k < ls.length
            · obtain ⟨ad, hA, hadb, a0, a1⟩ := link_cells (HL.out.below HT.out.bel) hkn rfl
              subst hA
              have hstep : (!(rv ls[k].name).isSome) = false → (ls.take (k + 1)).all (fun l => !!(rv l.name).isSome) = true := no_step (p := fun l : Link => !(rv l.name).isSome) hkn Hall.out
              have hhit : (!(rv ls[k].name).isSome) = true → (ls.findIdx? fun l => !(rv l.name).isSome) = some k := find_hit (p := fun l : Link => !(rv l.name).isSome) hkn Hall.out
              have HS := Lib.hid hstep; have HH := Lib.hid hhit
              clear hstep hhit Hall
              obtain ⟨x, hx⟩ : ∃ x, x = ls[k] := ⟨_, rfl⟩
              rw [← hx] at a0 a1 HS HH
              clear hx
              have ht := HT.out.alloc (.cells #[.string x.target, .string x.name] 50)
              have HRz := Lib.hid (HRv.out x.name _ ht.bel)
              have HT2 := Lib.hid ht
              have cS := fun i => ht.src.cell i
              clear ht
              generalize rv x.name = r at *
              cases r with
              | none =>
                have hq := HQ3.out
                rw [HH.out (by rfl)] at hq
                subst hq
                go_wp2_with (go_at_call 11; refine HRz.out.mono ?_; rintro e w2 ⟨rfl, hb⟩; have ht3 := HT2.out.step hb; have fR := fun i => ht3.res.frozen i; have cR := fun i => ht3.res.cell i; have HF := Lib.hid (ht3.fill (.int .i64 16) (.int .i64 3) (.int .i64 k) (.int .i64 0)); clear hb ht3)
                refine bodyPost_ret (targets_results HF.out.res _ rfl) rfl ?_
                exact ⟨rfl, HF.out.bel⟩
              | some i =>
                go_wp2_with (go_at_call 11; refine HRz.out.mono ?_; rintro e w2 ⟨rfl, hb⟩; have HT3 := Lib.hid (HT2.out.step hb); clear hb)
                exact ⟨⟨k + 1, by omega, by go_num, HS.out (by rfl), HT3.out⟩, by simp [intOf]; omega⟩
            · obtain rfl : k = ls.length := by omega
              have hall := Hall.out
              rw [List.take_length] at hall
              have hq := HQ3.out
              rw [find_miss (p := fun l : Link => !(rv l.name).isSome) hall] at hq
              subst hq
              have fR := fun i => HT.out.res.frozen i
              have cR := fun i => HT.out.res.cell i
              have HF := Lib.hid (HT.out.fill (.int .i64 0) (.int .i64 0) (.int .i64 0) (.int .i64 0))
              clear Hall hall HQ3
              go_wp2_with fail
              refine bodyPost_ret (targets_results HF.out.res _ rfl) rfl ?_
              exact ⟨rfl, HF.out.bel⟩
end Go.Proofs.YtgfdmjldfahbpaaGreatDoor.Snd
