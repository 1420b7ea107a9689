/-
  The document's names (analemmaref13.zone, link, Resolve): the contracts. Conditions: what the source's slices hold is read.
-/
import Derived.Test.YtgfdmjldfahbpaaGreatDoorSnd
namespace Go.Proofs.YtgfdmjldfahbpaaGreatDoor.Snd
open Go.RowKit Mem Civ Mom Img Plc Rul Src

set_option maxRecDepth 100000 in
theorem rzone_any (s : Src) (A A2 A3 : Option Addr) (c c2 c3 : Nat) (nm : ByteArray) (w : World) (h : SrcOk s A A2 A3 w) :
    Calls Tryz.prog 33 #[.agg #[.slice A s.rules.length c, .slice A2 s.zones.length c2, .slice A3 s.links.length c3], .string nm] w fun e w' => e = .returned (.int .i64 (atI (zoneAt s.zones nm))) ∧ Below w.heap.size w w' := by
  have nz := h.nz; have hrz := h.rz
  clear h
  obtain ⟨Q, hQ⟩ : ∃ Q, zoneAt s.zones nm = Q := ⟨_, rfl⟩
  rw [hQ]
  have HQ := Lib.hid hQ
  clear hQ
  obtain ⟨rs, zs, ls⟩ := s
  simp only at nz hrz HQ ⊢
  have hone := One.new w 26 #[.slice A rs.length c, .slice A2 zs.length c2, .slice A3 ls.length c3]
  obtain ⟨W, hW⟩ : ∃ W, w.alloc (.cells #[.slice A rs.length c, .slice A2 zs.length c2, .slice A3 ls.length c3] 26) = W := ⟨_, rfl⟩
  rw [hW] at hone
  have HO := Lib.hid hone
  have HZ := Lib.hid (hrz.below hone.2)
  have c0 := fun i => hone.1.cell i
  clear hone hrz
  go_enter Tryz.func33, Tryz.ntmps33
  go_wp2_with fail
  go_loopw [5] (fun i wr => ∃ k : Nat, k ≤ zs.length ∧ i = .int .i64 k ∧ (zs.take k).all (fun z => !decide (z.name = nm)) = true ∧ wr = W) (fun i _ => zs.length - (intOf i).toNat)
  case atStart => exact ⟨0, Nat.zero_le _, rfl, rfl, rfl⟩
  case round =>
    obtain ⟨k, hk, rfl, hall, rfl⟩ := hrel
    have Hall := Lib.hid hall; clear hall
    by_cases hkn : k < zs.length
    · obtain ⟨ad, rfl, hadb, a0, a1⟩ := zone_cells HZ.out hkn rfl
      have hstep : decide (zs[k].name = nm) = false → (zs.take (k + 1)).all (fun z => !decide (z.name = nm)) = true := no_step hkn Hall.out
      have hhit : decide (zs[k].name = nm) = true → zoneAt zs nm = some k := find_hit hkn Hall.out
      have h1 := tl_beq zs[k].name nm
      have HS := Lib.hid hstep; have HH := Lib.hid hhit
      clear hstep hhit Hall
      generalize hd : decide (zs[k].name = nm) = d at *
      clear hd
      generalize zs[k] = z at *
      cases d
      · go_wp2_with fail
        exact ⟨⟨k + 1, by omega, by go_num, HS.out (by trivial), by trivial⟩, by simp [intOf]; omega⟩
      · go_wp2_with fail
        go_ret
        exact ⟨by rw [← HQ.out, HH.out (by trivial)]; rfl, HO.out.2⟩
    · obtain rfl : k = zs.length := by omega
      have hall := Hall.out
      rw [List.take_length] at hall
      have hm : zoneAt zs nm = none := find_miss hall
      have HM := Lib.hid hm
      clear hall Hall hm
      go_wp2_with fail
      go_ret
      exact ⟨by rw [← HQ.out, HM.out]; rfl, HO.out.2⟩
set_option maxRecDepth 100000 in
theorem rlink_any (s : Src) (A A2 A3 : Option Addr) (c c2 c3 : Nat) (nm : ByteArray) (w : World) (h : SrcOk s A A2 A3 w) :
    Calls Tryz.prog 34 #[.agg #[.slice A s.rules.length c, .slice A2 s.zones.length c2, .slice A3 s.links.length c3], .string nm] w fun e w' => e = .returned (.int .i64 (atI (linkAt s.links nm))) ∧ Below w.heap.size w w' := by
  have nz := h.nl; have hrz := h.rl
  clear h
  obtain ⟨Q, hQ⟩ : ∃ Q, linkAt s.links nm = Q := ⟨_, rfl⟩
  rw [hQ]
  have HQ := Lib.hid hQ
  clear hQ
  obtain ⟨rs, qs, zs⟩ := s
  simp only at nz hrz HQ ⊢
  have hone := One.new w 26 #[.slice A rs.length c, .slice A2 qs.length c2, .slice A3 zs.length c3]
  obtain ⟨W, hW⟩ : ∃ W, w.alloc (.cells #[.slice A rs.length c, .slice A2 qs.length c2, .slice A3 zs.length c3] 26) = W := ⟨_, rfl⟩
  rw [hW] at hone
  have HO := Lib.hid hone
  have HZ := Lib.hid (hrz.below hone.2)
  have c0 := fun i => hone.1.cell i
  clear hone hrz
  go_enter Tryz.func34, Tryz.ntmps34
  go_wp2_with fail
  go_loopw [5] (fun i wr => ∃ k : Nat, k ≤ zs.length ∧ i = .int .i64 k ∧ (zs.take k).all (fun z => !decide (z.name = nm)) = true ∧ wr = W) (fun i _ => zs.length - (intOf i).toNat)
  case atStart => exact ⟨0, Nat.zero_le _, rfl, rfl, rfl⟩
  case round =>
    obtain ⟨k, hk, rfl, hall, rfl⟩ := hrel
    have Hall := Lib.hid hall; clear hall
    by_cases hkn : k < zs.length
    · obtain ⟨ad, rfl, hadb, a0, a1⟩ := link_cells HZ.out hkn rfl
      have hstep : decide (zs[k].name = nm) = false → (zs.take (k + 1)).all (fun z => !decide (z.name = nm)) = true := no_step hkn Hall.out
      have hhit : decide (zs[k].name = nm) = true → linkAt zs nm = some k := find_hit hkn Hall.out
      have h1 := tl_beq zs[k].name nm
      have HS := Lib.hid hstep; have HH := Lib.hid hhit
      clear hstep hhit Hall
      generalize hd : decide (zs[k].name = nm) = d at *
      clear hd
      generalize zs[k] = z at *
      cases d
      · go_wp2_with fail
        exact ⟨⟨k + 1, by omega, by go_num, HS.out (by trivial), by trivial⟩, by simp [intOf]; omega⟩
      · go_wp2_with fail
        go_ret
        exact ⟨by rw [← HQ.out, HH.out (by trivial)]; rfl, HO.out.2⟩
    · obtain rfl : k = zs.length := by omega
      have hall := Hall.out
      rw [List.take_length] at hall
      have hm : linkAt zs nm = none := find_miss hall
      have HM := Lib.hid hm
      clear hall Hall hm
      go_wp2_with fail
      go_ret
      exact ⟨by rw [← HQ.out, HM.out]; rfl, HO.out.2⟩
set_option maxHeartbeats 1000000 in
set_option maxRecDepth 100000 in
theorem rresolve_any (s : Src) (A A2 A3 : Option Addr) (c c2 c3 : Nat) (nm : ByteArray) (w : World) (h : SrcOk s A A2 A3 w) :
    Calls Tryz.prog 12 #[.agg #[.slice A s.rules.length c, .slice A2 s.zones.length c2, .slice A3 s.links.length c3], .string nm] w fun e w' => e = .returned (.tuple #[.int .i64 ((resolveB s nm).getD 0 : Nat), .bool (resolveB s nm).isSome]) ∧ Below w.heap.size w w' := by
  have hZ := fun n z (hb : Below w.heap.size w z) => rzone_any s A A2 A3 c c2 c3 n z (h.below hb)
  have hL := fun n z (hb : Below w.heap.size w z) => rlink_any s A A2 A3 c c2 c3 n z (h.below hb)
  have nl := h.nl; have hrl := h.rl
  clear h
  obtain ⟨Q, hQ⟩ : ∃ Q, resolveB s nm = Q := ⟨_, rfl⟩
  rw [hQ]
  unfold resolveB at hQ
  obtain ⟨rs, zs, ls⟩ := s
  simp only at nl hrl hQ hZ hL ⊢
  have HZ := Lib.hid hZ; have HL := Lib.hid hL
  have hone := One.new w 26 #[.slice A rs.length c, .slice A2 zs.length c2, .slice A3 ls.length c3]
  obtain ⟨W, hW⟩ : ∃ W, w.alloc (.cells #[.slice A rs.length c, .slice A2 zs.length c2, .slice A3 ls.length c3] 26) = W := ⟨_, rfl⟩
  rw [hW] at hone
  have HO := Lib.hid hone; have HR := Lib.hid hrl; have HQ := Lib.hid hQ
  clear hone hrl hZ hL hQ
  go_enter Tryz.func12, Tryz.ntmps12
  go_wp2_with fail
  go_loopw [1, 6] (fun v i wr => ∃ (k : Nat) (n : ByteArray), k ≤ ls.length + 1 ∧ i = .int .i64 k ∧ v = .string n ∧ stepR zs ls (ls.length + 1 - k) n = Q ∧ One w w.heap.size 26 #[.slice A rs.length c, .slice A2 zs.length c2, .slice A3 ls.length c3] wr) (fun _ i _ => ls.length + 1 - (intOf i).toNat)
  case atStart => exact ⟨0, nm, Nat.zero_le _, rfl, rfl, HQ.out, HO.out⟩
  case round =>
    clear HO HQ
    obtain ⟨k, n, hk, rfl, rfl, hst, ho⟩ := hrel
    have HO := Lib.hid ho
    have c0 := fun i => ho.1.cell i
    clear ho
    by_cases hkn : k < ls.length + 1
    · obtain ⟨m, hm⟩ : ∃ m, ls.length + 1 - k = m + 1 := ⟨ls.length - k, by omega⟩
      have hm2 : ls.length + 1 - (k + 1) = m := by omega
      rw [hm, stepR] at hst
      have HM2 := Lib.hid hm2
      have hle : decide (((k : Nat) : Int) ≤ (ls.length : Nat)) = true := decide_eq_true (by omega)
      clear hm hm2
      cases hz : zoneAt zs n with
      | some i =>
        have HI := Lib.hid (HZ.out n wr HO.out.2)
        simp only [hz] at hst HI
        simp only [atI] at HI
        obtain rfl := hst
        have hd : decide ((0 : Int) ≤ (i : Nat)) = true := decide_eq_true (by omega)
        clear hz
        go_wp2_with (go_at_call 33; refine HI.out.mono ?_; rintro e w1 ⟨rfl, hb1⟩; have HB2 := Lib.hid (HO.out.step hb1); clear hb1)
        go_ret2
        exact ⟨rfl, HB2.out.2⟩
      | none =>
        have HI := Lib.hid (HZ.out n wr HO.out.2)
        have HJ := Lib.hid (fun w1 hb => HL.out n w1 hb)
        simp only [hz] at hst HI
        simp only [atI] at HI
        clear hz
        cases hl : linkAt ls n with
        | none =>
          simp only [hl, Option.bind_none] at hst HJ
          simp only [atI] at HJ
          obtain rfl := hst
          clear hl
          go_wp2_with (first
            | (go_at_call 33; refine HI.out.mono ?_; rintro e w1 ⟨rfl, hb1⟩; have ho2 := HO.out.step hb1; have HB2 := Lib.hid ho2; have c2 := fun i => ho2.1.cell i; clear hb1 ho2)
            | (go_at_call 34; refine (HJ.out _ HB2.out.2).mono ?_; rintro e w2 ⟨rfl, hb1⟩; have HB3 := Lib.hid (HB2.out.step hb1); clear hb1))
          go_ret2
          exact ⟨rfl, HB3.out.2⟩
        | some j =>
          have hj := linkAt_lt hl
          simp only [hl, Option.bind_some, List.getElem?_eq_getElem hj] at hst HJ
          simp only [atI] at HJ
          have HSt := Lib.hid hst
          have hd : decide (((j : Nat) : Int) < 0) = false := decide_eq_false (by omega)
          clear hl hst
          go_wp2_with (first
            | (go_at_call 33; refine HI.out.mono ?_; rintro e w1 ⟨rfl, hb1⟩; have ho2 := HO.out.step hb1; have HB2 := Lib.hid ho2; have c2 := fun i => ho2.1.cell i; clear hb1 ho2 c0)
            | (go_at_call 34; refine (HJ.out _ HB2.out.2).mono ?_; rintro e w2 ⟨rfl, hb1⟩; have ho3 := HB2.out.step hb1; have HB3 := Lib.hid ho3; have c3 := fun i => ho3.1.cell i; obtain ⟨ad, hA, hadb, a0, a1⟩ := link_cells (HR.out.below ho3.2) hj rfl; subst hA; clear hb1 ho3 c2))
          refine ⟨⟨k + 1, ls[j].target, by omega, by go_num, rfl, ?_, HB3.out⟩, by simp [intOf]; omega⟩
          rw [HM2.out]; exact HSt.out
    · obtain rfl : k = ls.length + 1 := by omega
      have hle : decide (((ls.length + 1 : Nat) : Int) ≤ (ls.length : Nat)) = false := decide_eq_false (by omega)
      rw [Nat.sub_self, stepR] at hst
      obtain rfl := hst
      go_wp2_with fail
      go_ret2
      exact ⟨rfl, HO.out.2⟩
end Go.Proofs.YtgfdmjldfahbpaaGreatDoor.Snd
