/-
  The document's image (analemmaref15.Save): the contract. What the document's Right answers is handed in. Conditions: what the table's slices hold is read, the lengths are bounded.
-/
import Derived.Test.YtaffaobhcnnfnaaGreatDoorR15P
import Derived.Test.YtaffaobhcnnfnaaGreatDoorSrt
import Derived.Test.YtaffaobhcnnfnaaGreatDoorRead0
import Derived.Test.YtaffaobhcnnfnaaGreatDoorLawImS
namespace Go.Proofs.YtaffaobhcnnfnaaGreatDoor.R15
open Go.RowKit Mem Img

theorem info_str : (Tryz.prog.info? 9).map (fun i => (i.zero, i.size, i.bytes)) = some (some (.string ⟨#[]⟩), 1, 16) := by kernel_rfl
theorem info_int : (Tryz.prog.info? 3).map (fun i => (i.zero, i.size, i.bytes)) = some (some (.int .i64 0), 1, 8) := by kernel_rfl
theorem one_str {s : ByteArray} : ∀ u ∈ (#[Value.string s] : Array Value).toList, u.oneCell' = true := by intro u hu; simp at hu; subst hu; rfl
def namesV (a : List (ByteArray × Nat)) : List Value := a.map fun q => .string q.1
def beginsV (a : List (ByteArray × Nat)) : List Value := a.map fun q => .int .i64 q.2
/-- What the image's maker holds: names, where each begins, phases, the table. -/
structure SV (w : World) (CS : Array Value) (ks : List Phase) (a b : List (ByteArray × Nat)) (na be ph : Value) (wr : World) : Prop where
  na : wr.ownsRow w.heap.size 9 1 na a.length (namesV a)
  be : wr.ownsRow w.heap.size 3 1 be b.length (beginsV b)
  ph : wr.ownsRow w.heap.size 23 3 ph ks.length (ks.flatMap Phase.cells)
  one : Civ.One w w.heap.size 27 CS wr
theorem SV.below {w wr w' : World} {CS : Array Value} {ks : List Phase} {a b : List (ByteArray × Nat)} {na be ph : Value} (h : SV w CS ks a b na be ph wr) (hb : Below wr.heap.size wr w') : SV w CS ks a b na be ph w' :=
  ⟨Rul.own_below h.na hb, Rul.own_below h.be hb, Rul.own_below h.ph hb, h.one.step hb⟩
theorem SV.drewN {w wr : World} {CS : Array Value} {ks : List Phase} {a b : List (ByteArray × Nat)} {na be ph : Value} (h : SV w CS ks a b na be ph wr) (n : Nat) : SV w CS ks a b na be ph (wr.drewN n) :=
  ⟨h.na, h.be, h.ph, ⟨h.one.1.drewN n, Civ.below_dr h.one.2⟩⟩
theorem one_own {w wr w2 : World} {base n size : Nat} {e : TypeId} {v : Value} {xs : List Value} {CS : Array Value} {o : Obj} (h : Civ.One w w.heap.size 27 CS wr) (ho : wr.ownsRow base e size v n xs) (hb : w.heap.size ≤ base) (he : e ≠ 27) (hg : (wr.alloc o).grownBy w2 v.ownBlock) :
    Civ.One w w.heap.size 27 CS w2 :=
  ⟨(h.1.alloc _).grown hg (own_blk_ne ho h.1 he).symm, (h.2.alloc h.2.size _).grown hg (by have := h.2.size; simp; omega) (fun j hj => Nat.le_trans hb (ho.lt j hj).1)⟩
theorem SV.name_ {w wr w2 : World} {CS : Array Value} {ks : List Phase} {a b : List (ByteArray × Nat)} {na be ph v' : Value} {s : ByteArray} {o : Obj} (m : Nat) (h : SV w CS ks a b na be ph wr)
    (hown : w2.ownsRow w.heap.size 9 1 v' (a.length + 1) (namesV a ++ (#[Value.string s] : Array Value).toList)) (hg : (wr.alloc o).grownBy w2 na.ownBlock) : SV w CS ks (a ++ [(s, m)]) b v' be ph w2 :=
  ⟨by simpa [namesV] using hown, (h.be.alloc o).kept hg (Rd.own_own_ne h.be h.na (by decide)).symm, (h.ph.alloc o).kept hg (Rd.own_own_ne h.ph h.na (by decide)).symm, one_own h.one h.na (Nat.le_refl _) (by decide) hg⟩
theorem SV.begin {w wr w2 : World} {CS : Array Value} {ks : List Phase} {a b : List (ByteArray × Nat)} {na be ph v' : Value} {m : Nat} {o : Obj} (s : ByteArray) (h : SV w CS ks a b na be ph wr)
    (hown : w2.ownsRow w.heap.size 3 1 v' (b.length + 1) (beginsV b ++ (#[Value.int .i64 m] : Array Value).toList)) (hg : (wr.alloc o).grownBy w2 be.ownBlock) : SV w CS ks a (b ++ [(s, m)]) na v' ph w2 :=
  ⟨(h.na.alloc o).kept hg (Rd.own_own_ne h.na h.be (by decide)).symm, by simpa [beginsV] using hown, (h.ph.alloc o).kept hg (Rd.own_own_ne h.ph h.be (by decide)).symm, one_own h.one h.be (Nat.le_refl _) (by decide) hg⟩
theorem SV.phase {w wr : World} {CS : Array Value} {ks : List Phase} {a b : List (ByteArray × Nat)} {na be : Value} {A : Option Addr} {K c k : Nat} (h : SV w CS ks a b na be (.slice A K c) wr) (hK : K = ks.length) (hk : k < ks.length) :
    ∃ ad, A = some ad ∧ ad.block < wr.heap.size ∧ wr.cell? (ad.add (k * 3)) = some (.int .i64 ks[k].off) ∧ wr.cell? ⟨(ad.add (k * 3)).block, (ad.add (k * 3)).off + 1, none⟩ = some (.int .i64 ks[k].save) ∧ wr.cell? ⟨(ad.add (k * 3)).block, (ad.add (k * 3)).off + 2, none⟩ = some (.string ks[k].abbr) := by
  subst hK
  exact phase_at (Reads.of_own h.ph) hk
theorem SV.phase2 {w wr : World} {CS : Array Value} {ks : List Phase} {a b : List (ByteArray × Nat)} {na be : Value} {ad : Addr} {K c k : Nat} (h : SV w CS ks a b na be (.slice (some ad) K c) wr) (hK : K = ks.length) (hk : k < ks.length) {q : Phase} (hq : q = ks[k]) :
    wr.cell? (ad.add (k * 3)) = some (.int .i64 q.off) ∧ wr.cell? ⟨(ad.add (k * 3)).block, (ad.add (k * 3)).off + 1, none⟩ = some (.int .i64 q.save) ∧ wr.cell? ⟨(ad.add (k * 3)).block, (ad.add (k * 3)).off + 2, none⟩ = some (.string q.abbr) := by
  obtain ⟨ad', e, _, h1⟩ := h.phase hK hk
  cases e
  rw [hq]
  exact h1
theorem tl_beq (a b : ByteArray) : (a.toList == b.toList) = decide (a = b) := by
  rw [Bool.eq_iff_iff]
  simp [Sam.tl_inj]
theorem bs_zero (l : List UInt8) : bs l ++ ⟨#[0]⟩ = bs (l ++ [0]) := bs_append l [0]
theorem bs_mid (l : List UInt8) (s : ByteArray) : bs l ++ s = bs (l ++ s.data.toList) := by
  conv => lhs; rhs; rw [bs_of s]
  exact bs_append _ _
theorem magic_bs (l : List UInt8) : ⟨#[65, 78, 76, 49]⟩ ++ bs l = bs (magic ++ l) := bs_append magic l
theorem plc_mem {l : List Phase} {p : Phase} (h : p ∈ l) : plc l p = (l.idxOf p : Nat) := if_pos h
set_option maxHeartbeats 16000000 in
set_option maxRecDepth 100000 in
theorem save_any (x : Table) (A A2 : Option Addr) (c c2 : Nat) (rb : Bool) (w : World) (h : TabOk x A A2 w)
    (hR : ∀ w1, Below w.heap.size w w1 → Calls Tryz.prog 25 #[.agg (tabCells x A c A2 c2)] w1 fun e w' => e = .returned (.bool rb) ∧ Below w1.heap.size w1 w') :
    Calls Tryz.prog 11 #[.agg (tabCells x A c A2 c2)] w fun e w' => e = .returned (.tuple (if rb = true then #[.string (bs (img x)), .int .i64 0] else #[.string ⟨#[]⟩, .int .i64 1])) ∧ Below w.heap.size w w' := by
  obtain ⟨i0, hi0, hz0, hz1, hz2⟩ := info_parts info23
  obtain ⟨i1, hi1, hy0, hy1, hy2⟩ := info_parts info_str
  obtain ⟨i2, hi2, hx0, hx1, hx2⟩ := info_parts info_int
  have hone := Civ.One.new w 27 (tabCells x A c A2 c2)
  have H := Lib.hid h
  have HR := Lib.hid hR
  have ns := h.ns
  have nt := h.nt
  have hname := h.name
  have hform := h.format
  have hkn := h.kinds.1
  clear h hR
  simp only [tabCells] at hone HR ⊢
  obtain ⟨CS, hCS⟩ : ∃ CS : Array Value, #[.string x.name, .int .i64 x.first.off, .int .i64 x.first.save, .string x.first.abbr, .slice A x.shifts.length c, .int .i64 x.till, .slice A2 x.tail.length c2, .int .i64 x.off, .string x.format] = CS := ⟨_, rfl⟩
  have HCS := Lib.hid hCS
  obtain ⟨W, hW⟩ : ∃ W, w.alloc (.cells #[.string x.name, .int .i64 x.first.off, .int .i64 x.first.save, .string x.first.abbr, .slice A x.shifts.length c, .int .i64 x.till, .slice A2 x.tail.length c2, .int .i64 x.off, .string x.format] 27) = W := ⟨_, rfl⟩
  rw [hW] at hone
  have c0 := fun i => hone.1.cell i
  rw [hCS] at hone
  have HO := Lib.hid hone
  clear hone hCS
  go_enter Tryz.func11, Tryz.ntmps11
  cases rb
  · go_wp2_with (go_at_call 25; refine (HR.out _ HO.out.2).mono ?_; rintro e w1 ⟨rfl, hb⟩; have HO := Lib.hid (HO.out.step hb); clear hb)
    go_ret2
    exact ⟨rfl, HO.out.2⟩
  · go_wp2_with (go_at_call 25; refine (HR.out _ HO.out.2).mono ?_; rintro e w1 ⟨rfl, hb⟩; have HO := Lib.hid (HO.out.step hb); clear hb c0; have c1 := fun i => HO.out.1.cell i; rw [← HCS.out] at c1)
    clear c1 hW
    have hz1w : w.heap.size < w1.heap.size := HO.out.1.lt
    go_loopw [4, 5] (fun v i wr => ∃ k : Nat, k ≤ x.shifts.length ∧ i = .int .i64 k ∧ wr.ownsRow w.heap.size 23 3 v (kindsL x.first (x.shifts.take k)).length ((kindsL x.first (x.shifts.take k)).flatMap Phase.cells) ∧ Civ.One w w.heap.size 27 CS wr) (fun _ i _ => x.shifts.length - (intOf i).toNat)
    case atStart => exact ⟨0, Nat.zero_le _, rfl, own_of_blk (Blk.new w1 _ _) (Nat.le_of_lt hz1w) rfl (by decide), HO.out.step ((Below.refl _ _).alloc (Nat.le_refl _) _)⟩
    case round =>
      obtain ⟨k, hk, rfl, hown, hone⟩ := hrel
      have Hown := Lib.hid hown; have HO := Lib.hid hone
      clear hown hone
      have c1 := fun i => HO.out.1.cell i
      rw [← HCS.out] at c1
      obtain ⟨A4, c4, rfl⟩ := Rul.own_slice Hown.out
      by_cases hkn2 : k < x.shifts.length
      · have hst := kindsL_succ x.first x.shifts k hkn2
        have hpw := H.out.shifts x.shifts[k] (List.getElem_mem hkn2)
        have hkl : (kindsL x.first (x.shifts.take k)).length ≤ k + 1 := kindsL_length _ _ k
        obtain ⟨ad, rfl, hadb, a0, a1, a2, a3⟩ := shift_at (H.out.rs.below HO.out.2) hkn2
        generalize hse : x.shifts[k] = s at *
        obtain ⟨sec, ⟨po, ps, pa⟩⟩ := s
        have Hst := Lib.hid hst
        clear hst hse
        generalize kindsL x.first (x.shifts.take k) = K at *
        have HRd := Lib.hid (Reads.of_own Hown.out)
        simp only at hpw a0 a1 a2 a3 Hst
        have hz := HO.out.1.lt
        by_cases hmem : (⟨po, ps, pa⟩ : Phase) ∈ K
        · have hpl : decide (plc K ⟨po, ps, pa⟩ < 0) = false := decide_eq_false (by unfold plc; rw [if_pos hmem]; omega)
          have hcond := Hst.out
          rw [if_pos hmem] at hcond
          have Hcond := Lib.hid hcond
          clear hcond hmem
          go_wp2_with (go_at_call 26; refine (place_any K ⟨po, ps, pa⟩ A4 c4 _ HRd.out (by omega)).mono ?_; rintro e w2 ⟨rfl, hb⟩; have HB := Lib.hid hb; clear hb)
          refine ⟨⟨k + 1, by omega, by go_num, ?_, HO.out.step HB.out⟩, by simp [intOf]; omega⟩
          rw [Hcond.out]
          exact Rul.own_below Hown.out HB.out
        · have hpl : decide (plc K ⟨po, ps, pa⟩ < 0) = true := decide_eq_true (by unfold plc; rw [if_neg hmem]; omega)
          have hcond := Hst.out
          rw [if_neg hmem] at hcond
          have Hcond := Lib.hid hcond
          clear hcond hmem
          go_wp2_with (first
            | (go_at_call 26; refine (place_any K ⟨po, ps, pa⟩ (A4) c4 _ HRd.out (by omega)).mono ?_; rintro e w2 ⟨rfl, hb⟩; have HB := Lib.hid hb; have HO2 := Lib.hid (HO.out.step hb); have c2 := fun i => HO2.out.1.cell i; rw [← HCS.out] at c2; have b0 := (hb.cell (p := ad.add (k * 4)) (by rw [block_of_add]; omega)).trans a0; have b1 := (hb.cell (p := ⟨(ad.add (k * 4)).block, (ad.add (k * 4)).off + 1, none⟩) (by show (ad.add (k * 4)).block < _; rw [block_of_add]; omega)).trans a1; have b2 := (hb.cell (p := ⟨(ad.add (k * 4)).block, (ad.add (k * 4)).off + 2, none⟩) (by show (ad.add (k * 4)).block < _; rw [block_of_add]; omega)).trans a2; have b3 := (hb.cell (p := ⟨(ad.add (k * 4)).block, (ad.add (k * 4)).off + 3, none⟩) (by show (ad.add (k * 4)).block < _; rw [block_of_add]; omega)).trans a3; have hzz := hb.size; have Hown2 := Lib.hid (Rul.own_below Hown.out hb); clear hb)
            | (at_builtin; refine wpList_append1g w2 rfl (.tmp 42) (.tmp 49) 57 rfl w.heap.size 23 i0 _ 3 32 Tryz.underlying57 hi0 hz0 hz1 hz2 rfl (by decide) _ K.length _ rfl Hown2.out rfl rfl phases_oneCell ?m1 ?m2 ?m3 ?_))
          case m1 => unfold maxLen; omega
          case m2 => omega
          case m3 => omega
          intro v' w3 hown3 hg3
          have R : Hid (w3.ownsRow w.heap.size 23 3 v' (K ++ [(⟨po, ps, pa⟩ : Phase)]).length ((K ++ [(⟨po, ps, pa⟩ : Phase)]).flatMap Phase.cells) ∧ Civ.One w w.heap.size 27 CS w3) := by
            refine ⟨by simpa [Phase.cells] using hown3, (HO2.out.1.alloc _).grown hg3 (own_blk_ne Hown2.out HO2.out.1 (by decide)).symm, ?_⟩
            exact (HO2.out.2.alloc (by omega) _).grown hg3 (by simp; omega) (fun j hj => (Hown2.out.lt j hj).1)
          clear hown3 hg3
          go_wp2
          refine ⟨⟨k + 1, by omega, by go_num, ?_⟩, by simp [intOf]; omega⟩
          rw [Hcond.out]
          exact R.out
      · obtain rfl : k = x.shifts.length := by omega
        rw [List.take_length] at Hown
        change Hid (wr.ownsRow w.heap.size 23 3 _ x.kinds.length (x.kinds.flatMap Phase.cells)) at Hown
        have hkk : (kindsL x.first (x.shifts.take x.shifts.length)).length = x.kinds.length := by rw [List.take_length]; rfl
        rw [hkk]
        obtain ⟨K, hK⟩ : ∃ K, K = x.kinds.length := ⟨_, rfl⟩
        rw [← hK] at hkn Hown ⊢
        have HK := Lib.hid hK
        have hown := Hown.out
        rw [show (kindsL x.first x.shifts).length = K from hK.symm] at hown
        have Hown := Lib.hid hown
        have hkp := kindsL_pos x.first x.shifts
        clear hK hkk hk hkn2 hown
        obtain ⟨W2, rfl⟩ : ∃ W2, W2 = wr := ⟨_, rfl⟩
        go_wp2_with fail
        clear c1
        go_loopw [6, 7, 8, 9] (fun po na be i wr => ∃ (k : Nat) (T : List UInt8) (a : List (ByteArray × Nat)), k ≤ K ∧ i = .int .i64 k ∧ po = .string (bs T) ∧ poolL (x.kinds.take k) = (T, a) ∧ SV w CS x.kinds a a na be (.slice A4 K c4) wr) (fun _ _ _ i _ => K - (intOf i).toNat)
        case atStart => exact ⟨0, [], [], Nat.zero_le _, rfl, rfl, rfl, World.ownsRow_nil _ _ _ _, World.ownsRow_nil _ _ _ _, by rw [← HK.out]; exact Hown.out, HO.out⟩
        case round =>
          clear Hown HO
          obtain ⟨k, T, a, hk, rfl, rfl, hpo, hsv⟩ := hrel
          have Hpo := Lib.hid hpo; have HV := Lib.hid hsv
          clear hpo hsv
          obtain ⟨A5, c5, rfl⟩ := Rul.own_slice HV.out.na
          obtain ⟨A6, c6, rfl⟩ := Rul.own_slice HV.out.be
          have hz1 := HV.out.one.2.size
          by_cases hkk : k < K
          · have hkl : k < x.kinds.length := by rw [← HK.out]; exact hkk
            obtain ⟨ad, rfl, hadb, a0, a1, a2⟩ := HV.out.phase HK.out hkl
            have hps := poolL_succ x.kinds k hkl
            have hpw := (H.out.kinds.2.2 _ (List.getElem_mem hkl)).2.2
            have hTl := poolL_le 8388608 x.kinds (fun p hp => (H.out.kinds.2.2 p hp).2.2) k
            rw [Hpo.out] at hps hTl
            simp only at hTl
            have hal := pool_names_le x.kinds k
            rw [Hpo.out] at hal
            simp only at hal
            have hTm : k * (8388608 + 1) ≤ 1000001 * 8388609 := Nat.mul_le_mul (by omega) (Nat.le_refl _)
            obtain ⟨q, hq⟩ : ∃ q, q = x.kinds[k] := ⟨_, rfl⟩
            rw [← hq] at a0 a1 a2 hpw hps
            have HQ := Lib.hid hq
            clear hq
            obtain ⟨po, ps, pa⟩ := q
            simp only at a0 a1 a2 hpw
            have Hps := Lib.hid hps
            clear hps
            have hT2 : T.length ≤ 8388617388609 := by omega
            clear hTl hTm
            obtain ⟨W3, rfl⟩ : ∃ W3, W3 = wr := ⟨_, rfl⟩
            go_wp2_with fail
            go_loopw [10, 11] (fun b i wq => ∃ j n : Nat, j ≤ a.length ∧ i = .int .i64 j ∧ b = .bool (hasN a pa j) ∧ wq = W3.drewN n) (fun _ i _ => a.length - (intOf i).toNat)
            case atStart => exact ⟨0, 0, Nat.zero_le _, rfl, rfl, rfl⟩
            case round =>
              obtain ⟨j, n, hj, rfl, rfl, rfl⟩ := hrel
              by_cases hjn : j < a.length
              · obtain ⟨ad5, u, rfl, hb5, hu, hc5⟩ := (Reads.of_own HV.out.na).at_ hjn
                have hs := hasN_succ a pa j hjn
                obtain rfl : u = .string a[j].1 := by simpa [namesV, hjn] using hu.symm
                clear hu
                generalize a[j].1 = s5 at *
                have Hs := Lib.hid hs; clear hs
                generalize hasN a pa j = hb at *
                cases hb
                · go_wp2_with fail
                  go_quiet (fail)
                  go_wp2_with fail
                  refine ⟨⟨j + 1, n + nq, by omega, by go_num, ?_, rfl⟩, by simp [intOf]; omega⟩
                  rw [Hs.out, tl_beq]
                  rfl
                · go_wp2_with fail
                  go_quiet (fail)
                  go_wp2_with fail
                  refine ⟨⟨j + 1, n + nq, by omega, by go_num, ?_, rfl⟩, by simp [intOf]; omega⟩
                  rw [Hs.out]
                  rfl
              · obtain rfl : j = a.length := by omega
                cases hh : hasN a pa a.length
                · have Hst := Lib.hid (pool_step_yes Hps.out hh)
                  clear hh
                  have HV3 := Lib.hid (HV.out.drewN n)
                  have hz3 : w.heap.size ≤ (W3.drewN n).heap.size := hz1
                  have hsz := bs_size
                  have m1 : a.length + 1 ≤ maxLen := by unfold maxLen; omega
                  have m2 : (a.length + 1) * 16 ≤ 140737488355328 := by omega
                  have m3 : (a.length + 1) * 8 ≤ 140737488355328 := by omega
                  have M1 := Lib.hid m1; have M2 := Lib.hid m2; have M3 := Lib.hid m3; have Hz3 := Lib.hid hz3
                  clear m1 m2 m3 hz3
                  go_wp2_with ((at_builtin; refine wpList_append1g (W3.drewN n) rfl (.tmp 78) (.tmp 84) 70 rfl w.heap.size 9 i1 _ 1 16 Tryz.underlying70 hi1 hy0 hy1 hy2 rfl (by decide) _ a.length _ rfl HV3.out.na rfl rfl one_str M1.out M2.out Hz3.out ?_))
                  intro v4 w4 hown4 hg4
                  obtain ⟨A7, c7, rfl⟩ := Rul.own_slice hown4
                  have HV4 := Lib.hid (HV3.out.name_ T.length hown4 hg4)
                  have Hz4 := Lib.hid HV4.out.one.2.size
                  clear hown4 hg4
                  go_wp2_with ((at_builtin; refine wpList_append1g w4 rfl (.tmp 86) (.tmp 89) 64 rfl w.heap.size 3 i2 _ 1 8 Tryz.underlying64 hi2 hx0 hx1 hx2 rfl (by decide) _ a.length _ rfl HV4.out.be rfl rfl one_of_int M1.out M3.out Hz4.out ?_))
                  intro v5 w5 hown5 hg5
                  obtain ⟨A8, c8, rfl⟩ := Rul.own_slice hown5
                  have HV5 := Lib.hid (HV4.out.begin pa hown5 hg5)
                  obtain ⟨b0, b1, b2⟩ := HV5.out.phase2 HK.out hkl HQ.out
                  simp only at b0 b1 b2
                  clear hown5 hg5
                  have hbm := bs_mid
                  have hbz := bs_zero
                  go_wp2_with fail
                  exact ⟨⟨k + 1, T ++ (pa.data.toList ++ [0]), a ++ [(pa, T.length)], by omega, by go_num, rfl, Hst.out, by simpa using HV5.out⟩, by simp [intOf]; omega⟩
                · have Hst := Lib.hid (pool_step_no Hps.out hh)
                  clear hh
                  go_wp2_with fail
                  exact ⟨⟨k + 1, T, a, by omega, by go_num, rfl, Hst.out, HV.out.drewN n⟩, by simp [intOf]; omega⟩
          · obtain rfl : K = k := by omega
            have hpo := Hpo.out
            rw [List.take_of_length_le (by rw [HK.out]; exact Nat.le_refl _)] at hpo
            have hTx : x.text = T := by show (poolL x.kinds).1 = T; rw [hpo]
            have hTa : (poolL x.kinds).2 = a := by rw [hpo]
            have hal := pool_names_le x.kinds K
            rw [Hpo.out] at hal
            simp only at hal
            have hTl := H.out.text
            rw [hTx] at hTl
            have HTx := Lib.hid hTx; have HTa := Lib.hid hTa
            clear hpo Hpo hTx hTa hkk hk
            obtain ⟨Cls, hCls⟩ : ∃ C : World → Prop, C = SV w CS x.kinds a a (.slice A5 a.length c5) (.slice A6 a.length c6) (.slice A4 K c4) := ⟨_, rfl⟩
            have HC : Hid (∀ z, Cls z → SV w CS x.kinds a a (.slice A5 a.length c5) (.slice A6 a.length c6) (.slice A4 K c4) z) := fun z h => by rw [hCls] at h; exact h
            have HN : Hid (∀ z z', Cls z → Below z.heap.size z z' → Cls z') := fun z z' h hb => by rw [hCls] at h ⊢; exact h.below hb
            have HD : Hid (∀ z n, Cls z → Cls (World.drewN z n)) := fun z n h => by rw [hCls] at h ⊢; exact h.drewN n
            have HS : Hid (Cls wr) := by rw [hCls]; exact HV.out
            have HS0 : Hid (Cls wr.drew) := HD.out wr 1 HS.out
            have inst : Nonempty (Qt.In Cls) := ⟨⟨_, HS0.out⟩⟩
            have zc : ∀ (z : Qt.In Cls) i, z.w.cell? ⟨w.heap.size, i, none⟩ = #[Value.string x.name, .int .i64 x.first.off, .int .i64 x.first.save, .string x.first.abbr, .slice A x.shifts.length c, .int .i64 x.till, .slice A2 x.tail.length c2, .int .i64 x.off, .string x.format][i]? := fun z i => by rw [HCS.out]; exact (HC.out z.w z.h).one.1.cell i
            have HB1 : Hid (∀ (n : Int) z, Cls z → Calls Tryz.prog 28 #[.int .i64 n, .int .i64 1] z fun e z' => e = .returned (.string (bs (num n 1))) ∧ Cls z') := fun n z h => (bytes_any n 1 z (by omega)).mono fun e z' ⟨he, hb⟩ => ⟨he, HN.out z z' h hb⟩
            have HB2 : Hid (∀ (n : Int) z, Cls z → Calls Tryz.prog 28 #[.int .i64 n, .int .i64 2] z fun e z' => e = .returned (.string (bs (num n 2))) ∧ Cls z') := fun n z h => (bytes_any n 2 z (by omega)).mono fun e z' ⟨he, hb⟩ => ⟨he, HN.out z z' h hb⟩
            have HB4 : Hid (∀ (n : Int) z, Cls z → Calls Tryz.prog 28 #[.int .i64 n, .int .i64 4] z fun e z' => e = .returned (.string (bs (num n 4))) ∧ Cls z') := fun n z h => (bytes_any n 4 z (by omega)).mono fun e z' ⟨he, hb⟩ => ⟨he, HN.out z z' h hb⟩
            have HB8 : Hid (∀ (n : Int) z, Cls z → Calls Tryz.prog 28 #[.int .i64 n, .int .i64 8] z fun e z' => e = .returned (.string (bs (num n 8))) ∧ Cls z') := fun n z h => (bytes_any n 8 z (by omega)).mono fun e z' ⟨he, hb⟩ => ⟨he, HN.out z z' h hb⟩
            have HSh : Hid (∀ (s : ByteArray) z, s.size ≤ 140737488355328 → Cls z → Calls Tryz.prog 27 #[.string s] z fun e z' => e = .returned (.string (bs (short s.data.toList))) ∧ Cls z') := fun s z hs h => (short_any s z hs).mono fun e z' ⟨he, hb⟩ => ⟨he, HN.out z z' h hb⟩
            have HPl : Hid (∀ (p : Phase) z, Cls z → Calls Tryz.prog 26 #[.slice A4 K c4, .agg p.cells.toArray] z fun e z' => e = .returned (.int .i64 (plc x.kinds p)) ∧ Cls z') := fun p z h => by
              have hv := (HC.out z h).ph
              rw [HK.out] at hv ⊢
              exact (place_any x.kinds p A4 c4 z (Reads.of_own hv) (by rw [← HK.out]; exact hkn)).mono fun e z' ⟨he, hb⟩ => ⟨he, HN.out z z' h hb⟩
            clear HV hCls hz1 Hown HO
            have hsz := bs_size
            have hap := bs_append
            have hmg := magic_bs
            have hnl := num_length
            have hml : magic.length = 4 := rfl
            have hshl : (short x.name.data.toList).length ≤ 2097153 := by rw [short, List.length_append, num_length, len_toList]; omega
            go_wp2_with fail
            refine Qt.wp_region_cls Cls (by kernel_rfl) (by kernel_rfl) HS0.out ?_
            repeat (go_big_quiet_step (first | (go_at_call 28; exact Qt.quiet_cls (HB4.out _ _ (Qt.In.h _))) | (go_at_call 27; exact Qt.quiet_cls (HSh.out _ _ (by omega) (Qt.In.h _)))))
            refine wpQuiet_nil ?_
            rintro wq ⟨⟨w9, hq⟩, rfl⟩
            have h3 : magic ++ (short x.name.data.toList ++ (num x.shifts.length 4 ++ (num K 4 ++ num T.length 4))) = b3 x 0 := by
              rw [b3_zero, ← HTx.out, HK.out]
              simp only [b2, b1, three, List.append_assoc]
            rw [h3]
            have HQ := Lib.hid hq
            have zq : ∀ i, wq.cell? ⟨w.heap.size, i, none⟩ = #[Value.string x.name, .int .i64 x.first.off, .int .i64 x.first.save, .string x.first.abbr, .slice A x.shifts.length c, .int .i64 x.till, .slice A2 x.tail.length c2, .int .i64 x.off, .string x.format][i]? := fun i => zc ⟨wq, hq⟩ i
            clear h3 hshl hml hmg hq
            go_wp2_with fail
            clear zq
            -- the seconds
            go_loopw [12, 13] (fun s i wr => ∃ k : Nat, k ≤ x.shifts.length ∧ i = .int .i64 k ∧ s = .string (bs (b3 x k)) ∧ Cls wr) (fun _ i _ => x.shifts.length - (intOf i).toNat)
            case atStart => exact ⟨0, Nat.zero_le _, rfl, rfl, HQ.out⟩
            case round =>
              clear HQ
              obtain ⟨k, hk, rfl, rfl, hq⟩ := hrel
              have hl := b3_le H.out k
              have zq : ∀ i, wr.cell? ⟨w.heap.size, i, none⟩ = #[Value.string x.name, .int .i64 x.first.off, .int .i64 x.first.save, .string x.first.abbr, .slice A x.shifts.length c, .int .i64 x.till, .slice A2 x.tail.length c2, .int .i64 x.off, .string x.format][i]? := fun i => zc ⟨wr, hq⟩ i
              have HQ := Lib.hid hq
              clear hq
              by_cases hkn2 : k < x.shifts.length
              · have hst := b3_succ x k hkn2
                obtain ⟨ad, rfl, hadb, a0, a1, a2, a3⟩ := shift_at (H.out.rs.below (HC.out _ HQ.out).one.2) hkn2
                have Hst := Lib.hid hst
                clear hst
                generalize x.shifts[k] = s at *
                generalize b3 x k = l at *
                go_wp2_with (go_at_call 28; refine (HB8.out _ _ HQ.out).mono ?_; rintro e w2 ⟨rfl, hq⟩; have HQ := Lib.hid hq; clear hq)
                exact ⟨⟨k + 1, by omega, by go_num, by rw [Hst.out], HQ.out⟩, by simp [intOf]; omega⟩
              · obtain rfl : k = x.shifts.length := by omega
                rw [← b4_zero]
                go_wp2_with fail
                clear zq
                -- the places
                go_loopw [12, 14] (fun s i wr => ∃ k : Nat, k ≤ x.shifts.length ∧ i = .int .i64 k ∧ s = .string (bs (b4 x k)) ∧ Cls wr) (fun _ i _ => x.shifts.length - (intOf i).toNat)
                case atStart => exact ⟨0, Nat.zero_le _, rfl, rfl, HQ.out⟩
                case round =>
                  clear HQ hl hk hkn2
                  obtain ⟨k, hk, rfl, rfl, hq⟩ := hrel
                  have hl := b4_le H.out k
                  have zq : ∀ i, wr.cell? ⟨w.heap.size, i, none⟩ = #[Value.string x.name, .int .i64 x.first.off, .int .i64 x.first.save, .string x.first.abbr, .slice A x.shifts.length c, .int .i64 x.till, .slice A2 x.tail.length c2, .int .i64 x.off, .string x.format][i]? := fun i => zc ⟨wr, hq⟩ i
                  have HQ := Lib.hid hq
                  clear hq
                  by_cases hkn2 : k < x.shifts.length
                  · have hst := b4_succ x k hkn2
                    have hpm : plc x.kinds x.shifts[k].ph = (x.kinds.idxOf x.shifts[k].ph : Nat) := plc_mem ((kindsL_mem x.first x.shifts).2.1 _ (List.getElem_mem hkn2))
                    rw [← hpm] at hst
                    clear hpm
                    obtain ⟨ad, rfl, hadb, a0, a1, a2, a3⟩ := shift_at (H.out.rs.below (HC.out _ HQ.out).one.2) hkn2
                    have Hst := Lib.hid hst
                    clear hst
                    generalize x.shifts[k] = s at *
                    obtain ⟨sec, ⟨po, ps, pa⟩⟩ := s
                    simp only at a0 a1 a2 a3 Hst
                    generalize b4 x k = l at *
                    go_wp2_with (first
                      | (go_at_call 26; refine (HPl.out ⟨po, ps, pa⟩ _ HQ.out).mono ?_; rintro e w2 ⟨rfl, hq⟩; have HQ2 := Lib.hid hq; clear hq)
                      | (go_at_call 28; refine (HB4.out _ _ HQ2.out).mono ?_; rintro e w3 ⟨rfl, hq⟩; have HQ3 := Lib.hid hq; clear hq))
                    exact ⟨⟨k + 1, by omega, by go_num, by rw [Hst.out], HQ3.out⟩, by simp [intOf]; omega⟩
                  · obtain rfl : k = x.shifts.length := by omega
                    rw [← b5_zero]
                    go_wp2_with fail
                    clear zq
                    -- the phases
                    go_loopw [12, 15] (fun s i wr => ∃ k : Nat, k ≤ K ∧ i = .int .i64 k ∧ s = .string (bs (b5 x k)) ∧ Cls wr) (fun _ i _ => K - (intOf i).toNat)
                    case atStart => exact ⟨0, Nat.zero_le _, rfl, rfl, HQ.out⟩
                    case round =>
                      clear HQ hl hk hkn2
                      obtain ⟨k, hk, rfl, rfl, hq⟩ := hrel
                      have hl := b5_le H.out k
                      by_cases hkn2 : k < K
                      · have hkl : k < x.kinds.length := by rw [← HK.out]; exact hkn2
                        have hst := b5_succ x k hkl
                        obtain ⟨ad, rfl, hadb, a0, a1, a2⟩ := (HC.out _ hq).phase HK.out hkl
                        obtain ⟨q, hq5⟩ : ∃ q, q = x.kinds[k] := ⟨_, rfl⟩
                        have zph : ∀ z : Qt.In Cls, _ := fun z => (HC.out z.w z.h).phase2 HK.out hkl hq5
                        rw [← hq5] at a0 a1 a2 hst
                        have hlb := last_begin x q
                        rw [HTa.out] at hlb
                        clear hq5
                        obtain ⟨po, ps, pa⟩ := q
                        simp only at a0 a1 a2 hlb zph
                        rw [← hlb] at hst
                        have z0 := fun z => (zph z).1
                        have z1 := fun z => (zph z).2.1
                        clear zph
                        have Hst := Lib.hid hst
                        have HQ := Lib.hid hq
                        clear hst hlb hq
                        obtain ⟨W5, rfl⟩ : ∃ W5, W5 = wr := ⟨_, rfl⟩
                        go_wp2_with fail
                        go_loopw [16, 17] (fun at_ i wq => ∃ j n : Nat, j ≤ a.length ∧ i = .int .i64 j ∧ at_ = .int .i64 (lastN a pa j) ∧ wq = W5.drewN n) (fun _ i _ => a.length - (intOf i).toNat)
                        case atStart => exact ⟨0, 0, Nat.zero_le _, rfl, rfl, rfl⟩
                        case round =>
                          obtain ⟨j, n, hj, rfl, rfl, rfl⟩ := hrel
                          by_cases hjn : j < a.length
                          · obtain ⟨ad5, u, rfl, hb5, hu, hc5⟩ := (Reads.of_own (HC.out _ HQ.out).na).at_ hjn
                            obtain ⟨ad6, u6, rfl, hb6, hu6, hc6⟩ := (Reads.of_own (HC.out _ HQ.out).be).at_ hjn
                            have hs := lastN_succ a pa j hjn
                            obtain rfl : u = .string a[j].1 := by simpa [namesV, hjn] using hu.symm
                            obtain rfl : u6 = .int .i64 a[j].2 := by simpa [beginsV, hjn] using hu6.symm
                            clear hu hu6
                            generalize a[j].1 = s5 at *
                            generalize a[j].2 = n5 at *
                            have heq := tl_beq s5 pa
                            by_cases hsp : s5 = pa
                            · rw [if_pos hsp] at hs
                              rw [decide_eq_true hsp] at heq
                              have Hs := Lib.hid hs
                              clear hs hsp
                              generalize lastN a pa j = nb at *
                              go_wp2_with fail
                              go_quiet (fail)
                              go_wp2_with fail
                              exact ⟨⟨j + 1, n + nq, by omega, by go_num, by rw [Hs.out], rfl⟩, by simp [intOf]; omega⟩
                            · rw [if_neg hsp] at hs
                              rw [decide_eq_false hsp] at heq
                              have Hs := Lib.hid hs
                              clear hs hsp
                              generalize lastN a pa j = nb at *
                              go_wp2_with fail
                              go_quiet (fail)
                              go_wp2_with fail
                              exact ⟨⟨j + 1, n + nq, by omega, by go_num, by rw [Hs.out], rfl⟩, by simp [intOf]; omega⟩
                          · obtain rfl : j = a.length := by omega
                            generalize lastN a pa a.length = nb at *
                            generalize b5 x k = l at *
                            have HQ2 := Lib.hid (HD.out _ (n + 1) HQ.out)
                            go_wp2_with fail
                            refine Qt.wp_region_cls Cls (by kernel_rfl) (by kernel_rfl) HQ2.out ?_
                            repeat (go_big_quiet_step (first | (go_at_call 28; exact Qt.quiet_cls (HB4.out _ _ (Qt.In.h _)))))
                            refine wpQuiet_nil ?_
                            rintro wq ⟨⟨w9, hq⟩, rfl⟩
                            have HQ := Lib.hid hq
                            clear hq
                            go_wp2_with fail
                            have hst := Hst.out
                            simp only [List.append_assoc] at hst
                            exact ⟨⟨k + 1, by omega, by go_num, by rw [hst], HQ.out⟩, by simp [intOf]; omega⟩
                      · obtain rfl : k = K := by omega
                        have hb6 : b5 x k ++ (T ++ (num x.till 8 ++ num x.tail.length 1)) = b6 x := by
                          rw [b6, HTx.out, HK.out]
                          simp only [List.append_assoc]
                        have HQ := Lib.hid hq
                        have HQ2 := Lib.hid (HD.out _ 1 HQ.out)
                        have HB6 := Lib.hid hb6
                        clear hb6 hq
                        generalize b5 x k = l at *
                        go_wp2_with fail
                        refine Qt.wp_region_cls Cls (by kernel_rfl) (by kernel_rfl) HQ2.out ?_
                        repeat (go_big_quiet_step (fail))
                        go_big_quiet_step ((go_at_call 28; exact Qt.quiet_cls (HB8.out _ _ (Qt.In.h _))))
                        repeat (go_big_quiet_step (fail))
                        go_big_quiet_step ((go_at_call 28; exact Qt.quiet_cls (HB1.out _ _ (Qt.In.h _))))
                        repeat (go_big_quiet_step (fail))
                        refine wpQuiet_nil ?_
                        rintro wq ⟨⟨w9, hq⟩, rfl⟩
                        rw [HB6.out]
                        have zq : ∀ i, wq.cell? ⟨w.heap.size, i, none⟩ = #[Value.string x.name, .int .i64 x.first.off, .int .i64 x.first.save, .string x.first.abbr, .slice A x.shifts.length c, .int .i64 x.till, .slice A2 x.tail.length c2, .int .i64 x.off, .string x.format][i]? := fun i => zc ⟨wq, hq⟩ i
                        have HQ := Lib.hid hq
                        clear hq hl HQ2 HB6 hk hkn2
                        rw [← b7_zero]
                        go_wp2_with fail
                        clear zq
                        -- the tail
                        go_loopw [12, 18] (fun s i wr => ∃ k : Nat, k ≤ x.tail.length ∧ i = .int .i64 k ∧ s = .string (bs (b7 x k)) ∧ Cls wr) (fun _ i _ => x.tail.length - (intOf i).toNat)
                        case atStart => exact ⟨0, Nat.zero_le _, rfl, rfl, HQ.out⟩
                        case round =>
                          clear HQ
                          obtain ⟨k, hk, rfl, rfl, hq⟩ := hrel
                          have hl := b7_le H.out k
                          have zq : ∀ i, wr.cell? ⟨w.heap.size, i, none⟩ = #[Value.string x.name, .int .i64 x.first.off, .int .i64 x.first.save, .string x.first.abbr, .slice A x.shifts.length c, .int .i64 x.till, .slice A2 x.tail.length c2, .int .i64 x.off, .string x.format][i]? := fun i => zc ⟨wr, hq⟩ i
                          have HQ := Lib.hid hq
                          clear hq
                          by_cases hkn2 : k < x.tail.length
                          · have hst := b7_succ x k hkn2
                            obtain ⟨hrn, hrl⟩ := H.out.rules _ (List.getElem_mem hkn2)
                            obtain ⟨ad, rfl, hadb, a0, aj⟩ := rule_at (H.out.rt.below (HC.out _ HQ.out).one.2) hkn2
                            have Hst := Lib.hid hst
                            clear hst
                            generalize x.tail[k] = r at *
                            obtain ⟨r0, r1, r2, r3, r4, r5, r6, r7, r8, r9, r10⟩ := r
                            simp only at hrn hrl a0
                            have a1 := aj 1 (by omega) (by omega)
                            have a2 := aj 2 (by omega) (by omega)
                            have a3 := aj 3 (by omega) (by omega)
                            have a4 := aj 4 (by omega) (by omega)
                            have a5 := aj 5 (by omega) (by omega)
                            have a6 := aj 6 (by omega) (by omega)
                            have a7 := aj 7 (by omega) (by omega)
                            have a8 := aj 8 (by omega) (by omega)
                            have a9 := aj 9 (by omega) (by omega)
                            have a10 := aj 10 (by omega) (by omega)
                            simp only [Rule.cells, List.getElem?_cons_zero, List.getElem?_cons_succ] at a1 a2 a3 a4 a5 a6 a7 a8 a9 a10
                            clear aj
                            generalize b7 x k = l at *
                            have hsl0 := short_length r0.data.toList
                            have hsl1 := short_length r10.data.toList
                            rw [len_toList] at hsl0 hsl1
                            go_wp2_with fail
                            clear a0 a1 a2 a3 a4 a5 a6 a7 a8 a9 a10 zq
                            have hal := (Below.refl wr.heap.size wr).alloc (Nat.le_refl _) (.cells #[Value.string r0, .int .i64 r1, .int .i64 r2, .int .i64 r3, .int .i64 r4, .int .i64 r5, .int .i64 r6, .int .i64 r7, .int .i64 r8, .int .i64 r9, .string r10] 52)
                            obtain ⟨C2, hC2⟩ : ∃ C : World → Prop, C = fun z => Cls z ∧ Blk z wr.heap.size 52 #[Value.string r0, .int .i64 r1, .int .i64 r2, .int .i64 r3, .int .i64 r4, .int .i64 r5, .int .i64 r6, .int .i64 r7, .int .i64 r8, .int .i64 r9, .string r10] := ⟨_, rfl⟩
                            have HC2 : Hid (∀ z, C2 z → Cls z ∧ Blk z wr.heap.size 52 #[Value.string r0, .int .i64 r1, .int .i64 r2, .int .i64 r3, .int .i64 r4, .int .i64 r5, .int .i64 r6, .int .i64 r7, .int .i64 r8, .int .i64 r9, .string r10]) := fun z h => by rw [hC2] at h; exact h
                            have HN2 : Hid (∀ z z', C2 z → Below z.heap.size z z' → C2 z') := fun z z' h hb => by rw [hC2] at h ⊢; exact ⟨HN.out z z' h.1 hb, h.2.below hb h.2.lt⟩
                            have HS2 : Hid (C2 (wr.alloc (.cells #[Value.string r0, .int .i64 r1, .int .i64 r2, .int .i64 r3, .int .i64 r4, .int .i64 r5, .int .i64 r6, .int .i64 r7, .int .i64 r8, .int .i64 r9, .string r10] 52)).drew) := by rw [hC2]; exact ⟨HD.out _ 1 (HN.out _ _ HQ.out hal), (Blk.new wr _ _).drew⟩
                            have inst2 : Nonempty (Qt.In C2) := ⟨⟨_, HS2.out⟩⟩
                            have zr : ∀ (z : Qt.In C2) i, z.w.cell? ⟨wr.heap.size, i, none⟩ = #[Value.string r0, .int .i64 r1, .int .i64 r2, .int .i64 r3, .int .i64 r4, .int .i64 r5, .int .i64 r6, .int .i64 r7, .int .i64 r8, .int .i64 r9, .string r10][i]? := fun z i => (HC2.out z.w z.h).2.cell i
                            have HG1 : Hid (∀ (n : Int) z, C2 z → Calls Tryz.prog 28 #[.int .i64 n, .int .i64 1] z fun e z' => e = .returned (.string (bs (num n 1))) ∧ C2 z') := fun n z h => (bytes_any n 1 z (by omega)).mono fun e z' ⟨he, hb⟩ => ⟨he, HN2.out z z' h hb⟩
                            have HG2 : Hid (∀ (n : Int) z, C2 z → Calls Tryz.prog 28 #[.int .i64 n, .int .i64 2] z fun e z' => e = .returned (.string (bs (num n 2))) ∧ C2 z') := fun n z h => (bytes_any n 2 z (by omega)).mono fun e z' ⟨he, hb⟩ => ⟨he, HN2.out z z' h hb⟩
                            have HG4 : Hid (∀ (n : Int) z, C2 z → Calls Tryz.prog 28 #[.int .i64 n, .int .i64 4] z fun e z' => e = .returned (.string (bs (num n 4))) ∧ C2 z') := fun n z h => (bytes_any n 4 z (by omega)).mono fun e z' ⟨he, hb⟩ => ⟨he, HN2.out z z' h hb⟩
                            have HH : Hid (∀ (s : ByteArray) z, s.size ≤ 140737488355328 → C2 z → Calls Tryz.prog 27 #[.string s] z fun e z' => e = .returned (.string (bs (short s.data.toList))) ∧ C2 z') := fun s z hs h => (short_any s z hs).mono fun e z' ⟨he, hb⟩ => ⟨he, HN2.out z z' h hb⟩
                            clear hC2 hal
                            refine Qt.wp_region_cls C2 (by kernel_rfl) (by kernel_rfl) HS2.out ?_
                            repeat (go_big_quiet_step (fail))
                            go_big_quiet_step ((go_at_call 27; exact Qt.quiet_cls (HH.out _ _ (by omega) (Qt.In.h _))))
                            repeat (go_big_quiet_step (fail))
                            go_big_quiet_step ((go_at_call 28; exact Qt.quiet_cls (HG2.out _ _ (Qt.In.h _))))
                            repeat (go_big_quiet_step (fail))
                            go_big_quiet_step ((go_at_call 28; exact Qt.quiet_cls (HG1.out _ _ (Qt.In.h _))))
                            repeat (go_big_quiet_step (fail))
                            go_big_quiet_step ((go_at_call 28; exact Qt.quiet_cls (HG1.out _ _ (Qt.In.h _))))
                            repeat (go_big_quiet_step (fail))
                            go_big_quiet_step ((go_at_call 28; exact Qt.quiet_cls (HG1.out _ _ (Qt.In.h _))))
                            repeat (go_big_quiet_step (fail))
                            go_big_quiet_step ((go_at_call 28; exact Qt.quiet_cls (HG1.out _ _ (Qt.In.h _))))
                            repeat (go_big_quiet_step (fail))
                            go_big_quiet_step ((go_at_call 28; exact Qt.quiet_cls (HG4.out _ _ (Qt.In.h _))))
                            repeat (go_big_quiet_step (fail))
                            go_big_quiet_step ((go_at_call 28; exact Qt.quiet_cls (HG1.out _ _ (Qt.In.h _))))
                            repeat (go_big_quiet_step (fail))
                            go_big_quiet_step ((go_at_call 28; exact Qt.quiet_cls (HG4.out _ _ (Qt.In.h _))))
                            repeat (go_big_quiet_step (fail))
                            go_big_quiet_step ((go_at_call 27; exact Qt.quiet_cls (HH.out _ _ (by omega) (Qt.In.h _))))
                            repeat (go_big_quiet_step (fail))
                            refine wpQuiet_nil ?_
                            rintro wq ⟨⟨w9, hq⟩, rfl⟩
                            have HQ2 := Lib.hid (HC2.out _ hq).1
                            clear hq
                            go_wp2_with fail
                            have hst := Hst.out
                            simp only [Img.ruleB, List.append_assoc] at hst
                            exact ⟨⟨k + 1, by omega, by go_num, by rw [hst], HQ2.out⟩, by simp [intOf]; omega⟩
                          · obtain rfl : k = x.tail.length := by omega
                            have HQ2 := Lib.hid (HD.out _ 1 HQ.out)
                            have hfl := short_length x.format.data.toList
                            rw [len_toList] at hfl
                            have hbd : b7 x x.tail.length ++ (num x.off 4 ++ short x.format.data.toList) = body x := by rw [body, List.append_assoc]
                            have HBd := Lib.hid hbd
                            have hbl := body_le H.out
                            have HBl := Lib.hid hbl
                            clear hbd hbl
                            generalize b7 x x.tail.length = l at *
                            go_wp2_with fail
                            refine Qt.wp_region_cls Cls (by kernel_rfl) (by kernel_rfl) HQ2.out ?_
                            repeat (go_big_quiet_step (fail))
                            go_big_quiet_step ((go_at_call 28; exact Qt.quiet_cls (HB4.out _ _ (Qt.In.h _))))
                            repeat (go_big_quiet_step (fail))
                            go_big_quiet_step ((go_at_call 27; exact Qt.quiet_cls (HSh.out _ _ (by omega) (Qt.In.h _))))
                            repeat (go_big_quiet_step (fail))
                            refine wpQuiet_nil ?_
                            rintro wq ⟨⟨w9, hq⟩, rfl⟩
                            rw [HBd.out]
                            have HQ := Lib.hid hq
                            have HIm := Lib.hid (show img x = body x ++ num (sumB (body x)) 4 from rfl)
                            have hbl := HBl.out
                            clear HBd hl hq HBl
                            have hsm := sumB_lt (body x)
                            generalize body x = l at *
                            have Hsum := Lib.hid (LawImS.ref_sum (bs l) wq (by rw [bs_size]; omega))
                            change Hid (Calls _ _ _ _ (fun e w' => e = .returned (.int .u32 (sumB l)) ∧ w' = wq)) at Hsum
                            go_wp2_with (first
                              | (go_at_call 16; refine Hsum.out.mono ?_; rintro e w5 ⟨rfl, rfl⟩)
                              | (go_at_call 28; refine (HB4.out _ _ HQ.out).mono ?_; rintro e w5 ⟨rfl, hq⟩; have HQ6 := Lib.hid hq; clear hq))
                            go_ret2
                            rw [HIm.out]
                            exact ⟨rfl, (HC.out _ HQ6.out).one.2⟩
end Go.Proofs.YtaffaobhcnnfnaaGreatDoor.R15
