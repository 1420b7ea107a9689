/-
  Images read: the contract of (*reader).read. Conditions: at most 8388608 bytes; the cell of bytealg.MaxLen holds a number.
-/
import Derived.Test.YtpbojebnghcndaaGreatDoorRead0
namespace Go.Proofs.YtpbojebnghcndaaGreatDoor.Rd
open Go.RowKit Mem Img

set_option maxHeartbeats 2000000 in
set_option maxRecDepth 100000 in
theorem read_any (g : Nat) (l : List UInt8) (m : Int) (w : World) (h : Rd w g l) (hl : l.length ≤ 8388608) (hm : w.cell? ⟨0, 0, none⟩ = some (.int .i64 m)) :
    Calls Tryz.prog 54 #[.pointer (some ⟨g, 0, none⟩)] w (TP g w (readM l)) := by
  obtain ⟨i67, hi67, hz67, hs67, hb67⟩ := info_parts info67
  obtain ⟨i52, hi52, hz52, hs52, hb52⟩ := info_parts info52
  obtain ⟨i41, hi41, hz41, hs41, hb41⟩ := info_parts info41
  obtain ⟨i23, hi23, hz23, hs23, hb23⟩ := info_parts info23
  go_enter Tryz.func54, Tryz.ntmps54
  have hmg : 0 ≠ g := by
    rintro rfl
    have := h.cell 0
    rw [hm] at this
    simp at this
  have HML := Lib.hid hm; clear hm
  have HS := Lib.hid ((RS.start h).new (t := 27) (cs := zTab)); clear h
  simp only [zTab] at HS
  obtain ⟨R, hR⟩ : ∃ R, readM l = R := ⟨_, rfl⟩
  have HM := Lib.hid hR
  rw [hR]
  unfold readM at hR
  have Ht := Lib.hid (take_any 4 g l _ HS.out.rd (by omega))
  cases ht : takeM 4 l with
  | none =>
    rw [ht] at Ht hR
    go_wp2_with (go_at_call 103; refine Ht.out.mono ?_; rintro e w1 hr; obtain ⟨rfl, hg⟩ := hr.bad; exact ⟨rfl, TP.fail hR.symm (gr3 HS.out.out hg)⟩)
  | some y =>
    obtain ⟨v0, r0⟩ := y
    rw [ht, Option.bind_some] at hR
    rw [ht] at Ht
    have k0 := (takeM_le ht).2.1
    clear ht
    by_cases hmag : v0 = magic
    · subst hmag
      have hB : (magic == [65, 78, 76, 49]) = true := rfl
      have hB2 : (!(magic == [65, 78, 76, 49])) = false := rfl
      simp only [if_true] at hR
      unfold r1 at hR
      have Hm := Lib.hid hR; clear hR
      go_wp2_with (first
        | (go_at_call 103; refine Ht.out.mono ?_; rintro e w1 hr; obtain ⟨rfl, hrd, hg⟩ := hr.ok; have hs := HS.out.step hrd hg; have HS := Lib.hid hs; clear hr hg hrd hs)
        | (go_at_call 104; refine (short_any g _ _ HS.out.rd).mono ?_; rintro e w2 hr; rcases hr.cases with ⟨hm, rfl, hg⟩ | ⟨name, rest1, hm, rfl, hrd, hg⟩; (exact ⟨rfl, TP.fail (by rw [← Hm.out, hm]; rfl) (gr3 HS.out.out hg)⟩); (have hs := (HS.out.step hrd hg).new (t := 27) (cs := #[.string ⟨name.toArray⟩, .int .i64 0, .int .i64 0, .string ⟨#[]⟩, .slice none 0 0, .int .i64 0, .slice none 0 0, .int .i64 0, .string ⟨#[]⟩]); have ho := Hm.out; simp only [hm, Option.bind_some] at ho; have k1 := shortM_le hm; have HS := Lib.hid hs; have Hm := Lib.hid ho; clear hm hr hrd hg hs ho))
        | (go_at_call 105; have tk := tok2; refine (many_any 1 g _ _ HS.out.rd (by omega)).mono ?_; rintro e w5 hr; rcases hr.cases with ⟨hm, rfl, hg⟩ | ⟨m1, r4, hm, rfl, hrd, hg⟩; (exact ⟨rfl, TP.fail (by rw [← Hm.out, hm]; rfl) (gr3 HS.out.out hg)⟩); (have hs := HS.out.step hrd hg; have ho := Hm.out; simp only [hm, Option.bind_some] at ho; have k4 := manyM_le hm; obtain ⟨M, rfl⟩ : ∃ M : Nat, m1 = M := ⟨m1.toNat, by omega⟩; simp only [Int.toNat_natCast] at ho; have HS := Lib.hid hs; have Hm := Lib.hid ho; clear hm hr hrd hg hs ho))
        | (go_at_call 105; have tk := tok1; refine (many_any 12 g _ _ HS.out.rd (by omega)).mono ?_; rintro e w4 hr; rcases hr.cases with ⟨hm, rfl, hg⟩ | ⟨k1, r3, hm, rfl, hrd, hg⟩; (exact ⟨rfl, TP.fail (by rw [← Hm.out, hm]; rfl) (gr3 HS.out.out hg)⟩); (have hs := HS.out.step hrd hg; have ho := Hm.out; simp only [hm, Option.bind_some] at ho; have k3 := manyM_le hm; obtain ⟨K, rfl⟩ : ∃ K : Nat, k1 = K := ⟨k1.toNat, by omega⟩; simp only [Int.toNat_natCast] at ho; have HS := Lib.hid hs; have Hm := Lib.hid ho; clear hm hr hrd hg hs ho; have tok2 : True := trivial))
        | (go_at_call 105; refine (many_any 12 g _ _ HS.out.rd (by omega)).mono ?_; rintro e w3 hr; rcases hr.cases with ⟨hm, rfl, hg⟩ | ⟨n1, r2, hm, rfl, hrd, hg⟩; (exact ⟨rfl, TP.fail (by rw [← Hm.out, hm]; rfl) (gr3 HS.out.out hg)⟩); (have hs := HS.out.step hrd hg; have ho := Hm.out; simp only [hm, Option.bind_some] at ho; have k2 := manyM_le hm; obtain ⟨N, rfl⟩ : ∃ N : Nat, n1 = N := ⟨n1.toNat, by omega⟩; simp only [Int.toNat_natCast] at ho; have HS := Lib.hid hs; have Hm := Lib.hid ho; clear hm hr hrd hg hs ho; have tok1 : True := trivial))
        | (at_make; refine wpList_make_own w5 rfl _ _ 24 rfl w5.heap.size 98 i67 _ 4 Tryz.underlying24 hi67 hz67 hs67 .i64 .i64 _ N rfl rfl rfl (by rw [hb67]; omega) (by unfold maxLen; omega) (Nat.le_refl _) ?_; intro w6 hown6 hg6; have Hown := Lib.hid hown6; have Hg6 := Lib.hid hg6; clear hown6 hg6))
      clear tok1 tok2
      have Hrd6 := Lib.hid (Blk.grown HS.out.rd Hg6.out (by simp))
      have hN : N ≤ 700000 := by omega
      have hK : K ≤ 700000 := by omega
      have hM : M ≤ 8388608 := by omega
      have hr4 : r4.length ≤ 8388608 := by omega
      have hw05 := HS.out.out.size
      clear k1 k2 k3 k4 k0 hB hB2 Ht
      -- loop 1: the seconds
      go_loopw [7, 31] (fun v i wr => ∃ (k : Nat) (xs : List Int) (r : List UInt8), k ≤ N ∧ i = .int .i64 k ∧ repM (numM .i64 8) k r4 = some (xs, r) ∧ Rd wr g r ∧ w5.grownBy wr (some g) ∧ wr.ownsRow w5.heap.size 98 4 v k (xs.flatMap sh0)) (fun _ i _ => N - (intOf i).toNat)
      case atStart => exact ⟨0, [], r4, Nat.zero_le _, rfl, rfl, Hrd6.out, gr2 (World.grownBy.refl _ _) Hg6.out, Hown.out⟩
      case round =>
        clear Hown Hrd6 Hg6
        obtain ⟨k, xs, r, hk, rfl, hrep, hrd, hgw, hown⟩ := hrel
        have Hrep := Lib.hid hrep; have Hrd := Lib.hid hrd; have Hgw := Lib.hid hgw; have Hown := Lib.hid hown; clear hrep hrd hgw hown
        have hsz := Hgw.out.size
        by_cases hkn : k < N
        · have m1 : k + 1 ≤ maxLen := by unfold maxLen; omega
          have m2 : (k + 1) * 40 ≤ 140737488355328 := by omega
          have M1 := Lib.hid m1; have M2 := Lib.hid m2; clear m1 m2
          go_wp2_with (first
            | (go_at_call 106; refine (num_i64 8 g _ _ Hrd.out (by omega)).mono ?_; rintro e w7 hr; rcases hr.cases with ⟨hm, rfl, hg⟩ | ⟨x, rr, hm, rfl, hrd, hg⟩; (exact ⟨rfl, TP.fail (by rw [← Hm.out, Rd.r2, repM_stop Hrep.out hm hkn]; rfl) (gr3 HS.out.out (gr3 Hgw.out hg))⟩); (have Hx := Lib.hid (repM_step Hrep.out hm); have Hrd7 := Lib.hid hrd; have Hg7 := Lib.hid (gr3 Hgw.out hg); have Hown7 := Lib.hid (row_keep Hown.out Hrd.out (by decide) hg); clear hm hr hrd hg))
            | (at_builtin; refine wpList_append1g w7 rfl (.tmp 33) (.tmp 37) 24 rfl w5.heap.size 98 i67 _ 4 40 Tryz.underlying24 hi67 hz67 hs67 hb67 rfl (by decide) _ k (xs.flatMap sh0) rfl Hown7.out rfl rfl shift_one M1.out M2.out Hg7.out.size ?_; intro v' w8 hown8 hg8; have hh := row_step Hg7.out Hrd7.out Hown7.out (by decide) hg8; have Hown8 := Lib.hid hown8; have Hh := Lib.hid hh; clear hown8 hg8 hh))
          refine ⟨⟨k + 1, xs ++ [x], rr, by omega, by go_num, Hx.out, Hh.out.1, Hh.out.2, ?_⟩, by simp [intOf]; omega⟩
          simpa [sh0] using Hown8.out
        · obtain rfl : N = k := by omega
          have hm := Hm.out
          unfold Rd.r2 at hm
          simp only [Hrep.out, Option.bind_some] at hm
          have HmS := Lib.hid hm; clear hm
          have hxl := repM_length Hrep.out
          have hxr := (repM_all (F := fun _ : Int => True) (fun _ _ _ h => ⟨trivial, numM_le h⟩) Hrep.out).2
          have HSS := Lib.hid (HS.out.step Hrd.out Hgw.out)
          obtain ⟨B1, hB1⟩ : ∃ B1, B1 = w5.heap.size := ⟨_, rfl⟩
          have hB1' : w.heap.size ≤ B1 := by rw [hB1]; exact hw05
          rw [← hB1] at Hown
          clear hw05 Hm HS Hgw hsz Hrd Hrep hB1 hk hkn
          obtain ⟨W1, rfl⟩ : ∃ W1, W1 = wr := ⟨_, rfl⟩
          go_wp2_with fail
          -- loop 2: the places
          go_loopw [8, 41] (fun v i wq => ∃ (k : Nat) (ps : List Int) (rr : List UInt8), k ≤ N ∧ i = .int .i64 k ∧ repM (numM .u32 4) k r = some (ps, rr) ∧ Rd wq g rr ∧ W1.grownBy wq (some g) ∧ wq.ownsRow W1.heap.size 79 1 v k (ps.map u32C)) (fun _ i _ => N - (intOf i).toNat)
          case atStart => exact ⟨0, [], r, Nat.zero_le _, rfl, rfl, HSS.out.rd, World.grownBy.refl _ _, World.ownsRow_nil _ _ _ _⟩
          case round =>
            obtain ⟨k, ps, rr, hk, rfl, hrep, hrd, hgw, hown⟩ := hrel
            have Hrep := Lib.hid hrep; have Hrd := Lib.hid hrd; have Hgw := Lib.hid hgw; have HownP := Lib.hid hown; clear hrep hrd hgw hown
            have hsz := Hgw.out.size
            by_cases hkn : k < N
            · have m1 : k + 1 ≤ maxLen := by unfold maxLen; omega
              have m2 : (k + 1) * 4 ≤ 140737488355328 := by omega
              have M1 := Lib.hid m1; have M2 := Lib.hid m2; clear m1 m2
              go_wp2_with (first
                | (go_at_call 107; refine (num_u32 4 g _ _ Hrd.out (by omega)).mono ?_; rintro e w7 hr; rcases hr.cases with ⟨hm, rfl, hg⟩ | ⟨x, r8, hm, rfl, hrd, hg⟩; (exact ⟨rfl, TP.fail (by rw [← HmS.out, repM_stop Hrep.out hm hkn]; rfl) (gr3 HSS.out.out (gr3 Hgw.out hg))⟩); (have Hx := Lib.hid (repM_step Hrep.out hm); have Hrd7 := Lib.hid hrd; have Hg7 := Lib.hid (gr3 Hgw.out hg); have Hown7 := Lib.hid (row_keep HownP.out Hrd.out (by decide) hg); clear hm hr hrd hg))
                | (at_builtin; refine wpList_append1g w7 rfl (.tmp 43) (.tmp 46) 157 rfl W1.heap.size 79 i41 _ 1 4 Tryz.underlying157 hi41 hz41 hs41 hb41 rfl (by decide) _ k (ps.map u32C) rfl Hown7.out rfl rfl one_of_int M1.out M2.out Hg7.out.size ?_; intro v' w8 hown8 hg8; have hh := row_step Hg7.out Hrd7.out Hown7.out (by decide) hg8; have Hown8 := Lib.hid hown8; have Hh := Lib.hid hh; clear hown8 hg8 hh))
              refine ⟨⟨k + 1, ps ++ [x], r8, by omega, by go_num, Hx.out, Hh.out.1, Hh.out.2, ?_⟩, by simp [intOf]; omega⟩
              simpa [u32C] using Hown8.out
            · obtain rfl : N = k := by omega
              have hm := HmS.out
              simp only [Hrep.out, Option.bind_some] at hm
              have HmP := Lib.hid hm; clear hm
              have hpl := repM_length Hrep.out
              have hpb := (repM_all (F := fun p : Int => 0 ≤ p ∧ p < 4294967296) (fun _ _ _ h => ⟨⟨(numM_u32 h).1, (numM_u32 h).2.1⟩, numM_le h⟩) Hrep.out)
              have HSP := Lib.hid (HSS.out.step Hrd.out Hgw.out)
              have Hown := Lib.hid (row_keep Hown.out HSS.out.rd (by decide) Hgw.out)
              obtain ⟨B2, hB2⟩ : ∃ B2, B2 = W1.heap.size := ⟨_, rfl⟩
              have hB2' : w.heap.size ≤ B2 := by rw [hB2]; exact HSS.out.out.size
              rw [← hB2] at HownP
              clear Hgw hsz Hrd Hrep hB2 hk hkn HmS HSS
              obtain ⟨W2, rfl⟩ : ∃ W2, W2 = wr := ⟨_, rfl⟩
              go_wp2_with (at_make; refine wpList_make_own W2 rfl _ _ 88 rfl W2.heap.size 23 i23 _ 3 Tryz.underlying88 hi23 hz23 hs23 .i64 .i64 _ K rfl rfl rfl (by rw [hb23]; omega) (by unfold maxLen; omega) (Nat.le_refl _) ?_; intro w6 hown6 hg6; have HownQ := Lib.hid hown6; have Hg6 := Lib.hid hg6; clear hown6 hg6)
              have Hrd6 := Lib.hid (Blk.grown HSP.out.rd Hg6.out (by simp))
              -- loop 3: the phases without their texts, and where these begin
              go_loopw [9, 10, 52] (fun vb v i wq => ∃ (k : Nat) (qs : List (Int × Int × Int)) (r8 : List UInt8), k ≤ K ∧ i = .int .i64 k ∧ repM quadM k rr = some (qs, r8) ∧ Rd wq g r8 ∧ W2.grownBy wq (some g) ∧ wq.ownsRow W2.heap.size 23 3 v k (qs.flatMap ph0) ∧ wq.ownsRow W2.heap.size 79 1 vb k (qs.map fun q : Int × Int × Int => u32C q.2.2)) (fun _ _ i _ => K - (intOf i).toNat)
              case atStart => exact ⟨0, [], rr, Nat.zero_le _, rfl, rfl, Hrd6.out, gr2 (World.grownBy.refl _ _) Hg6.out, HownQ.out, World.ownsRow_nil _ _ _ _⟩
              case round =>
                clear HownQ Hrd6 Hg6
                obtain ⟨k, qs, r8, hk, rfl, hrep, hrd, hgw, hown, hownb⟩ := hrel
                have Hrep := Lib.hid hrep; have Hrd := Lib.hid hrd; have Hgw := Lib.hid hgw; have HownQ := Lib.hid hown; have HownB := Lib.hid hownb; clear hrep hrd hgw hown hownb
                have hsz := Hgw.out.size
                by_cases hkn : k < K
                · have m1 : k + 1 ≤ maxLen := by unfold maxLen; omega
                  have m2 : (k + 1) * 4 ≤ 140737488355328 := by omega
                  have m3 : (k + 1) * 32 ≤ 140737488355328 := by omega
                  have M1 := Lib.hid m1; have M2 := Lib.hid m2; have M3 := Lib.hid m3; clear m1 m2 m3
                  have Hq := Lib.hid (show quadM r8 = (numM .i32 4 r8).bind fun a => (numM .i32 4 a.2).bind fun b => (numM .u32 4 b.2).map fun c => ((a.1, b.1, c.1), c.2) from rfl)
                  go_wp2_with (first
                    | (go_at_call 108; have tk := tok; refine (num_i32 4 g _ _ HrdA.out (by omega)).mono ?_; rintro e wB hr; rcases hr.cases with ⟨hm, rfl, hg⟩ | ⟨y, rB, hm, rfl, hrd, hg⟩; (exact ⟨rfl, TP.fail (by rw [← HmP.out, repM_stop Hrep.out (by rw [Hq.out, hm]; rfl) hkn]; rfl) (gr3 HSP.out.out (gr3 HgA.out hg))⟩); (have hy := numM_i32 hm; obtain ⟨hy0, hy1⟩ := hy; have ho := Hq.out; simp only [hm, Option.bind_some] at ho; have Hq := Lib.hid ho; have HrdB := Lib.hid hrd; have HgB := Lib.hid (gr3 HgA.out hg); have HQB := Lib.hid (row_keep HQA.out HrdA.out (by decide) hg); have HBB := Lib.hid (row_keep HBA.out HrdA.out (by decide) hg); clear hm hr hrd hg ho))
                    | (go_at_call 108; refine (num_i32 4 g _ _ Hrd.out (by omega)).mono ?_; rintro e wA hr; rcases hr.cases with ⟨hm, rfl, hg⟩ | ⟨x, rA, hm, rfl, hrd, hg⟩; (exact ⟨rfl, TP.fail (by rw [← HmP.out, repM_stop Hrep.out (by rw [Hq.out, hm]; rfl) hkn]; rfl) (gr3 HSP.out.out (gr3 Hgw.out hg))⟩); (have hx := numM_i32 hm; obtain ⟨hx0, hx1⟩ := hx; have ho := Hq.out; simp only [hm, Option.bind_some] at ho; have Hq := Lib.hid ho; have HrdA := Lib.hid hrd; have HgA := Lib.hid (gr3 Hgw.out hg); have HQA := Lib.hid (row_keep HownQ.out Hrd.out (by decide) hg); have HBA := Lib.hid (row_keep HownB.out Hrd.out (by decide) hg); clear hm hr hrd hg ho; have tok : True := trivial))
                    | (go_at_call 107; refine (num_u32 4 g _ _ HrdC.out (by omega)).mono ?_; rintro e wD hr; rcases hr.cases with ⟨hm, rfl, hg⟩ | ⟨z, rD, hm, rfl, hrd, hg⟩; (exact ⟨rfl, TP.fail (by rw [← HmP.out, repM_stop Hrep.out (by rw [Hq.out, hm]; rfl) hkn]; rfl) (gr3 HSP.out.out (gr3 HgC.out hg))⟩); (have ho := Hq.out; simp only [hm, Option.map_some] at ho; have Hq := Lib.hid ho; have HrdD := Lib.hid hrd; have HgD := Lib.hid (gr3 HgC.out hg); have HQD := Lib.hid (row_keep HQC.out HrdC.out (by decide) hg); have HBD := Lib.hid (row_keep HBC.out HrdC.out (by decide) hg); clear hm hr hrd hg ho))
                    | (at_builtin; refine wpList_append1g wB rfl (.tmp 54) (.tmp 62) 88 rfl W2.heap.size 23 i23 _ 3 32 Tryz.underlying88 hi23 hz23 hs23 hb23 rfl (by decide) _ k (qs.flatMap ph0) rfl HQB.out rfl rfl phases_oneCell M1.out M3.out HgB.out.size ?_; intro v' wC hown8 hg8; have hh := row_step HgB.out HrdB.out HQB.out (by decide) hg8; have hb := (HBB.out.alloc _).kept hg8 (own_own_ne HBB.out HQB.out (by decide)).symm; have HQC := Lib.hid hown8; have HBC := Lib.hid hb; have HrdC := Lib.hid hh.1; have HgC := Lib.hid hh.2; clear hown8 hg8 hh hb)
                    | (at_builtin; refine wpList_append1g wD rfl (.tmp 64) (.tmp 67) 157 rfl W2.heap.size 79 i41 _ 1 4 Tryz.underlying157 hi41 hz41 hs41 hb41 rfl (by decide) _ k (qs.map fun q : Int × Int × Int => u32C q.2.2) rfl HBD.out rfl rfl one_of_int M1.out M2.out HgD.out.size ?_; intro v'' wE hown8 hg8; have hh := row_step HgD.out HrdD.out HBD.out (by decide) hg8; have hb := (HQD.out.alloc _).kept hg8 (own_own_ne HQD.out HBD.out (by decide)).symm; have HBE := Lib.hid hown8; have HQE := Lib.hid hb; have Hh := Lib.hid hh; clear hown8 hg8 hh hb))
                  refine ⟨⟨k + 1, qs ++ [(x, y, z)], rD, by omega, by go_num, repM_step Hrep.out Hq.out, Hh.out.1, Hh.out.2, ?_, ?_⟩, by simp [intOf]; omega⟩
                  · simpa [ph0] using HQE.out
                  · simpa [u32C] using HBE.out
                · obtain rfl : K = k := by omega
                  have hm := HmP.out
                  simp only [Hrep.out, Option.bind_some] at hm
                  have HmQ := Lib.hid hm; clear hm
                  have hql := repM_length Hrep.out
                  have hqb := (repM_all (F := fun q : Int × Int × Int => 0 ≤ q.2.2 ∧ q.2.2 < 4294967296) (fun _ _ _ h => quadM_u32 h) Hrep.out)
                  have HSQ := Lib.hid (HSP.out.step Hrd.out Hgw.out)
                  have Hown := Lib.hid (row_keep Hown.out HSP.out.rd (by decide) Hgw.out)
                  have HownP := Lib.hid (row_keep HownP.out HSP.out.rd (by decide) Hgw.out)
                  obtain ⟨B3, hB3⟩ : ∃ B3, B3 = W2.heap.size := ⟨_, rfl⟩
                  have hB3' : w.heap.size ≤ B3 := by rw [hB3]; exact HSP.out.out.size
                  rw [← hB3] at HownQ HownB
                  clear Hgw hsz Hrd Hrep hB3 hk hkn HmP HSP
                  obtain ⟨W3, rfl⟩ : ∃ W3, W3 = wr := ⟨_, rfl⟩
                  have hr8 : r8.length ≤ 8388608 := by have := hqb.2; have := hpb.2; omega
                  have hqb := hqb.1
                  have hpb := hpb.1
                  clear hxr
                  cases htk : takeM M r8 with
                  | none =>
                    have hm := HmQ.out
                    rw [htk] at hm
                    go_wp2_with (go_at_call 103; refine (take_any M g _ _ HSQ.out.rd (by omega)).mono ?_; rintro e w7 hr; rw [htk] at hr; obtain ⟨rfl, hg⟩ := hr.bad; exact ⟨rfl, TP.fail hm.symm (gr3 HSQ.out.out hg)⟩)
                  | some y =>
                    obtain ⟨pool, r9⟩ := y
                    have hm := HmQ.out
                    rw [htk, Option.bind_some] at hm
                    have HmR := Lib.hid hm; clear hm HmQ
                    have kt := takeM_le htk
                    have hpool : pool.length ≤ 8388608 := by omega
                    have hr9 : r9.length ≤ 8388608 := by omega
                    have Htk := Lib.hid htk
                    clear kt htk
                    obtain ⟨A10, c10, rfl⟩ := own_form HownQ.out
                    obtain ⟨A8, c8, rfl⟩ := own_form HownP.out
                    obtain ⟨A9, c9, rfl⟩ := own_form HownB.out
                    obtain ⟨A7, c7, rfl⟩ := own_form Hown.out
                    go_wp2_with (go_at_call 103; refine (take_any M g _ _ HSQ.out.rd (by omega)).mono ?_; rintro e w7 hr; rw [Htk.out] at hr; obtain ⟨rfl, hrd, hg⟩ := hr.ok; have Hown4 := Lib.hid (row_keep Hown.out HSQ.out.rd (by decide) hg); have HownP4 := Lib.hid (row_keep HownP.out HSQ.out.rd (by decide) hg); have HownB4 := Lib.hid (row_keep HownB.out HSQ.out.rd (by decide) hg); have HownQ4 := Lib.hid (row_keep HownQ.out HSQ.out.rd (by decide) hg); have HSR := Lib.hid (HSQ.out.step hrd hg); clear hr hg hrd)
                    have Hml := Lib.hid (HSR.out.out.cell HML.out (by simpa using hmg))
                    have hz0 := World.block_lt_of_cell? w _ HML.out
                    simp only at hz0
                    obtain ⟨W4, rfl⟩ : ∃ W4, W4 = w7 := ⟨_, rfl⟩
                    clear HSQ Hown HownP HownB HownQ Htk
                    -- loop 4: the phases' texts
                    go_loopw [12, 75] (fun _ i wq => ∃ (k : Nat) (phs : List Phase), k ≤ K ∧ i = .int .i64 k ∧ mapO (phM pool) (qs.take k) = some phs ∧ W4.grownBy wq (Value.ownBlock (.slice A10 K c10)) ∧ wq.ownsRow B3 23 3 (.slice A10 K c10) K (phs.flatMap Phase.cells ++ (qs.drop k).flatMap ph0)) (fun _ i _ => K - (intOf i).toNat)
                    case atStart => exact ⟨0, [], Nat.zero_le _, rfl, rfl, World.grownBy.refl _ _, HownQ4.out⟩
                    case round =>
                      obtain ⟨k, phs, hk, rfl, hmap, hgw, hown⟩ := hrel
                      have Hmap := Lib.hid hmap; have Hgw := Lib.hid hgw; have HQ := Lib.hid hown; clear hmap hgw hown
                      have hphl : phs.length = k := by rw [mapO_length Hmap.out, List.length_take]; omega
                      by_cases hkn : k < K
                      · have hb := HownB4.out.kept Hgw.out (own_own_ne HownB4.out HownQ4.out (by decide)).symm
                        obtain ⟨g9, rfl, hg9, _⟩ := own_at hb (by omega)
                        obtain ⟨gp, rfl, hgp, _⟩ := own_at HQ.out (by omega)
                        have hkq : k < qs.length := by omega
                        have cb := hb.cellAt k (by omega)
                        rw [List.getElem?_map, List.getElem?_eq_getElem hkq] at cb
                        have hq := hqb qs[k] (List.getElem_mem hkq)
                        obtain ⟨n9, hn9⟩ : ∃ n9 : Nat, qs[k].2.2 = n9 := ⟨qs[k].2.2.toNat, by omega⟩
                        simp only [Option.map_some, u32C, hn9] at cb
                        have hn9b : n9 < 4294967296 := by have h2 := hq.2; rw [hn9] at h2; omega
                        have ad9 : Addr.add ⟨g9, 0, none⟩ k = ⟨g9, k, none⟩ := by unfold Addr.add; split <;> simp_all
                        have adp : Addr.add ⟨gp, 0, none⟩ (k * 3) = ⟨gp, k * 3, none⟩ := by unfold Addr.add; split <;> simp_all
                        have hml : wr.cell? ⟨0, 0, none⟩ = some (.int .i64 m) := Hgw.out.cell Hml.out (by simp [Value.ownBlock]; omega)
                        have Hml4 := Lib.hid hml; clear hml hb
                        have hab : phM pool qs[k] = (abbrM pool n9).map fun s => ⟨qs[k].1, qs[k].2.1, ⟨s.toArray⟩⟩ := by rw [phM, hn9]; rfl
                        cases hs : abbrM pool n9 with
                        | none =>
                          rw [hs] at hab
                          go_wp2_with (go_at_call 109; refine (abbr_any pool n9 m _ (by omega) hn9b Hml4.out).mono ?_; rintro e wA ⟨hr, nn, hw⟩; rw [hs] at hr; obtain rfl := hr; exact ⟨rfl, TP.fail (by rw [← HmR.out, r2c, mapO_stop hkq hab]; rfl) (by rw [hw]; exact grown_drewN (HSR.out.own HownQ4.out Hgw.out (by omega) (by decide) (by simp)).out nn)⟩)
                        | some tx =>
                          rw [hs] at hab
                          have hst := mapO_step hkq Hmap.out hab
                          have Hst := Lib.hid hst; clear hst hab
                          go_wp2_with (go_at_call 109; refine (abbr_any pool n9 m _ (by omega) hn9b Hml4.out).mono ?_; rintro e wA ⟨hr, nn, hw⟩; rw [hs] at hr; obtain rfl := hr; have hgA : W4.grownBy wA (some gp) := (by rw [hw]; exact grown_drewN Hgw.out nn); have hQA : wA.ownsRow B3 23 3 (.slice (some ⟨gp, 0, none⟩) K c10) K (phs.flatMap Phase.cells ++ (qs.drop k).flatMap ph0) := (by rw [hw]; exact HQ.out); obtain ⟨_, cp⟩ := own_cell hQA (j := k * 3 + 2) (by omega); have fp := hQA.frozenAt (k * 3 + 2); have sp := hQA.stored (k * 3 + 2) (.string ⟨tx.toArray⟩); have HgA := Lib.hid hgA; have Sp := Lib.hid sp; clear hgA hQA sp hw)
                          refine ⟨⟨k + 1, _, by omega, by go_num, Hst.out, gr3 HgA.out Sp.out.2, ?_⟩, by simp [intOf]; omega⟩
                          rw [← ph_set _ hkq hphl]
                          exact Sp.out.1
                      · obtain rfl : K = k := by omega
                        have hm := Hmap.out
                        rw [List.take_of_length_le (by omega)] at hm
                        have hr := HmR.out
                        rw [r2c, hm, Option.bind_some] at hr
                        have HmT := Lib.hid hr
                        have hown := HQ.out
                        rw [List.drop_eq_nil_of_le (by omega), List.flatMap_nil, List.append_nil] at hown
                        have HQ5 := Lib.hid hown
                        have HST := Lib.hid (HSR.out.own HownQ4.out Hgw.out (by omega) (by decide) (by simp))
                        have HP5 := Lib.hid (HownP4.out.kept Hgw.out (own_own_ne HownP4.out HownQ4.out (by decide)).symm)
                        have Hs5 := Lib.hid (Hown4.out.kept Hgw.out (own_own_ne Hown4.out HownQ4.out (by decide)).symm)
                        obtain ⟨W5, rfl⟩ : ∃ W5, W5 = wr := ⟨_, rfl⟩
                        clear hm hr hown HQ Hgw Hmap HmR HSR HownP4 HownQ4 HownB4 Hown4 Hml hkn hk
                        go_wp2_with fail
                        -- loop 5: the shifts' phases
                        go_loopw [13, 14, 91] (fun _ _ i wq => ∃ (k : Nat) (sss : List Shift), k ≤ N ∧ i = .int .i64 k ∧ mapO (shM phs) ((xs.zip ps).take k) = some sss ∧ W5.grownBy wq (Value.ownBlock (.slice A7 N c7)) ∧ wq.ownsRow B1 98 4 (.slice A7 N c7) N (sss.flatMap Shift.cells ++ (xs.drop k).flatMap sh0)) (fun _ _ i _ => N - (intOf i).toNat)
                        case atStart => exact ⟨0, [], Nat.zero_le _, rfl, rfl, World.grownBy.refl _ _, Hs5.out⟩
                        case round =>
                          obtain ⟨k, sss, hk, rfl, hmap, hgw, hown⟩ := hrel
                          have Hmap := Lib.hid hmap; have Hgw := Lib.hid hgw; have Hs := Lib.hid hown; clear hmap hgw hown
                          have hzl : (xs.zip ps).length = N := by rw [List.length_zip]; omega
                          have hssl : sss.length = k := by rw [mapO_length Hmap.out, List.length_take]; omega
                          by_cases hkn : k < N
                          · have hkz : k < (xs.zip ps).length := by omega
                            have hkx : k < xs.length := by omega
                            have hkp : k < ps.length := by omega
                            have hb := HP5.out.kept Hgw.out (own_own_ne HP5.out Hs5.out (by decide)).symm
                            have hq5 := HQ5.out.kept Hgw.out (own_own_ne HQ5.out Hs5.out (by decide)).symm
                            obtain ⟨g8, rfl, hg8, _⟩ := own_at hb (by omega)
                            obtain ⟨gs, rfl, hgs, _⟩ := own_at Hs.out (by omega)
                            have cb := hb.cellAt k (by omega)
                            rw [List.getElem?_map, List.getElem?_eq_getElem hkp] at cb
                            have hp := hpb ps[k] (List.getElem_mem hkp)
                            obtain ⟨n8, hn8⟩ : ∃ n8 : Nat, ps[k] = n8 := ⟨ps[k].toNat, by omega⟩
                            simp only [Option.map_some, u32C, hn8] at cb
                            have hn8b : n8 < 4294967296 := by have h2 := hp.2; rw [hn8] at h2; omega
                            have hzk : (xs.zip ps)[k] = (xs[k], ps[k]) := by simp
                            have ad8 : Addr.add ⟨g8, 0, none⟩ k = ⟨g8, k, none⟩ := by unfold Addr.add; split <;> simp_all
                            have ads : Addr.add ⟨gs, 0, none⟩ (k * 4) = ⟨gs, k * 4, none⟩ := by unfold Addr.add; split <;> simp_all
                            have hsh : shM phs (xs.zip ps)[k] = (phs[n8]?).map fun ph => ⟨xs[k], ph⟩ := by rw [hzk, shM, hn8]; rfl
                            by_cases hpk : n8 < K
                            · have hpl8 : n8 < phs.length := by omega
                              rw [List.getElem?_eq_getElem hpl8] at hsh
                              have hst := mapO_step hkz Hmap.out hsh
                              have Hst := Lib.hid hst; clear hst hsh
                              obtain ⟨gp, rfl, hgp, _⟩ := own_at hq5 (by omega)
                              have hcl : ∀ j, j < 3 → wr.cell? ⟨gp, n8 * 3 + j, none⟩ = phs[n8].cells[j]? := fun j hj => by
                                rw [hq5.cellAt _ (by omega), flat_get Phase.cells 3 (fun _ => rfl) phs n8 j hj, List.getElem?_eq_getElem hpl8]; rfl
                              obtain ⟨q, hq⟩ : ∃ q, q = phs[n8] := ⟨_, rfl⟩
                              rw [← hq] at hcl Hst
                              clear hq
                              obtain ⟨po, ps', pa⟩ := q
                              have p0 := hcl 0 (by omega)
                              have p1 := hcl 1 (by omega)
                              have p2 := hcl 2 (by omega)
                              simp only [Phase.cells, Nat.add_zero, List.getElem?_cons_zero, List.getElem?_cons_succ] at p0 p1 p2
                              have adp : Addr.add ⟨gp, 0, none⟩ (n8 * 3) = ⟨gp, n8 * 3, none⟩ := by unfold Addr.add; split <;> simp_all
                              have fs := fun j => Hs.out.frozenAt j
                              obtain ⟨_, c1⟩ := own_cell Hs.out (j := k * 4 + 1) (by omega)
                              obtain ⟨_, c2⟩ := own_cell Hs.out (j := k * 4 + 2) (by omega)
                              obtain ⟨_, c3⟩ := own_cell Hs.out (j := k * 4 + 3) (by omega)
                              have s1 := Hs.out.stored (k * 4 + 1) (.int .i64 po)
                              have s2 := s1.1.stored (k * 4 + 2) (.int .i64 ps')
                              have s3 := s2.1.stored (k * 4 + 3) (.string pa)
                              have S1 := Lib.hid s1; have S2 := Lib.hid s2; have S3 := Lib.hid s3; clear s1 s2 s3 hcl
                              go_wp2
                              refine ⟨⟨k + 1, _, by omega, by go_num, Hst.out, ?_, ?_⟩, by simp [intOf]; omega⟩
                              · exact gr3 Hgw.out (gr3 S1.out.2 (gr3 S2.out.2 S3.out.2))
                              · rw [← sh_set _ hkx hssl]
                                exact S3.out.1
                            · rw [List.getElem?_eq_none (by omega)] at hsh
                              go_wp2
                              exact ⟨rfl, TP.fail (by rw [← HmT.out, mapO_stop hkz hsh]; rfl) (HST.out.own Hs5.out Hgw.out (by omega) (by decide) (by simp)).out⟩
                          · obtain rfl : N = k := by omega
                            have hm := Hmap.out
                            rw [List.take_of_length_le (by omega)] at hm
                            have hr := HmT.out
                            rw [hm, Option.bind_some] at hr
                            have HmU := Lib.hid hr
                            have hown := Hs.out
                            rw [List.drop_eq_nil_of_le (by omega), List.flatMap_nil, List.append_nil] at hown
                            have Hs6 := Lib.hid hown
                            have HSU := Lib.hid (HST.out.own Hs5.out Hgw.out (by omega) (by decide) (by simp))
                            have HQ6 := Lib.hid (HQ5.out.kept Hgw.out (own_own_ne HQ5.out Hs5.out (by decide)).symm)
                            obtain ⟨W6, rfl⟩ : ∃ W6, W6 = wr := ⟨_, rfl⟩
                            clear hm hr hown Hs Hgw Hmap HmT HST HQ5 Hs5 HP5 hkn hk
                            have hlen : sss.length = N := hssl
                            rcases Nat.eq_zero_or_pos K with hK0 | hK0
                            · subst hK0
                              have hnil : phs = [] := List.eq_nil_of_length_eq_zero hphl
                              have hr := HmU.out
                              rw [hnil] at hr
                              go_wp2
                              exact ⟨rfl, TP.fail hr.symm HSU.out.out⟩
                            · obtain ⟨gp, rfl, hgp, _⟩ := own_at HQ6.out hK0
                              have hcl : ∀ j, j < 3 → W6.cell? ⟨gp, j, none⟩ = phs[0].cells[j]? := fun j hj => by
                                rw [HQ6.out.cellAt _ (by omega)]
                                have := flat_get Phase.cells 3 (fun _ => rfl) phs 0 j hj
                                rw [Nat.zero_mul, Nat.zero_add] at this
                                rw [this, List.getElem?_eq_getElem (by omega)]; rfl
                              have hr := HmU.out
                              rw [List.head?_eq_getElem?, List.getElem?_eq_getElem (by omega), Option.bind_some] at hr
                              obtain ⟨q, hq⟩ : ∃ q, q = phs[0] := ⟨_, rfl⟩
                              rw [← hq] at hcl hr
                              have hqm : q ∈ phs := by rw [hq]; exact List.getElem_mem _
                              clear hq
                              have HmV := Lib.hid hr
                              obtain ⟨po, ps', pa⟩ := q
                              have p0 := hcl 0 (by omega)
                              have p1 := hcl 1 (by omega)
                              have p2 := hcl 2 (by omega)
                              simp only [Phase.cells, List.getElem?_cons_zero, List.getElem?_cons_succ] at p0 p1 p2
                              have adp : Addr.add ⟨gp, 0, none⟩ 0 = ⟨gp, 0, none⟩ := rfl
                              have hrt : RT w g w2.heap.size w.heap.size _ _ r9 B1 (.slice A7 N c7) N (sss.flatMap Shift.cells) W6 := ⟨HSU.out, Hs6.out⟩
                              have fX := fun i => hrt.blkX.frozen i
                              have cX := fun i => hrt.blkX.cell i
                              have hrt := (((hrt.set_ 1 (.int .i64 po)).set_ 2 (.int .i64 ps')).set_ 3 (.string pa)).set_ 4 (.slice A7 N c7)
                              simp only [List.setIfInBounds_toArray, List.set_cons_succ, List.set_cons_zero] at hrt
                              have HT := Lib.hid hrt
                              clear hrt hr HmU HSU Hs6 HQ6 hcl
                              have h3 := HmV.out
                              rw [Rd.r3] at h3
                              have HmW := Lib.hid h3; clear h3
                              go_wp2_with (first
                                | (go_at_call 106; refine (num_i64 8 g _ _ HT.out.rd (by omega)).mono ?_; rintro e w8 hr; rcases hr.cases with ⟨hm, rfl, hg⟩ | ⟨till, r10, hm, rfl, hrd, hg⟩; (exact ⟨rfl, TP.fail (by rw [← HmW.out, hm]; rfl) (gr3 HT.out.out hg)⟩); (have ht := HT.out.step hrd hg; have ho := HmW.out; simp only [hm, Option.bind_some] at ho; have fX := fun i => ht.blkX.frozen i; have cX := fun i => ht.blkX.cell i; have ht := ht.set_ 5 (.int .i64 till); simp only [List.setIfInBounds_toArray, List.set_cons_succ, List.set_cons_zero] at ht; have HT := Lib.hid ht; have HmW := Lib.hid ho; clear hm hr hrd hg ht ho))
                                | (go_at_call 110; refine (num_u8 1 g _ _ HT.out.rd (by omega)).mono ?_; rintro e w9 hr; rcases hr.cases with ⟨hm, rfl, hg⟩ | ⟨t1, r11, hm, rfl, hrd, hg⟩; (exact ⟨rfl, TP.fail (by rw [← HmW.out, hm]; rfl) (gr3 HT.out.out hg)⟩); (have hx := numM_u8 hm; have ht := HT.out.step hrd hg; have ho := HmW.out; simp only [hm, Option.bind_some] at ho; obtain ⟨T, rfl⟩ : ∃ T : Nat, t1 = T := ⟨t1.toNat, by omega⟩; simp only [Int.toNat_natCast] at ho; have HT := Lib.hid ht; have HmW := Lib.hid ho; clear hm hr hrd hg ht ho)))
                              obtain ⟨hx0, hx1, _⟩ := hx
                              clear fX cX p0 p1 p2 adp hqb hpb hxl hpl hql
                              -- loop 6: the tail
                              go_loopw [124] (fun i wq => ∃ (k : Nat) (rs : List Rule) (r : List UInt8) (tv : Value), k ≤ T ∧ i = .int .u8 k ∧ repM ruleM k r11 = some (rs, r) ∧
                                RT w g w2.heap.size w.heap.size #[.string ⟨name.toArray⟩, .int .i64 po, .int .i64 ps', .string pa, .slice A7 N c7, .int .i64 till, tv, .int .i64 0, .string ⟨#[]⟩] #[.string ⟨#[]⟩, .int .i64 0, .int .i64 0, .string ⟨#[]⟩, .slice none 0 0, .int .i64 0, .slice none 0 0, .int .i64 0, .string ⟨#[]⟩] r B1 (.slice A7 N c7) N (sss.flatMap Shift.cells) wq ∧
                                wq.ownsRow w.heap.size 63 11 tv k (rs.flatMap Rule.cells)) (fun i _ => T - (intOf i).toNat)
                              case atStart => exact ⟨0, [], r11, _, Nat.zero_le _, rfl, rfl, HT.out, World.ownsRow_nil _ _ _ _⟩
                              case round =>
                                clear HT
                                obtain ⟨k, rs, r, tv, hk, rfl, hrep, hrt, hown⟩ := hrel
                                have Hrep := Lib.hid hrep; have HT := Lib.hid hrt; have HR := Lib.hid hown; clear hrep hrt hown
                                obtain ⟨At, ct, rfl⟩ := own_form HR.out
                                by_cases hkn : k < T
                                · have cX := fun i => HT.out.blkX.cell i
                                  have hsz := HT.out.out.size
                                  cases hrm : ruleM r with
                                  | none =>
                                    have Hrm := Lib.hid hrm; clear hrm
                                    go_wp2_with fail
                                    go_region_dies
                                    all_goals
                                      refine (rrule_any g r _ HT.out.drew.rd).mono ?_
                                      rintro e wA hr
                                      rw [Hrm.out] at hr
                                      obtain ⟨rfl, hg⟩ := hr.bad
                                      exact ⟨rfl, TP.fail (by rw [← HmW.out, repM_stop Hrep.out Hrm.out hkn]; rfl) (gr3 HT.out.drew.out hg)⟩
                                  | some y =>
                                    obtain ⟨⟨xa, xb, xc, xd, xe, xf, xg, xh, xi, xj, xk⟩, rx⟩ := y
                                    have Hst := Lib.hid (repM_step Hrep.out hrm)
                                    have Hrm := Lib.hid hrm; clear hrm
                                    have m1 : k + 1 ≤ maxLen := by unfold maxLen; omega
                                    have m2 : (k + 1) * 104 ≤ 140737488355328 := by omega
                                    have M1 := Lib.hid m1; have M2 := Lib.hid m2; clear m1 m2
                                    go_wp2_with fail
                                    go_region_law (first
                                      | (refine step_append1 wA rfl (.tmp 127) (.tmp 130) 25 rfl w.heap.size 63 i52 _ 11 104 Tryz.underlying25 hi52 hz52 hs52 hb52 rfl (by decide) _ k (rs.flatMap Rule.cells) (by simp [Act.eval]) HRA.out (by simp [Act.eval]) rfl rule_one M1.out M2.out HzA.out ?_; intro v' wB hown8 hg8; obtain ⟨gt, capt, rfl, _, _⟩ := hown8.form (Nat.succ_pos _); have hh := (HTA.out.alloc _).own (HRA.out.alloc _) hg8 (Nat.le_refl _) (by decide) (by decide) (by decide); have HTB := Lib.hid hh; have HRB := Lib.hid hown8; have fB := fun i => hh.blkX.frozen i; have cB := fun i => hh.blkX.cell i; clear hown8 hg8 hh)
                                      | (go_simp; go_at_call 111; refine (rrule_any g r _ HT.out.drew.rd).mono ?_; rintro e wA hr; rw [Hrm.out] at hr; obtain ⟨he, hrd, hg⟩ := hr.ok; simp only [Rule.cells] at he; obtain rfl := he; have ht := HT.out.drew.step hrd hg; have HTA := Lib.hid ht; have HRA := Lib.hid (row_keep HR.out.drew HT.out.drew.rd (by decide) hg); have HzA := Lib.hid ht.out.size; have cA := fun i => ht.blkX.cell i; have cA2 := fun o i => (ht.alloc o).blkX.cell i; clear hr hrd hg ht))
                                    all_goals
                                      have ht := HTB.out.set_ 6 (.slice (some ⟨gt, 0, none⟩) (k + 1) capt)
                                      simp only [List.setIfInBounds_toArray, List.set_cons_succ, List.set_cons_zero] at ht
                                      have hr := HRB.out.kept (World.grownBy_setCell wB ⟨w2.heap.size, 6, none⟩ (.slice (some ⟨gt, 0, none⟩) (k + 1) capt) rfl) (.inr (own_blk_ne HRB.out HTB.out.blkX (by decide)))
                                      have HTC := Lib.hid ht; have HRC := Lib.hid hr; clear ht hr
                                      go_wp2
                                      refine ⟨⟨k + 1, _, rx, _, by omega, ?_, Hst.out, HTC.out, ?_⟩, by simp [intOf]; omega⟩
                                      · go_num
                                      · simpa [Rule.cells] using HRC.out
                                · obtain rfl : T = k := by omega
                                  have hm := HmW.out
                                  simp only [Hrep.out, Option.bind_some] at hm
                                  have HmX := Lib.hid hm
                                  have hTl := repM_length Hrep.out
                                  clear hm HmW Hrep hkn hk
                                  go_wp2_with (first
                                    | (go_at_call 108; refine (num_i32 4 g _ _ HT.out.rd (by omega)).mono ?_; rintro e w8 hr; rcases hr.cases with ⟨hm, rfl, hg⟩ | ⟨off, r12, hm, rfl, hrd, hg⟩; (exact ⟨rfl, TP.fail (by rw [← HmX.out, hm]; rfl) (gr3 HT.out.out hg)⟩); (obtain ⟨ho0, ho1⟩ := numM_i32 hm; have ht := HT.out.step hrd hg; have ho := HmX.out; simp only [hm, Option.bind_some] at ho; have hor := row_keep HR.out HT.out.rd (by decide) hg; have HR := Lib.hid (hor.kept (World.grownBy_setCell w8 ⟨w2.heap.size, 7, none⟩ (.int .i64 off) rfl) (.inr (own_blk_ne hor ht.blkX (by decide)))); have fX := fun i => ht.blkX.frozen i; have cX := fun i => ht.blkX.cell i; have ht := ht.set_ 7 (.int .i64 off); simp only [List.setIfInBounds_toArray, List.set_cons_succ, List.set_cons_zero] at ht; have cX := fun i => ht.blkX.cell i; have HT := Lib.hid ht; have HmX := Lib.hid ho; clear hm hr hrd hg ht ho hor))
                                    | (go_at_call 104; refine (short_any g _ _ HT.out.rd).mono ?_; rintro e w8 hr; rcases hr.cases with ⟨hm, rfl, hg⟩ | ⟨fm, r13, hm, rfl, hrd, hg⟩; (exact ⟨rfl, TP.fail (by rw [← HmX.out, hm]; rfl) (gr3 HT.out.out hg)⟩); (have ht := HT.out.step hrd hg; have ho := HmX.out; simp only [hm, Option.map_some] at ho; have hor := row_keep HR.out HT.out.rd (by decide) hg; have HR := Lib.hid (hor.kept (World.grownBy_setCell w8 ⟨w2.heap.size, 8, none⟩ (.string ⟨fm.toArray⟩) rfl) (.inr (own_blk_ne hor ht.blkX (by decide)))); have fX := fun i => ht.blkX.frozen i; have cX := fun i => ht.blkX.cell i; have ht := ht.set_ 8 (.string ⟨fm.toArray⟩); simp only [List.setIfInBounds_toArray, List.set_cons_succ, List.set_cons_zero] at ht; have cX := fun i => ht.blkX.cell i; have fR := fun i => ht.blkR.frozen i; have cR := fun i => ht.blkR.cell i; have HT := Lib.hid ht; have HmX := Lib.hid ho; clear hm hr hrd hg ht ho hor)))
                                  have ht := ((((((((HT.out.setR 0 (.string ⟨name.toArray⟩)).setR 1 (.int .i64 po)).setR 2 (.int .i64 ps')).setR 3 (.string pa)).setR 4 (.slice A7 N c7)).setR 5 (.int .i64 till)).setR 6 (.slice At T ct)).setR 7 (.int .i64 off)).setR 8 (.string ⟨fm.toArray⟩)
                                  have hne := own_blk_ne HR.out HT.out.blkR (by decide)
                                  have hr := own_set (own_set (own_set (own_set (own_set (own_set (own_set (own_set (own_set HR.out hne 0 (.string ⟨name.toArray⟩)) hne 1 (.int .i64 po)) hne 2 (.int .i64 ps')) hne 3 (.string pa)) hne 4 (.slice A7 N c7)) hne 5 (.int .i64 till)) hne 6 (.slice At T ct)) hne 7 (.int .i64 off)) hne 8 (.string ⟨fm.toArray⟩)
                                  simp only [List.setIfInBounds_toArray, List.set_cons_succ, List.set_cons_zero] at ht
                                  have hB := readM_ok hl (HM.out.trans HmX.out.symm)
                                  rw [← HmX.out]
                                  have hO := Lib.hid (hB.ok hssl hTl (Reads.of_own ht.2) (Reads.of_own hr))
                                  have hN := Lib.hid (And.intro (new_at ht.2 hB1' hssl) (new_at hr (Nat.le_refl _) hTl))
                                  have HTT := Lib.hid ht
                                  have e1 := Lib.hid (tab_agg (x := ⟨⟨name.toArray⟩, ⟨po, ps', pa⟩, sss, till, rs, off, ⟨fm.toArray⟩⟩) (A := A7) (A2 := At) (c := c7) (c2 := ct) hssl hTl)
                                  have hres := Lib.hid (fun tmps => tab_results ht.blkR tmps)
                                  clear cX fX HT HR hr ht hB hssl hTl fR cR hne
                                  generalize World.setCell _ ⟨w.heap.size, 8, none⟩ _ = W at *
                                  refine bodyPost_ret (hres.out _ rfl) rfl ?_
                                  exact ⟨HTT.out.out, ⟨A7, c7, At, ct, congrArg Ending.returned e1.out, hO.out, hN.out.1, hN.out.2⟩, HTT.out.rd⟩
    · simp only [if_neg hmag] at hR
      have hB : (v0 == [65, 78, 76, 49]) = false := by simpa [magic] using hmag
      have hB2 : (!(v0 == [65, 78, 76, 49])) = true := by simpa [magic] using hmag
      go_wp2_with (go_at_call 103; refine Ht.out.mono ?_; rintro e w1 hr; obtain ⟨rfl, hrd, hg⟩ := hr.ok; have hs := HS.out.step hrd hg; have HS := Lib.hid hs; clear hr hg hrd hs)
      exact ⟨rfl, TP.fail hR.symm HS.out.out⟩
end Go.Proofs.YtpbojebnghcndaaGreatDoor.Rd
