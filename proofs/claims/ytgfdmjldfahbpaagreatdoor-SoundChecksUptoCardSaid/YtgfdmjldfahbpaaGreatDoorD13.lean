/-
  The document's word on a set of rules (analemmaref11.Most, analemmaref13: beyond, set). Conditions: what the slice holds is read; right rules, some.
-/
import Derived.Test.YtgfdmjldfahbpaaGreatDoorD12
import Derived.Test.YtgfdmjldfahbpaaGreatDoorR11P
namespace Go.Proofs.YtgfdmjldfahbpaaGreatDoor.Snd
open Go.RowKit Mem Civ Mom Img Plc Rul Src Go.Maps

/-- How many rules are in force at most when one begins. -/
def mostL (all : List Rule) (l : List Rule) : Nat := l.foldl (fun m x => if m < crowdAt all x then crowdAt all x else m) 0
theorem mostL_succ (all : List Rule) {l : List Rule} {k : Nat} (hk : k < l.length) : mostL all (l.take (k + 1)) = if mostL all (l.take k) < crowdAt all l[k] then crowdAt all l[k] else mostL all (l.take k) := by
  rw [List.take_succ_eq_append_getElem hk, mostL, mostL, List.foldl_append]; rfl
theorem mostL_le (all l : List Rule) : mostL all l ≤ all.length := by
  suffices h : ∀ (l : List Rule) (m : Nat), m ≤ all.length → l.foldl (fun m x => if m < crowdAt all x then crowdAt all x else m) m ≤ all.length from h l 0 (Nat.zero_le _)
  intro l
  induction l with
  | nil => intro m h; exact h
  | cons a t ih =>
    intro m h
    rw [List.foldl_cons]
    refine ih _ ?_
    split
    · exact List.length_filter_le _ _
    · exact h
theorem mostL_any (all l : List Rule) (c : Nat) : decide (c < mostL all l) = l.any fun x => decide (c < crowdAt all x) := by
  suffices h : ∀ (l : List Rule) (m : Nat), decide (c < l.foldl (fun m x => if m < crowdAt all x then crowdAt all x else m) m) = (decide (c < m) || l.any fun x => decide (c < crowdAt all x)) by
    have := h l 0
    unfold mostL
    rw [this, decide_eq_false (Nat.not_lt_zero c), Bool.false_or]
  intro l
  induction l with
  | nil => intro m; rw [List.any_nil, Bool.or_false]; rfl
  | cons a t ih =>
    intro m
    rw [List.foldl_cons, ih, List.any_cons, ← Bool.or_assoc]
    congr 1
    rw [Bool.eq_iff_iff]
    simp only [Bool.or_eq_true, decide_eq_true_eq]
    split <;> omega
set_option maxHeartbeats 2000000 in
set_option maxRecDepth 100000 in
theorem most_any (rs : List Rule) (A : Option Addr) (c : Nat) (w : World) (h : Reads w w.heap.size 11 A rs.length (rs.flatMap Rule.cells)) (hn : rs.length ≤ 1000000) :
    Calls Tryz.prog 46 #[.slice A rs.length c] w fun e w' => e = .returned (.int .i64 (mostL rs rs : Nat)) ∧ Below w.heap.size w w' := by
  have H := Lib.hid h
  clear h
  obtain ⟨G, hG⟩ : ∃ G : Nat → Nat, G = fun k => mostL rs (rs.take k) := ⟨_, rfl⟩
  have hG0 : G 0 = 0 := by rw [hG]; rfl
  have hGs : ∀ k (hk : k < rs.length), G (k + 1) = if G k < crowdAt rs rs[k] then crowdAt rs rs[k] else G k := fun k hk => by rw [hG]; exact mostL_succ rs hk
  have hGl : ∀ k, G k ≤ rs.length := fun k => by rw [hG]; exact mostL_le rs (rs.take k)
  have hGe : G rs.length = mostL rs rs := by rw [hG]; simp only [List.take_length]
  have HG0 := Lib.hid hG0; have HGs := Lib.hid hGs; have HGl := Lib.hid hGl; have HGe := Lib.hid hGe
  clear hG hG0 hGs hGl hGe
  go_enter Tryz.func46, Tryz.ntmps46
  go_wp2
  go_loopw [3, 4] (fun m i wr => ∃ (k nd : Nat), k ≤ rs.length ∧ i = .int .i64 k ∧ m = .int .i64 (G k : Nat) ∧ wr = w.drewN nd) (fun _ i _ => rs.length - (intOf i).toNat)
  case atStart => exact ⟨0, 0, Nat.zero_le _, rfl, by rw [HG0.out]; rfl, rfl⟩
  case round =>
    obtain ⟨k, nd, hk, rfl, rfl, rfl⟩ := hrel
    have hgk := HGl.out k
    by_cases hkn : k < rs.length
    · obtain ⟨ad, hA, hadb, a0, a1, a2, a3, a4, a5, a6, a7, a8, a9, a10⟩ := rule_cells H.out hkn
      subst hA
      have hms := HGs.out k hkn
      have hcl : crowdAt rs rs[k] ≤ rs.length := List.length_filter_le _ _
      obtain ⟨F, hF⟩ : ∃ F : Nat → Nat, F = fun j => ((rs.take j).filter fun y => decide (rs[k].lo ≤ rs[k].hi) && forceB y rs[k].lo).length := ⟨_, rfl⟩
      have hF0 : F 0 = 0 := by rw [hF]; rfl
      have hFs : ∀ j (hj : j < rs.length), F (j + 1) = F j + if (decide (rs[k].lo ≤ rs[k].hi) && (decide (rs[j].lo ≤ rs[k].lo) && decide (rs[k].lo ≤ rs[j].hi))) = true then 1 else 0 := fun j hj => by
        have hfo : forceB rs[j] rs[k].lo = (decide (rs[j].lo ≤ rs[k].lo) && decide (rs[k].lo ≤ rs[j].hi)) := by
          unfold forceB
          rw [Bool.eq_iff_iff]; simp
        rw [hF, ← hfo]
        exact filter_succ (fun y => decide (rs[k].lo ≤ rs[k].hi) && forceB y rs[k].lo) rs j hj
      have hFl : ∀ j, F j ≤ j := fun j => by rw [hF]; exact Nat.le_trans (List.length_filter_le _ _) (List.length_take_le _ _)
      have hFe : F rs.length = crowdAt rs rs[k] := by rw [hF]; simp only [List.take_length]; rfl
      have HF0 := Lib.hid hF0; have HFs := Lib.hid hFs; have HFl := Lib.hid hFl; have HFe := Lib.hid hFe; have HMs := Lib.hid hms
      generalize crowdAt rs rs[k] = C at *
      have A1 := Lib.hid a1; have A2 := Lib.hid a2
      clear a0 a1 a2 a3 a4 a5 a6 a7 a8 a9 a10 hms hF hF0 hFs hFl hFe
      generalize rs[k].lo = xl at *
      generalize rs[k].hi = xh at *
      go_wp2
      go_loopw [5, 6] (fun n i wz => ∃ (j nd : Nat), j ≤ rs.length ∧ i = .int .i64 j ∧ n = .int .i64 (F j : Nat) ∧ wz = w.drewN nd) (fun _ i _ => rs.length - (intOf i).toNat)
      case atStart => exact ⟨0, nd, Nat.zero_le _, rfl, by rw [HF0.out]; rfl, rfl⟩
      case round =>
        obtain ⟨j, nd2, hj, rfl, rfl, rfl⟩ := hrel
        have hlen := HFl.out j
        by_cases hjn : j < rs.length
        · obtain ⟨ad', hA', _, b0, b1, b2, b3, b4, b5, b6, b7, b8, b9, b10⟩ := rule_cells H.out hjn
          obtain rfl : ad = ad' := by injection hA'
          have Hfs := Lib.hid (HFs.out j hjn)
          obtain ⟨Cls, hCls⟩ : ∃ C : World → Prop, C = fun z => ∃ nd, z = w.drewN nd := ⟨_, rfl⟩
          have hst : Cls (w.drewN nd2).drew := by rw [hCls]; exact ⟨nd2 + 1, rfl⟩
          have hC : ∀ z, Cls z → ∃ nd, z = w.drewN nd := fun z h => by rw [hCls] at h; exact h
          have inst : Nonempty (Qt.In Cls) := ⟨⟨_, hst⟩⟩
          have z1 : ∀ z : Qt.In Cls, z.w.cell? ⟨(ad.add (k * 11)).block, (ad.add (k * 11)).off + 1, none⟩ = some (.int .i64 xl) := fun z => by
            obtain ⟨n, e⟩ := hC z.w z.h
            rw [e]; exact A1.out
          have z2 : ∀ z : Qt.In Cls, z.w.cell? ⟨(ad.add (k * 11)).block, (ad.add (k * 11)).off + 2, none⟩ = some (.int .i64 xh) := fun z => by
            obtain ⟨n, e⟩ := hC z.w z.h
            rw [e]; exact A2.out
          have y1 : ∀ z : Qt.In Cls, z.w.cell? ⟨(ad.add (j * 11)).block, (ad.add (j * 11)).off + 1, none⟩ = some (.int .i64 rs[j].lo) := fun z => by
            obtain ⟨n, e⟩ := hC z.w z.h
            rw [e]; exact b1
          have y2 : ∀ z : Qt.In Cls, z.w.cell? ⟨(ad.add (j * 11)).block, (ad.add (j * 11)).off + 2, none⟩ = some (.int .i64 rs[j].hi) := fun z => by
            obtain ⟨n, e⟩ := hC z.w z.h
            rw [e]; exact b2
          have HC := Lib.hid hC
          clear hC hCls b0 b1 b2 b3 b4 b5 b6 b7 b8 b9 b10 hA'
          generalize rs[j].lo = l at *
          generalize rs[j].hi = u at *
          cases g1 : decide (l ≤ xl)
          case false =>
            go_wp2
            refine Qt.wp_region_cls Cls (by kernel_rfl) (by kernel_rfl) hst ?_
            repeat (go_big_quiet_step (fail))
            refine wpQuiet_nil ?_
            rintro wq ⟨⟨w9, hq⟩, e9⟩
            obtain ⟨nq, hnq⟩ := HC.out wq (by rw [e9]; exact hq)
            clear hq e9 z1 z2 y1 y2
            subst hnq
            have hn : F (j + 1) = F j := by rw [Hfs.out, g1]; simp
            have HN := Lib.hid hn
            clear hn
            go_wp2
            exact ⟨⟨j + 1, nq, by omega, by go_num, by rw [HN.out], rfl⟩, by simp [intOf]; omega⟩
          case true =>
          cases g2 : decide (xl ≤ u)
          case false =>
            go_wp2
            refine Qt.wp_region_cls Cls (by kernel_rfl) (by kernel_rfl) hst ?_
            repeat (go_big_quiet_step (fail))
            refine wpQuiet_nil ?_
            rintro wq ⟨⟨w9, hq⟩, e9⟩
            obtain ⟨nq, hnq⟩ := HC.out wq (by rw [e9]; exact hq)
            clear hq e9 z1 z2 y1 y2
            subst hnq
            have hn : F (j + 1) = F j := by rw [Hfs.out, g2]; simp
            have HN := Lib.hid hn
            clear hn
            go_wp2
            exact ⟨⟨j + 1, nq, by omega, by go_num, by rw [HN.out], rfl⟩, by simp [intOf]; omega⟩
          case true =>
          cases g3 : decide (xl ≤ xh)
          case false =>
            go_wp2
            refine Qt.wp_region_cls Cls (by kernel_rfl) (by kernel_rfl) hst ?_
            repeat (go_big_quiet_step (fail))
            refine wpQuiet_nil ?_
            rintro wq ⟨⟨w9, hq⟩, e9⟩
            obtain ⟨nq, hnq⟩ := HC.out wq (by rw [e9]; exact hq)
            clear hq e9 z1 z2 y1 y2
            subst hnq
            have hn : F (j + 1) = F j := by rw [Hfs.out, g3]; simp
            have HN := Lib.hid hn
            clear hn
            go_wp2
            exact ⟨⟨j + 1, nq, by omega, by go_num, by rw [HN.out], rfl⟩, by simp [intOf]; omega⟩
          case true =>
            go_wp2
            refine Qt.wp_region_cls Cls (by kernel_rfl) (by kernel_rfl) hst ?_
            repeat (go_big_quiet_step (fail))
            refine wpQuiet_nil ?_
            rintro wq ⟨⟨w9, hq⟩, e9⟩
            obtain ⟨nq, hnq⟩ := HC.out wq (by rw [e9]; exact hq)
            clear hq e9 z1 z2 y1 y2
            subst hnq
            have hn : F (j + 1) = F j + 1 := by rw [Hfs.out, g1, g2, g3]; simp
            have HN := Lib.hid hn
            clear hn
            go_wp2
            exact ⟨⟨j + 1, nq, by omega, by go_num, by rw [HN.out]; go_num, rfl⟩, by simp [intOf]; omega⟩
        · obtain rfl : j = rs.length := by omega
          rw [HFe.out]
          have hms := HMs.out
          by_cases hgt : G k < C
          · rw [if_pos hgt] at hms
            have hgb : decide (((G k : Nat) : Int) < (C : Nat)) = true := decide_eq_true (by omega)
            have HMs2 := Lib.hid hms
            clear HMs HFe hms
            go_wp2
            exact ⟨⟨k + 1, nd2, by omega, by go_num, by rw [HMs2.out], rfl⟩, by simp [intOf]; omega⟩
          · rw [if_neg hgt] at hms
            have hgb : decide (((G k : Nat) : Int) < (C : Nat)) = false := decide_eq_false (by omega)
            have HMs2 := Lib.hid hms
            clear HMs HFe hms
            go_wp2
            exact ⟨⟨k + 1, nd2, by omega, by go_num, by rw [HMs2.out], rfl⟩, by simp [intOf]; omega⟩
    · obtain rfl : k = rs.length := by omega
      rw [HGe.out]
      go_wp2
      go_ret
      exact ⟨rfl, below_dr (Below.refl _ _)⟩
theorem beyond_any (n : Int) (w : World) : Calls Tryz.prog 48 #[.int .i64 n] w fun e w' => e = .returned (.bool (!Rgt.dayB n)) ∧ w = w' := by
  by_cases h1 : n ≤ -86400
  · have hr : Rgt.dayB n = false := by unfold Rgt.dayB; rw [decide_eq_false (by omega)]; rfl
    have hb : decide (n ≤ -86400) = true := decide_eq_true h1
    rw [hr]
    clear hr h1
    go_enter Tryz.func48, Tryz.ntmps48
    go_wp2
    go_ret
    exact ⟨rfl, rfl⟩
  · have hb : decide (n ≤ -86400) = false := decide_eq_false h1
    by_cases h2 : 86400 ≤ n
    · have hr : Rgt.dayB n = false := by unfold Rgt.dayB; rw [decide_eq_false (by omega : ¬ n < 86400), Bool.and_false]
      have hb2 : decide (86400 ≤ n) = true := decide_eq_true h2
      rw [hr]
      clear hr h1 h2
      go_enter Tryz.func48, Tryz.ntmps48
      go_wp2
      go_ret
      exact ⟨rfl, rfl⟩
    · have hr : Rgt.dayB n = true := by unfold Rgt.dayB; rw [decide_eq_true (by omega), decide_eq_true (by omega)]; rfl
      have hb2 : decide (86400 ≤ n) = false := decide_eq_false h2
      rw [hr]
      clear hr h1 h2
      go_enter Tryz.func48, Tryz.ntmps48
      go_wp2
      go_ret
      exact ⟨rfl, rfl⟩
set_option maxHeartbeats 2000000 in
set_option maxRecDepth 100000 in
theorem set_any (rs : List Rule) (A : Option Addr) (c : Nat) (w : World) (h : Reads w w.heap.size 11 A rs.length (rs.flatMap Rule.cells)) (hn : rs.length ≤ 1000) (hr : rulesB rs = true) (hne : rs ≠ []) :
    Calls Tryz.prog 25 #[.slice A rs.length c] w fun e w' => e = .returned (.int .i64 (setErr rs)) ∧ Below w.heap.size w w' := by
  have HM := Lib.hid (most_any rs A c w h (by omega))
  have HN := Lib.hid (fun z (hb : Below w.heap.size w z) => R11.near_any rs A c z ((h.below hb).more hb.size) hn hr)
  have hml := mostL_le rs rs
  have hma : decide (10 < mostL rs rs) = crowdB rs := by
    unfold crowdB
    rw [hr, Bool.true_and, mostL_any]
  have hns : crowdB rs = false → R11.nearR rs = nearB rs := fun hc => R11.near_same hr hc hne
  have H := Lib.hid h
  obtain ⟨Q, hQ⟩ : ∃ Q, setErr rs = Q := ⟨_, rfl⟩
  rw [hQ]
  unfold setErr at hQ
  clear h hr hne
  generalize mostL rs rs = M at *
  generalize crowdB rs = cr at *
  generalize R11.nearR rs = nr at *
  generalize nearB rs = nb at *
  go_enter Tryz.func25, Tryz.ntmps25
  cases cr
  · have hns2 := hns rfl
    subst hns2
    have hb : decide ((10 : Int) < (M : Nat)) = false := decide_eq_false (by have := of_decide_eq_false hma; omega)
    rw [if_neg (by decide)] at hQ
    have HQ := Lib.hid hQ
    clear hns hma hQ
    go_wp2_with (go_at_call 46; refine HM.out.mono ?_; rintro e w1 ⟨rfl, hb⟩; have HB := Lib.hid hb; clear hb)
    go_loopw [3, 4] (fun n i wr => ∃ k : Nat, k ≤ rs.length ∧ i = .int .i64 k ∧ n = .int .i64 (everN (rs.take k) : Nat) ∧ Below w.heap.size w wr) (fun _ i _ => rs.length - (intOf i).toNat)
    case atStart => exact ⟨0, Nat.zero_le _, rfl, rfl, HB.out⟩
    case round =>
      clear HB
      obtain ⟨k, hk, rfl, rfl, hb1⟩ := hrel
      have HB := Lib.hid hb1
      clear hb1
      by_cases hkn : k < rs.length
      · obtain ⟨ad, hA, hadb, a0, a1, a2, a3, a4, a5, a6, a7, a8, a9, a10⟩ := rule_cells (H.out.below HB.out) hkn
        subst hA
        have hev := ever_step hkn
        have hle := ever_le rs k
        have e4 : (rs[k].hi == 1000000) = decide (rs[k].hi = 1000000) := by rw [Bool.eq_iff_iff]; simp
        have HEv := Lib.hid hev
        clear hev
        generalize decide (rs[k].hi = 1000000) = d at *
        generalize rs[k] = x at *
        generalize everN (rs.take k) = n at *
        cases d
        · go_wp2_with fail
          exact ⟨⟨k + 1, by omega, by go_num, by rw [HEv.out]; rfl, HB.out⟩, by simp [intOf]; omega⟩
        · go_wp2_with fail
          exact ⟨⟨k + 1, by omega, by go_num, by rw [HEv.out]; go_num, HB.out⟩, by simp [intOf]; omega⟩
      · obtain rfl : k = rs.length := by omega
        rw [List.take_length]
        have hle := ever_le rs rs.length
        rw [List.take_length] at hle
        have hq := HQ.out
        generalize everN rs = n at *
        by_cases hg : 2 < n
        · rw [if_pos hg] at hq
          subst hq
          have hgb : decide ((2 : Int) < (n : Nat)) = true := decide_eq_true (by omega)
          clear hg HQ
          go_wp2_with fail
          go_ret
          exact ⟨rfl, HB.out⟩
        · rw [if_neg hg] at hq
          have hgb : decide ((2 : Int) < (n : Nat)) = false := decide_eq_false (by omega)
          clear HQ
          cases nr
          · rw [if_neg (by decide)] at hq
            subst hq
            go_wp2_with (go_at_call 47; refine (HN.out _ HB.out).mono ?_; rintro e w2 ⟨rfl, hb⟩; have HB2 := Lib.hid (HB.out.trans (hb.mono HB.out.size)); clear hb)
            go_ret
            exact ⟨rfl, HB2.out⟩
          · rw [if_pos rfl] at hq
            subst hq
            go_wp2_with (go_at_call 47; refine (HN.out _ HB.out).mono ?_; rintro e w2 ⟨rfl, hb⟩; have HB2 := Lib.hid (HB.out.trans (hb.mono HB.out.size)); clear hb)
            go_ret
            exact ⟨rfl, HB2.out⟩
  · have hb : decide ((10 : Int) < (M : Nat)) = true := decide_eq_true (by have := of_decide_eq_true hma; omega)
    rw [if_pos rfl] at hQ
    subst hQ
    clear hns hma
    go_wp2_with (go_at_call 46; refine HM.out.mono ?_; rintro e w1 ⟨rfl, hb⟩; have HB := Lib.hid hb; clear hb)
    go_ret
    exact ⟨rfl, HB.out⟩
end Go.Proofs.YtgfdmjldfahbpaaGreatDoor.Snd
