/-
  The document's rules in force (package analemmaref11): Universal, Last, Force. Conditions: right rules; int64s; what the rules' slice holds is read.
-/
import Derived.Test.YtdicedpklpadgaaGreatDoorY15
set_option linter.all false
namespace Go.Proofs.YtdicedpklpadgaaGreatDoor.Ahd
open Go.RowKit Mem Civ Mom Img Rul

set_option maxHeartbeats 2000000 in
set_option maxRecDepth 100000 in
theorem univ_any (rs : List Rule) (A : Option Addr) (c : Nat) (off : Int) (x : Turn) (w : World) (h : Reads w w.heap.size 11 A rs.length (rs.flatMap Rule.cells)) (hn : rs.length ≤ 1000000) (hr : rulesB rs = true) (h1 : -9223372036854775808 ≤ x.at_) (h2 : x.at_ ≤ 9223372036854775807) (hf : 0 ≤ x.ref ∧ x.ref ≤ 2) :
    Calls Tryz.prog 86 #[.slice A rs.length c, .int .i64 off, .agg #[.int .i64 x.at_, .int .i64 x.ref, .int .i64 x.save, .string x.letter]] w fun e w' => e = .returned (.int .i64 (uniT rs off x)) ∧ Below w.heap.size w w' := by
  have HAh := Lib.hid (fun z (hb : Below w.heap.size w z) => refAhead_any rs A c x.at_ z ((h.below hb).more hb.size) hn hr h1 h2)
  rw [aheadD_is hr] at HAh
  obtain ⟨x0, x1, x2, x3⟩ := x
  simp only at h1 h2 hf HAh ⊢
  have hone := One.new w 113 #[.int .i64 x0, .int .i64 x1, .int .i64 x2, .string x3]
  obtain ⟨W, hW⟩ : ∃ W, w.alloc (.cells #[.int .i64 x0, .int .i64 x1, .int .i64 x2, .string x3] 113) = W := ⟨_, rfl⟩
  rw [hW] at hone
  have HO := Lib.hid hone
  have cx := fun i => hone.1.cell i
  obtain ⟨R, hR⟩ : ∃ R, uniT rs off ⟨x0, x1, x2, x3⟩ = R := ⟨_, rfl⟩
  rw [hR]
  unfold uniT at hR
  simp only at hR
  clear h hone
  obtain ⟨y, hy⟩ : ∃ y, (aheadO rs x0).getD noTurn = y := ⟨_, rfl⟩
  rw [hy] at hR HAh
  obtain ⟨y0, y1, y2, y3⟩ := y
  simp only [Turn.cells] at HAh hR
  generalize (aheadO rs x0).isSome = ok at *
  clear hy
  rcases (by omega : x1 = 0 ∨ x1 = 1 ∨ x1 = 2) with rfl | rfl | rfl
  · rw [if_pos rfl, if_neg (by decide)] at hR
    subst hR
    go_enter Tryz.func86, Tryz.ntmps86
    go_wp2_with (go_at_call 104; refine (HAh.out _ HO.out.2).mono ?_; rintro e w1 ⟨rfl, hb⟩; have hx1 := HO.out.step hb; have dx := fun o i => (hx1.1.alloc o).cell i; have HB := Lib.hid hx1.2; clear hb hx1)
    go_ret
    exact ⟨rfl, HB.out.alloc HB.out.size _⟩
  · rw [if_neg (by decide), if_neg (by decide)] at hR
    subst hR
    go_enter Tryz.func86, Tryz.ntmps86
    go_wp2_with fail
    go_ret
    exact ⟨rfl, HO.out.2⟩
  · rw [if_neg (by decide), if_pos rfl] at hR
    subst hR
    go_enter Tryz.func86, Tryz.ntmps86
    go_wp2_with fail
    go_ret
    exact ⟨rfl, HO.out.2⟩
theorem reflast_results {w : World} {R0 : Nat} {b : Bool} {a0 a1 a2 a3 : Value} (h : Blk w R0 113 #[a0, a1, a2, a3]) (tmps : Array Value) (ht : tmps[6]? = some (.pointer (some ⟨R0, 0, none⟩))) (h7 : tmps[7]? = some (.bool b)) : (results Tryz.f149 tmps).run Tryz.prog w = .ok (.tuple #[.agg #[a0, a1, a2, a3], .bool b]) w := by
  have hc := fun i => h.cell i
  simp [results, Tryz.results149, go_sem, hc, ht, h7]
set_option maxHeartbeats 4000000 in
set_option maxRecDepth 100000 in
theorem refLast_any (rs : List Rule) (A : Option Addr) (c : Nat) (off at_ : Int) (w : World) (h : Reads w w.heap.size 11 A rs.length (rs.flatMap Rule.cells)) (hn : rs.length ≤ 1000000) (hr : rulesB rs = true) (h1 : -9223372036854775808 ≤ at_) (h2 : at_ ≤ 9223372036854775807) :
    Calls Tryz.prog 149 #[.slice A rs.length c, .int .i64 off, .int .i64 at_] w fun e w' => e = .returned (.tuple #[.agg ((lastD rs off at_).getD noTurn).cells.toArray, .bool (lastD rs off at_).isSome]) ∧ Below w.heap.size w w' := by
  have hY := fun z => yearJ_any at_ z h1 h2
  have HU := Lib.hid (fun t (ht : -9223372036854775808 ≤ t.at_ ∧ t.at_ ≤ 9223372036854775807) (hf : 0 ≤ t.ref ∧ t.ref ≤ 2) z (hb : Below w.heap.size w z) => univ_any rs A c off t z ((h.below hb).more hb.size) hn hr ht.1 ht.2 hf)
  obtain ⟨hy1, hy2⟩ := yearJ_bd at_
  obtain ⟨Q, hQ⟩ : ∃ Q, lastD rs off at_ = Q := ⟨_, rfl⟩
  rw [hQ]
  unfold lastD docL at hQ
  obtain ⟨so, hso⟩ : ∃ so : Turn → Bool, so = fun x => decide (uniT rs off x ≤ at_) := ⟨_, rfl⟩
  rw [← hso] at hQ
  generalize yearJ at_ = Y at *
  have hst := Da.start w
  obtain ⟨W, hW⟩ : ∃ W, (w.alloc (.cells #[.int .i64 0, .int .i64 0, .int .i64 0, .string ⟨#[]⟩] 113)).alloc (.cells #[.int .i64 0, .int .i64 0, .int .i64 0, .string ⟨#[]⟩] 113) = W := ⟨_, rfl⟩
  rw [hW] at hst
  have HD := Lib.hid hst; have HQ := Lib.hid hQ; have H := Lib.hid h; have HY := Lib.hid hY; have HSo := Lib.hid hso; have HR := Lib.hid hr
  have cs := fun i => hst.bst.cell i
  have fs := fun i => hst.bst.frozen i
  simp only [Turn.cells, noTurn, Option.getD_none] at cs
  have hzero := hst.set noTurn
  simp only [noTurn] at hzero
  have HZ : Hid (Da w none _) := ⟨hzero.res, hzero.bst, hzero.bel⟩
  clear hst hQ h hY hso hr hzero
  have hw2 : wrap64 (Y + 2) = Y + 2 := by unfold wrap64; omega
  have HW2 := Lib.hid hw2
  clear hw2
  go_enter Tryz.func149, Tryz.ntmps149
  go_wp2_with fail
  clear cs fs
  go_loopw [9, 10] (fun f i wr => ∃ (k : Nat) (best : Option Turn), k ≤ rs.length ∧ i = .int .i64 k ∧ f = .bool best.isSome ∧ (rs.drop k).foldl (fun b x => joinT b (docF so x Y)) best = Q ∧ Da w best wr) (fun _ i _ => rs.length - (intOf i).toNat)
  case atStart => exact ⟨0, none, Nat.zero_le _, rfl, rfl, by rw [List.drop_zero]; exact HQ.out, HZ.out⟩
  case round =>
    clear HD HQ HZ
    obtain ⟨k, best, hk, rfl, rfl, hq, hda⟩ := hrel
    have HD := Lib.hid hda
    clear hda
    by_cases hkn : k < rs.length
    · obtain ⟨ad, hA, hadb, a0, a1, a2, a3, a4, a5, a6, a7, a8, a9, a10⟩ := rule_cells H.out hkn
      subst hA
      have hdr : rs.drop k = rs[k] :: rs.drop (k + 1) := List.drop_eq_getElem_cons hkn
      rw [hdr, List.foldl_cons] at hq
      have hrk : ruleB rs[k] = true := List.all_eq_true.1 HR.out _ (List.getElem_mem hkn)
      have hp : ruleP rs[k] := of_decide_eq_true hrk
      have hlo1 : 1 ≤ rs[k].lo := hp.1.1
      have hhi1 : rs[k].hi ≤ 1000000 := hp.2.1.elim (fun h5 => Int.le_trans h5.2 (by omega)) (fun h5 => by omega)
      have hhi0 : 1 ≤ rs[k].hi := hp.2.1.elim (fun h5 => h5.1) (fun h5 => by omega)
      have href : 0 ≤ rs[k].ref ∧ rs[k].ref ≤ 2 := ⟨(rule_save HR.out (List.getElem_mem hkn)).2.2.1, (rule_save HR.out (List.getElem_mem hkn)).2.2.2⟩
      have hCk := fun z (hb : Below w.heap.size w z) => rule_cells (H.out.below hb) hkn
      have HCk := Lib.hid hCk
      have HT := Lib.hid (fun y z => R11.turn_any rs[k] y z)
      have HE := Lib.hid (fun j => @docF_end so rs[k] Y j)
      have HH := Lib.hid (fun j t => @docF_hit so rs[k] Y j t)
      have HN := Lib.hid (fun j => @docF_next so rs[k] Y j)
      have htop : (if rs[k].hi < Y + 2 then rs[k].hi else Y + 2) = docLast rs[k] Y := rfl
      have htb : docLast rs[k] Y ≤ 1000000 ∧ -300000 ≤ docLast rs[k] Y := by unfold docLast; split <;> omega
      clear hCk hrk hp hdr
      generalize rs[k] = r at *
      have HL := Lib.hid (fun z => lesser_any r.hi (Y + 2) z)
      rw [htop] at HL
      clear htop
      obtain ⟨D, hD⟩ : ∃ D, docF so r Y = D := ⟨_, rfl⟩
      rw [hD] at HE HH hq
      obtain ⟨top, htp⟩ : ∃ top, docLast r Y = top := ⟨_, rfl⟩
      rw [htp] at HE HH HN HL htb
      have HQ := Lib.hid hq
      clear hD htp hq
      obtain ⟨htb1, htb2⟩ := htb
      obtain ⟨Cls, hCls⟩ : ∃ C : World → Prop, C = Da w best := ⟨_, rfl⟩
      have hC : ∀ z, Cls z → Da w best z := fun z h => by rw [hCls] at h; exact h
      have hstart : Cls wr.drew := by rw [hCls]; exact HD.out.drew
      have inst : Nonempty (Qt.In Cls) := ⟨⟨_, hstart⟩⟩
      have z2 : ∀ z : Qt.In Cls, z.w.cell? ⟨(ad.add (k * 11)).block, (ad.add (k * 11)).off + 2, none⟩ = some (.int .i64 r.hi) := fun z => by
        obtain ⟨ad', e, _, _, _, q2, _⟩ := HCk.out z.w (hC z.w z.h).bel
        obtain rfl : ad = ad' := by injection e
        exact q2
      have HYc : Hid (∀ z, Cls z → Calls Tryz.prog 154 #[.int .i64 at_] z fun e z' => e = .returned (.int .i64 Y) ∧ Cls z') := fun z h => (HY.out z).mono fun e z' ⟨he, hb⟩ => ⟨he, by rw [hCls]; exact (hC z h).step hb⟩
      have HLc : Hid (∀ z, Cls z → Calls Tryz.prog 153 #[.int .i64 r.hi, .int .i64 (Y + 2)] z fun e z' => e = .returned (.int .i64 top) ∧ Cls z') := fun z h => (HL.out z).mono fun e z' ⟨he, hb⟩ => ⟨he, by subst hb; exact h⟩
      have HC := Lib.hid hC
      have HS := Lib.hid hstart
      clear hC hCls hstart a0 a1 a2 a3 a4 a5 a6 a7 a8 a9 a10 HY HL
      go_wp2
      refine Qt.wp_region_cls Cls (by kernel_rfl) (by kernel_rfl) HS.out ?_
      repeat (go_big_quiet_step (first | (go_at_call 154; exact Qt.quiet_cls (HYc.out _ (Qt.In.h _))) | (go_at_call 153; exact Qt.quiet_cls (HLc.out _ (Qt.In.h _)))))
      refine wpQuiet_nil ?_
      rintro wq ⟨⟨w9, hq9⟩, e9⟩
      have HD9 := Lib.hid (HC.out wq (by rw [e9]; exact hq9))
      clear hq9 e9 z2 HYc HLc HC HS inst HD
      go_wp2
      go_loopw [9, 11] (fun f y wz => ∃ j : Nat, f = .bool best.isSome ∧ y = .int .i64 (top - j) ∧ descF (soL so r) top j = none ∧ ((j : Int) ≤ top + 1 - r.lo ∨ j = 0) ∧ Da w best wz) (fun _ y _ => (intOf y + 1 - r.lo).toNat)
      case atStart => exact ⟨0, rfl, by simp, rfl, .inr rfl, HD9.out⟩
      case round =>
        clear HD9
        obtain ⟨j, rfl, rfl, hdn, hj, hda⟩ := hrel
        have HD := Lib.hid hda; have HDn := Lib.hid hdn
        obtain ⟨ad', hA, _, a0, a1, a2, a3, a4, a5, a6, a7, a8, a9, a10⟩ := HCk.out _ hda.bel
        obtain rfl : ad = ad' := by injection hA
        clear hda hdn hA
        by_cases hlo : r.lo ≤ top - j
        · have hlb : decide (r.lo ≤ top - j) = true := decide_eq_true hlo
          have HTj := Lib.hid (HT.out (top - j))
          have HHj := Lib.hid (fun t => HH.out j t HDn.out hlo)
          have HNj := Lib.hid (HN.out j HDn.out)
          cases htl : turnL (top - j) r with
          | none =>
            have hnx := HNj.out fun t e => by rw [htl] at e; cases e
            have HNx := Lib.hid hnx
            rw [htl] at HTj
            simp only [R11.turnV, Rule.cells] at HTj
            clear htl hnx HHj HNj
            go_wp2_with (go_at_call 138; refine (HTj.out _).mono ?_; rintro e w5 ⟨rfl, hb⟩; have HD5 := Lib.hid (HD.out.step hb); clear hb)
            exact ⟨⟨j + 1, rfl, by congr 1; omega, HNx.out, .inl (by omega), HD5.out.alloc _⟩, by simp [intOf]; omega⟩
          | some t =>
            rw [htl] at HTj
            have hut := HU.out t (by have := turn_bd htl; omega) (by rw [(turnL_at htl).2.2.2]; exact href)
            obtain ⟨u, hu⟩ : ∃ u, uniT rs off t = u := ⟨_, rfl⟩
            rw [hu] at hut
            by_cases hs : u ≤ at_
            · have hhit := HHj.out t htl (by rw [HSo.out]; exact decide_eq_true (by rw [hu]; exact hs))
              have hq := HQ.out
              rw [hhit] at hq
              have hsb : decide (at_ < u) = false := decide_eq_false (by omega)
              obtain ⟨t0, t1, t2, t3⟩ := t
              simp only [R11.turnV, Rule.cells, Turn.cells] at HTj hut hq
              have HUt := Lib.hid hut
              clear htl hs hhit HHj HNj hu hut
              cases best with
              | none =>
                have HQ2 : Hid ((rs.drop (k + 1)).foldl (fun b x => joinT b (docF so x Y)) (some ⟨t0, t1, t2, t3⟩) = Q) := hq
                clear hq HQ
                go_wp2_with (first
                  | (go_at_call 138; refine (HTj.out _).mono ?_; rintro e w5 ⟨rfl, hb⟩; have hx5 := Blk.new w5 113 #[.int .i64 t0, .int .i64 t1, .int .i64 t2, .string t3]; have HX5 := Lib.hid hx5; have cx5 := fun i => hx5.cell i; have HD5 := Lib.hid ((HD.out.step hb).alloc (.cells #[.int .i64 t0, .int .i64 t1, .int .i64 t2, .string t3] 113)); clear hb hx5)
                  | (go_at_call 86; refine (HUt.out _ HD5.out.bel).mono ?_; rintro e w6 ⟨rfl, hb⟩; have hx6 := HX5.out.below hb HX5.out.lt; have cx := fun i => hx6.cell i; have hd6 := HD5.out.step hb; have cb := fun i => hd6.bst.cell i; have fb := fun i => hd6.bst.frozen i; simp only [Turn.cells, noTurn, Option.getD_none] at cb; have HD6 := Lib.hid hd6; clear hb hx6 hd6 cx5))
                exact ⟨⟨k + 1, some ⟨t0, t1, t2, t3⟩, by omega, by go_num, rfl, HQ2.out, HD6.out.set ⟨t0, t1, t2, t3⟩⟩, by simp [intOf]; omega⟩
              | some b =>
                obtain ⟨b0, b1, b2, b3⟩ := b
                by_cases hle : b0 ≤ t0
                · rw [join_le (b := ⟨b0, b1, b2, b3⟩) (t := ⟨t0, t1, t2, t3⟩) hle] at hq
                  have HQ2 := Lib.hid hq
                  have hleb : decide (b0 ≤ t0) = true := decide_eq_true hle
                  clear hq HQ hle
                  go_wp2_with (first
                    | (go_at_call 138; refine (HTj.out _).mono ?_; rintro e w5 ⟨rfl, hb⟩; have hx5 := Blk.new w5 113 #[.int .i64 t0, .int .i64 t1, .int .i64 t2, .string t3]; have HX5 := Lib.hid hx5; have cx5 := fun i => hx5.cell i; have HD5 := Lib.hid ((HD.out.step hb).alloc (.cells #[.int .i64 t0, .int .i64 t1, .int .i64 t2, .string t3] 113)); clear hb hx5)
                    | (go_at_call 86; refine (HUt.out _ HD5.out.bel).mono ?_; rintro e w6 ⟨rfl, hb⟩; have hx6 := HX5.out.below hb HX5.out.lt; have cx := fun i => hx6.cell i; have hd6 := HD5.out.step hb; have cb := fun i => hd6.bst.cell i; have fb := fun i => hd6.bst.frozen i; simp only [Turn.cells, Option.getD_some] at cb; have HD6 := Lib.hid hd6; clear hb hx6 hd6 cx5))
                  exact ⟨⟨k + 1, some ⟨t0, t1, t2, t3⟩, by omega, by go_num, rfl, HQ2.out, HD6.out.set ⟨t0, t1, t2, t3⟩⟩, by simp [intOf]; omega⟩
                · rw [join_gt (b := ⟨b0, b1, b2, b3⟩) (t := ⟨t0, t1, t2, t3⟩) hle] at hq
                  have HQ2 := Lib.hid hq
                  have hleb : decide (b0 ≤ t0) = false := decide_eq_false hle
                  clear hq HQ hle
                  go_wp2_with (first
                    | (go_at_call 138; refine (HTj.out _).mono ?_; rintro e w5 ⟨rfl, hb⟩; have hx5 := Blk.new w5 113 #[.int .i64 t0, .int .i64 t1, .int .i64 t2, .string t3]; have HX5 := Lib.hid hx5; have cx5 := fun i => hx5.cell i; have HD5 := Lib.hid ((HD.out.step hb).alloc (.cells #[.int .i64 t0, .int .i64 t1, .int .i64 t2, .string t3] 113)); clear hb hx5)
                    | (go_at_call 86; refine (HUt.out _ HD5.out.bel).mono ?_; rintro e w6 ⟨rfl, hb⟩; have hx6 := HX5.out.below hb HX5.out.lt; have cx := fun i => hx6.cell i; have hd6 := HD5.out.step hb; have cb := fun i => hd6.bst.cell i; have fb := fun i => hd6.bst.frozen i; simp only [Turn.cells, Option.getD_some] at cb; have HD6 := Lib.hid hd6; clear hb hx6 hd6 cx5))
                  exact ⟨⟨k + 1, some ⟨b0, b1, b2, b3⟩, by omega, by go_num, rfl, HQ2.out, HD6.out⟩, by simp [intOf]; omega⟩
            · have hnx := HNj.out fun t' e => by
                rw [htl] at e
                injection e with e
                subst e
                rw [HSo.out]
                exact decide_eq_false (by rw [hu]; exact hs)
              have HNx := Lib.hid hnx
              have hsb : decide (at_ < u) = true := decide_eq_true (by omega)
              obtain ⟨t0, t1, t2, t3⟩ := t
              simp only [R11.turnV, Rule.cells, Turn.cells] at HTj hut
              have HUt := Lib.hid hut
              clear htl hs hnx HHj HNj hu hut
              go_wp2_with (first
                | (go_at_call 138; refine (HTj.out _).mono ?_; rintro e w5 ⟨rfl, hb⟩; have hx5 := Blk.new w5 113 #[.int .i64 t0, .int .i64 t1, .int .i64 t2, .string t3]; have HX5 := Lib.hid hx5; have cx5 := fun i => hx5.cell i; have HD5 := Lib.hid ((HD.out.step hb).alloc (.cells #[.int .i64 t0, .int .i64 t1, .int .i64 t2, .string t3] 113)); clear hb hx5)
                | (go_at_call 86; refine (HUt.out _ HD5.out.bel).mono ?_; rintro e w6 ⟨rfl, hb⟩; have HD6 := Lib.hid (HD5.out.step hb); clear hb cx5))
              exact ⟨⟨j + 1, rfl, by congr 1; omega, HNx.out, .inl (by omega), HD6.out⟩, by simp [intOf]; omega⟩
        · have hlb : decide (r.lo ≤ top - j) = false := decide_eq_false hlo
          have hno := HE.out j HDn.out hj (by omega)
          have hq := HQ.out
          rw [hno] at hq
          have HQ2 : Hid ((rs.drop (k + 1)).foldl (fun b x => joinT b (docF so x Y)) best = Q) := hq
          clear hno hq HQ hlo
          go_wp2
          exact ⟨⟨k + 1, best, by omega, by go_num, rfl, HQ2.out, HD.out⟩, by simp [intOf]; omega⟩
    · obtain rfl : k = rs.length := by omega
      rw [List.drop_length, List.foldl_nil] at hq
      subst hq
      have cb := fun i => HD.out.bst.cell i
      have cr := fun i => HD.out.res.cell i
      have fr := fun i => HD.out.res.frozen i
      obtain ⟨B, hB⟩ : ∃ B : Turn, B = best.getD noTurn := ⟨_, rfl⟩
      rw [← hB] at cb
      obtain ⟨b0, b1, b2, b3⟩ := B
      simp only [Turn.cells] at cb
      have HB := Lib.hid hB
      clear hB
      go_wp2
      refine bodyPost_ret (reflast_results ((((HD.out.res.set_ 0 (.int .i64 b0)).set_ 1 (.int .i64 b1)).set_ 2 (.int .i64 b2)).set_ 3 (.string b3)) _ rfl rfl) rfl ?_
      refine ⟨?_, (((HD.out.bel.setCell (by simp) _).setCell (by simp) _).setCell (by simp) _).setCell (by simp) _⟩
      rw [← HB.out]
      rfl
theorem bel_next {W W' W'' : World} (h : Below W.heap.size W W') (hb : Below W'.heap.size W' W'') : Below W.heap.size W W'' := h.trans (hb.mono h.size)
theorem fo_set {g : Nat} {b : Option Turn} {W : World} (h : Blk W g 113 (b.getD noTurn).cells.toArray) (t0 t1 t2 : Int) (t3 : ByteArray) :
    Blk ((((W.setCell ⟨g, 0, none⟩ (.int .i64 t0)).setCell ⟨g, 1, none⟩ (.int .i64 t1)).setCell ⟨g, 2, none⟩ (.int .i64 t2)).setCell ⟨g, 3, none⟩ (.string t3)) g 113 ((some (⟨t0, t1, t2, t3⟩ : Turn)).getD noTurn).cells.toArray := by
  have hb := (((h.set_ 0 (.int .i64 t0)).set_ 1 (.int .i64 t1)).set_ 2 (.int .i64 t2)).set_ 3 (.string t3)
  simpa only [Turn.cells, Option.getD_some, List.setIfInBounds_toArray, List.set_cons_succ, List.set_cons_zero] using hb
set_option maxHeartbeats 40000000 in
set_option maxRecDepth 100000 in
theorem refForce_any (rs : List Rule) (A : Option Addr) (c : Nat) (off at_ : Int) (w : World) (h : Reads w w.heap.size 11 A rs.length (rs.flatMap Rule.cells)) (hn : rs.length ≤ 1000000) (hr : rulesB rs = true) (h1 : -9223372036854775808 ≤ at_) (h2 : at_ ≤ 9223372036854775807) :
    Calls Tryz.prog 101 #[.slice A rs.length c, .int .i64 off, .int .i64 at_] w fun e w' => e = .returned (.tuple #[.int .i64 (giveO rs (lastD rs off at_)).1, .string (giveO rs (lastD rs off at_)).2]) ∧ Below w.heap.size w w' := by
  have hL := refLast_any rs A c off at_ w h hn hr h1 h2
  cases hq : lastD rs off at_ with
  | some x =>
    rw [hq] at hL
    obtain ⟨x0, x1, x2, x3⟩ := x
    simp only [giveO, Option.getD_some, Option.isSome_some, Turn.cells] at hL ⊢
    have HL := Lib.hid hL
    clear hL h hr hq
    go_enter Tryz.func101, Tryz.ntmps101
    go_wp2_with (go_at_call 149; refine HL.out.mono ?_; rintro e w1 ⟨rfl, hb⟩; have hx := Blk.new w1 113 #[.int .i64 x0, .int .i64 x1, .int .i64 x2, .string x3]; have cx := fun i => hx.cell i; have HB := Lib.hid (hb.alloc hb.size (.cells #[.int .i64 x0, .int .i64 x1, .int .i64 x2, .string x3] 113)); clear hb hx)
    go_region
    go_wp2
    go_ret2
    exact ⟨rfl, HB.out.drew⟩
  | none =>
    rw [hq] at hL
    simp only [giveO, Option.getD_none, Option.isSome_none, noTurn, Turn.cells] at hL ⊢
    have HL := Lib.hid hL
    obtain ⟨F, hF⟩ : ∃ F, firstP rs = F := ⟨_, rfl⟩
    rw [hF]
    have HF := Lib.hid hF
    have H := Lib.hid h
    have HR := Lib.hid hr
    clear hL hq hF h hr
    go_enter Tryz.func101, Tryz.ntmps101
    go_wp2_with (go_at_call 149; refine HL.out.mono ?_; rintro e w1 ⟨rfl, hb⟩; have hx := (Blk.new (w1.alloc (.cells #[.int .i64 0, .int .i64 0, .int .i64 0, .string ⟨#[]⟩] 113)) 113 #[.int .i64 0, .int .i64 0, .int .i64 0, .string ⟨#[]⟩]); have HX := Lib.hid hx; have hsz := hb.size; have HB := Lib.hid ((hb.alloc hb.size (.cells #[.int .i64 0, .int .i64 0, .int .i64 0, .string ⟨#[]⟩] 113)).alloc (by simp; omega) (.cells #[.int .i64 0, .int .i64 0, .int .i64 0, .string ⟨#[]⟩] 113)); clear hb hx)
    go_loopw [11, 12] (fun f i wr => ∃ (k : Nat) (best : Option Turn), k ≤ rs.length ∧ i = .int .i64 k ∧ f = .bool best.isSome ∧ (rs.drop k).foldl firstStep best = firstO rs ∧ Blk wr (w1.heap.size + 1) 113 (best.getD noTurn).cells.toArray ∧ Below w.heap.size w wr) (fun _ i _ => rs.length - (intOf i).toNat)
    case atStart => exact ⟨0, none, Nat.zero_le _, rfl, rfl, rfl, by simpa [noTurn, Turn.cells] using HX.out, HB.out⟩
    case round =>
      clear HX HB
      obtain ⟨k, best, hk, rfl, rfl, hq, hbl, hbel⟩ := hrel
      have HBl := Lib.hid hbl; have HBel := Lib.hid hbel
      clear hbl hbel
      by_cases hkn : k < rs.length
      · obtain ⟨ad, hA, hadb, a0, a1, a2, a3, a4, a5, a6, a7, a8, a9, a10⟩ := rule_cells (H.out.below HBel.out) hkn
        have hadw : ad.block < w.heap.size := hadb
        subst hA
        rw [List.drop_eq_getElem_cons hkn, List.foldl_cons] at hq
        have hT := fun z => R11.turn_any rs[k] rs[k].lo z
        generalize rs[k] = r at *
        unfold firstStep at hq
        have hlt : (ad.add (k * 11)).block < wr.heap.size := by rw [block_of_add]; exact Nat.lt_of_lt_of_le hadw HBel.out.size
        have hkb : decide ((k : Int) < (rs.length : Nat)) = true := decide_eq_true (by omega)
        obtain ⟨V, hV⟩ : ∃ V, turnL r.lo r = V := ⟨_, rfl⟩
        rw [hV] at hT hq
        obtain ⟨r0, r1, r2, r3, r4, r5, r6, r7, r8, r9, r10⟩ := r
        simp only [Rule.cells] at hT hq a0 a1 a2 a3 a4 a5 a6 a7 a8 a9 a10
        clear hV hadb hadw
        cases V with
        | none =>
          simp only [R11.turnV] at hT hq
          have HT := Lib.hid hT
          have HQ := Lib.hid hq
          clear hT hq
          go_wp2_with fail
          have hS : ∀ w', Below wr.heap.size wr w' → w'.cell? (ad.add (k * 11)) = some (.string r0) ∧ w'.cell? ⟨(ad.add (k * 11)).block, (ad.add (k * 11)).off + 1, none⟩ = some (.int .i64 r1) ∧ w'.cell? ⟨(ad.add (k * 11)).block, (ad.add (k * 11)).off + 2, none⟩ = some (.int .i64 r2) ∧ w'.cell? ⟨(ad.add (k * 11)).block, (ad.add (k * 11)).off + 3, none⟩ = some (.int .i64 r3) ∧ w'.cell? ⟨(ad.add (k * 11)).block, (ad.add (k * 11)).off + 4, none⟩ = some (.int .i64 r4) ∧ w'.cell? ⟨(ad.add (k * 11)).block, (ad.add (k * 11)).off + 5, none⟩ = some (.int .i64 r5) ∧ w'.cell? ⟨(ad.add (k * 11)).block, (ad.add (k * 11)).off + 6, none⟩ = some (.int .i64 r6) ∧ w'.cell? ⟨(ad.add (k * 11)).block, (ad.add (k * 11)).off + 7, none⟩ = some (.int .i64 r7) ∧ w'.cell? ⟨(ad.add (k * 11)).block, (ad.add (k * 11)).off + 8, none⟩ = some (.int .i64 r8) ∧ w'.cell? ⟨(ad.add (k * 11)).block, (ad.add (k * 11)).off + 9, none⟩ = some (.int .i64 r9) ∧ w'.cell? ⟨(ad.add (k * 11)).block, (ad.add (k * 11)).off + 10, none⟩ = some (.string r10) ∧ Below wr.heap.size wr w' := fun w' h => ⟨(h.cell hlt).trans a0, (h.cell (p := ⟨(ad.add (k * 11)).block, (ad.add (k * 11)).off + 1, none⟩) hlt).trans a1, (h.cell (p := ⟨(ad.add (k * 11)).block, (ad.add (k * 11)).off + 2, none⟩) hlt).trans a2, (h.cell (p := ⟨(ad.add (k * 11)).block, (ad.add (k * 11)).off + 3, none⟩) hlt).trans a3, (h.cell (p := ⟨(ad.add (k * 11)).block, (ad.add (k * 11)).off + 4, none⟩) hlt).trans a4, (h.cell (p := ⟨(ad.add (k * 11)).block, (ad.add (k * 11)).off + 5, none⟩) hlt).trans a5, (h.cell (p := ⟨(ad.add (k * 11)).block, (ad.add (k * 11)).off + 6, none⟩) hlt).trans a6, (h.cell (p := ⟨(ad.add (k * 11)).block, (ad.add (k * 11)).off + 7, none⟩) hlt).trans a7, (h.cell (p := ⟨(ad.add (k * 11)).block, (ad.add (k * 11)).off + 8, none⟩) hlt).trans a8, (h.cell (p := ⟨(ad.add (k * 11)).block, (ad.add (k * 11)).off + 9, none⟩) hlt).trans a9, (h.cell (p := ⟨(ad.add (k * 11)).block, (ad.add (k * 11)).off + 10, none⟩) hlt).trans a10, h⟩
          go_cut [13, 14] from 28 to 67 (fun s13 s14 wx => ∃ g, s13 = .pointer (some ⟨g, 0, none⟩) ∧ s14 = .bool false ∧ Blk wx g 113 #[.int .i64 0, .int .i64 0, .int .i64 0, .string ⟨#[]⟩] ∧ wr.heap.size ≤ g ∧ Below wr.heap.size wr wx)
          case first =>
            have kb0 : Below wr.heap.size wr wr.drew := below_drew wr
            clear a0 a1 a2 a3 a4 a5 a6 a7 a8 a9 a10
            go_region_held3 (fun w' => w'.cell? (ad.add (k * 11)) = some (.string r0) ∧ w'.cell? ⟨(ad.add (k * 11)).block, (ad.add (k * 11)).off + 1, none⟩ = some (.int .i64 r1) ∧ w'.cell? ⟨(ad.add (k * 11)).block, (ad.add (k * 11)).off + 2, none⟩ = some (.int .i64 r2) ∧ w'.cell? ⟨(ad.add (k * 11)).block, (ad.add (k * 11)).off + 3, none⟩ = some (.int .i64 r3) ∧ w'.cell? ⟨(ad.add (k * 11)).block, (ad.add (k * 11)).off + 4, none⟩ = some (.int .i64 r4) ∧ w'.cell? ⟨(ad.add (k * 11)).block, (ad.add (k * 11)).off + 5, none⟩ = some (.int .i64 r5) ∧ w'.cell? ⟨(ad.add (k * 11)).block, (ad.add (k * 11)).off + 6, none⟩ = some (.int .i64 r6) ∧ w'.cell? ⟨(ad.add (k * 11)).block, (ad.add (k * 11)).off + 7, none⟩ = some (.int .i64 r7) ∧ w'.cell? ⟨(ad.add (k * 11)).block, (ad.add (k * 11)).off + 8, none⟩ = some (.int .i64 r8) ∧ w'.cell? ⟨(ad.add (k * 11)).block, (ad.add (k * 11)).off + 9, none⟩ = some (.int .i64 r9) ∧ w'.cell? ⟨(ad.add (k * 11)).block, (ad.add (k * 11)).off + 10, none⟩ = some (.string r10) ∧ Below wr.heap.size wr w') (exact hS _ (by go_grown)) ((go_at_call 138; refine (HT.out _).mono ?_; rintro e w5 ⟨rfl, hb⟩; have kb5 := bel_next (W := wr) (by go_grown) hb; have ks5 := kb5.size; first | (have hz : Blk w5 wr.heap.size 113 #[.int .i64 0, .int .i64 0, .int .i64 0, .string ⟨#[]⟩] := (Blk.new wr.drew 113 #[.int .i64 0, .int .i64 0, .int .i64 0, .string ⟨#[]⟩]).below hb (Blk.new wr.drew 113 #[.int .i64 0, .int .i64 0, .int .i64 0, .string ⟨#[]⟩]).lt; have c5 := fun i => hz.cell i; have f5 := fun i => hz.frozen i; have HZ5 := Lib.hid hz; clear hz) | skip))
            all_goals go_wp2_with fail
            all_goals go_meet
            all_goals first
              | exact ⟨_, rfl, rfl, Blk.new _ _ _, ks5, kb5.alloc ks5 _⟩
              | exact ⟨_, rfl, rfl, by have hz := (((HZ5.out.set_ 0 (.int .i64 0)).set_ 1 (.int .i64 0)).set_ 2 (.int .i64 0)).set_ 3 (.string ⟨#[]⟩); simpa using hz, Nat.le_refl _, (((kb5.setCell (by simp) _).setCell (by simp) _).setCell (by simp) _).setCell (by simp) _⟩
              | exact ⟨_, rfl, rfl, HZ5.out, Nat.le_refl _, kb5⟩
          case rest =>
            obtain ⟨g, rfl, rfl, hx, hg, hwc⟩ := hcut
            have hs9 := (hS wc hwc).2.2.2.2.2.2.2.2.2.1
            have hl5 := HBl.out.below hwc HBl.out.lt
            have HB5 := Lib.hid (HBel.out.trans (hwc.mono HBel.out.size))
            clear hS hwc hg a0 a1 a2 a3 a4 a5 a6 a7 a8 a9 a10
            have HL5 := Lib.hid hl5
            clear hl5 hx hs9
            go_wp2_with fail
            exact ⟨⟨k + 1, best, by omega, by go_num, rfl, HQ.out, HL5.out, HB5.out⟩, by simp [intOf]; omega⟩
        | some t =>
          obtain ⟨t0, t1, t2, t3⟩ := t
          simp only [R11.turnV, Turn.cells] at hT hq
          have HT := Lib.hid hT
          have HQ := Lib.hid hq
          clear hT hq
          go_wp2_with fail
          have hS : ∀ w', Below wr.heap.size wr w' → w'.cell? (ad.add (k * 11)) = some (.string r0) ∧ w'.cell? ⟨(ad.add (k * 11)).block, (ad.add (k * 11)).off + 1, none⟩ = some (.int .i64 r1) ∧ w'.cell? ⟨(ad.add (k * 11)).block, (ad.add (k * 11)).off + 2, none⟩ = some (.int .i64 r2) ∧ w'.cell? ⟨(ad.add (k * 11)).block, (ad.add (k * 11)).off + 3, none⟩ = some (.int .i64 r3) ∧ w'.cell? ⟨(ad.add (k * 11)).block, (ad.add (k * 11)).off + 4, none⟩ = some (.int .i64 r4) ∧ w'.cell? ⟨(ad.add (k * 11)).block, (ad.add (k * 11)).off + 5, none⟩ = some (.int .i64 r5) ∧ w'.cell? ⟨(ad.add (k * 11)).block, (ad.add (k * 11)).off + 6, none⟩ = some (.int .i64 r6) ∧ w'.cell? ⟨(ad.add (k * 11)).block, (ad.add (k * 11)).off + 7, none⟩ = some (.int .i64 r7) ∧ w'.cell? ⟨(ad.add (k * 11)).block, (ad.add (k * 11)).off + 8, none⟩ = some (.int .i64 r8) ∧ w'.cell? ⟨(ad.add (k * 11)).block, (ad.add (k * 11)).off + 9, none⟩ = some (.int .i64 r9) ∧ w'.cell? ⟨(ad.add (k * 11)).block, (ad.add (k * 11)).off + 10, none⟩ = some (.string r10) ∧ Below wr.heap.size wr w' := fun w' h => ⟨(h.cell hlt).trans a0, (h.cell (p := ⟨(ad.add (k * 11)).block, (ad.add (k * 11)).off + 1, none⟩) hlt).trans a1, (h.cell (p := ⟨(ad.add (k * 11)).block, (ad.add (k * 11)).off + 2, none⟩) hlt).trans a2, (h.cell (p := ⟨(ad.add (k * 11)).block, (ad.add (k * 11)).off + 3, none⟩) hlt).trans a3, (h.cell (p := ⟨(ad.add (k * 11)).block, (ad.add (k * 11)).off + 4, none⟩) hlt).trans a4, (h.cell (p := ⟨(ad.add (k * 11)).block, (ad.add (k * 11)).off + 5, none⟩) hlt).trans a5, (h.cell (p := ⟨(ad.add (k * 11)).block, (ad.add (k * 11)).off + 6, none⟩) hlt).trans a6, (h.cell (p := ⟨(ad.add (k * 11)).block, (ad.add (k * 11)).off + 7, none⟩) hlt).trans a7, (h.cell (p := ⟨(ad.add (k * 11)).block, (ad.add (k * 11)).off + 8, none⟩) hlt).trans a8, (h.cell (p := ⟨(ad.add (k * 11)).block, (ad.add (k * 11)).off + 9, none⟩) hlt).trans a9, (h.cell (p := ⟨(ad.add (k * 11)).block, (ad.add (k * 11)).off + 10, none⟩) hlt).trans a10, h⟩
          go_cut [13, 14] from 28 to 67 (fun s13 s14 wx => ∃ g, s13 = .pointer (some ⟨g, 0, none⟩) ∧ s14 = .bool true ∧ Blk wx g 113 #[.int .i64 t0, .int .i64 t1, .int .i64 t2, .string t3] ∧ wr.heap.size ≤ g ∧ Below wr.heap.size wr wx)
          case first =>
            have kb0 : Below wr.heap.size wr wr.drew := below_drew wr
            clear a0 a1 a2 a3 a4 a5 a6 a7 a8 a9 a10
            go_region_held3 (fun w' => w'.cell? (ad.add (k * 11)) = some (.string r0) ∧ w'.cell? ⟨(ad.add (k * 11)).block, (ad.add (k * 11)).off + 1, none⟩ = some (.int .i64 r1) ∧ w'.cell? ⟨(ad.add (k * 11)).block, (ad.add (k * 11)).off + 2, none⟩ = some (.int .i64 r2) ∧ w'.cell? ⟨(ad.add (k * 11)).block, (ad.add (k * 11)).off + 3, none⟩ = some (.int .i64 r3) ∧ w'.cell? ⟨(ad.add (k * 11)).block, (ad.add (k * 11)).off + 4, none⟩ = some (.int .i64 r4) ∧ w'.cell? ⟨(ad.add (k * 11)).block, (ad.add (k * 11)).off + 5, none⟩ = some (.int .i64 r5) ∧ w'.cell? ⟨(ad.add (k * 11)).block, (ad.add (k * 11)).off + 6, none⟩ = some (.int .i64 r6) ∧ w'.cell? ⟨(ad.add (k * 11)).block, (ad.add (k * 11)).off + 7, none⟩ = some (.int .i64 r7) ∧ w'.cell? ⟨(ad.add (k * 11)).block, (ad.add (k * 11)).off + 8, none⟩ = some (.int .i64 r8) ∧ w'.cell? ⟨(ad.add (k * 11)).block, (ad.add (k * 11)).off + 9, none⟩ = some (.int .i64 r9) ∧ w'.cell? ⟨(ad.add (k * 11)).block, (ad.add (k * 11)).off + 10, none⟩ = some (.string r10) ∧ Below wr.heap.size wr w') (exact hS _ (by go_grown)) ((go_at_call 138; refine (HT.out _).mono ?_; rintro e w5 ⟨rfl, hb⟩; have kb5 := bel_next (W := wr) (by go_grown) hb; have ks5 := kb5.size; first | (have hz : Blk w5 wr.heap.size 113 #[.int .i64 0, .int .i64 0, .int .i64 0, .string ⟨#[]⟩] := (Blk.new wr.drew 113 #[.int .i64 0, .int .i64 0, .int .i64 0, .string ⟨#[]⟩]).below hb (Blk.new wr.drew 113 #[.int .i64 0, .int .i64 0, .int .i64 0, .string ⟨#[]⟩]).lt; have c5 := fun i => hz.cell i; have f5 := fun i => hz.frozen i; have HZ5 := Lib.hid hz; clear hz) | skip))
            all_goals go_wp2_with fail
            all_goals go_meet
            all_goals first
              | exact ⟨_, rfl, rfl, Blk.new _ _ _, ks5, kb5.alloc ks5 _⟩
              | exact ⟨_, rfl, rfl, by have hz := (((HZ5.out.set_ 0 (.int .i64 t0)).set_ 1 (.int .i64 t1)).set_ 2 (.int .i64 t2)).set_ 3 (.string t3); simpa using hz, Nat.le_refl _, (((kb5.setCell (by simp) _).setCell (by simp) _).setCell (by simp) _).setCell (by simp) _⟩
              | exact ⟨_, rfl, rfl, HZ5.out, Nat.le_refl _, kb5⟩
          case rest =>
            obtain ⟨g, rfl, rfl, hx, hg, hwc⟩ := hcut
            have hs9 := (hS wc hwc).2.2.2.2.2.2.2.2.2.1
            have hl5 := HBl.out.below hwc HBl.out.lt
            have HB5 := Lib.hid (HBel.out.trans (hwc.mono HBel.out.size))
            clear hS hwc hg a0 a1 a2 a3 a4 a5 a6 a7 a8 a9 a10
            have cx := fun i => hx.cell i
            have cb := fun i => hl5.cell i
            have fb := fun i => hl5.frozen i
            have HL5 := Lib.hid hl5
            clear hl5 hx HT
            by_cases hs : r9 = 0
            · have hsb : (r9 == 0) = true := by simp [hs]
              have hq := HQ.out
              rw [if_pos hs] at hq
              clear hs
              cases best with
              | none =>
                have HQ2 : Hid ((rs.drop (k + 1)).foldl firstStep (some ⟨t0, t1, t2, t3⟩) = firstO rs) := hq
                simp only [Turn.cells, noTurn, Option.getD_none] at cb
                clear hq HQ
                go_wp2_with fail
                exact ⟨⟨k + 1, some ⟨t0, t1, t2, t3⟩, by omega, by go_num, rfl, HQ2.out, fo_set HL5.out t0 t1 t2 t3, (((HB5.out.setCell (Nat.le_succ_of_le hsz) _).setCell (Nat.le_succ_of_le hsz) _).setCell (Nat.le_succ_of_le hsz) _).setCell (Nat.le_succ_of_le hsz) _⟩, by simp [intOf]; omega⟩
              | some b =>
                obtain ⟨b0, b1, b2, b3⟩ := b
                simp only [lessT] at hq
                simp only [Turn.cells, Option.getD_some] at cb
                cases hd : decide (t0 < b0)
                · rw [if_neg (of_decide_eq_false hd)] at hq
                  have HQ2 : Hid ((rs.drop (k + 1)).foldl firstStep (some ⟨b0, b1, b2, b3⟩) = firstO rs) := hq
                  clear hq HQ
                  go_wp2_with fail
                  exact ⟨⟨k + 1, some ⟨b0, b1, b2, b3⟩, by omega, by go_num, rfl, HQ2.out, HL5.out, HB5.out⟩, by simp [intOf]; omega⟩
                · rw [if_pos (of_decide_eq_true hd)] at hq
                  have HQ2 : Hid ((rs.drop (k + 1)).foldl firstStep (some ⟨t0, t1, t2, t3⟩) = firstO rs) := hq
                  clear hq HQ
                  go_wp2_with fail
                  exact ⟨⟨k + 1, some ⟨t0, t1, t2, t3⟩, by omega, by go_num, rfl, HQ2.out, fo_set HL5.out t0 t1 t2 t3, (((HB5.out.setCell (Nat.le_succ_of_le hsz) _).setCell (Nat.le_succ_of_le hsz) _).setCell (Nat.le_succ_of_le hsz) _).setCell (Nat.le_succ_of_le hsz) _⟩, by simp [intOf]; omega⟩
            · have hsb : (r9 == 0) = false := by simp [hs]
              have hq := HQ.out
              rw [if_neg hs] at hq
              have HQ2 := Lib.hid hq
              clear hq HQ hs
              go_wp2_with fail
              exact ⟨⟨k + 1, best, by omega, by go_num, rfl, HQ2.out, HL5.out, HB5.out⟩, by simp [intOf]; omega⟩
      · obtain rfl : k = rs.length := by omega
        rw [List.drop_length, List.foldl_nil] at hq
        have hbc := fun i => HBl.out.cell i
        have hF2 := HF.out
        unfold firstP at hF2
        rw [← hq] at hF2
        obtain ⟨B, hB⟩ : ∃ B : Turn, B = best.getD noTurn := ⟨_, rfl⟩
        rw [← hB] at hbc hF2
        obtain ⟨b0, b1, b2, b3⟩ := B
        simp only [Turn.cells] at hbc hF2
        subst hF2
        clear hB hq HF
        go_wp2
        go_region
        go_wp2
        go_ret2
        exact ⟨rfl, HBel.out.drew⟩
end Go.Proofs.YtdicedpklpadgaaGreatDoor.Ahd
