/-
  Package source: the contract of Right. Conditions: lengths are bounded; the cell of bytealg.MaxLen holds a number.
-/
import Derived.Test.YtdicedpklpadgaaGreatDoorY11
set_option linter.all false
namespace Go.Proofs.YtdicedpklpadgaaGreatDoor.Src
open Go.RowKit Mem Civ Mom Img Plc Rul

theorem flat_cells {α : Type} (f : α → List Value) (m : Nat) (hf : ∀ x, (f x).length = m) {w : World} {B n : Nat} {A : Option Addr} {ss : List α} (h : Reads w B m A n (ss.flatMap f)) {k : Nat} (hk : k < ss.length) (hn : ss.length = n) (hm : 0 < m) :
    ∃ ad, A = some ad ∧ ad.block < B ∧ (∀ u, (f ss[k])[0]? = some u → w.cell? (ad.add (k * m)) = some u) ∧ ∀ j u, 0 < j → j < m → (f ss[k])[j]? = some u → w.cell? ⟨(ad.add (k * m)).block, (ad.add (k * m)).off + j, none⟩ = some u := by
  obtain ⟨ad, e, hb, hc⟩ := h.2 (by omega)
  have g : ∀ j, j < m → (ss.flatMap f)[k * m + j]? = (f ss[k])[j]? := fun j hj => by
    rw [flat_get f m hf ss k j hj, List.getElem?_eq_getElem hk]; rfl
  refine ⟨ad, e, hb, fun u hu => hc (k * m) u (by rw [← hu]; exact g 0 hm), fun j u h0 hj hu => ?_⟩
  rw [← add_pos _ h0, add_of_add]
  exact hc _ _ (by rw [← hu]; exact g j hj)
theorem zone_cells {w : World} {B n : Nat} {A : Option Addr} {ss : List ZoneM} (h : Reads w B 2 A n (ss.flatMap ZoneM.cells)) {k : Nat} (hk : k < ss.length) (hn : ss.length = n) :
    ∃ ad, A = some ad ∧ ad.block < B ∧ w.cell? (ad.add (k * 2)) = some (.string ss[k].name) ∧ w.cell? ⟨(ad.add (k * 2)).block, (ad.add (k * 2)).off + 1, none⟩ = some (.slice ss[k].A ss[k].eras.length ss[k].c) := by
  obtain ⟨ad, e, hb, h0, h1⟩ := flat_cells ZoneM.cells 2 (fun _ => rfl) h hk hn (by omega)
  exact ⟨ad, e, hb, h0 _ rfl, h1 1 _ (by omega) (by omega) rfl⟩
theorem link_cells {w : World} {B n : Nat} {A : Option Addr} {ss : List Link} (h : Reads w B 2 A n (ss.flatMap Link.cells)) {k : Nat} (hk : k < ss.length) (hn : ss.length = n) :
    ∃ ad, A = some ad ∧ ad.block < B ∧ w.cell? (ad.add (k * 2)) = some (.string ss[k].target) ∧ w.cell? ⟨(ad.add (k * 2)).block, (ad.add (k * 2)).off + 1, none⟩ = some (.string ss[k].name) := by
  obtain ⟨ad, e, hb, h0, h1⟩ := flat_cells Link.cells 2 (fun _ => rfl) h hk hn (by omega)
  exact ⟨ad, e, hb, h0 _ rfl, h1 1 _ (by omega) (by omega) rfl⟩
theorem era_cells {w : World} {B n : Nat} {A : Option Addr} {ss : List Era} (h : Reads w B 13 A n (ss.flatMap Era.cells)) {k : Nat} (hk : k < ss.length) (hn : ss.length = n) :
    ∃ ad, A = some ad ∧ ad.block < B ∧ w.cell? (ad.add (k * 13)) = some (.int .i64 ss[k].off) ∧
      w.cell? ⟨(ad.add (k * 13)).block, (ad.add (k * 13)).off + 1, none⟩ = some (.int .i64 ss[k].kind) ∧ w.cell? ⟨(ad.add (k * 13)).block, (ad.add (k * 13)).off + 2, none⟩ = some (.int .i64 ss[k].save) ∧
      w.cell? ⟨(ad.add (k * 13)).block, (ad.add (k * 13)).off + 3, none⟩ = some (.string ss[k].rules) ∧ w.cell? ⟨(ad.add (k * 13)).block, (ad.add (k * 13)).off + 4, none⟩ = some (.string ss[k].format) ∧
      w.cell? ⟨(ad.add (k * 13)).block, (ad.add (k * 13)).off + 5, none⟩ = some (.bool ss[k].till) ∧ w.cell? ⟨(ad.add (k * 13)).block, (ad.add (k * 13)).off + 6, none⟩ = some (.int .i64 ss[k].year) ∧
      w.cell? ⟨(ad.add (k * 13)).block, (ad.add (k * 13)).off + 7, none⟩ = some (.int .i64 ss[k].spot.month) ∧ w.cell? ⟨(ad.add (k * 13)).block, (ad.add (k * 13)).off + 8, none⟩ = some (.int .i64 ss[k].spot.kind) ∧
      w.cell? ⟨(ad.add (k * 13)).block, (ad.add (k * 13)).off + 9, none⟩ = some (.int .i64 ss[k].spot.weekday) ∧ w.cell? ⟨(ad.add (k * 13)).block, (ad.add (k * 13)).off + 10, none⟩ = some (.int .i64 ss[k].spot.day) ∧
      w.cell? ⟨(ad.add (k * 13)).block, (ad.add (k * 13)).off + 11, none⟩ = some (.int .i64 ss[k].spot.time) ∧ w.cell? ⟨(ad.add (k * 13)).block, (ad.add (k * 13)).off + 12, none⟩ = some (.int .i64 ss[k].spot.ref) := by
  obtain ⟨ad, e, hb, h0, h1⟩ := flat_cells Era.cells 13 (fun _ => rfl) h hk hn (by omega)
  exact ⟨ad, e, hb, h0 _ rfl, h1 1 _ (by omega) (by omega) rfl, h1 2 _ (by omega) (by omega) rfl, h1 3 _ (by omega) (by omega) rfl, h1 4 _ (by omega) (by omega) rfl, h1 5 _ (by omega) (by omega) rfl, h1 6 _ (by omega) (by omega) rfl, h1 7 _ (by omega) (by omega) rfl, h1 8 _ (by omega) (by omega) rfl, h1 9 _ (by omega) (by omega) rfl, h1 10 _ (by omega) (by omega) rfl, h1 11 _ (by omega) (by omega) rfl, h1 12 _ (by omega) (by omega) rfl⟩
theorem all_step {α : Type} (p : α → Bool) (l : List α) (k : Nat) (hk : k < l.length) (h : (l.take k).all p = true) : (l.take (k + 1)).all p = p l[k] := by
  rw [List.take_succ_eq_append_getElem hk, List.all_append, h]; simp
theorem all_no {α : Type} (p : α → Bool) (l : List α) (k : Nat) (hk : k < l.length) (h : p l[k] = false) : l.all p = false :=
  List.all_eq_false.2 ⟨l[k], List.getElem_mem hk, by rw [h]; decide⟩
theorem erasOk_no {es : List Era} {j : Nat} (hj : j < es.length) (h : erasOk es (j + 1) = false) : erasOk es es.length = false := by
  obtain ⟨d, hd⟩ : ∃ d, es.length = j + 1 + d := ⟨es.length - (j + 1), by omega⟩
  have : ∀ d, erasOk es (j + 1 + d) = false := by
    intro d
    induction d with
    | zero => exact h
    | succ d ih => rw [← Nat.add_assoc, erasOk, ih, Bool.false_and]
  rw [hd]
  exact this d
set_option maxHeartbeats 4000000 in
set_option maxRecDepth 100000 in
theorem right_any (s : Src) (A A2 A3 : Option Addr) (c c2 c3 : Nat) (m : Int) (w : World) (h : SrcOk s A A2 A3 w) (hm : w.cell? ⟨0, 0, none⟩ = some (.int .i64 m)) :
    Calls Tryz.prog 55 #[.agg #[.slice A s.rules.length c, .slice A2 s.zones.length c2, .slice A3 s.links.length c3]] w fun e w' => e = .returned (.bool (srcB s)) ∧ Below w.heap.size w w' := by
  have hone := One.new w 26 #[.slice A s.rules.length c, .slice A2 s.zones.length c2, .slice A3 s.links.length c3]
  have H := Lib.hid h
  have HM := Lib.hid hm
  have nr := h.nr; have nz := h.nz; have nl := h.nl
  clear h hm
  obtain ⟨Q, hQ⟩ : ∃ Q, srcB s = Q := ⟨_, rfl⟩
  rw [hQ]
  unfold srcB at hQ
  obtain ⟨rs, zs, ls⟩ := s
  simp only at H nr nz nl hQ hone ⊢
  obtain ⟨W, hW⟩ : ∃ W, w.alloc (.cells #[.slice A rs.length c, .slice A2 zs.length c2, .slice A3 ls.length c3] 26) = W := ⟨_, rfl⟩
  rw [hW] at hone
  have HO := Lib.hid hone
  have c0 := fun i => hone.1.cell i
  clear hone
  go_enter Tryz.func55, Tryz.ntmps55
  by_cases g1 : 200 < rs.length
  · rw [decide_eq_true g1] at hQ
    have hq : Q = false := hQ.symm
    subst hq
    clear hQ
    go_wp2
    go_ret
    exact ⟨rfl, HO.out.2⟩
  by_cases g2 : 50 < zs.length
  · rw [decide_eq_false g1, decide_eq_true g2] at hQ
    have hq : Q = false := hQ.symm
    subst hq
    clear hQ
    go_wp2
    go_ret
    exact ⟨rfl, HO.out.2⟩
  by_cases g3 : 100 < ls.length
  · rw [decide_eq_false g1, decide_eq_false g2, decide_eq_true g3] at hQ
    have hq : Q = false := hQ.symm
    subst hq
    clear hQ
    go_wp2
    go_ret
    exact ⟨rfl, HO.out.2⟩
  rw [decide_eq_false g1, decide_eq_false g2, decide_eq_false g3] at hQ
  have HQ : Hid ((rs.all ruleR && (zs.all zoneB && ls.all linkB)) = Q) := hQ
  clear hQ
  go_wp2_with fail
  clear c0
  obtain ⟨CS, hCS⟩ : ∃ CS : Array Value, #[Value.slice A rs.length c, .slice A2 zs.length c2, .slice A3 ls.length c3] = CS := ⟨_, rfl⟩
  rw [hCS] at HO
  have HCS := Lib.hid hCS
  clear hCS
  go_loopw [30] (fun i wr => ∃ k : Nat, k ≤ rs.length ∧ i = .int .i64 k ∧ (rs.take k).all ruleR = true ∧ One w w.heap.size 26 CS wr) (fun i _ => rs.length - (intOf i).toNat)
  case atStart => exact ⟨0, Nat.zero_le _, rfl, rfl, HO.out⟩
  case round =>
    obtain ⟨k, hk, rfl, hall, hone⟩ := hrel
    have Hall := Lib.hid hall; have HOr := Lib.hid hone
    clear hall hone HO
    obtain ⟨wo, rfl⟩ : ∃ wo : World, wo = wr := ⟨_, rfl⟩
    by_cases hkn : k < rs.length
    · obtain ⟨ad, hA, hadb, a0, a1, a2, a3, a4, a5, a6, a7, a8, a9, a10⟩ := rule_cells (H.out.rr.below HOr.out.2) hkn
      subst hA
      have hst := all_step ruleR rs k hkn Hall.out
      have hno := all_no ruleR rs k hkn
      have htr := H.out.tr rs[k] (List.getElem_mem hkn)
      have Hr := Lib.hid (fun z => ruleRight_any rs[k] z htr.1 htr.2)
      have Hst := Lib.hid hst; have Hno := Lib.hid hno
      clear hst hno htr
      simp only [Rule.cells] at Hr
      generalize ruleR rs[k] = b at *
      generalize rs[k] = x at *
      have hox := HOr.out.step ((Below.refl _ _).alloc (Nat.le_refl _) (.cells #[.string x.name, .int .i64 x.lo, .int .i64 x.hi, .int .i64 x.month, .int .i64 x.kind, .int .i64 x.weekday, .int .i64 x.day, .int .i64 x.time, .int .i64 x.ref, .int .i64 x.save, .string x.letter] 59))
      have HOx := Lib.hid hox
      clear hox
      cases b
      · have hq : Q = false := by rw [← HQ.out, Hno.out rfl, Bool.false_and]
        subst hq
        clear HQ
        go_wp2_with (go_at_call 105; refine (Hr.out _).mono ?_; rintro e w2 ⟨rfl, hb⟩; have HB := Lib.hid (HOx.out.step hb); clear hb)
        go_ret
        exact ⟨rfl, HB.out.2⟩
      · go_wp2_with (go_at_call 105; refine (Hr.out _).mono ?_; rintro e w2 ⟨rfl, hb⟩; have HB := Lib.hid (HOx.out.step hb); clear hb)
        exact ⟨⟨k + 1, by omega, by go_num, Hst.out, HB.out⟩, by simp [intOf]; omega⟩
    · obtain rfl : k = rs.length := by omega
      have hq := HQ.out
      rw [List.take_length] at Hall
      rw [Hall.out, Bool.true_and] at hq
      have HQ2 := Lib.hid hq
      clear hq HQ Hall
      have c0 := fun i => HOr.out.1.cell i
      rw [← HCS.out] at c0
      go_wp2_with fail
      clear c0
      go_loopw [41] (fun i wr => ∃ k : Nat, k ≤ zs.length ∧ i = .int .i64 k ∧ (zs.take k).all zoneB = true ∧ One w w.heap.size 26 CS wr) (fun i _ => zs.length - (intOf i).toNat)
      case atStart => exact ⟨0, Nat.zero_le _, rfl, rfl, HOr.out⟩
      case round =>
        obtain ⟨k, hk, rfl, hall, hone⟩ := hrel
        have Hall := Lib.hid hall; have HOr2 := Lib.hid hone
        clear hall hone HOr
        clear wo
        obtain ⟨wo, rfl⟩ : ∃ wo : World, wo = wr := ⟨_, rfl⟩
        by_cases hkn : k < zs.length
        · obtain ⟨ad, hA, hadb, a0, a1⟩ := zone_cells (H.out.rz.below HOr2.out.2) hkn rfl
          subst hA
          have hst := all_step zoneB zs k hkn Hall.out
          have hno := all_no zoneB zs k hkn
          have htz := H.out.tz zs[k] (List.getElem_mem hkn)
          have hte := H.out.te zs[k] (List.getElem_mem hkn)
          have hre := H.out.re zs[k] (List.getElem_mem hkn)
          have hne := H.out.ne zs[k] (List.getElem_mem hkn)
          have Hst := Lib.hid hst; have Hno := Lib.hid hno; have Hte := Lib.hid hte; have Hre := Lib.hid hre
          clear hst hno hte hre
          generalize hz : zs[k] = z at *
          have hzb : zoneB z = (placeB z.name && (!(((z.eras.length : Nat) : Int) == 0) && (!decide ((40 : Int) < (z.eras.length : Nat)) && erasOk z.eras z.eras.length))) := rfl
          generalize zoneB z = b at *
          have Hzb := Lib.hid hzb
          clear hzb hz
          obtain ⟨zn, es, zA, zc⟩ := z
          simp only at a0 a1 htz hne Hte Hre Hzb
          have Hp := Lib.hid (fun z (h : z.cell? ⟨0, 0, none⟩ = some (.int .i64 m)) => place_any zn m z htz h)
          have hox := HOr2.out.step ((Below.refl _ _).alloc (Nat.le_refl _) (.cells #[.string zn, .slice zA es.length zc] 49))
          have hzblk := Blk.new wo 49 #[.string zn, .slice zA es.length zc]
          have HOx := Lib.hid hox; have HZ := Lib.hid hzblk
          have HMx := Lib.hid (cell_later hox.2 HM.out)
          have cz := fun i => hzblk.cell i
          clear hox hzblk
          generalize placeB zn = b1 at *
          cases b1
          · have hbf : b = false := by rw [Hzb.out]; rfl
            have hq : Q = false := by rw [← HQ2.out, Hno.out hbf, Bool.false_and]
            subst hq
            clear HQ2 Hst Hno Hzb
            go_wp2_with (go_at_call 47; refine (Hp.out _ HMx.out).mono ?_; rintro e w2 ⟨rfl, hb⟩; have HB := Lib.hid (HOx.out.step hb); clear hb)
            go_ret
            exact ⟨rfl, HB.out.2⟩
          by_cases he0 : es.length = 0
          · have he1 : (((es.length : Nat) : Int) == 0) = true := by rw [he0]; rfl
            have hbf : b = false := by rw [Hzb.out, he1]; rfl
            have hq : Q = false := by rw [← HQ2.out, Hno.out hbf, Bool.false_and]
            subst hq
            clear HQ2 Hst Hno Hzb he0
            go_wp2_with (go_at_call 47; refine (Hp.out _ HMx.out).mono ?_; rintro e w2 ⟨rfl, hb⟩; have cz2 := fun i => (HZ.out.below hb HZ.out.lt).cell i; have HB := Lib.hid (HOx.out.step hb); clear hb)
            go_ret
            exact ⟨rfl, HB.out.2⟩
          have he1 : (((es.length : Nat) : Int) == 0) = false := by rw [beq_eq_false_iff_ne]; omega
          by_cases he2 : 40 < es.length
          · have hbf : b = false := by rw [Hzb.out, he1, decide_eq_true (show (40 : Int) < (es.length : Nat) by omega)]; rfl
            have hq : Q = false := by rw [← HQ2.out, Hno.out hbf, Bool.false_and]
            subst hq
            clear HQ2 Hst Hno Hzb
            go_wp2_with (go_at_call 47; refine (Hp.out _ HMx.out).mono ?_; rintro e w2 ⟨rfl, hb⟩; have cz2 := fun i => (HZ.out.below hb HZ.out.lt).cell i; have HB := Lib.hid (HOx.out.step hb); clear hb)
            go_ret
            exact ⟨rfl, HB.out.2⟩
          have hzb : b = erasOk es es.length := by rw [Hzb.out, he1, decide_eq_false (show ¬ (40 : Int) < (es.length : Nat) by omega)]; rfl
          have Hzb2 := Lib.hid hzb
          clear hzb Hzb
          go_wp2_with (go_at_call 47; refine (Hp.out _ HMx.out).mono ?_; rintro e w2 ⟨rfl, hb⟩; have cz2 := fun i => (HZ.out.below hb HZ.out.lt).cell i; have HZ2 := Lib.hid (HZ.out.below hb HZ.out.lt); have HB := Lib.hid (HOx.out.step hb); clear hb)
          clear cz2
          have hcut : Below w.heap.size w wo := HOr2.out.2
          have HBo := Lib.hid hcut
          clear hcut
          go_loopw [64] (fun i wr => ∃ j : Nat, j ≤ es.length ∧ i = .int .i64 j ∧ erasOk es j = true ∧ One w w.heap.size 26 CS wr ∧ Blk wr wo.heap.size 49 #[.string zn, .slice zA es.length zc]) (fun i _ => es.length - (intOf i).toNat)
          case atStart => exact ⟨0, Nat.zero_le _, rfl, rfl, HB.out, HZ2.out⟩
          case round =>
            obtain ⟨j, hj, rfl, hok, hone, hzk⟩ := hrel
            have Hok := Lib.hid hok; have HOj := Lib.hid hone; have HZj := Lib.hid hzk
            clear hok hone hzk HB HZ2
            obtain ⟨wi, rfl⟩ : ∃ wi : World, wi = wr := ⟨_, rfl⟩
            by_cases hjn : j < es.length
            · obtain ⟨ad3, hA3, had3, d0, d1, d2, d3, d4, d5, d6, d7, d8, d9, d10, d11, d12⟩ := era_cells (Hre.out.below HOj.out.2) hjn rfl
              subst hA3
              have hte := Hte.out es[j] (List.getElem_mem hjn)
              have hst : erasOk es (j + 1) = (eraB es[j] && (es[j].till == decide (((j : Nat) : Int) < (es.length : Int) - 1))) := by rw [erasOk, Hok.out, List.getElem?_eq_getElem hjn, Bool.true_and]
              have hno : erasOk es (j + 1) = false → b = false := fun e => by rw [Hzb2.out]; exact erasOk_no hjn e
              have He := Lib.hid (fun z (h : z.cell? ⟨0, 0, none⟩ = some (.int .i64 m)) => eraRight_any es[j] m z hte.1 hte.2 h)
              have Hst2 := Lib.hid hst; have Hno2 := Lib.hid hno
              clear hst hno hte
              simp only [Era.cells] at He
              generalize eraB es[j] = be at *
              generalize es[j] = x at *
              obtain ⟨x0, x1, x2, x3, x4, x5, x6, ⟨y0, y1, y2, y3, y4, y5⟩⟩ := x
              simp only at d0 d1 d2 d3 d4 d5 d6 d7 d8 d9 d10 d11 d12 He Hst2
              have hbe := (Below.refl wi.heap.size wi).alloc (Nat.le_refl _) (.cells #[.int .i64 x0, .int .i64 x1, .int .i64 x2, .string x3, .string x4, .bool x5, .int .i64 x6, .int .i64 y0, .int .i64 y1, .int .i64 y2, .int .i64 y3, .int .i64 y4, .int .i64 y5] 57)
              have hox := HOj.out.step hbe
              have heb := Blk.new wi 57 #[.int .i64 x0, .int .i64 x1, .int .i64 x2, .string x3, .string x4, .bool x5, .int .i64 x6, .int .i64 y0, .int .i64 y1, .int .i64 y2, .int .i64 y3, .int .i64 y4, .int .i64 y5]
              have HOe := Lib.hid hox; have HE := Lib.hid heb; have HZe := Lib.hid (HZj.out.below hbe HZj.out.lt)
              have HMe := Lib.hid (cell_later hox.2 HM.out)
              clear hbe hox heb
              have hwl : IntKind.i64.wrap ((es.length : Int) - 1) = (es.length : Int) - 1 := IntWalk.i64_in _ (by omega)
              obtain ⟨lb, hlb⟩ : ∃ lb, decide (((j : Nat) : Int) < (es.length : Int) - 1) = lb := ⟨_, rfl⟩
              rw [hlb] at Hst2
              cases be
              · have hq : Q = false := by rw [← HQ2.out, Hno.out (Hno2.out (by rw [Hst2.out]; rfl)), Bool.false_and]
                subst hq
                clear HQ2 Hno Hno2 Hst2 Hst
                go_wp2_with (go_at_call 106; refine (He.out _ HMe.out).mono ?_; rintro e w3 ⟨rfl, hb⟩; have HB3 := Lib.hid (HOe.out.step hb); clear hb)
                go_ret
                exact ⟨rfl, HB3.out.2⟩
              · cases hx : (x5 == lb)
                · have hq : Q = false := by rw [← HQ2.out, Hno.out (Hno2.out (by rw [Hst2.out, hx]; rfl)), Bool.false_and]
                  subst hq
                  clear HQ2 Hno Hno2 Hst2 Hst
                  go_wp2_with (go_at_call 106; refine (He.out _ HMe.out).mono ?_; rintro e w3 ⟨rfl, hb⟩; have HB3 := Lib.hid (HOe.out.step hb); have ce := fun i => (HE.out.below hb HE.out.lt).cell i; have cz := fun i => (HZe.out.below hb HZe.out.lt).cell i; clear hb)
                  go_ret
                  exact ⟨rfl, HB3.out.2⟩
                · have hst3 : erasOk es (j + 1) = true := by rw [Hst2.out, hx]; rfl
                  have Hst3 := Lib.hid hst3
                  clear Hst2 hst3 Hno2
                  go_wp2_with (go_at_call 106; refine (He.out _ HMe.out).mono ?_; rintro e w3 ⟨rfl, hb⟩; have HB3 := Lib.hid (HOe.out.step hb); have ce := fun i => (HE.out.below hb HE.out.lt).cell i; have cz := fun i => (HZe.out.below hb HZe.out.lt).cell i; have HZ3 := Lib.hid (HZe.out.below hb HZe.out.lt); clear hb)
                  exact ⟨⟨j + 1, by omega, by go_num, Hst3.out, HB3.out, HZ3.out⟩, by simp [intOf]; omega⟩
            · obtain rfl : j = es.length := by omega
              have hbt : b = true := by rw [Hzb2.out, Hok.out]
              have hst2 : (zs.take (k + 1)).all zoneB = true := by rw [Hst.out, hbt]
              have Hst2 := Lib.hid hst2
              clear hst2 Hst Hno Hzb2
              go_wp2
              exact ⟨⟨k + 1, by omega, by go_num, Hst2.out, HOj.out⟩, by simp [intOf]; omega⟩
        · obtain rfl : k = zs.length := by omega
          have hq := HQ2.out
          rw [List.take_length] at Hall
          rw [Hall.out, Bool.true_and] at hq
          have HQ3 := Lib.hid hq
          clear hq HQ2 Hall
          have c0 := fun i => HOr2.out.1.cell i
          rw [← HCS.out] at c0
          go_wp2_with fail
          clear c0
          go_loopw [88] (fun i wr => ∃ k : Nat, k ≤ ls.length ∧ i = .int .i64 k ∧ (ls.take k).all linkB = true ∧ Below w.heap.size w wr) (fun i _ => ls.length - (intOf i).toNat)
          case atStart => exact ⟨0, Nat.zero_le _, rfl, rfl, HOr2.out.2⟩
          case round =>
            obtain ⟨k, hk, rfl, hall, hb⟩ := hrel
            have Hall := Lib.hid hall; have HB := Lib.hid hb
            clear hall hb HOr2
            clear wo
            obtain ⟨wo, rfl⟩ : ∃ wo : World, wo = wr := ⟨_, rfl⟩
            by_cases hkn : k < ls.length
            · obtain ⟨ad, hA, hadb, a0, a1⟩ := link_cells (H.out.rl.below HB.out) hkn rfl
              subst hA
              have hst := all_step linkB ls k hkn Hall.out
              have hno := all_no linkB ls k hkn
              have htl := H.out.tl ls[k] (List.getElem_mem hkn)
              have Hst := Lib.hid hst; have Hno := Lib.hid hno
              clear hst hno
              generalize hl : ls[k] = l at *
              have hlb : linkB l = (placeB l.target && placeB l.name) := rfl
              generalize linkB l = b at *
              have Hlb := Lib.hid hlb
              clear hlb hl
              obtain ⟨lt, ln⟩ := l
              simp only at a0 a1 htl Hlb
              have Hp1 := Lib.hid (fun z (h : z.cell? ⟨0, 0, none⟩ = some (.int .i64 m)) => place_any lt m z htl.1 h)
              have Hp2 := Lib.hid (fun z (h : z.cell? ⟨0, 0, none⟩ = some (.int .i64 m)) => place_any ln m z htl.2 h)
              have hzb := HB.out.size
              have hbx := HB.out.alloc hzb (.cells #[.string lt, .string ln] 142)
              have HL := Lib.hid (Blk.new wo 142 #[.string lt, .string ln])
              have HBx := Lib.hid hbx
              have HMx := Lib.hid (cell_later hbx HM.out)
              have cl := fun i => HL.out.cell i
              clear hbx
              generalize placeB lt = b1 at *
              generalize placeB ln = b2 at *
              cases b1
              · have hq : Q = false := by rw [← HQ3.out, Hno.out (by rw [Hlb.out]; rfl)]
                subst hq
                clear HQ3 Hno Hst Hlb
                go_wp2_with (go_at_call 47; refine (Hp1.out _ HMx.out).mono ?_; rintro e w2 ⟨rfl, hb⟩; have HB2 := Lib.hid (HBx.out.trans (hb.mono HBx.out.size)); clear hb)
                go_ret
                exact ⟨rfl, HB2.out⟩
              · cases b2
                · have hq : Q = false := by rw [← HQ3.out, Hno.out (by rw [Hlb.out]; rfl)]
                  subst hq
                  clear HQ3 Hno Hst Hlb
                  go_wp2_with (first
                    | (go_at_call 47; have tk := tok; refine (Hp2.out _ HM2.out).mono ?_; rintro e w3 ⟨rfl, hb⟩; have HB3 := Lib.hid (HB2.out.trans (hb.mono HB2.out.size)); clear hb)
                    | (go_at_call 47; refine (Hp1.out _ HMx.out).mono ?_; rintro e w2 ⟨rfl, hb⟩; have HB2 := Lib.hid (HBx.out.trans (hb.mono HBx.out.size)); have cl2 := fun i => (HL.out.below hb HL.out.lt).cell i; have HM2 := Lib.hid (cell_later HB2.out HM.out); clear hb; have tok : True := trivial))
                  go_ret
                  exact ⟨rfl, HB3.out⟩
                · have hst2 : (ls.take (k + 1)).all linkB = true := by rw [Hst.out, Hlb.out]; rfl
                  have Hst2 := Lib.hid hst2
                  clear Hno Hst Hlb hst2
                  go_wp2_with (first
                    | (go_at_call 47; have tk := tok; refine (Hp2.out _ HM2.out).mono ?_; rintro e w3 ⟨rfl, hb⟩; have HB3 := Lib.hid (HB2.out.trans (hb.mono HB2.out.size)); clear hb)
                    | (go_at_call 47; refine (Hp1.out _ HMx.out).mono ?_; rintro e w2 ⟨rfl, hb⟩; have HB2 := Lib.hid (HBx.out.trans (hb.mono HBx.out.size)); have cl2 := fun i => (HL.out.below hb HL.out.lt).cell i; have HM2 := Lib.hid (cell_later HB2.out HM.out); clear hb; have tok : True := trivial))
                  exact ⟨⟨k + 1, by omega, by go_num, Hst2.out, HB3.out⟩, by simp [intOf]; omega⟩
            · obtain rfl : k = ls.length := by omega
              rw [List.take_length] at Hall
              have hq : Q = true := by rw [← HQ3.out, Hall.out]
              subst hq
              clear HQ3
              go_wp2
              go_ret
              exact ⟨rfl, HB.out⟩
end Go.Proofs.YtdicedpklpadgaaGreatDoor.Src
