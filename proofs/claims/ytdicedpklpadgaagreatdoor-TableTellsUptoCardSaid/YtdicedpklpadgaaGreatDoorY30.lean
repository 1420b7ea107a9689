/-
  Package table: last, the greatest year that a zone names. Conditions: what the source's slices hold is read.
  Compile in plain words: era by era; thirty thousand shifts at most. Conditions: none.
-/
import Derived.Test.YtdicedpklpadgaaGreatDoorY26
set_option linter.all false
section
namespace Go.Proofs.YtdicedpklpadgaaGreatDoor.Cmq
open Go.RowKit Mem Civ Mom Img Rul Ahd Trn Src Snd Att Rgt Abr

theorem lastE_fold (rs : List Rule) (es : List Era) (k : Nat) (hk : k < es.length) (y : Int) : (es.take (k + 1)).foldl (lastE rs) y = lastE rs ((es.take k).foldl (lastE rs) y) es[k] := by
  rw [List.take_succ_eq_append_getElem hk, List.foldl_append]
  rfl
theorem lastY_fold (l : List Rule) (k : Nat) (hk : k < l.length) (y : Int) : (l.take (k + 1)).foldl lastY1 y = lastY1 ((l.take k).foldl lastY1 y) l[k] := by
  rw [List.take_succ_eq_append_getElem hk, List.foldl_append]
  rfl
set_option maxHeartbeats 2000000 in
set_option maxRecDepth 100000 in
theorem tlast_any (s : Src) (A A2 A3 : Option Addr) (c c2 c3 : Nat) (z : ZoneM) (w : World) (h : SrcOk s A A2 A3 w) (hz : z ∈ s.zones) :
    Calls Tryz.prog 24 #[.agg #[.slice A s.rules.length c, .slice A2 s.zones.length c2, .slice A3 s.links.length c3], .agg #[.string z.name, .slice z.A z.eras.length z.c]] w fun e w' =>
      e = .returned (.int .i64 (lastZ s.rules z.eras)) ∧ Below w.heap.size w w' := by
  have hE := fun nm zz (hb : Below w.heap.size w zz) => eset_any s A A2 A3 c c2 c3 nm zz (h.below hb)
  have hre := h.re z hz
  have hne := h.ne z hz
  have hnr := h.nr
  clear h hz
  obtain ⟨Q, hQ⟩ : ∃ Q, lastZ s.rules z.eras = Q := ⟨_, rfl⟩
  rw [hQ]
  unfold lastZ at hQ
  obtain ⟨rs, zs, ls⟩ := s
  obtain ⟨nm, es, B, cz⟩ := z
  simp only at hE hre hne hQ hnr ⊢
  have hb2 := box2 w 26 49 #[.slice A rs.length c, .slice A2 zs.length c2, .slice A3 ls.length c3] #[.string nm, .slice B es.length cz]
  obtain ⟨W, hW⟩ : ∃ W, (w.alloc (.cells #[.slice A rs.length c, .slice A2 zs.length c2, .slice A3 ls.length c3] 26)).alloc (.cells #[.string nm, .slice B es.length cz] 49) = W := ⟨_, rfl⟩
  rw [hW] at hb2
  obtain ⟨b0, b1, hbw, hsz⟩ := hb2
  have HB0 := Lib.hid b0; have HBw := Lib.hid hbw; have HE := Lib.hid hE; have HRe := Lib.hid hre; have HQ := Lib.hid hQ
  have c1 := fun i => b1.cell i
  have hslt := b0.lt
  clear b0 b1 hbw hE hre hQ
  go_enter Tryz.func24, Tryz.ntmps24
  go_wp2_with fail
  go_loopw [5, 13] (fun y i wr => ∃ k : Nat, k ≤ es.length ∧ i = .int .i64 k ∧ y = .int .i64 ((es.take k).foldl (lastE rs) 2037) ∧ Below w.heap.size w wr ∧ Blk wr w.heap.size 26 #[.slice A rs.length c, .slice A2 zs.length c2, .slice A3 ls.length c3]) (fun _ i _ => es.length - (intOf i).toNat)
  case atStart => exact ⟨0, Nat.zero_le _, rfl, rfl, HBw.out, HB0.out⟩
  case round =>
    clear HBw HB0 c1
    obtain ⟨k, hk, rfl, rfl, hb, hs⟩ := hrel
    have HB := Lib.hid hb; have HS := Lib.hid hs
    have c0 := fun o i => (hs.alloc o).cell i
    clear hb hs
    by_cases hkn : k < es.length
    · obtain ⟨ad, hA, hadb, a0, a1, a2, a3, a4, a5, a6, a7, a8, a9, a10, a11, a12⟩ := era_cells (HRe.out.below HB.out) hkn rfl
      subst hA
      have hf := lastE_fold rs es k hkn 2037
      have HF := Lib.hid hf
      have HBs := Lib.hid HB.out.size
      clear hf
      generalize (es.take k).foldl (lastE rs) 2037 = y0 at *
      generalize es[k] = x at *
      obtain ⟨x0, x1, x2, x3, x4, x5, x6, ⟨z0, z1, z2, z3, z4, z5⟩⟩ := x
      simp only at a0 a1 a2 a3 a4 a5 a6 a7 a8 a9 a10 a11 a12
      go_wp2_with (go_at_call 29; refine (HE.out _ _ (HB.out.alloc HBs.out _)).mono ?_; rintro e w2 ⟨v, rfl, hown, hb⟩; have hs2 := (HS.out.alloc _).below hb (by have := HS.out.lt; simp; omega); have HS2 := Lib.hid hs2; have HB2 := Lib.hid ((HB.out.alloc HBs.out _).trans (hb.mono (by have := HBs.out; simp; omega))); obtain ⟨Av, cv, rfl⟩ := own_slice hown; have HRl := Lib.hid (Reads.of_own hown); clear hown hb hs2 c0)
      obtain ⟨l, hl⟩ : ∃ l, setL rs x3 = l := ⟨_, rfl⟩
      obtain ⟨Y1, hY1⟩ : ∃ Y1, (es.take (k + 1)).foldl (lastE rs) 2037 = Y1 := ⟨_, rfl⟩
      have hll : l.length ≤ 1000000 := by rw [← hl]; exact Nat.le_trans (setL_len rs x3) hnr
      have hf : Y1 = l.foldl lastY1 (max y0 x6) := by rw [← hY1, HF.out, lastE, ← hl]
      rw [hl] at HRl
      simp only [hl]
      have HF2 := Lib.hid hf; have HY1 := Lib.hid hY1
      clear hf hl HF hY1
      generalize max y0 x6 = y1 at *
      go_loopw [5, 26] (fun y i wz => ∃ j : Nat, j ≤ l.length ∧ i = .int .i64 j ∧ y = .int .i64 ((l.take j).foldl lastY1 y1) ∧ Below w2.heap.size w2 wz) (fun _ i _ => l.length - (intOf i).toNat)
      case atStart => exact ⟨0, Nat.zero_le _, rfl, rfl, Below.refl _ _⟩
      case round =>
        obtain ⟨j, hj, rfl, rfl, hb⟩ := hrel
        have HB3 := Lib.hid hb
        clear hb
        by_cases hjn : j < l.length
        · obtain ⟨ad2, hA2, hadb2, d0, d1, d2, d3, d4, d5, d6, d7, d8, d9, d10⟩ := rule_cells (HRl.out.below HB3.out) hjn
          subst hA2
          have hg := lastY_fold l j hjn y1
          have HG := Lib.hid hg
          have HBz := Lib.hid HB3.out.size
          clear hg
          generalize (l.take j).foldl lastY1 y1 = y2 at *
          generalize l[j] = r at *
          obtain ⟨r0, r1, r2, r3, r4, r5, r6, r7, r8, r9, r10⟩ := r
          simp only at d0 d1 d2 d3 d4 d5 d6 d7 d8 d9 d10
          by_cases h6 : r2 = 1000000
          · subst h6
            go_wp2_with fail
            exact ⟨⟨j + 1, by omega, by go_num, by rw [HG.out]; simp only [lastY1, if_pos], HB3.out.alloc HBz.out _⟩, by simp [intOf]; omega⟩
          · have h6b : (r2 == 1000000) = false := by simp [h6]
            go_wp2_with fail
            exact ⟨⟨j + 1, by omega, by go_num, by rw [HG.out]; simp only [lastY1, if_neg h6]; congr 1; omega, HB3.out.alloc HBz.out _⟩, by simp [intOf]; omega⟩
        · obtain rfl : j = l.length := by omega
          rw [List.take_length, ← HF2.out]
          go_wp2
          exact ⟨⟨k + 1, by omega, by go_num, by rw [HY1.out], HB2.out.trans (HB3.out.mono HB2.out.size), HS2.out.below HB3.out HS2.out.lt⟩, by simp [intOf]; omega⟩
    · obtain rfl : k = es.length := by omega
      rw [List.take_length, HQ.out]
      go_wp2
      refine bodyPost_ret (v := .int .i64 Q) (by simp [results, Tryz.results24, go_sem]) rfl ?_
      exact ⟨rfl, HB.out⟩
end Go.Proofs.YtdicedpklpadgaaGreatDoor.Cmq
end
section
namespace Go.Proofs.YtdicedpklpadgaaGreatDoor.Cmq
open Go.RowKit Mem Civ Mom Img Rul Ahd Trn Src Snd Att Rgt Abr

theorem erasPut_snoc (s : Src) (first : Phase) (till year : Int) (x : Era) : ∀ (l : List Era) (i : Bool) (m : (List Shift × Bool) × Int),
    erasPut s first till year (l ++ [x]) i m = eraPut s first till year (i || !l.isEmpty) (erasPut s first till year l i m) x
  | [], i, m => by simp [erasPut]
  | y :: l, i, m => by
    rw [List.cons_append]
    simp only [erasPut]
    rw [erasPut_snoc s first till year x l true]
    simp
theorem cutAt_len (a : Int) (l : List Shift) : (cutAt a l).length ≤ l.length := by
  unfold cutAt
  split
  · split
    · simp
    · exact Nat.le_refl _
  · exact Nat.le_refl _
theorem putP_len {first : Phase} {till : Int} {m : List Shift × Bool} (a : Int) (p : Phase) (h : m.1.length ≤ 30000) : (putP first till m a p).1.length ≤ 30000 := by
  have hc := cutAt_len a m.1
  unfold putP
  split
  · exact Nat.le_trans hc h
  · split
    · exact Nat.le_trans hc h
    · next hn =>
      simp only [List.length_append, List.length_cons, List.length_nil]
      have : ¬ (cutAt a m.1).length = 30000 := fun e => hn (.inr e)
      omega
theorem turnPut_len {first : Phase} {till : Int} {x : Era} {a b : Int} {m : List Shift × Bool} (t : TurnU) (h : m.1.length ≤ 30000) : (turnPut first till x a b m t).1.length ≤ 30000 := by
  unfold turnPut
  split
  · exact h
  · exact putP_len _ _ h
theorem turns_len {first : Phase} {till : Int} {x : Era} {a b : Int} : ∀ (l : List TurnU) (m : List Shift × Bool), m.1.length ≤ 30000 → (l.foldl (turnPut first till x a b) m).1.length ≤ 30000
  | [], _, h => h
  | t :: l, m, h => turns_len l _ (turnPut_len t h)
theorem eraPut_len {s : Src} {first : Phase} {till year : Int} {i : Bool} {m : (List Shift × Bool) × Int} {x : Era} (h : m.1.1.length ≤ 30000) : (eraPut s first till year i m x).1.1.length ≤ 30000 := by
  unfold eraPut
  refine turns_len _ _ ?_
  cases i
  · exact h
  · exact putP_len _ _ h
theorem erasPut_len {s : Src} {first : Phase} {till year : Int} : ∀ (l : List Era) (i : Bool) (m : (List Shift × Bool) × Int), m.1.1.length ≤ 30000 → (erasPut s first till year l i m).1.1.length ≤ 30000
  | [], _, _, h => h
  | x :: l, i, m, h => erasPut_len l true _ (eraPut_len h)
/-- The state behind the first eras. -/
def erasK (s : Src) (first : Phase) (till year : Int) (es : List Era) (k : Nat) : (List Shift × Bool) × Int := erasPut s first till year (es.take k) false (([], false), everT)
theorem erasK_succ (s : Src) (first : Phase) (till year : Int) (es : List Era) (k : Nat) (hk : k < es.length) : erasK s first till year es (k + 1) = eraPut s first till year (decide (0 < k)) (erasK s first till year es k) es[k] := by
  unfold erasK
  rw [List.take_succ_eq_append_getElem hk, erasPut_snoc]
  congr 1
  cases k with
  | zero => simp
  | succ n =>
    cases es with
    | nil => simp at hk
    | cons a t => simp
theorem erasK_len (s : Src) (first : Phase) (till year : Int) (es : List Era) (k : Nat) : (erasK s first till year es k).1.1.length ≤ 30000 := erasPut_len _ _ _ (by simp)
end Go.Proofs.YtdicedpklpadgaaGreatDoor.Cmq
end
