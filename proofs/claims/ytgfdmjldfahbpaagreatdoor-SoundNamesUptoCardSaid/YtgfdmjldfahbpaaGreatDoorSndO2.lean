/-
  Package sound: the contract of zones. Conditions: the source may be; what its slices hold is read; rules.Ahead answers.
-/
import Derived.Test.YtgfdmjldfahbpaaGreatDoorSndQ
namespace Go.Proofs.YtgfdmjldfahbpaaGreatDoor.Snd
open Go.RowKit Mem Civ Mom Img Plc Rul Src Go.Maps

/-- The place of the first era that is wrong. -/
def zErr (rs : List Rule) (sv : Era → Int) (es : List Era) : Option Nat := (List.range es.length).find? fun k => !decide (eraAt rs sv es k = 0)
theorem zErr_hit {rs : List Rule} {sv : Era → Int} {es : List Era} {k : Nat} (hk : k < es.length) (h : ∀ j, j < k → eraAt rs sv es j = 0) (hne : ¬ eraAt rs sv es k = 0) : zErr rs sv es = some k := by
  unfold zErr
  rw [List.find?_range_eq_some]
  refine ⟨by simp [hne], List.mem_range.2 hk, fun j hj => by simp [h j hj]⟩
theorem zErr_none {rs : List Rule} {sv : Era → Int} {es : List Era} (h : ∀ j, j < es.length → eraAt rs sv es j = 0) : zErr rs sv es = none := by
  unfold zErr
  rw [List.find?_eq_none]
  intro j hj
  simp [h j (List.mem_range.1 hj)]
def zonesL (rs : List Rule) (sv : Era → Int) : List ByteArray → List ZoneM → Nat → Flaw
  | _, [], _ => noFlaw
  | seen, z :: t, i => if inL seen z.name = true then ⟨10, 2, i, 0⟩ else match zErr rs sv z.eras with
    | some k => ⟨eraAt rs sv z.eras k, 2, i, k⟩
    | none => zonesL rs sv (seen ++ [z.name]) t (i + 1)
def zonesB (s : Src) (sv : Era → Int) : Flaw := zonesL s.rules sv [] s.zones 0
theorem zones_results {w : World} {R0 : Nat} {a0 a1 a2 a3 : Value} (h : Blk w R0 31 #[a0, a1, a2, a3]) (tmps : Array Value) (ht : tmps[2]? = some (.pointer (some ⟨R0, 0, none⟩))) : (results Tryz.f20 tmps).run Tryz.prog w = .ok (.agg #[a0, a1, a2, a3]) w := by
  have hc := fun i => h.cell i
  simp [results, Tryz.results20, go_sem, hc, ht]
set_option maxHeartbeats 2000000 in
set_option maxRecDepth 100000 in
theorem zones_any (s : Src) (sv : Era → Int) (A A2 A3 : Option Addr) (c c2 c3 : Nat) (m : Int) (w : World) (h : SrcOk s A A2 A3 w) (hm : w.cell? ⟨0, 0, none⟩ = some (.int .i64 m)) (hs : srcB s = true) (hEA : EA s sv) :
    Calls Tryz.prog 20 #[.agg #[.slice A s.rules.length c, .slice A2 s.zones.length c2, .slice A3 s.links.length c3]] w fun e w' => e = .returned (.agg (zonesB s sv).cells.toArray) ∧ Below w.heap.size w w' := by
  have hE := fun i k hi hk z (hb : Below w.heap.size w z) => era_at s sv A A2 A3 c c2 c3 m i k z (h.below hb) (cell_later hb hm) hs hEA hi hk
  have hrz := h.rz; have nz := h.nz; have tz := h.tz; have hre := h.re; have ne := h.ne
  clear h hm hs hEA
  obtain ⟨Q, hQ⟩ : ∃ Q, zonesB s sv = Q := ⟨_, rfl⟩
  rw [hQ]
  unfold zonesB at hQ
  obtain ⟨rs, zs, ls⟩ := s
  simp only at hE hrz nz tz hre ne hQ ⊢
  have hmm := @run_makeMap Tryz.prog
  have hst := Two.start w #[.slice A rs.length c, .slice A2 zs.length c2, .slice A3 ls.length c3]
  obtain ⟨W, hW⟩ : ∃ W, (w.alloc (.cells #[.slice A rs.length c, .slice A2 zs.length c2, .slice A3 ls.length c3] 26)).alloc (.cells #[.int .i64 0, .int .i64 0, .int .i64 0, .int .i64 0] 31) = W := ⟨_, rfl⟩
  rw [hW] at hst
  have hsz : w.heap.size + 1 < W.heap.size := hst.res.lt
  have HT := Lib.hid hst; have HR := Lib.hid hrz; have HQ := Lib.hid hQ; have HE := Lib.hid hE; have Htz := Lib.hid tz; have HRe := Lib.hid hre; have HNe := Lib.hid ne
  have HM0 := Lib.hid (World.ownsMap_made W Tryz.prog 9 (plainElem (H := Unit) Tryz.prog 4))
  have ca := fun o i => (hst.src.alloc o).cell i
  clear hst hrz hQ hE tz hre ne
  go_enter Tryz.func20, Tryz.ntmps20
  go_wp2_with fail
  clear ca
  obtain ⟨b, hb⟩ : ∃ b, b = W.heap.size := ⟨_, rfl⟩
  have HS0 : Hid (Sd w #[.slice A rs.length c, .slice A2 zs.length c2, .slice A3 ls.length c3] b 0 [] (W.alloc (.map #[] 0))) := by
    rw [hb]
    exact ⟨HT.out.alloc _, ⟨_, HM0.out, SM.empty⟩⟩
  rw [← hb] at hsz ⊢
  clear hb HT HM0 hW
  go_loopw [13] (fun i wr => ∃ (k : Nat) (seen : List ByteArray) (n : Nat), k ≤ zs.length ∧ n ≤ k ∧ i = .int .i64 k ∧ zonesL rs sv seen (zs.drop k) k = Q ∧ Sd w #[.slice A rs.length c, .slice A2 zs.length c2, .slice A3 ls.length c3] b n seen wr) (fun i _ => zs.length - (intOf i).toNat)
  case atStart => exact ⟨0, [], 0, Nat.zero_le _, Nat.le_refl _, rfl, by rw [List.drop_zero]; exact HQ.out, HS0.out⟩
  case round =>
    clear HS0 HQ
    obtain ⟨k, seen, n, hk, hnk, rfl, hq, hsd⟩ := hrel
    have HS := Lib.hid hsd; have Hq := Lib.hid hq
    clear hsd hq
    by_cases hkn : k < zs.length
    · obtain ⟨ad, hA, hadb, a0, a1⟩ := zone_cells (HR.out.below HS.out.two.bel) hkn rfl
      subst hA
      have hmem := List.getElem_mem hkn
      have hsz2 := Htz.out zs[k] hmem
      have hkey := nm_key hsz2
      have hlook := fun o => (HS.out.map.alloc o).look hsz2
      have hdr : zs.drop k = zs[k] :: zs.drop (k + 1) := List.drop_eq_getElem_cons hkn
      have hq := Hq.out
      rw [hdr, zonesL] at hq
      have Hq2 := Lib.hid hq
      have HRk := Lib.hid (HRe.out zs[k] hmem)
      have hne := HNe.out zs[k] hmem
      have hEk := fun j hj => HE.out k j hkn hj
      clear hq hdr Hq hsz2 hmem
      obtain ⟨x, hx⟩ : ∃ x, x = zs[k]'hkn := ⟨_, rfl⟩
      rw [← hx] at hEk
      simp only [← hx] at a0 a1 hkey hlook Hq2 HRk hne
      clear hx
      obtain ⟨x0, es, Az, cz⟩ := x
      simp only at a0 a1 hkey hlook Hq2 HRk hne hEk
      have HEk := Lib.hid hEk
      clear hEk
      have HSa := Lib.hid (HS.out.alloc (.cells #[.string x0, .slice Az es.length cz] 41))
      obtain ⟨q, hqq⟩ : ∃ q, inL seen x0 = q := ⟨_, rfl⟩
      simp only [hqq] at hlook Hq2
      clear hqq
      cases q
      rotate_left
      · have hq := Hq2.out
        simp only [if_true] at hq
        subst hq
        have ht := HSa.out.two
        have fR := fun i => ht.res.frozen i
        have cR := fun i => ht.res.cell i
        have HF := Lib.hid (ht.fill (.int .i64 10) (.int .i64 2) (.int .i64 k) (.int .i64 0))
        clear ht
        go_wp2_with fail
        refine bodyPost_ret (zones_results HF.out.res _ rfl) rfl ?_
        exact ⟨rfl, HF.out.bel⟩
      · have hq := Hq2.out
        simp only [Bool.false_eq_true, if_false] at hq
        have Hq3 := Lib.hid hq
        obtain ⟨D, hown, hsm⟩ := HS.out.map
        have Hown := Lib.hid hown; have Hsm := Lib.hid hsm; have Hbw := Lib.hid hsz
        have hblk := Blk.new wr 41 #[.string x0, .slice Az es.length cz]
        have Hblk := Lib.hid hblk
        have hblt := HS.out.map.lt
        clear hq hown hsm Hq2 hblk
        go_upto_region 8 with ((at_mapUpdate; refine wpList_mapUpdate_own (H := Unit) _ rfl _ _ _ 61 rfl 9 4 setLaw Tryz.underlying61 (plainElem Tryz.prog 4) b n D rfl (Hown.out.alloc _) (by unfold maxLen; omega) _ _ _ rfl rfl hkey (.lit (.bool true)) [] (plainElem_bool Tryz.underlying4 true) ?_; intro w1 hmap1 hg1; have Hmap1 := Lib.hid hmap1; have Hg1 := Lib.hid hg1; clear hmap1 hg1))
        have HS1 : Hid (Sd w #[.slice A rs.length c, .slice (some ad) zs.length c2, .slice A3 ls.length c3] b (n + 1) (seen ++ [x0]) w1) := by
          have ht := HSa.out.two
          refine ⟨⟨?_, ?_, ?_⟩, ⟨_, Hmap1.out, ?_⟩⟩
          · exact ht.src.grown Hg1.out (by have := Hbw.out; intro e; injection e with e; omega)
          · exact ht.res.grown Hg1.out (by have := Hbw.out; intro e; injection e with e; omega)
          · exact ht.bel.grown Hg1.out ht.bel.size (fun j hj => by have := Hbw.out; injection hj with hj; omega)
          · rw [keyL, List.map_append]
            exact Hsm.out.put _
        have hx1 := Hblk.out.grown Hg1.out (by intro e; injection e with e; omega)
        have cx := fun i => hx1.cell i
        clear a0 a1 hlook hx1 Hblk HSa HS Hown Hsm hkey HE
        go_wp2_with fail
        clear cx
        go_loopw [30] (fun i wz => ∃ j : Nat, j ≤ es.length ∧ i = .int .i64 j ∧ (∀ t, t < j → eraAt rs sv es t = 0) ∧ Sd w #[.slice A rs.length c, .slice (some ad) zs.length c2, .slice A3 ls.length c3] b (n + 1) (seen ++ [x0]) wz) (fun i _ => es.length - (intOf i).toNat)
        case atStart => exact ⟨0, Nat.zero_le _, rfl, (fun t ht => absurd ht (Nat.not_lt_zero _)), HS1.out⟩
        case round =>
          clear HS1
          obtain ⟨j, hj, rfl, hz, hsd⟩ := hrel
          have HS3 := Lib.hid hsd; have HZ := Lib.hid hz
          clear hsd hz
          by_cases hjn : j < es.length
          · obtain ⟨ad2, hA2, hadb2, d0, d1, d2, d3, d4, d5, d6, d7, d8, d9, d10, d11, d12⟩ := era_cells (HRk.out.below HS3.out.two.bel) hjn rfl
            subst hA2
            have hEj := HEk.out j hjn
            have HHit := Lib.hid (fun hne => zErr_hit (rs := rs) (sv := sv) hjn HZ.out hne)
            obtain ⟨E, hE⟩ : ∃ E, E = eraAt rs sv es j := ⟨_, rfl⟩
            rw [← hE] at hEj HHit
            have HEe := Lib.hid hE
            obtain ⟨y, hy⟩ : ∃ y, y = es[j] := ⟨_, rfl⟩
            simp only [← hy] at d0 d1 d2 d3 d4 d5 d6 d7 d8 d9 d10 d11 d12 hEj
            clear hy hE
            obtain ⟨y0, y1, y2, y3, y4, y5, y6, ⟨u0, u1, u2, u3, u4, u5⟩⟩ := y
            simp only [Era.cells] at d0 d1 d2 d3 d4 d5 d6 d7 d8 d9 d10 d11 d12 hEj
            have HEj := Lib.hid hEj
            have HS4 := Lib.hid (HS3.out.alloc (.cells #[.int .i64 y0, .int .i64 y1, .int .i64 y2, .string y3, .string y4, .bool y5, .int .i64 y6, .int .i64 u0, .int .i64 u1, .int .i64 u2, .int .i64 u3, .int .i64 u4, .int .i64 u5] 45))
            have cS := fun i => HS4.out.two.src.cell i
            clear hEj
            by_cases h0 : E = 0
            · subst h0
              have HZ2 : Hid (∀ t, t < j + 1 → eraAt rs sv es t = 0) := fun t ht => by
                by_cases e : t = j
                · rw [e]; exact HEe.out.symm
                · exact HZ.out t (by omega)
              clear HHit HZ HEe
              go_wp2_with (go_at_call 45; refine (HEj.out _ HS4.out.two.bel).mono ?_; rintro e w4 ⟨rfl, hb⟩; have HS5 := Lib.hid (HS4.out.step hb); clear hb)
              exact ⟨⟨j + 1, by omega, by go_num, HZ2.out, HS5.out⟩, by simp [intOf]; omega⟩
            · have hq := Hq3.out
              rw [HHit.out h0] at hq
              simp only [← HEe.out] at hq
              subst hq
              have h0b : (E == 0) = false := by simp [h0]
              have h0c : (E != 0) = true := by simp [h0]
              clear HHit HZ HEe h0
              go_wp2_with (go_at_call 45; refine (HEj.out _ HS4.out.two.bel).mono ?_; rintro e w4 ⟨rfl, hb⟩; have ht := (HS4.out.step hb).two; have fR := fun i => ht.res.frozen i; have cR := fun i => ht.res.cell i; have HF := Lib.hid (ht.fill (.int .i64 E) (.int .i64 2) (.int .i64 k) (.int .i64 j)); clear hb ht)
              refine bodyPost_ret (zones_results HF.out.res _ rfl) rfl ?_
              exact ⟨rfl, HF.out.bel⟩
          · obtain rfl : j = es.length := by omega
            have hq := Hq3.out
            rw [zErr_none HZ.out] at hq
            simp only at hq
            have Hq4 := Lib.hid hq
            clear hq Hq3 HZ
            go_wp2_with fail
            exact ⟨⟨k + 1, seen ++ [x0], n + 1, by omega, by omega, by go_num, Hq4.out, HS3.out⟩, by simp [intOf]; omega⟩
    · obtain rfl : k = zs.length := by omega
      have hq := Hq.out
      rw [List.drop_length, zonesL] at hq
      subst hq
      have ht := HS.out.two
      have fR := fun i => ht.res.frozen i
      have cR := fun i => ht.res.cell i
      have HF := Lib.hid (ht.fill (.int .i64 0) (.int .i64 0) (.int .i64 0) (.int .i64 0))
      clear Hq ht
      go_wp2_with fail
      refine bodyPost_ret (zones_results HF.out.res _ rfl) rfl ?_
      exact ⟨rfl, HF.out.bel⟩
end Go.Proofs.YtgfdmjldfahbpaaGreatDoor.Snd
