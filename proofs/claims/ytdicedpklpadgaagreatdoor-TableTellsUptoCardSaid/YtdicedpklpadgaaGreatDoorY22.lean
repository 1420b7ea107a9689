/-
  Package eras: the contract of Set; the document's Set. Conditions: what the source's slices hold is read.
  Package sound: the contract of sets. Conditions: what the source's slices hold is read, the names' lengths are bounded.
-/
import Derived.Test.YtdicedpklpadgaaGreatDoorY21
set_option linter.all false
namespace Go.Proofs.YtdicedpklpadgaaGreatDoor.Snd
open Go.RowKit Mem Civ Mom Img Plc Rul Src Go.Maps

def setL (rs : List Rule) (nm : ByteArray) : List Rule := rs.filter fun r => decide (r.name = nm)
theorem setL_step {rs : List Rule} {nm : ByteArray} {k : Nat} (hk : k < rs.length) : setL (rs.take (k + 1)) nm = if decide (rs[k].name = nm) = true then setL (rs.take k) nm ++ [rs[k]] else setL (rs.take k) nm := by
  unfold setL
  rw [List.take_succ_eq_append_getElem hk, List.filter_append]
  split
  · next h => simp [h]
  · next h => simp [h]
theorem setL_len (rs : List Rule) (nm : ByteArray) : (setL rs nm).length ≤ rs.length := List.length_filter_le _ _
theorem info_rule : (Tryz.prog.info? 59).map (fun i => (i.zero, i.size, i.bytes)) = some (some (.agg #[.string ⟨#[]⟩, .int .i64 0, .int .i64 0, .int .i64 0, .int .i64 0, .int .i64 0, .int .i64 0, .int .i64 0, .int .i64 0, .int .i64 0, .string ⟨#[]⟩]), 11, 104) := by kernel_rfl
theorem one_rule {x0 x10 : ByteArray} {x1 x2 x3 x4 x5 x6 x7 x8 x9 : Int} : ∀ u ∈ (#[Value.string x0, .int .i64 x1, .int .i64 x2, .int .i64 x3, .int .i64 x4, .int .i64 x5, .int .i64 x6, .int .i64 x7, .int .i64 x8, .int .i64 x9, .string x10] : Array Value).toList, u.oneCell' = true := by
  intro u hu
  simp at hu
  rcases hu with rfl | rfl | rfl | rfl | rfl | rfl | rfl | rfl | rfl | rfl | rfl <;> rfl
set_option maxHeartbeats 1000000 in
set_option maxRecDepth 100000 in
theorem eset_any (s : Src) (A A2 A3 : Option Addr) (c c2 c3 : Nat) (nm : ByteArray) (w : World) (h : SrcOk s A A2 A3 w) :
    Calls Tryz.prog 29 #[.agg #[.slice A s.rules.length c, .slice A2 s.zones.length c2, .slice A3 s.links.length c3], .string nm] w fun e w' => ∃ v, e = .returned v ∧ w'.ownsRow w.heap.size 59 11 v (setL s.rules nm).length ((setL s.rules nm).flatMap Rule.cells) ∧ Below w.heap.size w w' := by
  obtain ⟨i1, hi1, hy0, hy1, hy2⟩ := info_parts info_rule
  have hrr := h.rr; have nr := h.nr
  clear h
  obtain ⟨rs, zs, ls⟩ := s
  simp only at hrr nr ⊢
  have hone := One.new w 26 #[.slice A rs.length c, .slice A2 zs.length c2, .slice A3 ls.length c3]
  obtain ⟨W, hW⟩ : ∃ W, w.alloc (.cells #[.slice A rs.length c, .slice A2 zs.length c2, .slice A3 ls.length c3] 26) = W := ⟨_, rfl⟩
  rw [hW] at hone
  have HO := Lib.hid hone; have HR := Lib.hid hrr
  have c0 := fun i => hone.1.cell i
  clear hone hrr
  go_enter Tryz.func29, Tryz.ntmps29
  go_wp2_with fail
  clear c0
  go_loopw [5, 11] (fun v i wr => ∃ k : Nat, k ≤ rs.length ∧ i = .int .i64 k ∧ wr.ownsRow w.heap.size 59 11 v (setL (rs.take k) nm).length ((setL (rs.take k) nm).flatMap Rule.cells) ∧ Below w.heap.size w wr) (fun _ i _ => rs.length - (intOf i).toNat)
  case atStart => exact ⟨0, Nat.zero_le _, rfl, World.ownsRow_nil _ _ _ _, HO.out.2⟩
  case round =>
    clear HO
    obtain ⟨k, hk, rfl, hown, hb⟩ := hrel
    have hsl := setL_len (rs.take k) nm
    rw [List.length_take] at hsl
    have HOw := Lib.hid hown; have HB := Lib.hid hb; have Hsz := Lib.hid hb.size
    clear hown hb
    by_cases hkn : k < rs.length
    · obtain ⟨ad, hA, hadb, a0, a1, a2, a3, a4, a5, a6, a7, a8, a9, a10⟩ := rule_cells (HR.out.below HB.out) hkn
      subst hA
      have hst := setL_step (nm := nm) hkn
      have hbq := tl_beq rs[k].name nm
      have HSt := Lib.hid hst
      clear hst
      generalize rs[k] = x at *
      obtain ⟨x0, x1, x2, x3, x4, x5, x6, x7, x8, x9, x10⟩ := x
      simp only at a0 a1 a2 a3 a4 a5 a6 a7 a8 a9 a10 HSt hbq
      have m1 : (setL (rs.take k) nm).length + 1 ≤ maxLen := by unfold maxLen; omega
      have m2 : ((setL (rs.take k) nm).length + 1) * 104 ≤ 140737488355328 := by omega
      have M1 := Lib.hid m1; have M2 := Lib.hid m2
      clear m1 m2 hsl
      cases hd : decide (x0 = nm)
      · rw [hd] at HSt hbq
        go_wp2_with fail
        refine ⟨⟨k + 1, by omega, by go_num, ?_, HB.out.alloc Hsz.out _⟩, by simp [intOf]; omega⟩
        rw [HSt.out]
        simp only [Bool.false_eq_true, if_false]
        exact HOw.out.alloc _
      · rw [hd] at HSt hbq
        have HOa := Lib.hid (HOw.out.alloc (.cells #[.string x0, .int .i64 x1, .int .i64 x2, .int .i64 x3, .int .i64 x4, .int .i64 x5, .int .i64 x6, .int .i64 x7, .int .i64 x8, .int .i64 x9, .string x10] 59))
        have HBa := Lib.hid (HB.out.alloc Hsz.out (.cells #[.string x0, .int .i64 x1, .int .i64 x2, .int .i64 x3, .int .i64 x4, .int .i64 x5, .int .i64 x6, .int .i64 x7, .int .i64 x8, .int .i64 x9, .string x10] 59))
        have HSa := Lib.hid HBa.out.size
        generalize setL (rs.take k) nm = l1 at *
        go_wp2_with ((at_builtin; refine wpList_append1g (wr.alloc (.cells #[.string x0, .int .i64 x1, .int .i64 x2, .int .i64 x3, .int .i64 x4, .int .i64 x5, .int .i64 x6, .int .i64 x7, .int .i64 x8, .int .i64 x9, .string x10] 59)) rfl (.tmp 19) (.tmp 21) 22 rfl w.heap.size 59 i1 _ 11 104 Tryz.underlying22 hi1 hy0 hy1 hy2 rfl (by decide) _ l1.length (l1.flatMap Rule.cells) rfl HOa.out (by simp [Act.eval]) rfl one_rule M1.out M2.out HSa.out ?_; intro v' wB hown8 hg8; have HO2 := Lib.hid hown8; have HB2 := Lib.hid ((HBa.out.alloc HSa.out _).grown hg8 (by simp; have := HSa.out; simp at this; omega) (fun j hj => (HOa.out.lt j hj).1)); clear hown8 hg8))
        refine ⟨⟨k + 1, by omega, by go_num, ?_, HB2.out⟩, by simp [intOf]; omega⟩
        rw [HSt.out]
        simp only [if_true]
        simpa [Rule.cells] using HO2.out
    · obtain rfl : k = rs.length := by omega
      rw [List.take_length] at HOw
      go_wp2_with fail
      go_ret
      exact ⟨_, rfl, HOw.out, HB.out⟩
end Go.Proofs.YtdicedpklpadgaaGreatDoor.Snd
namespace Go.Proofs.YtdicedpklpadgaaGreatDoor.Snd
open Go.RowKit Mem Civ Mom Img Plc Rul Src Go.Maps

def everN (l : List Rule) : Nat := (l.filter fun r => decide (r.hi = 1000000)).length
def setErr (l : List Rule) : Int := if crowdB l = true then 12 else if 2 < everN l then 15 else if nearB l = true then 17 else 0
def setsL (all : List Rule) : List ByteArray → List Rule → Nat → Flaw
  | _, [], _ => noFlaw
  | seen, x :: t, i => if inL seen x.name = true then setsL all seen t (i + 1) else if setErr (setL all x.name) = 0 then setsL all (seen ++ [x.name]) t (i + 1) else ⟨setErr (setL all x.name), 1, i, 0⟩
def setsB (s : Src) : Flaw := setsL s.rules [] s.rules 0
theorem sets_results {w : World} {R0 : Nat} {a0 a1 a2 a3 : Value} (h : Blk w R0 52 #[a0, a1, a2, a3]) (tmps : Array Value) (ht : tmps[2]? = some (.pointer (some ⟨R0, 0, none⟩))) : (results Tryz.f57 tmps).run Tryz.prog w = .ok (.agg #[a0, a1, a2, a3]) w := by
  have hc := fun i => h.cell i
  simp [results, Tryz.results57, go_sem, hc, ht]
theorem MapOf.below {w w' : World} {b n : Nat} {l : List ByteArray} (h : MapOf w b n l) (hb : Below w.heap.size w w') : MapOf w' b n l := h.kept (gr_of_below hb) (by simp)
theorem ever_step {l : List Rule} {k : Nat} (hk : k < l.length) : everN (l.take (k + 1)) = everN (l.take k) + if decide (l[k].hi = 1000000) = true then 1 else 0 := by
  unfold everN
  rw [List.take_succ_eq_append_getElem hk, List.filter_append, List.length_append]
  split
  · next h => simp [h]
  · next h => simp [h]
theorem ever_le (l : List Rule) (k : Nat) : everN (l.take k) ≤ k := by
  unfold everN
  have h1 := List.length_filter_le (fun r : Rule => decide (r.hi = 1000000)) (l.take k)
  rw [List.length_take] at h1
  omega
/-- Whether the map, the source's box and the result's stand. -/
structure Sd (w : World) (cs : Array Value) (b n : Nat) (ns : List ByteArray) (wr : World) : Prop where
  two : Two w cs #[.int .i64 0, .int .i64 0, .int .i64 0, .int .i64 0] wr
  map : MapOf wr b n ns
theorem Sd.step {w wr w' : World} {cs : Array Value} {b n : Nat} {ns : List ByteArray} (h : Sd w cs b n ns wr) (hb : Below wr.heap.size wr w') : Sd w cs b n ns w' := ⟨h.two.step hb, h.map.below hb⟩
theorem Sd.alloc {w wr : World} {cs : Array Value} {b n : Nat} {ns : List ByteArray} (h : Sd w cs b n ns wr) (o : Obj) : Sd w cs b n ns (wr.alloc o) := ⟨h.two.alloc o, h.map.alloc o⟩
set_option maxHeartbeats 2000000 in
set_option maxRecDepth 100000 in
theorem sets_any (s : Src) (A A2 A3 : Option Addr) (c c2 c3 : Nat) (w : World) (h : SrcOk s A A2 A3 w) :
    Calls Tryz.prog 57 #[.agg #[.slice A s.rules.length c, .slice A2 s.zones.length c2, .slice A3 s.links.length c3]] w fun e w' => e = .returned (.agg (setsB s).cells.toArray) ∧ Below w.heap.size w w' := by
  have hE := fun nm z (hb : Below w.heap.size w z) => eset_any s A A2 A3 c c2 c3 nm z (h.below hb)
  have hrr := h.rr; have nr := h.nr; have tr := h.tr
  clear h
  obtain ⟨Q, hQ⟩ : ∃ Q, setsB s = Q := ⟨_, rfl⟩
  rw [hQ]
  unfold setsB at hQ
  obtain ⟨rs, zs, ls⟩ := s
  simp only at hE hrr nr tr hQ ⊢
  have hmm := @run_makeMap Tryz.prog
  have hst := Two.start w #[.slice A rs.length c, .slice A2 zs.length c2, .slice A3 ls.length c3]
  obtain ⟨W, hW⟩ : ∃ W, (w.alloc (.cells #[.slice A rs.length c, .slice A2 zs.length c2, .slice A3 ls.length c3] 26)).alloc (.cells #[.int .i64 0, .int .i64 0, .int .i64 0, .int .i64 0] 52) = W := ⟨_, rfl⟩
  rw [hW] at hst
  have hsz : w.heap.size + 1 < W.heap.size := hst.res.lt
  have HT := Lib.hid hst; have HR := Lib.hid hrr; have HQ := Lib.hid hQ; have HE := Lib.hid hE; have Htr := Lib.hid tr
  have HM0 := Lib.hid (World.ownsMap_made W Tryz.prog 9 (plainElem (H := Unit) Tryz.prog 4))
  have ca := fun o i => (hst.src.alloc o).cell i
  clear hst hrr hQ hE tr
  go_enter Tryz.func57, Tryz.ntmps57
  go_wp2_with fail
  clear ca
  obtain ⟨b, hb⟩ : ∃ b, b = W.heap.size := ⟨_, rfl⟩
  have HS0 : Hid (Sd w #[.slice A rs.length c, .slice A2 zs.length c2, .slice A3 ls.length c3] b 0 [] (W.alloc (.map #[] 0))) := by
    rw [hb]
    exact ⟨HT.out.alloc _, ⟨_, HM0.out, SM.empty⟩⟩
  rw [← hb] at hsz ⊢
  clear hb HT HM0 hW
  go_loopw [15] (fun i wr => ∃ (k : Nat) (seen : List ByteArray) (n : Nat), k ≤ rs.length ∧ n ≤ k ∧ i = .int .i64 k ∧ setsL rs seen (rs.drop k) k = Q ∧ Sd w #[.slice A rs.length c, .slice A2 zs.length c2, .slice A3 ls.length c3] b n seen wr) (fun i _ => rs.length - (intOf i).toNat)
  case atStart => exact ⟨0, [], 0, Nat.zero_le _, Nat.le_refl _, rfl, by rw [List.drop_zero]; exact HQ.out, HS0.out⟩
  case round =>
    clear HS0 HQ
    obtain ⟨k, seen, n, hk, hnk, rfl, hq, hsd⟩ := hrel
    have HS := Lib.hid hsd; have Hq := Lib.hid hq
    clear hsd hq
    by_cases hkn : k < rs.length
    · obtain ⟨ad, hA, hadb, a0, a1, a2, a3, a4, a5, a6, a7, a8, a9, a10⟩ := rule_cells (HR.out.below HS.out.two.bel) hkn
      subst hA
      have hsz2 := (Htr.out rs[k] (List.getElem_mem hkn)).1
      have hkey := nm_key hsz2
      have hlook := fun o => (HS.out.map.alloc o).look hsz2
      have hdr : rs.drop k = rs[k] :: rs.drop (k + 1) := List.drop_eq_getElem_cons hkn
      have hq := Hq.out
      rw [hdr, setsL] at hq
      have Hq2 := Lib.hid hq
      clear hq hdr Hq hsz2
      obtain ⟨x, hx⟩ : ∃ x, x = rs[k] := ⟨_, rfl⟩
      rw [← hx] at a0 a1 a2 a3 a4 a5 a6 a7 a8 a9 a10 hkey hlook Hq2
      clear hx
      obtain ⟨x0, x1, x2, x3, x4, x5, x6, x7, x8, x9, x10⟩ := x
      simp only at a0 a1 a2 a3 a4 a5 a6 a7 a8 a9 a10 hkey hlook Hq2
      have HSa := Lib.hid (HS.out.alloc (.cells #[.string x0, .int .i64 x1, .int .i64 x2, .int .i64 x3, .int .i64 x4, .int .i64 x5, .int .i64 x6, .int .i64 x7, .int .i64 x8, .int .i64 x9, .string x10] 59))
      obtain ⟨q, hqq⟩ : ∃ q, inL seen x0 = q := ⟨_, rfl⟩
      simp only [hqq] at hlook Hq2
      clear hqq
      cases q
      rotate_left
      · have hq := Hq2.out
        simp only [if_true] at hq
        have Hq3 := Lib.hid hq
        clear hq
        go_wp2_with fail
        exact ⟨⟨k + 1, seen, n, by omega, by omega, by go_num, Hq3.out, HSa.out⟩, by simp [intOf]; omega⟩
      · have hq := Hq2.out
        simp only [Bool.false_eq_true, if_false] at hq
        have Hq3 := Lib.hid hq
        obtain ⟨D, hown, hsm⟩ := HS.out.map
        have Hown := Lib.hid hown; have Hsm := Lib.hid hsm; have Hbw := Lib.hid hsz
        have hblk := Blk.new wr 59 #[.string x0, .int .i64 x1, .int .i64 x2, .int .i64 x3, .int .i64 x4, .int .i64 x5, .int .i64 x6, .int .i64 x7, .int .i64 x8, .int .i64 x9, .string x10]
        have Hblk := Lib.hid hblk
        have hblt := HS.out.map.lt
        clear hq hown hsm Hq2 hblk
        obtain ⟨l, hl⟩ : ∃ l, l = setL rs x0 := ⟨_, rfl⟩
        rw [← hl] at Hq3
        have HEs := HE.out x0
        rw [← hl] at HEs
        have hll : l.length ≤ 1000000 := by rw [hl]; exact Nat.le_trans (setL_len _ _) nr
        have HEs := Lib.hid HEs
        clear hl
        go_upto_region 7 with ((at_mapUpdate; refine wpList_mapUpdate_own (H := Unit) _ rfl _ _ _ 143 rfl 9 4 setLaw Tryz.underlying143 (plainElem Tryz.prog 4) b n D rfl (Hown.out.alloc _) (by unfold maxLen; omega) _ _ _ rfl rfl hkey (.lit (.bool true)) [] (plainElem_bool Tryz.underlying4 true) ?_; intro w1 hmap1 hg1; have Hmap1 := Lib.hid hmap1; have Hg1 := Lib.hid hg1; clear hmap1 hg1))
        have HS1 : Hid (Sd w #[.slice (some ad) rs.length c, .slice A2 zs.length c2, .slice A3 ls.length c3] b (n + 1) (seen ++ [x0]) w1) := by
          have ht := HSa.out.two
          refine ⟨⟨?_, ?_, ?_⟩, ⟨_, Hmap1.out, ?_⟩⟩
          · exact ht.src.grown Hg1.out (by have := Hbw.out; intro e; injection e with e; omega)
          · exact ht.res.grown Hg1.out (by have := Hbw.out; intro e; injection e with e; omega)
          · exact ht.bel.grown Hg1.out ht.bel.size (fun j hj => by have := Hbw.out; injection hj with hj; omega)
          · rw [keyL, List.map_append]
            exact Hsm.out.put _
        have hx1 := Hblk.out.grown Hg1.out (by intro e; injection e with e; omega)
        have cx := fun i => hx1.cell i
        have cS := fun i => HS1.out.two.src.cell i
        clear a0 a1 a2 a3 a4 a5 a6 a7 a8 a9 a10 hlook hx1 Hblk HSa HS Hown Hsm hkey HE
        go_wp2_with fail
        go_at_call 29
        refine (HEs.out _ HS1.out.two.bel).mono ?_
        rintro e w2 ⟨v, rfl, hown, hb⟩
        obtain ⟨Av, cv, rfl⟩ := own_slice hown
        have HRl := Lib.hid (Reads.of_own hown); have HS2 := Lib.hid (HS1.out.step hb)
        clear hown hb cx cS HS1 HEs
        go_wp2_with fail
        go_loopw [7, 33] (fun v i wz => ∃ j : Nat, j ≤ l.length ∧ v = .int .i64 (everN (l.take j)) ∧ i = .int .i64 j ∧ Sd w #[.slice (some ad) rs.length c, .slice A2 zs.length c2, .slice A3 ls.length c3] b (n + 1) (seen ++ [x0]) wz ∧ Below w2.heap.size w2 wz) (fun _ i _ => l.length - (intOf i).toNat)
        case atStart => exact ⟨0, Nat.zero_le _, rfl, rfl, HS2.out, Below.refl _ _⟩
        case round =>
          clear HS2
          obtain ⟨j, hj, rfl, rfl, hsd, hb⟩ := hrel
          have HS3 := Lib.hid hsd; have HB3 := Lib.hid hb
          have hev := ever_le l j
          clear hsd hb
          by_cases hjn : j < l.length
          · obtain ⟨ad2, hA2, hadb2, d0, d1, d2, d3, d4, d5, d6, d7, d8, d9, d10⟩ := rule_cells (HRl.out.below HB3.out) hjn
            subst hA2
            have hst := ever_step hjn
            have HSt := Lib.hid hst
            have HBs := Lib.hid HB3.out.size
            clear hst
            obtain ⟨y, hy⟩ : ∃ y, y = l[j] := ⟨_, rfl⟩
            rw [← hy] at d0 d1 d2 d3 d4 d5 d6 d7 d8 d9 d10 HSt
            clear hy
            obtain ⟨y0, y1, y2, y3, y4, y5, y6, y7, y8, y9, y10⟩ := y
            simp only at d0 d1 d2 d3 d4 d5 d6 d7 d8 d9 d10 HSt
            obtain ⟨m, hm⟩ : ∃ m, m = everN (l.take j) := ⟨_, rfl⟩
            rw [← hm] at HSt hev ⊢
            clear hm
            by_cases h6 : y2 = 1000000
            · subst h6
              have hs := HSt.out
              rw [if_pos (by simp)] at hs
              have HSt2 := Lib.hid hs
              clear hs HSt
              go_wp2_with fail
              exact ⟨⟨j + 1, by omega, by rw [HSt2.out]; go_num, by go_num, HS3.out.alloc _, HB3.out.alloc HBs.out _⟩, by simp [intOf]; omega⟩
            · have h6b : (y2 == 1000000) = false := by simp [h6]
              have hs := HSt.out
              rw [if_neg (by simp [h6])] at hs
              have HSt2 := Lib.hid hs
              clear hs HSt h6
              go_wp2_with fail
              exact ⟨⟨j + 1, by omega, by rw [HSt2.out]; rfl, by go_num, HS3.out.alloc _, HB3.out.alloc HBs.out _⟩, by simp [intOf]; omega⟩
          · obtain rfl : j = l.length := by omega
            rw [List.take_length]
            have Hcr := Lib.hid (fun z (hb : Below w2.heap.size w2 z) => crowded_any l Av cv z ((HRl.out.below hb).more hb.size) hll)
            have Hnr := Lib.hid (fun z (hb : Below w2.heap.size w2 z) => near_any l Av cv z ((HRl.out.below hb).more hb.size) hll)
            have hse : setErr l = if crowdB l = true then 12 else if 2 < everN l then 15 else if nearB l = true then 17 else 0 := rfl
            have Hse := Lib.hid hse
            clear hse HRl
            generalize crowdB l = q1 at *
            generalize nearB l = q3 at *
            obtain ⟨m, hm⟩ : ∃ m, m = everN l := ⟨_, rfl⟩
            rw [← hm] at Hse ⊢
            clear hm hev
            obtain ⟨E, hE⟩ : ∃ E, E = setErr l := ⟨_, rfl⟩
            rw [← hE] at Hse Hq3
            clear hE
            cases q1 with
            | true =>
              have he : E = 12 := by have := Hse.out; simpa using this
              subst he
              have hq := Hq3.out
              rw [if_neg (by decide)] at hq
              subst hq
              clear Hse Hq3
              go_wp2_with (go_at_call 107; refine (Hcr.out _ HB3.out).mono ?_; rintro e w4 ⟨rfl, hb⟩; have ht := (HS3.out.step hb).two; have fR := fun i => ht.res.frozen i; have cR := fun i => ht.res.cell i; have HF := Lib.hid (ht.fill (.int .i64 12) (.int .i64 1) (.int .i64 k) (.int .i64 0)); clear hb ht)
              refine bodyPost_ret (sets_results HF.out.res _ rfl) rfl ?_
              exact ⟨rfl, HF.out.bel⟩
            | false =>
              by_cases h2 : 2 < m
              · have h2b : decide ((2 : Int) < (m : Nat)) = true := decide_eq_true (by omega)
                have he : E = 15 := by have := Hse.out; simpa [h2] using this
                subst he
                have hq := Hq3.out
                rw [if_neg (by decide)] at hq
                subst hq
                clear Hse Hq3
                go_wp2_with (go_at_call 107; refine (Hcr.out _ HB3.out).mono ?_; rintro e w4 ⟨rfl, hb⟩; have ht := (HS3.out.step hb).two; have fR := fun i => ht.res.frozen i; have cR := fun i => ht.res.cell i; have HF := Lib.hid (ht.fill (.int .i64 15) (.int .i64 1) (.int .i64 k) (.int .i64 0)); clear hb ht)
                refine bodyPost_ret (sets_results HF.out.res _ rfl) rfl ?_
                exact ⟨rfl, HF.out.bel⟩
              · have h2b : decide ((2 : Int) < (m : Nat)) = false := decide_eq_false (by omega)
                cases q3 with
                | true =>
                  have he : E = 17 := by have := Hse.out; simpa [h2] using this
                  subst he
                  have hq := Hq3.out
                  rw [if_neg (by decide)] at hq
                  subst hq
                  clear Hse Hq3
                  go_wp2_with (first
                    | (go_at_call 107; refine (Hcr.out _ HB3.out).mono ?_; rintro e w4 ⟨rfl, hb⟩; have HS4 := Lib.hid (HS3.out.step hb); have HB4 := Lib.hid (HB3.out.trans (hb.mono HB3.out.size)); clear hb)
                    | (go_at_call 100; refine (Hnr.out _ HB4.out).mono ?_; rintro e w5 ⟨rfl, hb⟩; have ht := (HS4.out.step hb).two; have fR := fun i => ht.res.frozen i; have cR := fun i => ht.res.cell i; have HF := Lib.hid (ht.fill (.int .i64 17) (.int .i64 1) (.int .i64 k) (.int .i64 0)); clear hb ht))
                  refine bodyPost_ret (sets_results HF.out.res _ rfl) rfl ?_
                  exact ⟨rfl, HF.out.bel⟩
                | false =>
                  have he : E = 0 := by have := Hse.out; simpa [h2] using this
                  subst he
                  have hq := Hq3.out
                  rw [if_pos rfl] at hq
                  have Hq4 := Lib.hid hq
                  clear Hse Hq3 hq
                  go_wp2_with (first
                    | (go_at_call 107; refine (Hcr.out _ HB3.out).mono ?_; rintro e w4 ⟨rfl, hb⟩; have HS4 := Lib.hid (HS3.out.step hb); have HB4 := Lib.hid (HB3.out.trans (hb.mono HB3.out.size)); clear hb)
                    | (go_at_call 100; refine (Hnr.out _ HB4.out).mono ?_; rintro e w5 ⟨rfl, hb⟩; have HS5 := Lib.hid (HS4.out.step hb); clear hb))
                  exact ⟨⟨k + 1, seen ++ [x0], n + 1, by omega, by omega, by go_num, Hq4.out, HS5.out⟩, by simp [intOf]; omega⟩
    · obtain rfl : k = rs.length := by omega
      have hq := Hq.out
      rw [List.drop_length, setsL] at hq
      subst hq
      have ht := HS.out.two
      have fR := fun i => ht.res.frozen i
      have cR := fun i => ht.res.cell i
      have HF := Lib.hid (ht.fill (.int .i64 0) (.int .i64 0) (.int .i64 0) (.int .i64 0))
      clear Hq ht
      go_wp2_with fail
      refine bodyPost_ret (sets_results HF.out.res _ rfl) rfl ?_
      exact ⟨rfl, HF.out.bel⟩
end Go.Proofs.YtdicedpklpadgaaGreatDoor.Snd
