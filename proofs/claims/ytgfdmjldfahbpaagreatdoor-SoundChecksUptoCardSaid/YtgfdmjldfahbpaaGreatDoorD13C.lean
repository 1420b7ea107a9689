/-
  The document's word on a source (analemmaref13: first, Check): the program's. Conditions: what the source's slices hold is read, the texts' lengths are bounded. wip/gen13c.py wrote this text.
-/
import Derived.Test.YtgfdmjldfahbpaaGreatDoorD13L
import Derived.Test.YtgfdmjldfahbpaaGreatDoorDEra
import Derived.Deep.RegionHeld3
namespace Go.Proofs.YtgfdmjldfahbpaaGreatDoor.Snd
open Go.RowKit Mem Civ Mom Img Plc Rul Src Go.Maps

theorem in_next {α : Type} {f : α → ByteArray} {l : List α} {j : Nat} (hj : j < l.length) (nm : ByteArray) : inL ((l.take (j + 1)).map f) nm = (inL ((l.take j).map f) nm || decide (f l[j] = nm)) := by
  rw [List.take_succ_eq_append_getElem hj, List.map_append, inL_append]
  simp [inL]
theorem in_more {α : Type} {f : α → ByteArray} {l : List α} {j k : Nat} (hj : j ≤ k) {nm : ByteArray} (h : inL ((l.take j).map f) nm = true) : inL ((l.take k).map f) nm = true := by
  rw [inL_iff] at h ⊢
  obtain ⟨a, ha, e⟩ := List.mem_map.1 h
  refine List.mem_map.2 ⟨a, ?_, e⟩
  rw [← Nat.min_eq_left hj, ← List.take_take] at ha
  exact List.mem_of_mem_take ha
set_option maxHeartbeats 2000000 in
set_option maxRecDepth 100000 in
theorem first_any (s : Src) (A A2 A3 : Option Addr) (c c2 c3 k : Nat) (w : World) (h : SrcOk s A A2 A3 w) (hk : k < s.rules.length) :
    Calls Tryz.prog 24 #[.agg #[.slice A s.rules.length c, .slice A2 s.zones.length c2, .slice A3 s.links.length c3], .int .i64 k] w fun e w' => e = .returned (.bool (!inL ((s.rules.take k).map (·.name)) (s.rules[k]'hk).name)) ∧ Below w.heap.size w w' := by
  have HR := Lib.hid h.rr
  have nr := h.nr
  clear h
  obtain ⟨Q, hQ⟩ : ∃ Q, inL ((s.rules.take k).map (·.name)) (s.rules[k]'hk).name = Q := ⟨_, rfl⟩
  rw [hQ]
  have HQ := Lib.hid hQ
  clear hQ
  have hone := One.new w 26 #[.slice A s.rules.length c, .slice A2 s.zones.length c2, .slice A3 s.links.length c3]
  obtain ⟨W, hW⟩ : ∃ W, w.alloc (.cells #[.slice A s.rules.length c, .slice A2 s.zones.length c2, .slice A3 s.links.length c3] 26) = W := ⟨_, rfl⟩
  rw [hW] at hone
  have HO := Lib.hid hone
  clear hone
  go_enter Tryz.func24, Tryz.ntmps24
  go_wp2
  go_loopw [5] (fun i wr => ∃ j : Nat, j ≤ k ∧ i = .int .i64 j ∧ inL ((s.rules.take j).map (·.name)) (s.rules[k]'hk).name = false ∧ One w w.heap.size 26 #[.slice A s.rules.length c, .slice A2 s.zones.length c2, .slice A3 s.links.length c3] wr) (fun i _ => k - (intOf i).toNat)
  case atStart => exact ⟨0, Nat.zero_le _, rfl, rfl, HO.out⟩
  case round =>
    clear HO
    obtain ⟨j, hj, rfl, hin, ho⟩ := hrel
    have HO := Lib.hid ho; have HIn := Lib.hid hin
    clear ho hin
    by_cases hjk : j < k
    · have hjn : j < s.rules.length := by omega
      obtain ⟨ad, hA, hadb, _⟩ := rule_cells (HR.out.below HO.out.2) hk
      subst hA
      have hnx := in_next (f := fun r : Rule => r.name) hjn (s.rules[k]'hk).name
      rw [HIn.out, Bool.false_or] at hnx
      have hrc := fun z (hb : Below w.heap.size w z) t ht => rule_cells (k := t) (HR.out.below hb) ht
      obtain ⟨Cls, hCls⟩ : ∃ C : World → Prop, C = One w w.heap.size 26 #[.slice (some ad) s.rules.length c, .slice A2 s.zones.length c2, .slice A3 s.links.length c3] := ⟨_, rfl⟩
      have hC : ∀ z, Cls z → One w w.heap.size 26 #[.slice (some ad) s.rules.length c, .slice A2 s.zones.length c2, .slice A3 s.links.length c3] z := fun z h => by rw [hCls] at h; exact h
      have hinC : ∀ z, One w w.heap.size 26 #[.slice (some ad) s.rules.length c, .slice A2 s.zones.length c2, .slice A3 s.links.length c3] z → Cls z := fun z h => by rw [hCls]; exact h
      have hstart := hinC _ HO.out.drew
      have inst : Nonempty (Qt.In Cls) := ⟨⟨_, hstart⟩⟩
      have gs : ∀ (z : Qt.In Cls) (i : Nat), z.w.cell? ⟨w.heap.size, i, none⟩ = #[.slice (some ad) s.rules.length c, .slice A2 s.zones.length c2, .slice A3 s.links.length c3][i]? := fun z i => (hC z.w z.h).1.cell i
      have gj : ∀ z : Qt.In Cls, z.w.cell? (ad.add (j * 11)) = some (.string (s.rules[j]'hjn).name) := fun z => by obtain ⟨ad', e, _, q⟩ := hrc z.w (hC z.w z.h).2 j hjn; obtain rfl : ad = ad' := (by injection e); exact q.1
      have gk : ∀ z : Qt.In Cls, z.w.cell? (ad.add (k * 11)) = some (.string (s.rules[k]'hk).name) := fun z => by obtain ⟨ad', e, _, q⟩ := hrc z.w (hC z.w z.h).2 k hk; obtain rfl : ad = ad' := (by injection e); exact q.1
      have hbq := tl_beq (s.rules[j]'hjn).name (s.rules[k]'hk).name
      have HNx := Lib.hid hnx; have HCx := Lib.hid hC; have HS := Lib.hid hstart
      clear hnx hC hinC hCls hstart hrc
      obtain ⟨nk, hnk⟩ : ∃ n, n = (s.rules[k]'hk).name := ⟨_, rfl⟩
      obtain ⟨nj, hnj⟩ : ∃ n, n = (s.rules[j]'hjn).name := ⟨_, rfl⟩
      rw [← hnk] at gk hbq HNx HQ
      rw [← hnj] at gj hbq
      have HNx2 : Hid (inL ((s.rules.take (j + 1)).map (·.name)) nk = decide (nj = nk)) := by rw [hnj]; exact HNx
      have HNk := Lib.hid hnk
      clear HNx hnj hnk
      cases hd : decide (nj = nk) <;> rw [hd] at HNx2 hbq
      · go_wp2
        refine Qt.wp_region_cls Cls (by kernel_rfl) (by kernel_rfl) HS.out ?_
        repeat (go_big_quiet_step (fail))
        refine wpQuiet_nil ?_
        rintro wq ⟨⟨w9, hq9⟩, e9⟩
        have HX := Lib.hid (HCx.out wq (by rw [e9]; exact hq9))
        clear hq9 e9 gs gj gk
        go_wp2
        exact ⟨⟨j + 1, by omega, by go_num, by rw [← HNk.out]; exact HNx2.out, HX.out⟩, by simp [intOf]; omega⟩
      · have hq : Q = true := by rw [← HQ.out]; exact in_more (by omega) HNx2.out
        subst hq
        go_wp2
        refine Qt.wp_region_cls Cls (by kernel_rfl) (by kernel_rfl) HS.out ?_
        repeat (go_big_quiet_step (fail))
        refine wpQuiet_nil ?_
        rintro wq ⟨⟨w9, hq9⟩, e9⟩
        have HX := Lib.hid (HCx.out wq (by rw [e9]; exact hq9))
        clear hq9 e9 gs gj gk
        go_wp2
        go_ret
        exact ⟨rfl, HX.out.2⟩
    · obtain rfl : j = k := by omega
      have hq : Q = false := by rw [← HQ.out]; exact HIn.out
      subst hq
      go_wp2
      go_ret
      exact ⟨rfl, HO.out.2⟩
theorem rcheck_results {w : World} {R0 : Nat} {a0 a1 a2 a3 : Value} (h : Blk w R0 31 #[a0, a1, a2, a3]) (tmps : Array Value) (ht : tmps[2]? = some (.pointer (some ⟨R0, 0, none⟩))) : (results Tryz.f10 tmps).run Tryz.prog w = .ok (.agg #[a0, a1, a2, a3]) w := by
  have hc := fun i => h.cell i
  simp [results, Tryz.results10, go_sem, hc, ht]
theorem two_cells {w W : World} {a0 a1 a2 : Value} {ds : Array Value} {p : Addr} {u : Value} (h : Two w #[a0, a1, a2] ds W) (hu : W.cell? p = some u) : W.cell? ⟨w.heap.size, 0, none⟩ = some a0 ∧ W.cell? ⟨w.heap.size, 1, none⟩ = some a1 ∧ W.cell? ⟨w.heap.size, 2, none⟩ = some a2 ∧ W.cell? p = some u := ⟨h.src.cell 0, h.src.cell 1, h.src.cell 2, hu⟩
theorem setL_ne {rs : List Rule} {k : Nat} (hk : k < rs.length) : setL rs rs[k].name ≠ [] := fun h => by
  have : rs[k] ∈ setL rs rs[k].name := List.mem_filter.2 ⟨List.getElem_mem hk, by simp⟩
  rw [h] at this
  cases this
theorem seen_in {seen : List ByteArray} {rs : List Rule} {k : Nat} (h : ∀ n, n ∈ seen ↔ n ∈ (rs.take k).map (·.name)) (nm : ByteArray) : inL seen nm = inL ((rs.take k).map (·.name)) nm := by
  rw [Bool.eq_iff_iff, inL_iff, inL_iff]; exact h nm
theorem seen_same {seen : List ByteArray} {rs : List Rule} {k : Nat} (hk : k < rs.length) (h : ∀ n, n ∈ seen ↔ n ∈ (rs.take k).map (·.name)) (hi : inL seen rs[k].name = true) : ∀ n, n ∈ seen ↔ n ∈ (rs.take (k + 1)).map (·.name) := fun n => by
  rw [List.take_succ_eq_append_getElem hk, List.map_append, List.mem_append, ← h n]
  constructor
  · exact .inl
  · rintro (h2 | h2)
    · exact h2
    · rw [show n = rs[k].name by simpa using h2]; exact inL_iff.1 hi
theorem seen_more {seen : List ByteArray} {rs : List Rule} {k : Nat} (hk : k < rs.length) (h : ∀ n, n ∈ seen ↔ n ∈ (rs.take k).map (·.name)) : ∀ n, n ∈ seen ++ [rs[k].name] ↔ n ∈ (rs.take (k + 1)).map (·.name) := fun n => by
  rw [List.take_succ_eq_append_getElem hk, List.map_append, List.mem_append, List.mem_append, h n]
  simp
theorem check_chain {s : Src} (hs : srcB s = true) : checkB s = if ordersB s = noFlaw then (if setsB s = noFlaw then (if zonesB s (svF s) = noFlaw then (if linksB s = noFlaw then targetsB s else linksB s) else zonesB s (svF s)) else setsB s) else ordersB s := by
  unfold checkB
  rw [if_pos hs]
  simp only [firstF]
  split
  · split
    · split
      · split
        · split
          · next h => exact h.symm
          · rfl
        · rfl
      · rfl
    · rfl
  · rfl
theorem if_no {c : Prop} [Decidable c] {a b q : Flaw} (h : (if c then a else b) = q) (hc : c) : a = q := by rw [if_pos hc] at h; exact h
theorem if_yes {c : Prop} [Decidable c] {a b q : Flaw} (h : (if c then a else b) = q) (hc : ¬ c) : b = q := by rw [if_neg hc] at h; exact h
set_option maxHeartbeats 8000000 in
set_option maxRecDepth 100000 in
theorem rcheck_any (s : Src) (A A2 A3 : Option Addr) (c c2 c3 : Nat) (w : World) (h : SrcOk s A A2 A3 w) :
    Calls Tryz.prog 10 #[.agg #[.slice A s.rules.length c, .slice A2 s.zones.length c2, .slice A3 s.links.length c3]] w fun e w' => e = .returned (.agg (checkB s).cells.toArray) ∧ Below w.heap.size w w' := by
  have HRt := Lib.hid (fun z (hb : Below w.heap.size w z) => D10.right_any s A A2 A3 c c2 c3 z (h.below hb))
  obtain ⟨Q, hQ⟩ : ∃ Q, checkB s = Q := ⟨_, rfl⟩
  rw [hQ]
  have hst := Two.start w #[.slice A s.rules.length c, .slice A2 s.zones.length c2, .slice A3 s.links.length c3]
  obtain ⟨W, hW⟩ : ∃ W, (w.alloc (.cells #[.slice A s.rules.length c, .slice A2 s.zones.length c2, .slice A3 s.links.length c3] 26)).alloc (.cells #[.int .i64 0, .int .i64 0, .int .i64 0, .int .i64 0] 31) = W := ⟨_, rfl⟩
  rw [hW] at hst
  have HT := Lib.hid hst
  have c0 := fun i => hst.src.cell i
  clear hst
  cases hs : srcB s
  · have hq : Q = ⟨1, 0, 0, 0⟩ := by rw [← hQ]; unfold checkB; rw [if_neg (by rw [hs]; decide)]
    subst hq
    rw [hs] at HRt
    clear hQ h
    go_enter Tryz.func10, Tryz.ntmps10
    go_wp2_with (first
      | (go_at_call 16; refine (HRt.out _ HT.out.bel).mono ?_; rintro e w1 ⟨rfl, hb⟩; have HX := Lib.hid (HT.out.step hb); clear hb)
      | (go_at_call 23; refine (flaw_any _ _ _ _ _).mono ?_; rintro e w5 ⟨rfl, hb⟩; have ht := HX.out.step hb; have fR := fun i => ht.res.frozen i; have cR := fun i => ht.res.cell i; have HF := Lib.hid (ht.fill (.int .i64 1) (.int .i64 0) (.int .i64 0) (.int .i64 0)); clear hb ht))
    refine bodyPost_ret (rcheck_results HF.out.res _ rfl) rfl ?_
    exact ⟨rfl, HF.out.bel⟩
  rw [hs] at HRt
  rw [check_chain hs] at hQ
  have HFi := Lib.hid (fun k hk z (hb : Below w.heap.size w z) => first_any s A A2 A3 c c2 c3 k z (h.below hb) hk)
  have HSt := Lib.hid (fun nm z (hb : Below w.heap.size w z) => rset_any s A A2 A3 c c2 c3 nm z (h.below hb))
  have HEr := Lib.hid (fun zn hz j hj z (hb : Below w.heap.size w z) => rera_any s A A2 A3 c c2 c3 zn j z (h.below hb) hz hj hs)
  have HLk := Lib.hid (fun z (hb : Below w.heap.size w z) => rlinks_any s A A2 A3 c c2 c3 z (h.below hb))
  have hru := right_rules hs
  obtain ⟨hn1, hn2, hn3⟩ := right_nr hs
  have hset := fun (k : Nat) (hk : k < s.rules.length) Av cv z hr => set_any (setL s.rules (s.rules[k]'hk).name) Av cv z hr (Nat.le_trans (setL_len _ _) (by omega)) (set_right hru _) (setL_ne hk)
  have HSe := Lib.hid hset
  have HR := Lib.hid h.rr; have HZ := Lib.hid h.rz; have HRe := Lib.hid h.re; have HNe := Lib.hid h.ne
  have nr := h.nr; have nz := h.nz
  have HQ := Lib.hid hQ
  clear hQ h hru hset hs
  generalize svF s = sv at *
  go_enter Tryz.func10, Tryz.ntmps10
  go_wp2_with (go_at_call 16; refine (HRt.out _ HT.out.bel).mono ?_; rintro e w1 ⟨rfl, hb⟩; have HT1 := Lib.hid (HT.out.step hb); clear hb)
  clear c0 HT HRt
  go_loopw [3] (fun i wr => ∃ k : Nat, k ≤ s.rules.length ∧ i = .int .i64 k ∧ (s.rules.take k).all (fun r => !decide (r.hi < r.lo)) = true ∧ Two w #[.slice A s.rules.length c, .slice A2 s.zones.length c2, .slice A3 s.links.length c3] #[.int .i64 0, .int .i64 0, .int .i64 0, .int .i64 0] wr) (fun i _ => s.rules.length - (intOf i).toNat)
  case atStart => exact ⟨0, Nat.zero_le _, rfl, rfl, HT1.out⟩
  case round =>
    clear HT1
    obtain ⟨k, hk, rfl, hall, ht⟩ := hrel
    have HT := Lib.hid ht
    have c0 := fun i => ht.src.cell i
    by_cases hkn : k < s.rules.length
    · have hhit := fun hp => find_hit (p := fun r : Rule => decide (r.hi < r.lo)) hkn hall hp
      have hnx := fun hp => no_step (p := fun r : Rule => decide (r.hi < r.lo)) hkn hall hp
      have HHit := Lib.hid hhit; have HNx := Lib.hid hnx
      obtain ⟨ad, hA, hadb, _⟩ := rule_cells (HR.out.below ht.bel) hkn
      subst hA
      clear hhit hnx hall ht
      obtain ⟨Cls, hCls⟩ : ∃ C : World → Prop, C = Two w #[.slice (some ad) s.rules.length c, .slice A2 s.zones.length c2, .slice A3 s.links.length c3] #[.int .i64 0, .int .i64 0, .int .i64 0, .int .i64 0] := ⟨_, rfl⟩
      have hC : ∀ z, Cls z → Two w #[.slice (some ad) s.rules.length c, .slice A2 s.zones.length c2, .slice A3 s.links.length c3] #[.int .i64 0, .int .i64 0, .int .i64 0, .int .i64 0] z := fun z h => by rw [hCls] at h; exact h
      have hin : ∀ z, Two w #[.slice (some ad) s.rules.length c, .slice A2 s.zones.length c2, .slice A3 s.links.length c3] #[.int .i64 0, .int .i64 0, .int .i64 0, .int .i64 0] z → Cls z := fun z h => by rw [hCls]; exact h
      have hstart := hin _ (two_drew HT.out)
      have inst : Nonempty (Qt.In Cls) := ⟨⟨_, hstart⟩⟩
      have gs : ∀ (z : Qt.In Cls) (i : Nat), z.w.cell? ⟨w.heap.size, i, none⟩ = #[.slice (some ad) s.rules.length c, .slice A2 s.zones.length c2, .slice A3 s.links.length c3][i]? := fun z i => (hC z.w z.h).src.cell i
      have hrc := fun z (hb : Below w.heap.size w z) => rule_cells (k := k) (HR.out.below hb) hkn
      have g1 : ∀ z : Qt.In Cls, z.w.cell? ⟨(ad.add (k * 11)).block, (ad.add (k * 11)).off + 1, none⟩ = some (.int .i64 (s.rules[k]'hkn).lo) := fun z => by obtain ⟨ad', e, _, q⟩ := hrc z.w (hC z.w z.h).bel; obtain rfl : ad = ad' := (by injection e); exact q.2.1
      have g2 : ∀ z : Qt.In Cls, z.w.cell? ⟨(ad.add (k * 11)).block, (ad.add (k * 11)).off + 2, none⟩ = some (.int .i64 (s.rules[k]'hkn).hi) := fun z => by obtain ⟨ad', e, _, q⟩ := hrc z.w (hC z.w z.h).bel; obtain rfl : ad = ad' := (by injection e); exact q.2.2.1
      have HCx := Lib.hid hC; have HS := Lib.hid hstart
      clear hC hin hCls hstart hrc
      generalize (s.rules[k]'hkn).lo = lo at *
      generalize (s.rules[k]'hkn).hi = hi at *
      cases hd : decide (hi < lo)
      · have hn := HNx.out hd
        have HN := Lib.hid hn
        clear hn HNx HHit
        go_wp2
        refine Qt.wp_region_cls Cls (by kernel_rfl) (by kernel_rfl) HS.out ?_
        repeat (go_big_quiet_step (fail))
        refine wpQuiet_nil ?_
        rintro wq ⟨⟨w9, hq9⟩, e9⟩
        have HX := Lib.hid (HCx.out wq (by rw [e9]; exact hq9))
        clear hq9 e9 gs g1 g2
        go_wp2
        exact ⟨⟨k + 1, by omega, by go_num, HN.out, HX.out⟩, by simp [intOf]; omega⟩
      · have ho : ordersB s = ⟨16, 1, k, 0⟩ := by unfold ordersB; rw [HHit.out hd]; rfl
        have hq := if_yes HQ.out (by rw [ho]; exact flaw_ne (.inl (by decide)))
        rw [ho] at hq
        subst hq
        clear ho HNx HHit HQ
        go_wp2
        refine Qt.wp_region_cls Cls (by kernel_rfl) (by kernel_rfl) HS.out ?_
        repeat (go_big_quiet_step (fail))
        refine wpQuiet_nil ?_
        rintro wq ⟨⟨w9, hq9⟩, e9⟩
        have HX := Lib.hid (HCx.out wq (by rw [e9]; exact hq9))
        clear hq9 e9 gs g1 g2
        go_wp2_with (go_at_call 23; refine (flaw_any _ _ _ _ _).mono ?_; rintro e w5 ⟨rfl, hb⟩; have ht := HX.out.step hb; have fR := fun i => ht.res.frozen i; have cR := fun i => ht.res.cell i; have HF := Lib.hid (ht.fill (.int .i64 16) (.int .i64 1) (.int .i64 k) (.int .i64 0)); clear hb ht)
        refine bodyPost_ret (rcheck_results HF.out.res _ rfl) rfl ?_
        exact ⟨rfl, HF.out.bel⟩
    · obtain rfl : k = s.rules.length := by omega
      rw [List.take_length] at hall
      have ho : ordersB s = noFlaw := by unfold ordersB; rw [find_miss hall]; rfl
      have HQ2 := Lib.hid (if_no HQ.out ho)
      clear ho hall HQ ht
      go_wp2
      clear c0
      go_loopw [4] (fun i wr => ∃ (k : Nat) (seen : List ByteArray), k ≤ s.rules.length ∧ i = .int .i64 k ∧ setsL s.rules seen (s.rules.drop k) k = setsB s ∧ (∀ n, n ∈ seen ↔ n ∈ (s.rules.take k).map (·.name)) ∧ Two w #[.slice A s.rules.length c, .slice A2 s.zones.length c2, .slice A3 s.links.length c3] #[.int .i64 0, .int .i64 0, .int .i64 0, .int .i64 0] wr) (fun i _ => s.rules.length - (intOf i).toNat)
      case atStart => exact ⟨0, [], Nat.zero_le _, rfl, rfl, (fun n => by simp), HT.out⟩
      case round =>
        clear HT
        obtain ⟨k, seen, hk, rfl, hse, hsn, ht⟩ := hrel
        have HT := Lib.hid ht
        have c0 := fun i => ht.src.cell i
        by_cases hkn : k < s.rules.length
        · obtain ⟨ad, hA, hadb, _⟩ := rule_cells (HR.out.below ht.bel) hkn
          subst hA
          have hrc := fun z (hb : Below w.heap.size w z) => rule_cells (k := k) (HR.out.below hb) hkn
          rw [List.drop_eq_getElem_cons hkn, setsL, seen_in hsn] at hse
          have hsi := seen_in hsn (s.rules[k]'hkn).name
          have HFk := Lib.hid (HFi.out k hkn)
          cases hfb : inL ((s.rules.take k).map (·.name)) (s.rules[k]'hkn).name
          rotate_left
          · rw [hfb] at HFk hsi hse
            rw [if_pos rfl] at hse
            have hsm := seen_same hkn hsn hsi
            have HSe2 := Lib.hid hse; have HSm := Lib.hid hsm
            clear hse hsm hsn hsi ht hrc hfb
            go_wp2_with (go_at_call 24; refine (HFk.out _ HT.out.bel).mono ?_; rintro e w2 ⟨rfl, hb⟩; have HT2 := Lib.hid (HT.out.step hb); clear hb)
            exact ⟨⟨k + 1, seen, by omega, by go_num, HSe2.out, HSm.out, HT2.out⟩, by simp [intOf]; omega⟩
          · rw [hfb] at HFk hse
            rw [if_neg (by decide)] at hse
            have hsm := seen_more hkn hsn
            have HSk := Lib.hid (HSe.out k hkn)
            have HSn := Lib.hid (HSt.out (s.rules[k]'hkn).name)
            have HRc := Lib.hid hrc
            have HSe2 := Lib.hid hse; have HSm := Lib.hid hsm
            clear hse hsm hsn hsi ht hrc hfb
            obtain ⟨nm, hnm⟩ : ∃ n, n = (s.rules[k]'hkn).name := ⟨_, rfl⟩
            rw [← hnm] at HSk HSn HRc HSm
            rw [← hnm] at HSe2
            clear hnm
            obtain ⟨E, hE⟩ : ∃ E, setErr (setL s.rules nm) = E := ⟨_, rfl⟩
            rw [hE] at HSk HSe2
            clear hE
            go_wp2_with (go_at_call 24; refine (HFk.out _ HT.out.bel).mono ?_; rintro e w2 ⟨rfl, hb⟩; have HT2 := Lib.hid (HT.out.step hb); clear hb)
            clear c0
            have htd := two_drew HT2.out
            obtain ⟨ad', hA', _, b0, _⟩ := HRc.out _ htd.bel
            obtain rfl : ad = ad' := by injection hA'
            have k0 := two_cells htd b0
            have HTd := Lib.hid htd
            clear htd b0 hA'
            go_region_held3 (fun w' => w'.cell? ⟨w.heap.size, 0, none⟩ = some (.slice (some ad) s.rules.length c) ∧ w'.cell? ⟨w.heap.size, 1, none⟩ = some (.slice A2 s.zones.length c2) ∧ w'.cell? ⟨w.heap.size, 2, none⟩ = some (.slice A3 s.links.length c3) ∧ w'.cell? (ad.add (k * 11)) = some (.string nm)) (first | assumption | (simp [*]; done))
              (first
              | (go_at_call 26; refine (HSn.out _ HTd.out.bel).mono ?_; rintro e w3 ⟨v, rfl, hown, hb⟩; obtain ⟨Av, cv, rfl⟩ := own_slice hown; have hr := Reads.of_own hown; have ht := HTd.out.step hb; obtain ⟨ad', hA', _, b0, _⟩ := HRc.out _ ht.bel; obtain rfl : ad = ad' := (by injection hA'); have kk := two_cells ht b0; have HT3 := Lib.hid ht; have HRv := Lib.hid hr; clear hb hown hr ht b0 hA')
              | (go_at_call 25; refine (HSk.out _ _ _ HRv.out).mono ?_; rintro e w4 ⟨rfl, hb⟩; have ht := HT3.out.step hb; obtain ⟨ad', hA', _, b0, _⟩ := HRc.out _ ht.bel; obtain rfl : ad = ad' := (by injection hA'); have kk4 := two_cells ht b0; have HX := Lib.hid ht; clear hb ht b0 hA'))
            clear k0
            by_cases hE : E = 0
            · subst hE
              have hse := HSe2.out
              rw [if_pos rfl] at hse
              have HSe3 := Lib.hid hse
              clear hse HSe2
              go_wp2
              exact ⟨⟨k + 1, _, by omega, by go_num, HSe3.out, HSm.out, HX.out⟩, by simp [intOf]; omega⟩
            · have hse := HSe2.out
              rw [if_neg hE] at hse
              have hq := if_yes HQ2.out (by rw [← hse]; exact flaw_ne (.inl hE))
              rw [← hse] at hq
              subst hq
              have hEb : (E != 0) = true := by simpa using hE
              clear hse HSe2 HSm HQ2 hE
              go_wp2_with (go_at_call 23; refine (flaw_any _ _ _ _ _).mono ?_; rintro e w5 ⟨rfl, hb⟩; have ht := HX.out.step hb; have fR := fun i => ht.res.frozen i; have cR := fun i => ht.res.cell i; have HF := Lib.hid (ht.fill (.int .i64 E) (.int .i64 1) (.int .i64 k) (.int .i64 0)); clear hb ht)
              refine bodyPost_ret (rcheck_results HF.out.res _ rfl) rfl ?_
              exact ⟨rfl, HF.out.bel⟩
        · obtain rfl : k = s.rules.length := by omega
          rw [List.drop_length, setsL] at hse
          have HQ3 := Lib.hid (if_no HQ2.out hse.symm)
          clear hse hsn ht HQ2 HSe HSt HFi HR
          go_wp2
          clear c0
          go_loopw [6] (fun i wr => ∃ k : Nat, k ≤ s.zones.length ∧ i = .int .i64 k ∧ zonesL s.rules sv ((s.zones.take k).map (·.name)) (s.zones.drop k) k = zonesB s sv ∧ Two w #[.slice A s.rules.length c, .slice A2 s.zones.length c2, .slice A3 s.links.length c3] #[.int .i64 0, .int .i64 0, .int .i64 0, .int .i64 0] wr) (fun i _ => s.zones.length - (intOf i).toNat)
          case atStart => exact ⟨0, Nat.zero_le _, rfl, rfl, HT.out⟩
          case round =>
            clear HT
            obtain ⟨k, hk, rfl, hzl, ht⟩ := hrel
            have HT := Lib.hid ht
            have c0 := fun i => ht.src.cell i
            by_cases hkn : k < s.zones.length
            · obtain ⟨ad, hA, hadb, _⟩ := zone_cells (HZ.out.below ht.bel) hkn rfl
              subst hA
              have HZc := Lib.hid (fun z (hb : Below w.heap.size w z) t ht => zone_cells (k := t) (HZ.out.below hb) ht rfl)
              rw [List.drop_eq_getElem_cons hkn, zonesL] at hzl
              have HZl := Lib.hid hzl
              have hmem := List.getElem_mem hkn
              have HErk := Lib.hid (HEr.out (s.zones[k]'hkn) hmem)
              have hne := HNe.out (s.zones[k]'hkn) hmem
              have hsu : (s.zones.take (k + 1)).map (·.name) = (s.zones.take k).map (·.name) ++ [(s.zones[k]'hkn).name] := by rw [List.take_succ_eq_append_getElem hkn, List.map_append]; rfl
              have HSu := Lib.hid hsu
              have HZk := Lib.hid (fun z hb => HZc.out z hb k hkn)
              clear hzl ht hmem hsu
              obtain ⟨zn, hzn⟩ : ∃ z, z = s.zones[k]'hkn := ⟨_, rfl⟩
              rw [← hzn] at HZl HErk hne HSu HZk
              clear hzn
              obtain ⟨z0, es, Az, cz⟩ := zn
              simp only at HZl HErk hne HSu HZk
              go_wp2
              clear c0
              go_loopw [7] (fun i wz => ∃ j : Nat, j ≤ k ∧ i = .int .i64 j ∧ inL ((s.zones.take j).map (·.name)) z0 = false ∧ Two w #[.slice A s.rules.length c, .slice (some ad) s.zones.length c2, .slice A3 s.links.length c3] #[.int .i64 0, .int .i64 0, .int .i64 0, .int .i64 0] wz) (fun i _ => k - (intOf i).toNat)
              case atStart => exact ⟨0, Nat.zero_le _, rfl, rfl, HT.out⟩
              case round =>
                clear HT
                obtain ⟨j, hj, rfl, hin0, ht⟩ := hrel
                have HT := Lib.hid ht
                have c0 := fun i => ht.src.cell i
                clear ht
                by_cases hjk : j < k
                · have hjn : j < s.zones.length := by omega
                  have hnx := in_next (f := fun z : ZoneM => z.name) hjn z0
                  rw [hin0, Bool.false_or] at hnx
                  clear hin0 c0
                  obtain ⟨Cls, hCls⟩ : ∃ C : World → Prop, C = Two w #[.slice A s.rules.length c, .slice (some ad) s.zones.length c2, .slice A3 s.links.length c3] #[.int .i64 0, .int .i64 0, .int .i64 0, .int .i64 0] := ⟨_, rfl⟩
                  have hC : ∀ z, Cls z → Two w #[.slice A s.rules.length c, .slice (some ad) s.zones.length c2, .slice A3 s.links.length c3] #[.int .i64 0, .int .i64 0, .int .i64 0, .int .i64 0] z := fun z h => by rw [hCls] at h; exact h
                  have hin : ∀ z, Two w #[.slice A s.rules.length c, .slice (some ad) s.zones.length c2, .slice A3 s.links.length c3] #[.int .i64 0, .int .i64 0, .int .i64 0, .int .i64 0] z → Cls z := fun z h => by rw [hCls]; exact h
                  have hstart := hin _ (two_drew HT.out)
                  have inst : Nonempty (Qt.In Cls) := ⟨⟨_, hstart⟩⟩
                  have gs : ∀ (z : Qt.In Cls) (i : Nat), z.w.cell? ⟨w.heap.size, i, none⟩ = #[.slice A s.rules.length c, .slice (some ad) s.zones.length c2, .slice A3 s.links.length c3][i]? := fun z i => (hC z.w z.h).src.cell i
                  have gj : ∀ z : Qt.In Cls, z.w.cell? (ad.add (j * 2)) = some (.string (s.zones[j]'hjn).name) := fun z => by obtain ⟨ad', e, _, q⟩ := HZc.out z.w (hC z.w z.h).bel j hjn; obtain rfl : ad = ad' := (by injection e); exact q.1
                  have gk : ∀ z : Qt.In Cls, z.w.cell? (ad.add (k * 2)) = some (.string z0) := fun z => by obtain ⟨ad', e, _, q⟩ := HZk.out z.w (hC z.w z.h).bel; obtain rfl : ad = ad' := (by injection e); exact q.1
                  have hbq := tl_beq (s.zones[j]'hjn).name z0
                  have HCx := Lib.hid hC; have HS := Lib.hid hstart; have HNx := Lib.hid hnx
                  clear hC hin hCls hstart hnx
                  have HNx2 : Hid (inL ((s.zones.take (j + 1)).map (·.name)) z0 = decide ((s.zones[j]'hjn).name = z0)) := HNx
                  clear HNx
                  generalize (s.zones[j]'hjn).name = nj at *
                  cases hd : decide (nj = z0) <;> rw [hd] at HNx2 hbq
                  · go_wp2
                    refine Qt.wp_region_cls Cls (by kernel_rfl) (by kernel_rfl) HS.out ?_
                    repeat (go_big_quiet_step (fail))
                    refine wpQuiet_nil ?_
                    rintro wq ⟨⟨w9, hq9⟩, e9⟩
                    have HX := Lib.hid (HCx.out wq (by rw [e9]; exact hq9))
                    clear hq9 e9 gs gj gk
                    go_wp2
                    exact ⟨⟨j + 1, by omega, by go_num, HNx2.out, HX.out⟩, by simp [intOf]; omega⟩
                  · have hzl := HZl.out
                    rw [if_pos (in_more (by omega) HNx2.out)] at hzl
                    have hq := if_yes HQ3.out (by rw [← hzl]; exact flaw_ne (.inl (by decide)))
                    rw [← hzl] at hq
                    subst hq
                    clear hzl HZl HQ3
                    go_wp2
                    refine Qt.wp_region_cls Cls (by kernel_rfl) (by kernel_rfl) HS.out ?_
                    repeat (go_big_quiet_step (fail))
                    refine wpQuiet_nil ?_
                    rintro wq ⟨⟨w9, hq9⟩, e9⟩
                    have HX := Lib.hid (HCx.out wq (by rw [e9]; exact hq9))
                    clear hq9 e9 gs gj gk
                    go_wp2_with (go_at_call 23; refine (flaw_any _ _ _ _ _).mono ?_; rintro e w5 ⟨rfl, hb⟩; have ht := HX.out.step hb; have fR := fun i => ht.res.frozen i; have cR := fun i => ht.res.cell i; have HF := Lib.hid (ht.fill (.int .i64 10) (.int .i64 2) (.int .i64 k) (.int .i64 0)); clear hb ht)
                    refine bodyPost_ret (rcheck_results HF.out.res _ rfl) rfl ?_
                    exact ⟨rfl, HF.out.bel⟩
                · obtain rfl : j = k := by omega
                  have hzl := HZl.out
                  rw [if_neg (by rw [hin0]; decide)] at hzl
                  have HZl2 := Lib.hid hzl
                  clear hzl HZl hin0
                  go_wp2
                  clear c0
                  go_loopw [8] (fun i wz => ∃ t : Nat, t ≤ es.length ∧ i = .int .i64 t ∧ (∀ n, n < t → eraAt s.rules sv es n = 0) ∧ Two w #[.slice A s.rules.length c, .slice (some ad) s.zones.length c2, .slice A3 s.links.length c3] #[.int .i64 0, .int .i64 0, .int .i64 0, .int .i64 0] wz) (fun i _ => es.length - (intOf i).toNat)
                  case atStart => exact ⟨0, Nat.zero_le _, rfl, (fun n hn => absurd hn (Nat.not_lt_zero _)), HT.out⟩
                  case round =>
                    clear HT
                    obtain ⟨t, htl, rfl, hz, ht⟩ := hrel
                    have HT := Lib.hid ht
                    have c0 := fun i => ht.src.cell i
                    obtain ⟨ad', hA', _, q0, q1⟩ := HZk.out _ ht.bel
                    obtain rfl : ad = ad' := by injection hA'
                    clear hA' ht
                    by_cases htn : t < es.length
                    · have HEt := Lib.hid (HErk.out t htn)
                      have hhit := fun hne => zErr_hit (rs := s.rules) (sv := sv) htn hz hne
                      obtain ⟨E, hE⟩ : ∃ E, E = eraAt s.rules sv es t := ⟨_, rfl⟩
                      rw [← hE] at HEt hhit
                      have HHit := Lib.hid hhit; have HEe := Lib.hid hE; have HZz := Lib.hid hz
                      clear hhit hE hz
                      obtain ⟨Cls, hCls⟩ : ∃ C : World → Prop, C = Two w #[.slice A s.rules.length c, .slice (some ad) s.zones.length c2, .slice A3 s.links.length c3] #[.int .i64 0, .int .i64 0, .int .i64 0, .int .i64 0] := ⟨_, rfl⟩
                      have hC : ∀ z, Cls z → Two w #[.slice A s.rules.length c, .slice (some ad) s.zones.length c2, .slice A3 s.links.length c3] #[.int .i64 0, .int .i64 0, .int .i64 0, .int .i64 0] z := fun z h => by rw [hCls] at h; exact h
                      have hin : ∀ z, Two w #[.slice A s.rules.length c, .slice (some ad) s.zones.length c2, .slice A3 s.links.length c3] #[.int .i64 0, .int .i64 0, .int .i64 0, .int .i64 0] z → Cls z := fun z h => by rw [hCls]; exact h
                      have hstart := hin _ (two_drew HT.out)
                      have inst : Nonempty (Qt.In Cls) := ⟨⟨_, hstart⟩⟩
                      have gs : ∀ (z : Qt.In Cls) (i : Nat), z.w.cell? ⟨w.heap.size, i, none⟩ = #[.slice A s.rules.length c, .slice (some ad) s.zones.length c2, .slice A3 s.links.length c3][i]? := fun z i => (hC z.w z.h).src.cell i
                      have gk0 : ∀ z : Qt.In Cls, z.w.cell? (ad.add (j * 2)) = some (.string z0) := fun z => by obtain ⟨ad', e, _, q⟩ := HZk.out z.w (hC z.w z.h).bel; obtain rfl : ad = ad' := (by injection e); exact q.1
                      have gk1 : ∀ z : Qt.In Cls, z.w.cell? ⟨(ad.add (j * 2)).block, (ad.add (j * 2)).off + 1, none⟩ = some (.slice Az es.length cz) := fun z => by obtain ⟨ad', e, _, q⟩ := HZk.out z.w (hC z.w z.h).bel; obtain rfl : ad = ad' := (by injection e); exact q.2
                      have HEc : Hid (∀ z, Cls z → Calls Tryz.prog 27 #[.agg #[.slice A s.rules.length c, .slice (some ad) s.zones.length c2, .slice A3 s.links.length c3], .agg #[.string z0, .slice Az es.length cz], .int .i64 t] z fun e z' => e = .returned (.int .i64 E) ∧ Cls z') := fun z h => (HEt.out z (hC z h).bel).mono fun e z' ⟨he, hb⟩ => ⟨he, hin _ ((hC z h).step hb)⟩
                      have HCx := Lib.hid hC; have HS := Lib.hid hstart
                      clear hC hin hCls hstart HEt
                      by_cases h0 : E = 0
                      · subst h0
                        have HZ2 : Hid (∀ n, n < t + 1 → eraAt s.rules sv es n = 0) := fun n hn => by
                          by_cases e : n = t
                          · rw [e]; exact HEe.out.symm
                          · exact HZz.out n (by omega)
                        clear HHit HEe HZz
                        go_wp2
                        refine Qt.wp_region_cls Cls (by kernel_rfl) (by kernel_rfl) HS.out ?_
                        repeat (go_big_quiet_step (fail))
                        go_big_quiet_step (exact Qt.quiet_cls (HEc.out _ (Qt.In.h _)))
                        repeat (go_big_quiet_step (fail))
                        refine wpQuiet_nil ?_
                        rintro wq ⟨⟨w9, hq9⟩, e9⟩
                        have HX := Lib.hid (HCx.out wq (by rw [e9]; exact hq9))
                        clear hq9 e9 gs gk0 gk1
                        go_wp2
                        exact ⟨⟨t + 1, by omega, by go_num, HZ2.out, HX.out⟩, by simp [intOf]; omega⟩
                      · have hzl := HZl2.out
                        rw [HHit.out h0] at hzl
                        simp only [← HEe.out] at hzl
                        have hq := if_yes HQ3.out (by rw [← hzl]; exact flaw_ne (.inl h0))
                        rw [← hzl] at hq
                        subst hq
                        have hEb : (E != 0) = true := by simpa using h0
                        clear hzl HZl2 HQ3 HHit HEe HZz h0
                        go_wp2
                        refine Qt.wp_region_cls Cls (by kernel_rfl) (by kernel_rfl) HS.out ?_
                        repeat (go_big_quiet_step (fail))
                        go_big_quiet_step (exact Qt.quiet_cls (HEc.out _ (Qt.In.h _)))
                        repeat (go_big_quiet_step (fail))
                        refine wpQuiet_nil ?_
                        rintro wq ⟨⟨w9, hq9⟩, e9⟩
                        have HX := Lib.hid (HCx.out wq (by rw [e9]; exact hq9))
                        clear hq9 e9 gs gk0 gk1
                        go_wp2_with (go_at_call 23; refine (flaw_any _ _ _ _ _).mono ?_; rintro e w5 ⟨rfl, hb⟩; have ht := HX.out.step hb; have fR := fun i => ht.res.frozen i; have cR := fun i => ht.res.cell i; have HF := Lib.hid (ht.fill (.int .i64 E) (.int .i64 2) (.int .i64 j) (.int .i64 t)); clear hb ht)
                        refine bodyPost_ret (rcheck_results HF.out.res _ rfl) rfl ?_
                        exact ⟨rfl, HF.out.bel⟩
                    · obtain rfl : t = es.length := by omega
                      have hzl := HZl2.out
                      rw [zErr_none hz] at hzl
                      simp only at hzl
                      rw [← HSu.out] at hzl
                      have HZl3 := Lib.hid hzl
                      clear hzl HZl2 hz
                      go_wp2
                      exact ⟨⟨j + 1, by omega, by go_num, HZl3.out, HT.out⟩, by simp [intOf]; omega⟩
            · obtain rfl : k = s.zones.length := by omega
              rw [List.drop_length, zonesL] at hzl
              have hq := if_no HQ3.out hzl.symm
              have HQ4 := Lib.hid hq
              clear hzl ht hq HQ3
              obtain ⟨⟨l0, l1, l2, l3⟩, hl⟩ : ∃ f, (if linksB s = noFlaw then targetsB s else linksB s) = f := ⟨_, rfl⟩
              have hq2 := HQ4.out
              rw [hl] at hq2 HLk
              subst hq2
              simp only [Flaw.cells] at HLk
              clear HQ4 hl
              go_wp2_with (go_at_call 28; refine (HLk.out _ HT.out.bel).mono ?_; rintro e w5 ⟨rfl, hb⟩; have ht := HT.out.step hb; have fR := fun i => ht.res.frozen i; have cR := fun i => ht.res.cell i; have HF := Lib.hid (ht.fill (.int .i64 l0) (.int .i64 l1) (.int .i64 l2) (.int .i64 l3)); clear hb ht)
              refine bodyPost_ret (rcheck_results HF.out.res _ rfl) rfl ?_
              exact ⟨rfl, HF.out.bel⟩
end Go.Proofs.YtgfdmjldfahbpaaGreatDoor.Snd
