/-
  The document's word on links (analemmaref13: flaw, links): the program's. Conditions: what the source's slices hold is read, the names' lengths are bounded.
-/
import Derived.Test.YtgfdmjldfahbpaaGreatDoorD13E
import Derived.Test.YtgfdmjldfahbpaaGreatDoorSndL
namespace Go.Proofs.YtgfdmjldfahbpaaGreatDoor.Snd
open Go.RowKit Mem Civ Mom Img Plc Rul Src Go.Maps

theorem flaw_results {w : World} {R0 : Nat} {a0 a1 a2 a3 : Value} (h : Blk w R0 31 #[a0, a1, a2, a3]) (tmps : Array Value) (ht : tmps[8]? = some (.pointer (some ⟨R0, 0, none⟩))) : (results Tryz.f23 tmps).run Tryz.prog w = .ok (.agg #[a0, a1, a2, a3]) w := by
  have hc := fun i => h.cell i
  simp [results, Tryz.results23, go_sem, hc, ht]
set_option maxRecDepth 100000 in
theorem flaw_any (a b c d : Int) (w : World) :
    Calls Tryz.prog 23 #[.int .i64 a, .int .i64 b, .int .i64 c, .int .i64 d] w fun e w' => e = .returned (.agg #[.int .i64 a, .int .i64 b, .int .i64 c, .int .i64 d]) ∧ Below w.heap.size w w' := by
  have hone := One.new w 31 #[.int .i64 0, .int .i64 0, .int .i64 0, .int .i64 0]
  obtain ⟨W, hW⟩ : ∃ W, w.alloc (.cells #[.int .i64 0, .int .i64 0, .int .i64 0, .int .i64 0] 31) = W := ⟨_, rfl⟩
  rw [hW] at hone
  have HO := Lib.hid hone
  have cc := fun i => hone.1.cell i
  have ff := fun i => hone.1.frozen i
  clear hone
  go_enter Tryz.func23, Tryz.ntmps23
  go_wp2
  have hf := (((HO.out.1.set_ 0 (.int .i64 a)).set_ 1 (.int .i64 b)).set_ 2 (.int .i64 c)).set_ 3 (.int .i64 d)
  simp only [List.setIfInBounds_toArray, List.set_cons_succ, List.set_cons_zero] at hf
  refine bodyPost_ret (flaw_results hf _ rfl) rfl ?_
  exact ⟨rfl, (((HO.out.2.setCell (by simp) _).setCell (by simp) _).setCell (by simp) _).setCell (by simp) _⟩
theorem rlinks_results {w : World} {R0 : Nat} {a0 a1 a2 a3 : Value} (h : Blk w R0 31 #[a0, a1, a2, a3]) (tmps : Array Value) (ht : tmps[2]? = some (.pointer (some ⟨R0, 0, none⟩))) : (results Tryz.f28 tmps).run Tryz.prog w = .ok (.agg #[a0, a1, a2, a3]) w := by
  have hc := fun i => h.cell i
  simp [results, Tryz.results28, go_sem, hc, ht]
/-! ### Plain: a name that stands twice -/
def hitB (s : Src) (k : Nat) : Bool := match s.links[k]? with
  | some l => inL (s.zones.map (·.name) ++ (s.links.take k).map (·.name)) l.name
  | none => false
theorem dup_drop {s : Src} (k : Nat) (hk : k ≤ s.links.length) (h : ∀ t, t < k → hitB s t = false) : dupL (s.zones.map (·.name)) s.links 0 = dupL (s.zones.map (·.name) ++ (s.links.take k).map (·.name)) (s.links.drop k) k := by
  induction k with
  | zero => simp
  | succ k ih =>
    rw [ih (by omega) fun t ht => h t (by omega)]
    have hkn : k < s.links.length := by omega
    have hh := h k (by omega)
    unfold hitB at hh
    rw [List.getElem?_eq_getElem hkn] at hh
    simp only at hh
    have e : (s.links.take (k + 1)).map (·.name) = (s.links.take k).map (·.name) ++ [s.links[k].name] := by
      rw [List.take_succ_eq_append_getElem hkn, List.map_append]; rfl
    rw [List.drop_eq_getElem_cons hkn, dupL, hh, e, List.append_assoc]
    rfl
theorem dup_hit {s : Src} {k : Nat} (hk : k < s.links.length) (h : ∀ t, t < k → hitB s t = false) (hh : hitB s k = true) : linksB s = ⟨10, 3, k, 0⟩ := by
  unfold linksB
  rw [dup_drop k (by omega) h, List.drop_eq_getElem_cons hk, dupL]
  unfold hitB at hh
  rw [List.getElem?_eq_getElem hk] at hh
  simp only at hh
  rw [if_pos hh]
  rfl
theorem dup_none {s : Src} (h : ∀ t, t < s.links.length → hitB s t = false) : linksB s = noFlaw := by
  unfold linksB
  rw [dup_drop _ (Nat.le_refl _) h, List.drop_length, dupL]
  rfl
theorem inL_append {a b : List ByteArray} {s : ByteArray} : inL (a ++ b) s = (inL a s || inL b s) := by
  unfold inL
  rw [List.any_append]
theorem zone_in {zs : List ZoneM} {nm : ByteArray} : (zoneAt zs nm).isSome = inL (zs.map (·.name)) nm := by
  rw [Bool.eq_iff_iff, inL_iff]
  unfold zoneAt
  rw [List.findIdx?_isSome, List.any_eq_true]
  simp
theorem link_in {zs : List Link} {nm : ByteArray} : (linkAt zs nm).isSome = inL (zs.map (·.name)) nm := by
  rw [Bool.eq_iff_iff, inL_iff]
  unfold linkAt
  rw [List.findIdx?_isSome, List.any_eq_true]
  simp
theorem atI_some (o : Option Nat) : decide (0 ≤ atI o) = o.isSome := by
  cases o with
  | none => rfl
  | some i => simp [atI]
theorem atI_none (o : Option Nat) : decide (atI o < 0) = !o.isSome := by
  cases o with
  | none => rfl
  | some i => exact decide_eq_false (show ¬ ((i : Int) < 0) by omega)
theorem link_before {ls : List Link} {k : Nat} (hk : k < ls.length) : decide (atI (linkAt ls ls[k].name) < (k : Nat)) = inL ((ls.take k).map (·.name)) ls[k].name := by
  cases h : linkAt ls ls[k].name with
  | none =>
    exfalso
    have h2 : (linkAt ls ls[k].name).isSome = true := by
      rw [link_in, inL_iff]
      exact List.mem_map.2 ⟨ls[k], List.getElem_mem hk, rfl⟩
    rw [h] at h2
    cases h2
  | some j =>
    unfold linkAt at h
    obtain ⟨hj, h1, h2⟩ := List.findIdx?_eq_some_iff_getElem.1 h
    rw [Bool.eq_iff_iff, inL_iff]
    simp only [atI]
    constructor
    · intro hlt
      have hlt := of_decide_eq_true hlt
      have hjk : j < k := by omega
      refine List.mem_map.2 ⟨ls[j], ?_, of_decide_eq_true h1⟩
      rw [List.mem_take_iff_getElem]
      exact ⟨j, by omega, rfl⟩
    · intro hm
      obtain ⟨l, hl, e⟩ := List.mem_map.1 hm
      obtain ⟨t, ht, e2⟩ := List.mem_take_iff_getElem.1 hl
      rcases Nat.lt_or_ge t j with hlt | hge
      · have h3 := h2 t hlt
        rw [e2, e] at h3
        simp at h3
      · exact decide_eq_true (by have := Nat.lt_of_lt_of_le ht (Nat.min_le_left _ _); omega)
theorem hit_is {s : Src} {k : Nat} (hk : k < s.links.length) : hitB s k = (decide (0 ≤ atI (zoneAt s.zones s.links[k].name)) || decide (atI (linkAt s.links s.links[k].name) < (k : Nat))) := by
  unfold hitB
  rw [List.getElem?_eq_getElem hk]
  simp only
  rw [inL_append, atI_some, zone_in, link_before hk]
theorem known_is (s : Src) (nm : ByteArray) : inL (allNames s) nm = !(decide (atI (zoneAt s.zones nm) < 0) && decide (atI (linkAt s.links nm) < 0)) := by
  unfold allNames
  rw [inL_append, atI_none, atI_none, zone_in, link_in]
  cases inL (s.zones.map (·.name)) nm <;> cases inL (s.links.map (·.name)) nm <;> rfl
theorem two_drew {w W : World} {cs ds : Array Value} (h : Two w cs ds W) : Two w cs ds W.drew := ⟨h.src.drew, h.res.drew, h.bel.drew⟩
set_option maxHeartbeats 4000000 in
set_option maxRecDepth 100000 in
theorem rlinks_any (s : Src) (A A2 A3 : Option Addr) (c c2 c3 : Nat) (w : World) (h : SrcOk s A A2 A3 w) :
    Calls Tryz.prog 28 #[.agg #[.slice A s.rules.length c, .slice A2 s.zones.length c2, .slice A3 s.links.length c3]] w fun e w' => e = .returned (.agg (if linksB s = noFlaw then targetsB s else linksB s).cells.toArray) ∧ Below w.heap.size w w' := by
  have HZ := Lib.hid (fun n z (hb : Below w.heap.size w z) => rzone_any s A A2 A3 c c2 c3 n z (h.below hb))
  have HLk := Lib.hid (fun n z (hb : Below w.heap.size w z) => rlink_any s A A2 A3 c c2 c3 n z (h.below hb))
  have HRs := Lib.hid (fun n z (hb : Below w.heap.size w z) => rresolve_any s A A2 A3 c c2 c3 n z (h.below hb))
  have HR := Lib.hid h.rl
  have nl := h.nl
  clear h
  obtain ⟨Q, hQ⟩ : ∃ Q, (if linksB s = noFlaw then targetsB s else linksB s) = Q := ⟨_, rfl⟩
  rw [hQ]
  have HQ1 : Hid (∀ k : Nat, linksB s = ⟨10, 3, k, 0⟩ → Q = ⟨10, 3, k, 0⟩) := fun k e => by rw [← hQ, e, if_neg (flaw_ne (.inl (by decide)))]
  have HQ2 : Hid (linksB s = noFlaw → Q = targetsB s) := fun e => by rw [← hQ, if_pos e]
  have HT1 : Hid (∀ k, (s.links.findIdx? fun l => !inL (allNames s) l.target) = some k → targetsB s = ⟨8, 3, k, 0⟩) := fun k e => by unfold targetsB; rw [e]
  have HT2 : Hid ((s.links.findIdx? fun l => !inL (allNames s) l.target) = none → targetsB s = flawAt 16 3 (s.links.findIdx? fun l => !(resolveB s l.name).isSome)) := fun e => by unfold targetsB; rw [e]
  clear hQ
  have hst := Two.start w #[.slice A s.rules.length c, .slice A2 s.zones.length c2, .slice A3 s.links.length c3]
  obtain ⟨W, hW⟩ : ∃ W, (w.alloc (.cells #[.slice A s.rules.length c, .slice A2 s.zones.length c2, .slice A3 s.links.length c3] 26)).alloc (.cells #[.int .i64 0, .int .i64 0, .int .i64 0, .int .i64 0] 31) = W := ⟨_, rfl⟩
  rw [hW] at hst
  have HT := Lib.hid hst
  have c0 := fun i => hst.src.cell i
  clear hst
  go_enter Tryz.func28, Tryz.ntmps28
  go_wp2_with fail
  clear c0
  go_loopw [3] (fun i wr => ∃ k : Nat, k ≤ s.links.length ∧ i = .int .i64 k ∧ (∀ t, t < k → hitB s t = false) ∧ Two w #[.slice A s.rules.length c, .slice A2 s.zones.length c2, .slice A3 s.links.length c3] #[.int .i64 0, .int .i64 0, .int .i64 0, .int .i64 0] wr) (fun i _ => s.links.length - (intOf i).toNat)
  case atStart => exact ⟨0, Nat.zero_le _, rfl, (fun t ht => absurd ht (Nat.not_lt_zero _)), HT.out⟩
  case round =>
    clear HT
    obtain ⟨k, hk, rfl, hno, ht⟩ := hrel
    have HT := Lib.hid ht; have HNo := Lib.hid hno
    have c0 := fun i => ht.src.cell i
    clear ht hno
    by_cases hkn : k < s.links.length
    · skip
      obtain ⟨ad, hA, hadb, _⟩ := link_cells (HR.out.below HT.out.bel) hkn rfl
      subst hA
      have hlc := fun z (hb : Below w.heap.size w z) => link_cells (HR.out.below hb) hkn rfl
      obtain ⟨Cls, hCls⟩ : ∃ C : World → Prop, C = Two w #[.slice A s.rules.length c, .slice A2 s.zones.length c2, .slice (some ad) s.links.length c3] #[.int .i64 0, .int .i64 0, .int .i64 0, .int .i64 0] := ⟨_, rfl⟩
      have hC : ∀ z, Cls z → Two w #[.slice A s.rules.length c, .slice A2 s.zones.length c2, .slice (some ad) s.links.length c3] #[.int .i64 0, .int .i64 0, .int .i64 0, .int .i64 0] z := fun z h => by rw [hCls] at h; exact h
      have hin : ∀ z, Two w #[.slice A s.rules.length c, .slice A2 s.zones.length c2, .slice (some ad) s.links.length c3] #[.int .i64 0, .int .i64 0, .int .i64 0, .int .i64 0] z → Cls z := fun z h => by rw [hCls]; exact h
      have hstart := hin _ (two_drew HT.out)
      have inst : Nonempty (Qt.In Cls) := ⟨⟨_, hstart⟩⟩
      have gs : ∀ (z : Qt.In Cls) (i : Nat), z.w.cell? ⟨w.heap.size, i, none⟩ = #[.slice A s.rules.length c, .slice A2 s.zones.length c2, .slice (some ad) s.links.length c3][i]? := fun z i => (hC z.w z.h).src.cell i
      have gn : ∀ z : Qt.In Cls, z.w.cell? ⟨(ad.add (k * 2)).block, (ad.add (k * 2)).off + 1, none⟩ = some (.string (s.links[k]'hkn).name) := fun z => by obtain ⟨ad', e, _, q⟩ := hlc z.w (hC z.w z.h).bel; obtain rfl : ad = ad' := (by injection e); exact q.2
      have hfact := hit_is hkn
      obtain ⟨nm, hnm⟩ : ∃ n, n = (s.links[k]'hkn).name := ⟨_, rfl⟩
      have hz := HZ.out nm; have hl := HLk.out nm
      rw [← hnm] at gn hfact
      clear hnm hlc
      generalize atI (zoneAt s.zones nm) = zi at *
      generalize atI (linkAt s.links nm) = li at *
      have HZc : Hid (∀ z, Cls z → Calls Tryz.prog 33 #[.agg #[.slice A s.rules.length c, .slice A2 s.zones.length c2, .slice (some ad) s.links.length c3], .string nm] z fun e z' => e = .returned (.int .i64 zi) ∧ Cls z') := fun z h => (hz z (hC z h).bel).mono fun e z' ⟨he, hb⟩ => ⟨he, hin _ ((hC z h).step hb)⟩
      have HLc : Hid (∀ z, Cls z → Calls Tryz.prog 34 #[.agg #[.slice A s.rules.length c, .slice A2 s.zones.length c2, .slice (some ad) s.links.length c3], .string nm] z fun e z' => e = .returned (.int .i64 li) ∧ Cls z') := fun z h => (hl z (hC z h).bel).mono fun e z' ⟨he, hb⟩ => ⟨he, hin _ ((hC z h).step hb)⟩
      have HCx := Lib.hid hC; have HS := Lib.hid hstart; have HFa := Lib.hid hfact
      clear hC hstart hCls hin hz hl hfact
      cases g1 : decide (0 ≤ zi)
      · cases g2 : decide (li < (k : Int))
        · have hh : hitB s k = false := by rw [HFa.out, g1, g2]; rfl
          have HNx : Hid (∀ t, t < k + 1 → hitB s t = false) := fun t ht => by
            by_cases e : t = k
            · rw [e]; exact hh
            · exact HNo.out t (by omega)
          clear hh HFa HNo
          go_wp2
          refine Qt.wp_region_cls Cls (by kernel_rfl) (by kernel_rfl) HS.out ?_
          repeat (go_big_quiet_step (fail))
          go_big_quiet_step (exact Qt.quiet_cls (HZc.out _ (Qt.In.h _)))
          repeat (go_big_quiet_step (fail))
          go_big_quiet_step (exact Qt.quiet_cls (HLc.out _ (Qt.In.h _)))
          repeat (go_big_quiet_step (fail))
          refine wpQuiet_nil ?_
          rintro wq ⟨⟨w9, hq9⟩, e9⟩
          have HX := Lib.hid (HCx.out wq (by rw [e9]; exact hq9))
          clear hq9 e9 gs gn
          go_wp2
          exact ⟨⟨k + 1, by omega, by go_num, HNx.out, HX.out⟩, by simp [intOf]; omega⟩
        · have hh : hitB s k = true := by rw [HFa.out, g1, g2]; rfl
          have hq := HQ1.out k (dup_hit hkn HNo.out hh)
          subst hq
          clear hh HFa HNo HQ1 HQ2 HT1 HT2
          go_wp2
          refine Qt.wp_region_cls Cls (by kernel_rfl) (by kernel_rfl) HS.out ?_
          repeat (go_big_quiet_step (fail))
          go_big_quiet_step (exact Qt.quiet_cls (HZc.out _ (Qt.In.h _)))
          repeat (go_big_quiet_step (fail))
          go_big_quiet_step (exact Qt.quiet_cls (HLc.out _ (Qt.In.h _)))
          repeat (go_big_quiet_step (fail))
          refine wpQuiet_nil ?_
          rintro wq ⟨⟨w9, hq9⟩, e9⟩
          have HX := Lib.hid (HCx.out wq (by rw [e9]; exact hq9))
          clear hq9 e9 gs gn
          go_wp2_with (go_at_call 23; refine (flaw_any _ _ _ _ _).mono ?_; rintro e w5 ⟨rfl, hb⟩; have ht := HX.out.step hb; have fR := fun i => ht.res.frozen i; have cR := fun i => ht.res.cell i; have HF := Lib.hid (ht.fill (.int .i64 10) (.int .i64 3) (.int .i64 k) (.int .i64 0)); clear hb ht)
          refine bodyPost_ret (rlinks_results HF.out.res _ rfl) rfl ?_
          exact ⟨rfl, HF.out.bel⟩
      · have hh : hitB s k = true := by rw [HFa.out, g1]; rfl
        have hq := HQ1.out k (dup_hit hkn HNo.out hh)
        subst hq
        clear hh HFa HNo HQ1 HQ2 HT1 HT2
        go_wp2
        refine Qt.wp_region_cls Cls (by kernel_rfl) (by kernel_rfl) HS.out ?_
        repeat (go_big_quiet_step (fail))
        go_big_quiet_step (exact Qt.quiet_cls (HZc.out _ (Qt.In.h _)))
        repeat (go_big_quiet_step (fail))
        refine wpQuiet_nil ?_
        rintro wq ⟨⟨w9, hq9⟩, e9⟩
        have HX := Lib.hid (HCx.out wq (by rw [e9]; exact hq9))
        clear hq9 e9 gs gn
        go_wp2_with (go_at_call 23; refine (flaw_any _ _ _ _ _).mono ?_; rintro e w5 ⟨rfl, hb⟩; have ht := HX.out.step hb; have fR := fun i => ht.res.frozen i; have cR := fun i => ht.res.cell i; have HF := Lib.hid (ht.fill (.int .i64 10) (.int .i64 3) (.int .i64 k) (.int .i64 0)); clear hb ht)
        refine bodyPost_ret (rlinks_results HF.out.res _ rfl) rfl ?_
        exact ⟨rfl, HF.out.bel⟩
    · obtain rfl : k = s.links.length := by omega
      have hq := HQ2.out (dup_none HNo.out)
      have HQ3 := Lib.hid hq
      clear hq HQ1 HQ2 HNo
      go_wp2
      clear c0
      go_loopw [4] (fun i wr => ∃ k : Nat, k ≤ s.links.length ∧ i = .int .i64 k ∧ (s.links.take k).all (fun l => !(!inL (allNames s) l.target)) = true ∧ Two w #[.slice A s.rules.length c, .slice A2 s.zones.length c2, .slice A3 s.links.length c3] #[.int .i64 0, .int .i64 0, .int .i64 0, .int .i64 0] wr) (fun i _ => s.links.length - (intOf i).toNat)
      case atStart => exact ⟨0, Nat.zero_le _, rfl, rfl, HT.out⟩
      case round =>
        clear HT
        obtain ⟨k, hk, rfl, hall, ht⟩ := hrel
        have HT := Lib.hid ht
        have c0 := fun i => ht.src.cell i
        by_cases hkn : k < s.links.length
        · have hhit := fun hp => find_hit (p := fun l : Link => !inL (allNames s) l.target) hkn hall hp
          have hnx := fun hp => no_step (p := fun l : Link => !inL (allNames s) l.target) hkn hall hp
          have HHit := Lib.hid hhit; have HNx := Lib.hid hnx
          clear hhit hnx hall ht
          obtain ⟨ad, hA, hadb, _⟩ := link_cells (HR.out.below HT.out.bel) hkn rfl
          subst hA
          have hlc := fun z (hb : Below w.heap.size w z) => link_cells (HR.out.below hb) hkn rfl
          obtain ⟨Cls, hCls⟩ : ∃ C : World → Prop, C = Two w #[.slice A s.rules.length c, .slice A2 s.zones.length c2, .slice (some ad) s.links.length c3] #[.int .i64 0, .int .i64 0, .int .i64 0, .int .i64 0] := ⟨_, rfl⟩
          have hC : ∀ z, Cls z → Two w #[.slice A s.rules.length c, .slice A2 s.zones.length c2, .slice (some ad) s.links.length c3] #[.int .i64 0, .int .i64 0, .int .i64 0, .int .i64 0] z := fun z h => by rw [hCls] at h; exact h
          have hin : ∀ z, Two w #[.slice A s.rules.length c, .slice A2 s.zones.length c2, .slice (some ad) s.links.length c3] #[.int .i64 0, .int .i64 0, .int .i64 0, .int .i64 0] z → Cls z := fun z h => by rw [hCls]; exact h
          have hstart := hin _ (two_drew HT.out)
          have inst : Nonempty (Qt.In Cls) := ⟨⟨_, hstart⟩⟩
          have gs : ∀ (z : Qt.In Cls) (i : Nat), z.w.cell? ⟨w.heap.size, i, none⟩ = #[.slice A s.rules.length c, .slice A2 s.zones.length c2, .slice (some ad) s.links.length c3][i]? := fun z i => (hC z.w z.h).src.cell i
          have gn : ∀ z : Qt.In Cls, z.w.cell? (ad.add (k * 2)) = some (.string (s.links[k]'hkn).target) := fun z => by obtain ⟨ad', e, _, q⟩ := hlc z.w (hC z.w z.h).bel; obtain rfl : ad = ad' := (by injection e); exact q.1
          have hfact := known_is s (s.links[k]'hkn).target
          have hfact2 : (!inL (allNames s) (s.links[k]'hkn).target) = (decide (atI (zoneAt s.zones (s.links[k]'hkn).target) < 0) && decide (atI (linkAt s.links (s.links[k]'hkn).target) < 0)) := by rw [hfact, Bool.not_not]
          have HF2 := Lib.hid hfact2
          clear hfact hfact2
          obtain ⟨nm, hnm⟩ : ∃ n, n = (s.links[k]'hkn).target := ⟨_, rfl⟩
          have hz := HZ.out nm; have hl := HLk.out nm
          rw [← hnm] at gn HF2
          simp only [← hnm] at HHit HNx
          clear hnm hlc
          generalize atI (zoneAt s.zones nm) = zi at *
          generalize atI (linkAt s.links nm) = li at *
          have HZc : Hid (∀ z, Cls z → Calls Tryz.prog 33 #[.agg #[.slice A s.rules.length c, .slice A2 s.zones.length c2, .slice (some ad) s.links.length c3], .string nm] z fun e z' => e = .returned (.int .i64 zi) ∧ Cls z') := fun z h => (hz z (hC z h).bel).mono fun e z' ⟨he, hb⟩ => ⟨he, hin _ ((hC z h).step hb)⟩
          have HLc : Hid (∀ z, Cls z → Calls Tryz.prog 34 #[.agg #[.slice A s.rules.length c, .slice A2 s.zones.length c2, .slice (some ad) s.links.length c3], .string nm] z fun e z' => e = .returned (.int .i64 li) ∧ Cls z') := fun z h => (hl z (hC z h).bel).mono fun e z' ⟨he, hb⟩ => ⟨he, hin _ ((hC z h).step hb)⟩
          have HCx := Lib.hid hC; have HS := Lib.hid hstart
          clear hC hstart hCls hin hz hl
          cases g1 : decide (zi < 0)
          · have hn := HNx.out (by rw [HF2.out, g1]; rfl)
            have HN := Lib.hid hn
            clear hn HNx HHit HF2
            go_wp2
            refine Qt.wp_region_cls Cls (by kernel_rfl) (by kernel_rfl) HS.out ?_
            repeat (go_big_quiet_step (fail))
            go_big_quiet_step (exact Qt.quiet_cls (HZc.out _ (Qt.In.h _)))
            repeat (go_big_quiet_step (fail))
            refine wpQuiet_nil ?_
            rintro wq ⟨⟨w9, hq9⟩, e9⟩
            have HX := Lib.hid (HCx.out wq (by rw [e9]; exact hq9))
            clear hq9 e9 gs gn
            go_wp2
            exact ⟨⟨k + 1, by omega, by go_num, HN.out, HX.out⟩, by simp [intOf]; omega⟩
          · cases g2 : decide (li < 0)
            · have hn := HNx.out (by rw [HF2.out, g1, g2]; rfl)
              have HN := Lib.hid hn
              clear hn HNx HHit HF2
              go_wp2
              refine Qt.wp_region_cls Cls (by kernel_rfl) (by kernel_rfl) HS.out ?_
              repeat (go_big_quiet_step (fail))
              go_big_quiet_step (exact Qt.quiet_cls (HZc.out _ (Qt.In.h _)))
              repeat (go_big_quiet_step (fail))
              go_big_quiet_step (exact Qt.quiet_cls (HLc.out _ (Qt.In.h _)))
              repeat (go_big_quiet_step (fail))
              refine wpQuiet_nil ?_
              rintro wq ⟨⟨w9, hq9⟩, e9⟩
              have HX := Lib.hid (HCx.out wq (by rw [e9]; exact hq9))
              clear hq9 e9 gs gn
              go_wp2
              exact ⟨⟨k + 1, by omega, by go_num, HN.out, HX.out⟩, by simp [intOf]; omega⟩
            · have hq := HT1.out k (HHit.out (by rw [HF2.out, g1, g2]; rfl))
              rw [← HQ3.out] at hq
              subst hq
              clear HNx HHit HF2 HQ3 HT1 HT2
              go_wp2
              refine Qt.wp_region_cls Cls (by kernel_rfl) (by kernel_rfl) HS.out ?_
              repeat (go_big_quiet_step (fail))
              go_big_quiet_step (exact Qt.quiet_cls (HZc.out _ (Qt.In.h _)))
              repeat (go_big_quiet_step (fail))
              go_big_quiet_step (exact Qt.quiet_cls (HLc.out _ (Qt.In.h _)))
              repeat (go_big_quiet_step (fail))
              refine wpQuiet_nil ?_
              rintro wq ⟨⟨w9, hq9⟩, e9⟩
              have HX := Lib.hid (HCx.out wq (by rw [e9]; exact hq9))
              clear hq9 e9 gs gn
              go_wp2_with (go_at_call 23; refine (flaw_any _ _ _ _ _).mono ?_; rintro e w5 ⟨rfl, hb⟩; have ht := HX.out.step hb; have fR := fun i => ht.res.frozen i; have cR := fun i => ht.res.cell i; have HF := Lib.hid (ht.fill (.int .i64 8) (.int .i64 3) (.int .i64 k) (.int .i64 0)); clear hb ht)
              refine bodyPost_ret (rlinks_results HF.out.res _ rfl) rfl ?_
              exact ⟨rfl, HF.out.bel⟩
        · obtain rfl : k = s.links.length := by omega
          rw [List.take_length] at hall
          have hq := HT2.out (find_miss hall)
          rw [← HQ3.out] at hq
          have HQ4 := Lib.hid hq
          clear hq HT1 HT2 HQ3 hall ht
          go_wp2
          clear c0
          go_loopw [5] (fun i wr => ∃ k : Nat, k ≤ s.links.length ∧ i = .int .i64 k ∧ (s.links.take k).all (fun l => !(!(resolveB s l.name).isSome)) = true ∧ Two w #[.slice A s.rules.length c, .slice A2 s.zones.length c2, .slice A3 s.links.length c3] #[.int .i64 0, .int .i64 0, .int .i64 0, .int .i64 0] wr) (fun i _ => s.links.length - (intOf i).toNat)
          case atStart => exact ⟨0, Nat.zero_le _, rfl, rfl, HT.out⟩
          case round =>
            clear HT
            obtain ⟨k, hk, rfl, hall, ht⟩ := hrel
            have HT := Lib.hid ht
            have c0 := fun i => ht.src.cell i
            by_cases hkn : k < s.links.length
            · have hhit := fun hp => find_hit (p := fun l : Link => !(resolveB s l.name).isSome) hkn hall hp
              have hnx := fun hp => no_step (p := fun l : Link => !(resolveB s l.name).isSome) hkn hall hp
              have HHit := Lib.hid hhit; have HNx := Lib.hid hnx
              clear hhit hnx hall ht
              obtain ⟨ad, hA, hadb, _⟩ := link_cells (HR.out.below HT.out.bel) hkn rfl
              subst hA
              have hlc := fun z (hb : Below w.heap.size w z) => link_cells (HR.out.below hb) hkn rfl
              obtain ⟨Cls, hCls⟩ : ∃ C : World → Prop, C = Two w #[.slice A s.rules.length c, .slice A2 s.zones.length c2, .slice (some ad) s.links.length c3] #[.int .i64 0, .int .i64 0, .int .i64 0, .int .i64 0] := ⟨_, rfl⟩
              have hC : ∀ z, Cls z → Two w #[.slice A s.rules.length c, .slice A2 s.zones.length c2, .slice (some ad) s.links.length c3] #[.int .i64 0, .int .i64 0, .int .i64 0, .int .i64 0] z := fun z h => by rw [hCls] at h; exact h
              have hin : ∀ z, Two w #[.slice A s.rules.length c, .slice A2 s.zones.length c2, .slice (some ad) s.links.length c3] #[.int .i64 0, .int .i64 0, .int .i64 0, .int .i64 0] z → Cls z := fun z h => by rw [hCls]; exact h
              have hstart := hin _ (two_drew HT.out)
              have inst : Nonempty (Qt.In Cls) := ⟨⟨_, hstart⟩⟩
              have gs : ∀ (z : Qt.In Cls) (i : Nat), z.w.cell? ⟨w.heap.size, i, none⟩ = #[.slice A s.rules.length c, .slice A2 s.zones.length c2, .slice (some ad) s.links.length c3][i]? := fun z i => (hC z.w z.h).src.cell i
              have gn : ∀ z : Qt.In Cls, z.w.cell? ⟨(ad.add (k * 2)).block, (ad.add (k * 2)).off + 1, none⟩ = some (.string (s.links[k]'hkn).name) := fun z => by obtain ⟨ad', e, _, q⟩ := hlc z.w (hC z.w z.h).bel; obtain rfl : ad = ad' := (by injection e); exact q.2
              obtain ⟨nm, hnm⟩ : ∃ n, n = (s.links[k]'hkn).name := ⟨_, rfl⟩
              have hrs := HRs.out nm
              rw [← hnm] at gn
              simp only [← hnm] at HHit HNx
              clear hnm hlc
              generalize ((resolveB s nm).getD 0 : Nat) = n at *
              generalize (resolveB s nm).isSome = ok at *
              have HRc : Hid (∀ z, Cls z → Calls Tryz.prog 12 #[.agg #[.slice A s.rules.length c, .slice A2 s.zones.length c2, .slice (some ad) s.links.length c3], .string nm] z fun e z' => e = .returned (.tuple #[.int .i64 (n : Nat), .bool ok]) ∧ Cls z') := fun z h => (hrs z (hC z h).bel).mono fun e z' ⟨he, hb⟩ => ⟨he, hin _ ((hC z h).step hb)⟩
              have HCx := Lib.hid hC; have HS := Lib.hid hstart
              clear hC hstart hCls hin hrs
              cases ok
              · have hq := HQ4.out
                rw [HHit.out rfl] at hq
                simp only [flawAt] at hq
                subst hq
                clear HNx HHit HQ4
                go_wp2
                refine Qt.wp_region_cls Cls (by kernel_rfl) (by kernel_rfl) HS.out ?_
                repeat (go_big_quiet_step (fail))
                go_big_quiet_step (exact Qt.quiet_cls (HRc.out _ (Qt.In.h _)))
                repeat (go_big_quiet_step (fail))
                refine wpQuiet_nil ?_
                rintro wq ⟨⟨w9, hq9⟩, e9⟩
                have HX := Lib.hid (HCx.out wq (by rw [e9]; exact hq9))
                clear hq9 e9 gs gn
                go_wp2_with (go_at_call 23; refine (flaw_any _ _ _ _ _).mono ?_; rintro e w5 ⟨rfl, hb⟩; have ht := HX.out.step hb; have fR := fun i => ht.res.frozen i; have cR := fun i => ht.res.cell i; have HF := Lib.hid (ht.fill (.int .i64 16) (.int .i64 3) (.int .i64 k) (.int .i64 0)); clear hb ht)
                refine bodyPost_ret (rlinks_results HF.out.res _ rfl) rfl ?_
                exact ⟨rfl, HF.out.bel⟩
              · have hn := HNx.out rfl
                have HN := Lib.hid hn
                clear hn HNx HHit
                go_wp2
                refine Qt.wp_region_cls Cls (by kernel_rfl) (by kernel_rfl) HS.out ?_
                repeat (go_big_quiet_step (fail))
                go_big_quiet_step (exact Qt.quiet_cls (HRc.out _ (Qt.In.h _)))
                repeat (go_big_quiet_step (fail))
                refine wpQuiet_nil ?_
                rintro wq ⟨⟨w9, hq9⟩, e9⟩
                have HX := Lib.hid (HCx.out wq (by rw [e9]; exact hq9))
                clear hq9 e9 gs gn
                go_wp2
                exact ⟨⟨k + 1, by omega, by go_num, HN.out, HX.out⟩, by simp [intOf]; omega⟩
            · obtain rfl : k = s.links.length := by omega
              rw [List.take_length] at hall
              have hq := HQ4.out
              rw [find_miss hall] at hq
              simp only [flawAt, noFlaw] at hq
              subst hq
              have fR := fun i => ht.res.frozen i
              have cR := fun i => ht.res.cell i
              have HF := Lib.hid (ht.fill (.int .i64 0) (.int .i64 0) (.int .i64 0) (.int .i64 0))
              clear hall ht HQ4
              go_wp2
              refine bodyPost_ret (rlinks_results HF.out.res _ rfl) rfl ?_
              exact ⟨rfl, HF.out.bel⟩
end Go.Proofs.YtgfdmjldfahbpaaGreatDoor.Snd
