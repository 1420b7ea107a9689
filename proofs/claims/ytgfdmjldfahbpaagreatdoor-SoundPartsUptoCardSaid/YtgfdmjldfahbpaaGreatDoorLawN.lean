/-
  The walk of the law SoundResolves. Conditions: the cell of bytealg.MaxLen holds a number; what the source's slices hold is read, the lengths are bounded.
  The walk of the law SoundNames. Conditions: the cell of bytealg.MaxLen holds a number; what the source's slices hold is read, the lengths are bounded.
-/
import Derived.Test.YtgfdmjldfahbpaaGreatDoorAl13
import Derived.Deep.RegionHeld3
import Derived.Test.YtgfdmjldfahbpaaGreatDoorSndL
namespace Go.Proofs.YtgfdmjldfahbpaaGreatDoor.Lw13
open Go.RowKit Mem Civ Img Rul Src Snd

theorem own_reads {w : World} {base : Nat} {v : Value} {l : List ByteArray} (h : w.ownsRow base 9 1 v l.length (txs l)) : ∃ A c, v = .slice A l.length c ∧ Reads w w.heap.size 1 A l.length (txs l) := by
  obtain ⟨A, c, rfl⟩ := own_slice h
  exact ⟨A, c, rfl, Reads.of_own h⟩
theorem names_r (s : Src) (A A2 A3 : Option Addr) (c c2 c3 : Nat) (w : World) (h : SrcOk s A A2 A3 w) :
    Calls Tryz.prog 14 #[.agg #[.slice A s.rules.length c, .slice A2 s.zones.length c2, .slice A3 s.links.length c3]] w fun e w' => ∃ An cn, e = .returned (.slice An (namesL (allNames s)).length cn) ∧ Reads w' w'.heap.size 1 An (namesL (allNames s)).length (txs (namesL (allNames s))) ∧ Below w.heap.size w w' := by
  refine (names_any s A A2 A3 c c2 c3 w h).mono ?_
  intro e w' hp
  obtain ⟨v, he, hown, hb⟩ := namesP_is hp
  obtain ⟨An, cn, rfl, hr⟩ := own_reads hown
  exact ⟨An, cn, he, hr, hb⟩
theorem rnames_r (s : Src) (A A2 A3 : Option Addr) (c c2 c3 : Nat) (w : World) (h : SrcOk s A A2 A3 w) (hn : s.zones.length + s.links.length ≤ 1000000) :
    Calls Tryz.prog 15 #[.agg #[.slice A s.rules.length c, .slice A2 s.zones.length c2, .slice A3 s.links.length c3]] w fun e w' => ∃ An cn, e = .returned (.slice An (namesL (allNames s)).length cn) ∧ Reads w' w'.heap.size 1 An (namesL (allNames s)).length (txs (namesL (allNames s))) ∧ Below w.heap.size w w' := by
  refine (rnames_any s A A2 A3 c c2 c3 w h hn).mono ?_
  rintro e w' ⟨v, he, hown, hb⟩
  obtain ⟨An, cn, rfl, hr⟩ := own_reads hown
  exact ⟨An, cn, he, hr, hb⟩
theorem cells3 {w W : World} {b : Nat} {t : TypeId} {a0 a1 a2 : Value} (h : One w b t #[a0, a1, a2] W) : W.cell? ⟨b, 0, none⟩ = some a0 ∧ W.cell? ⟨b, 1, none⟩ = some a1 ∧ W.cell? ⟨b, 2, none⟩ = some a2 := ⟨h.1.cell 0, h.1.cell 1, h.1.cell 2⟩
theorem below_n {w w' : World} (h : ∃ n, w' = w.drewN n) : Below w.heap.size w w' := below_drs h
set_option maxHeartbeats 4000000 in
set_option maxRecDepth 100000 in
theorem resolves (s : Src) (A A2 A3 : Option Addr) (c c2 c3 : Nat) (nm : ByteArray) (m : Int) (w : World) (h : SrcOk s A A2 A3 w) (hm : w.cell? ⟨0, 0, none⟩ = some (.int .i64 m)) (_ : nm.size ≤ 2097152) :
    Calls Tryz.prog 4 #[.agg #[.slice A s.rules.length c, .slice A2 s.zones.length c2, .slice A3 s.links.length c3], .string nm] w fun e w' => e = .returned (.bool true) ∧ Below w.heap.size w w' := by
  have HA := Lib.hid (fun z (hb : Below w.heap.size w z) => Snd.alive_any m z (cell_later hb hm))
  have HG := Lib.hid (fun z (hb : Below w.heap.size w z) => light_any s A A2 A3 c c2 c3 z (h.below hb))
  have HR := Lib.hid (fun z (hb : Below w.heap.size w z) => resolve_any s A A2 A3 c c2 c3 nm z (h.below hb))
  have HS := Lib.hid (fun z (hb : Below w.heap.size w z) => rresolve_any s A A2 A3 c c2 c3 nm z (h.below hb))
  have HN := Lib.hid (fun z (hb : Below w.heap.size w z) => names_r s A A2 A3 c c2 c3 z (h.below hb))
  have HM := Lib.hid (fun (hl : LightP s) z (hb : Below w.heap.size w z) => rnames_r s A A2 A3 c c2 c3 z (h.below hb) (by have := hl.2.1; have := hl.2.2; omega))
  have hlen : (namesL (allNames s)).length ≤ s.zones.length + s.links.length := by
    have := namesL_len (allNames s)
    unfold allNames at this ⊢
    rw [List.length_append, List.length_map, List.length_map] at this
    exact this
  have HLn := Lib.hid hlen
  generalize namesL (allNames s) = L at *
  generalize ((resolveB s nm).getD 0 : Nat) = n at *
  generalize (resolveB s nm).isSome = ok at *
  have HT := Lib.hid (fun A A' B B' c c' z h h' (hn : L.length ≤ 1000000) => sameTexts_any L A A' B B' c c' z h h' hn)
  clear h hm hlen
  have hone := One.new w 26 #[.slice A s.rules.length c, .slice A2 s.zones.length c2, .slice A3 s.links.length c3]
  obtain ⟨W, hW⟩ : ∃ W, w.alloc (.cells #[.slice A s.rules.length c, .slice A2 s.zones.length c2, .slice A3 s.links.length c3] 26) = W := ⟨_, rfl⟩
  rw [hW] at hone
  have HO := Lib.hid hone
  have c0 := fun i => hone.1.cell i
  clear hone
  go_enter Tryz.func4, Tryz.ntmps4
  go_wp2_with (first
    | (go_at_call 7; refine (HG.out _ HO.out.2).mono ?_; rintro e w1 ⟨lb, rfl, hlp, hb⟩; have ho := HO.out.step hb; have c1 := fun i => ho.1.cell i; have HO1 := Lib.hid ho; have HLp := Lib.hid hlp; clear hb ho hlp c0; cases lb)
    | (go_at_call 11; refine (HR.out _ HO1.out.2).mono ?_; rintro e w2 ⟨rfl, hb⟩; have ho := HO1.out.step hb; have c2 := fun i => ho.1.cell i; have HO2 := Lib.hid ho; clear hb ho c1)
    | (go_at_call 12; refine (HS.out _ HO2.out.2).mono ?_; rintro e w3 ⟨rfl, hb⟩; have ho := HO2.out.step hb; have c3 := fun i => ho.1.cell i; have HO3 := Lib.hid ho; clear hb ho c2)
    | (go_at_call 8; refine (HA.out _ HO1.out.2).mono ?_; rintro e w4 ⟨rfl, hb⟩; have ho := HO1.out.step hb; have c4 := fun i => ho.1.cell i; have HO4 := Lib.hid ho; clear hb ho))
  · go_ret
    exact ⟨rfl, HO4.out.2⟩
  · have hd3 := HO3.out.drew
    have hl := HLp.out (by trivial)
    have hn : L.length ≤ 1000000 := by have := HLn.out; have := hl.2.1; have := hl.2.2; omega
    have HL := Lib.hid hl; have Hn := Lib.hid hn
    have k0 := cells3 hd3
    have HD3 := Lib.hid hd3
    clear hl hn hd3 c3
    go_region_held3 (fun w' => w'.cell? ⟨w.heap.size, 0, none⟩ = some (.slice A s.rules.length c) ∧ w'.cell? ⟨w.heap.size, 1, none⟩ = some (.slice A2 s.zones.length c2) ∧ w'.cell? ⟨w.heap.size, 2, none⟩ = some (.slice A3 s.links.length c3)) (first | assumption | (simp [*]; done))
      (first
      | (go_at_call 8; refine (HA.out _ HD3.out.2).mono ?_; rintro e w4 ⟨rfl, hb⟩; have HO4 := Lib.hid (HD3.out.step hb); have kk := cells3 HO4.out; clear hb)
      | (go_at_call 14; refine (HN.out _ HO4.out.2).mono ?_; rintro e w5 ⟨An, cn, rfl, hr, hb⟩; have HO5 := Lib.hid (HO4.out.step hb); have HRd := Lib.hid hr; have kk5 := cells3 HO5.out; clear hb hr)
      | (go_at_call 15; refine (HM.out HL.out _ HO5.out.2).mono ?_; rintro e w6 ⟨Am, cm, rfl, hr, hb⟩; have HO6 := Lib.hid (HO5.out.step hb); have HR1 := Lib.hid ((HRd.out.below hb).more hb.size); have HR2 := Lib.hid hr; have kk6 := cells3 HO6.out; clear hb hr)
      | (go_at_call 13; refine (HT.out _ _ _ _ _ _ _ HR1.out HR2.out Hn.out).mono ?_; rintro e w7 ⟨rfl, hd⟩; have HB7 := Lib.hid (HO6.out.step (below_n hd)); have kk7 := cells3 HB7.out; clear hd))
    go_wp2
    go_ret
    exact ⟨rfl, HB7.out.2⟩
end Go.Proofs.YtgfdmjldfahbpaaGreatDoor.Lw13
namespace Go.Proofs.YtgfdmjldfahbpaaGreatDoor.Lw13
open Go.RowKit Mem Civ Img Rul Src Snd

/-- What Check answers, beside no flaw at all. -/
theorem check_eq (f : Flaw) : (∀ z, (Op.equalIn 10000 31 (.agg #[.int .i64 f.err, .int .i64 f.kind, .int .i64 f.at_, .int .i64 f.era]) (.agg #[.int .i64 0, .int .i64 0, .int .i64 0, .int .i64 0])).run Tryz.prog z = .ok (decide (f = noFlaw)) z) := fun z => eq_flaw f noFlaw z
theorem check_c (s : Src) (A A2 A3 : Option Addr) (c c2 c3 : Nat) (m : Int) (w : World) (h : SrcOk s A A2 A3 w) (hm : w.cell? ⟨0, 0, none⟩ = some (.int .i64 m)) (a b d g : Int) (hq : checkB s = ⟨a, b, d, g⟩) :
    Calls Tryz.prog 9 #[.agg #[.slice A s.rules.length c, .slice A2 s.zones.length c2, .slice A3 s.links.length c3]] w fun e w' => e = .returned (.agg #[.int .i64 a, .int .i64 b, .int .i64 d, .int .i64 g]) ∧ Below w.heap.size w w' := by
  have h1 := check_any s A A2 A3 c c2 c3 m w h hm
  rw [hq] at h1
  exact h1
theorem any_take {L : List ByteArray} {nm : ByteArray} {k : Nat} (hk : k < L.length) : (L.take (k + 1)).any (fun a => decide (a = nm)) = ((L.take k).any (fun a => decide (a = nm)) || decide (L[k] = nm)) := by
  rw [List.take_succ_eq_append_getElem hk, List.any_append]
  simp
set_option maxHeartbeats 4000000 in
set_option maxRecDepth 100000 in
theorem names (s : Src) (A A2 A3 : Option Addr) (c c2 c3 : Nat) (nm : ByteArray) (m : Int) (w : World) (h : SrcOk s A A2 A3 w) (hm : w.cell? ⟨0, 0, none⟩ = some (.int .i64 m)) (_ : nm.size ≤ 2097152) :
    Calls Tryz.prog 5 #[.agg #[.slice A s.rules.length c, .slice A2 s.zones.length c2, .slice A3 s.links.length c3], .string nm] w fun e w' => e = .returned (.bool true) ∧ Below w.heap.size w w' := by
  have HA := Lib.hid (fun z (hb : Below w.heap.size w z) => Snd.alive_any m z (cell_later hb hm))
  have HG := Lib.hid (fun z (hb : Below w.heap.size w z) => light_any s A A2 A3 c c2 c3 z (h.below hb))
  obtain ⟨⟨a0, a1, a2, a3⟩, hq⟩ : ∃ q, checkB s = q := ⟨_, rfl⟩
  have HC := Lib.hid (fun z (hb : Below w.heap.size w z) => check_c s A A2 A3 c c2 c3 m z (h.below hb) (cell_later hb hm) a0 a1 a2 a3 hq)
  have heq := check_eq ⟨a0, a1, a2, a3⟩
  have HR := Lib.hid (fun n z (hb : Below w.heap.size w z) => resolve_any s A A2 A3 c c2 c3 n z (h.below hb))
  have HN := Lib.hid (fun z (hb : Below w.heap.size w z) => names_r s A A2 A3 c c2 c3 z (h.below hb))
  have hnz := h.nz; have hnl := h.nl
  clear h hm
  have hone := One.new w 26 #[.slice A s.rules.length c, .slice A2 s.zones.length c2, .slice A3 s.links.length c3]
  obtain ⟨W, hW⟩ : ∃ W, w.alloc (.cells #[.slice A s.rules.length c, .slice A2 s.zones.length c2, .slice A3 s.links.length c3] 26) = W := ⟨_, rfl⟩
  rw [hW] at hone
  have HO := Lib.hid hone
  have c0 := fun i => hone.1.cell i
  clear hone
  by_cases hcl : (⟨a0, a1, a2, a3⟩ : Flaw) = noFlaw
  rotate_left
  · rw [decide_eq_false hcl] at heq
    clear hq hcl
    go_enter Tryz.func5, Tryz.ntmps5
    go_wp2_with (first
      | (go_at_call 7; refine (HG.out _ HO.out.2).mono ?_; rintro e w1 ⟨lb, rfl, hlp, hb⟩; have ho := HO.out.step hb; have c1 := fun i => ho.1.cell i; have HO1 := Lib.hid ho; clear hb ho hlp c0; cases lb)
      | (go_at_call 9; refine (HC.out _ HO1.out.2).mono ?_; rintro e w2 ⟨rfl, hb⟩; have HO2 := Lib.hid (HO1.out.step hb); clear hb c1)
      | (go_at_call 8; refine (HA.out _ HO2.out.2).mono ?_; rintro e w3 ⟨rfl, hb⟩; have HO3 := Lib.hid (HO2.out.step hb); clear hb)
      | (go_at_call 8; refine (HA.out _ HO1.out.2).mono ?_; rintro e w3 ⟨rfl, hb⟩; have HO3 := Lib.hid (HO1.out.step hb); clear hb))
    all_goals go_ret
    all_goals exact ⟨rfl, HO3.out.2⟩
  · rw [decide_eq_true hcl] at heq
    have hclean : checkB s = noFlaw := hq.trans hcl
    have hres : ∀ a, a ∈ namesL (allNames s) → ∃ i : Nat, resolveB s a = some i ∧ i < s.zones.length := fun a ha => by
      obtain ⟨i, hi⟩ := Option.isSome_iff_exists.1 ((resolves_iff hclean a).2 (namesL_mem.1 ha))
      exact ⟨i, hi, stepR_lt hi⟩
    have hlen : (namesL (allNames s)).length = s.zones.length + s.links.length := by
      rw [namesL_nodup (names_nodup hclean)]
      simp [allNames]
    have hok : (resolveB s nm).isSome = (namesL (allNames s)).any fun a => decide (a = nm) := by
      rw [Bool.eq_iff_iff, resolves_iff hclean, List.any_eq_true, ← namesL_mem]
      constructor
      · exact fun hm => ⟨nm, hm, by simp⟩
      · rintro ⟨a, ha, e⟩
        rw [← of_decide_eq_true e]; exact ha
    generalize namesL (allNames s) = L at *
    have Hres := Lib.hid hres; have Hlen := Lib.hid hlen; have Hok := Lib.hid hok
    clear hq hcl hclean hres hlen hok
    go_enter Tryz.func5, Tryz.ntmps5
    go_wp2_with (first
      | (go_at_call 7; refine (HG.out _ HO.out.2).mono ?_; rintro e w1 ⟨lb, rfl, hlp, hb⟩; have ho := HO.out.step hb; have c1 := fun i => ho.1.cell i; have HO1 := Lib.hid ho; clear hb ho hlp c0; cases lb)
      | (go_at_call 9; refine (HC.out _ HO1.out.2).mono ?_; rintro e w2 ⟨rfl, hb⟩; have ho := HO1.out.step hb; have c2 := fun i => ho.1.cell i; have HO2 := Lib.hid ho; clear hb ho c1)
      | (go_at_call 8; refine (HA.out _ HO1.out.2).mono ?_; rintro e w3 ⟨rfl, hb⟩; have HO3 := Lib.hid (HO1.out.step hb); clear hb)
      | (go_at_call 14; refine (HN.out _ HO2.out.2).mono ?_; rintro e w5 ⟨An, cn, rfl, hr, hb⟩; have HO5 := Lib.hid (HO2.out.step hb); have HRd := Lib.hid hr; clear hb hr c2))
    · go_ret
      exact ⟨rfl, HO3.out.2⟩
    clear heq HC HG HN HO HO1 HO2
    go_loopw [6, 7] (fun q i wr => ∃ k : Nat, k ≤ L.length ∧ i = .int .i64 k ∧ q = .bool ((L.take k).any fun a => decide (a = nm)) ∧ One w w.heap.size 26 #[.slice A s.rules.length c, .slice A2 s.zones.length c2, .slice A3 s.links.length c3] wr ∧ Below w5.heap.size w5 wr) (fun _ i _ => L.length - (intOf i).toNat)
    case atStart => exact ⟨0, Nat.zero_le _, rfl, rfl, HO5.out, Below.refl _ _⟩
    case round =>
      clear HO5
      obtain ⟨k, hk, rfl, rfl, ho, hb5⟩ := hrel
      have HO := Lib.hid ho; have HB5 := Lib.hid hb5
      clear ho hb5
      have hll := Hlen.out
      by_cases hkn : k < L.length
      · obtain ⟨ad, hA, hadb, a0⟩ := txt_at (HRd.out.below HB5.out) hkn
        subst hA
        obtain ⟨i, hi, hil⟩ := Hres.out L[k] (List.getElem_mem hkn)
        have HRk := Lib.hid (fun z hb => HR.out L[k] z hb)
        simp only [hi, Option.getD_some, Option.isSome_some] at HRk
        have hst := any_take (nm := nm) hkn
        have hbq := tl_beq L[k] nm
        have HSt := Lib.hid hst
        clear hi hst
        obtain ⟨Cls, hCls⟩ : ∃ C : World → Prop, C = fun z => One w w.heap.size 26 #[.slice A s.rules.length c, .slice A2 s.zones.length c2, .slice A3 s.links.length c3] z ∧ Below w5.heap.size w5 z := ⟨_, rfl⟩
        have hC : ∀ z, Cls z → One w w.heap.size 26 #[.slice A s.rules.length c, .slice A2 s.zones.length c2, .slice A3 s.links.length c3] z ∧ Below w5.heap.size w5 z := fun z h => by rw [hCls] at h; exact h
        have hstart : Cls wr.drew := by rw [hCls]; exact ⟨HO.out.drew, HB5.out.drew⟩
        have inst : Nonempty (Qt.In Cls) := ⟨⟨_, hstart⟩⟩
        have z0 : ∀ (z : Qt.In Cls) (i : Nat), z.w.cell? ⟨w.heap.size, i, none⟩ = #[.slice A s.rules.length c, .slice A2 s.zones.length c2, .slice A3 s.links.length c3][i]? := fun z i => (hC z.w z.h).1.1.cell i
        have z1 : ∀ z : Qt.In Cls, z.w.cell? (ad.add k) = some (.string L[k]) := fun z => by
          obtain ⟨ad', e, _, q⟩ := txt_at (HRd.out.below (hC z.w z.h).2) hkn
          obtain rfl : ad = ad' := by injection e
          exact q
        have HCl : Hid (∀ z, Cls z → Calls Tryz.prog 11 #[.agg #[.slice A s.rules.length c, .slice A2 s.zones.length c2, .slice A3 s.links.length c3], .string L[k]] z fun e z' => e = .returned (.tuple #[.int .i64 (i : Nat), .bool true]) ∧ Cls z') := fun z h =>
          (HRk.out z (hC z h).1.2).mono fun e z' ⟨he, hb⟩ => ⟨he, by rw [hCls]; exact ⟨(hC z h).1.step hb, (hC z h).2.trans (hb.mono (hC z h).2.size)⟩⟩
        have HCx := Lib.hid hC; have HS := Lib.hid hstart
        generalize L[k] = x at *
        clear hC hstart hCls a0 HO HB5
        go_wp2
        refine Qt.wp_region_cls Cls (by kernel_rfl) (by kernel_rfl) HS.out ?_
        repeat (go_big_quiet_step (exact Qt.quiet_cls (HCl.out _ (Qt.In.h _))))
        refine wpQuiet_nil ?_
        rintro wq ⟨⟨w9, hq9⟩, e9⟩
        have HX := Lib.hid (HCx.out wq (by rw [e9]; exact hq9))
        have a0 : wq.cell? (ad.add k) = some (.string x) := z1 ⟨wq, by rw [e9]; exact hq9⟩
        have cq := fun i => HX.out.1.1.cell i
        clear hq9 e9 z0 z1 HCl HCx HS inst
        have d1 : decide (((i : Nat) : Int) < 0) = false := decide_eq_false (by omega)
        have d2 : decide (((s.zones.length : Nat) : Int) ≤ (i : Nat)) = false := decide_eq_false (by omega)
        generalize (L.take k).any (fun a => decide (a = nm)) = q at *
        cases hd : decide (x = nm) <;> rw [hd] at HSt hbq <;> cases q
        all_goals go_wp2
        all_goals exact ⟨⟨k + 1, by omega, by go_num, by rw [HSt.out]; rfl, HX.out.1, HX.out.2⟩, by simp [intOf]; omega⟩
      · obtain rfl : k = L.length := by omega
        have HRn := Lib.hid (fun z hb => HR.out nm z hb)
        have hok := Hok.out
        rw [List.take_length]
        have c6 := fun i => HO.out.1.cell i
        generalize (L.any fun a => decide (a = nm)) = q at *
        simp only [hok] at HRn
        generalize ((resolveB s nm).getD 0 : Nat) = n at *
        clear hok Hok Hres HR
        go_wp2_with (first
          | (go_at_call 11; refine (HRn.out _ HO.out.2).mono ?_; rintro e w7 ⟨rfl, hb⟩; have HO7 := Lib.hid (HO.out.step hb); clear hb c6)
          | (go_at_call 8; refine (HA.out _ HO7.out.2).mono ?_; rintro e w8 ⟨rfl, hb⟩; have ho := HO7.out.step hb; have c8 := fun i => ho.1.cell i; have HO8 := Lib.hid ho; clear hb ho))
        go_ret
        exact ⟨rfl, HO8.out.2⟩
end Go.Proofs.YtgfdmjldfahbpaaGreatDoor.Lw13
