/-
  The walk of the law SoundResolves. Conditions: the cell of bytealg.MaxLen holds a number; what the source's slices hold is read, the lengths are bounded.
-/
import Derived.Test.YtgfdmjldfahbpaaGreatDoorAl13
import Derived.Deep.RegionHeld3
namespace Go.Proofs.YtgfdmjldfahbpaaGreatDoor.Lw13
open Go.RowKit Mem Civ Img Rul Src Snd

theorem own_reads {w : World} {base : Nat} {v : Value} {l : List ByteArray} (h : w.ownsRow base 9 1 v l.length (txs l)) : ∃ A c, v = .slice A l.length c ∧ Reads w w.heap.size 1 A l.length (txs l) := by
  obtain ⟨A, c, rfl⟩ := own_slice h
  exact ⟨A, c, rfl, Reads.of_own h⟩
theorem names_r (s : Src) (A A2 A3 : Option Addr) (c c2 c3 : Nat) (w : World) (h : SrcOk s A A2 A3 w) :
    Calls Tryz.prog 14 #[.agg #[.slice A s.rules.length c, .slice A2 s.zones.length c2, .slice A3 s.links.length c3]] w fun e w' => ∃ An cn, e = .returned (.slice An (namesL (allNames s)).length cn) ∧ Reads w' w'.heap.size 1 An (namesL (allNames s)).length (txs (namesL (allNames s))) ∧ Below w.heap.size w w' := by
  refine (names_any s A A2 A3 c c2 c3 w h).mono ?_
  intro e w' hp
  obtain ⟨v, he, hown, hb⟩ := namesP_is hp
  obtain ⟨An, cn, rfl, hr⟩ := own_reads hown
  exact ⟨An, cn, he, hr, hb⟩
theorem rnames_r (s : Src) (A A2 A3 : Option Addr) (c c2 c3 : Nat) (w : World) (h : SrcOk s A A2 A3 w) (hn : s.zones.length + s.links.length ≤ 1000000) :
    Calls Tryz.prog 15 #[.agg #[.slice A s.rules.length c, .slice A2 s.zones.length c2, .slice A3 s.links.length c3]] w fun e w' => ∃ An cn, e = .returned (.slice An (namesL (allNames s)).length cn) ∧ Reads w' w'.heap.size 1 An (namesL (allNames s)).length (txs (namesL (allNames s))) ∧ Below w.heap.size w w' := by
  refine (rnames_any s A A2 A3 c c2 c3 w h hn).mono ?_
  rintro e w' ⟨v, he, hown, hb⟩
  obtain ⟨An, cn, rfl, hr⟩ := own_reads hown
  exact ⟨An, cn, he, hr, hb⟩
theorem cells3 {w W : World} {b : Nat} {t : TypeId} {a0 a1 a2 : Value} (h : One w b t #[a0, a1, a2] W) : W.cell? ⟨b, 0, none⟩ = some a0 ∧ W.cell? ⟨b, 1, none⟩ = some a1 ∧ W.cell? ⟨b, 2, none⟩ = some a2 := ⟨h.1.cell 0, h.1.cell 1, h.1.cell 2⟩
theorem below_n {w w' : World} (h : ∃ n, w' = w.drewN n) : Below w.heap.size w w' := below_drs h
set_option maxHeartbeats 4000000 in
set_option maxRecDepth 100000 in
theorem resolves (s : Src) (A A2 A3 : Option Addr) (c c2 c3 : Nat) (nm : ByteArray) (m : Int) (w : World) (h : SrcOk s A A2 A3 w) (hm : w.cell? ⟨0, 0, none⟩ = some (.int .i64 m)) (_ : nm.size ≤ 2097152) :
    Calls Tryz.prog 4 #[.agg #[.slice A s.rules.length c, .slice A2 s.zones.length c2, .slice A3 s.links.length c3], .string nm] w fun e w' => e = .returned (.bool true) ∧ Below w.heap.size w w' := by
  have HA := Lib.hid (fun z (hb : Below w.heap.size w z) => Snd.alive_any m z (cell_later hb hm))
  have HG := Lib.hid (fun z (hb : Below w.heap.size w z) => light_any s A A2 A3 c c2 c3 z (h.below hb))
  have HR := Lib.hid (fun z (hb : Below w.heap.size w z) => resolve_any s A A2 A3 c c2 c3 nm z (h.below hb))
  have HS := Lib.hid (fun z (hb : Below w.heap.size w z) => rresolve_any s A A2 A3 c c2 c3 nm z (h.below hb))
  have HN := Lib.hid (fun z (hb : Below w.heap.size w z) => names_r s A A2 A3 c c2 c3 z (h.below hb))
  have HM := Lib.hid (fun (hl : LightP s) z (hb : Below w.heap.size w z) => rnames_r s A A2 A3 c c2 c3 z (h.below hb) (by have := hl.2.1; have := hl.2.2; omega))
  have hlen : (namesL (allNames s)).length ≤ s.zones.length + s.links.length := by
    have := namesL_len (allNames s)
    unfold allNames at this ⊢
    rw [List.length_append, List.length_map, List.length_map] at this
    exact this
  have HLn := Lib.hid hlen
  generalize namesL (allNames s) = L at *
  generalize ((resolveB s nm).getD 0 : Nat) = n at *
  generalize (resolveB s nm).isSome = ok at *
  have HT := Lib.hid (fun A A' B B' c c' z h h' (hn : L.length ≤ 1000000) => sameTexts_any L A A' B B' c c' z h h' hn)
  clear h hm hlen
  have hone := One.new w 26 #[.slice A s.rules.length c, .slice A2 s.zones.length c2, .slice A3 s.links.length c3]
  obtain ⟨W, hW⟩ : ∃ W, w.alloc (.cells #[.slice A s.rules.length c, .slice A2 s.zones.length c2, .slice A3 s.links.length c3] 26) = W := ⟨_, rfl⟩
  rw [hW] at hone
  have HO := Lib.hid hone
  have c0 := fun i => hone.1.cell i
  clear hone
  go_enter Tryz.func4, Tryz.ntmps4
  go_wp2_with (first
    | (go_at_call 7; refine (HG.out _ HO.out.2).mono ?_; rintro e w1 ⟨lb, rfl, hlp, hb⟩; have ho := HO.out.step hb; have c1 := fun i => ho.1.cell i; have HO1 := Lib.hid ho; have HLp := Lib.hid hlp; clear hb ho hlp c0; cases lb)
    | (go_at_call 11; refine (HR.out _ HO1.out.2).mono ?_; rintro e w2 ⟨rfl, hb⟩; have ho := HO1.out.step hb; have c2 := fun i => ho.1.cell i; have HO2 := Lib.hid ho; clear hb ho c1)
    | (go_at_call 12; refine (HS.out _ HO2.out.2).mono ?_; rintro e w3 ⟨rfl, hb⟩; have ho := HO2.out.step hb; have c3 := fun i => ho.1.cell i; have HO3 := Lib.hid ho; clear hb ho c2)
    | (go_at_call 8; refine (HA.out _ HO1.out.2).mono ?_; rintro e w4 ⟨rfl, hb⟩; have ho := HO1.out.step hb; have c4 := fun i => ho.1.cell i; have HO4 := Lib.hid ho; clear hb ho))
  · go_ret
    exact ⟨rfl, HO4.out.2⟩
  · have hd3 := HO3.out.drew
    have hl := HLp.out (by trivial)
    have hn : L.length ≤ 1000000 := by have := HLn.out; have := hl.2.1; have := hl.2.2; omega
    have HL := Lib.hid hl; have Hn := Lib.hid hn
    have k0 := cells3 hd3
    have HD3 := Lib.hid hd3
    clear hl hn hd3 c3
    go_region_held3 (fun w' => w'.cell? ⟨w.heap.size, 0, none⟩ = some (.slice A s.rules.length c) ∧ w'.cell? ⟨w.heap.size, 1, none⟩ = some (.slice A2 s.zones.length c2) ∧ w'.cell? ⟨w.heap.size, 2, none⟩ = some (.slice A3 s.links.length c3)) (first | assumption | (simp [*]; done))
      (first
      | (go_at_call 8; refine (HA.out _ HD3.out.2).mono ?_; rintro e w4 ⟨rfl, hb⟩; have HO4 := Lib.hid (HD3.out.step hb); have kk := cells3 HO4.out; clear hb)
      | (go_at_call 14; refine (HN.out _ HO4.out.2).mono ?_; rintro e w5 ⟨An, cn, rfl, hr, hb⟩; have HO5 := Lib.hid (HO4.out.step hb); have HRd := Lib.hid hr; have kk5 := cells3 HO5.out; clear hb hr)
      | (go_at_call 15; refine (HM.out HL.out _ HO5.out.2).mono ?_; rintro e w6 ⟨Am, cm, rfl, hr, hb⟩; have HO6 := Lib.hid (HO5.out.step hb); have HR1 := Lib.hid ((HRd.out.below hb).more hb.size); have HR2 := Lib.hid hr; have kk6 := cells3 HO6.out; clear hb hr)
      | (go_at_call 13; refine (HT.out _ _ _ _ _ _ _ HR1.out HR2.out Hn.out).mono ?_; rintro e w7 ⟨rfl, hd⟩; have HB7 := Lib.hid (HO6.out.step (below_n hd)); have kk7 := cells3 HB7.out; clear hd))
    go_wp2
    go_ret
    exact ⟨rfl, HB7.out.2⟩
end Go.Proofs.YtgfdmjldfahbpaaGreatDoor.Lw13
