/-
  Package sound: plain words of names, and the contract of Resolve. Conditions: what the source's slices hold is read.
  The document's names (analemmaref13.zone, link, Resolve): the contracts. Conditions: what the source's slices hold is read.
  The document's names in order (analemmaref13.put, Names), and analemmaref08.SameTexts: the contracts. Conditions: what the slices hold is read, the lengths are bounded.
  The document's names of a source (analemmaref13.Names), analemmaref08.SameTexts, analemmaref13.Light: the contracts. Conditions: what the slices hold is read, the lengths are bounded.
  Package sound: sets of names as maps; the contracts of named. Conditions: what the source's slices hold is read, the names' lengths are bounded.
-/
import Derived.Test.YtdicedpklpadgaaGreatDoorZ10
import Derived.Sort.Walk0
import Derived.Maps.RangeWalk
import Derived.StringKeys
import Derived.Sort.KeysCollected
import Derived.Sort.OwnSorted
namespace Go.Proofs.YtdicedpklpadgaaGreatDoor.Snd
open Go.RowKit Mem Civ Mom Img Plc Rul Src

theorem tl_beq (a b : ByteArray) : (a.toList == b.toList) = decide (a = b) := by
  rw [ByteArray.toList_eq, ByteArray.toList_eq, Bool.eq_iff_iff]
  simp only [beq_iff_eq, decide_eq_true_eq]
  constructor
  · intro h
    obtain ⟨⟨a⟩⟩ := a
    obtain ⟨⟨b⟩⟩ := b
    simp only at h
    rw [h]
  · rintro rfl; rfl
theorem find_hit {α : Type} {p : α → Bool} {l : List α} {k : Nat} (hk : k < l.length) (h : (l.take k).all (fun x => !p x) = true) (hp : p l[k] = true) : l.findIdx? p = some k := by
  rw [List.findIdx?_eq_some_iff_getElem]
  refine ⟨hk, hp, fun j hj => ?_⟩
  have hm : l[j] ∈ l.take k := by
    rw [List.mem_take_iff_getElem]
    exact ⟨j, by omega, rfl⟩
  have := List.all_eq_true.1 h _ hm
  simpa using this
theorem find_miss {α : Type} {p : α → Bool} {l : List α} (h : l.all (fun x => !p x) = true) : l.findIdx? p = none := by
  rw [List.findIdx?_eq_none_iff]
  intro x hx
  have := List.all_eq_true.1 h x hx
  simpa using this
theorem no_step {α : Type} {p : α → Bool} {l : List α} {k : Nat} (hk : k < l.length) (h : (l.take k).all (fun x => !p x) = true) (hp : p l[k] = false) : (l.take (k + 1)).all (fun x => !p x) = true := by
  rw [List.take_succ_eq_append_getElem hk, List.all_append, h]
  simp [hp]
/-- The place of the first zone, of the first link of a name. -/
def zoneAt (zs : List ZoneM) (nm : ByteArray) : Option Nat := zs.findIdx? fun z => decide (z.name = nm)
def linkAt (ls : List Link) (nm : ByteArray) : Option Nat := ls.findIdx? fun l => decide (l.name = nm)
def atI : Option Nat → Int
  | some i => i
  | none => -1
def stepR (zs : List ZoneM) (ls : List Link) : Nat → ByteArray → Option Nat
  | 0, _ => none
  | n + 1, nm => match zoneAt zs nm with
    | some i => some i
    | none => match (linkAt ls nm).bind fun k => ls[k]? with
      | none => none
      | some l => stepR zs ls n l.target
/-- The zone of a name. -/
def resolveB (s : Src) (nm : ByteArray) : Option Nat := stepR s.zones s.links (s.links.length + 1) nm
theorem zoneAt_lt {zs : List ZoneM} {nm : ByteArray} {i : Nat} (h : zoneAt zs nm = some i) : i < zs.length := (List.findIdx?_eq_some_iff_getElem.1 h).1
theorem linkAt_lt {ls : List Link} {nm : ByteArray} {i : Nat} (h : linkAt ls nm = some i) : i < ls.length := (List.findIdx?_eq_some_iff_getElem.1 h).1

theorem name_any (z : ZoneM) (nm : ByteArray) (b : Nat) (w : World) (hc : w.cell? ⟨b, 0, none⟩ = some (.string nm)) :
    Calls Tryz.prog 164 #[.agg #[.string z.name, .slice z.A z.eras.length z.c], .pointer (some ⟨b, 0, none⟩)] w fun e w' => e = .returned (.bool (decide (z.name = nm))) ∧ Below w.heap.size w w' := by
  have h1 := tl_beq z.name nm
  have hone := One.new w 49 #[.string z.name, .slice z.A z.eras.length z.c]
  have c2 : (w.alloc (.cells #[.string z.name, .slice z.A z.eras.length z.c] 49)).cell? ⟨b, 0, none⟩ = some (.string nm) := cell_later hone.2 hc
  generalize decide (z.name = nm) = q at *
  go_enter Tryz.func164, Tryz.ntmps164
  go_wp2_with fail
  go_ret
  exact ⟨rfl, hone.2⟩
theorem lname_any (z : Link) (nm : ByteArray) (b : Nat) (w : World) (hc : w.cell? ⟨b, 0, none⟩ = some (.string nm)) :
    Calls Tryz.prog 166 #[.agg #[.string z.target, .string z.name], .pointer (some ⟨b, 0, none⟩)] w fun e w' => e = .returned (.bool (decide (z.name = nm))) ∧ Below w.heap.size w w' := by
  have h1 := tl_beq z.name nm
  have hone := One.new w 142 #[.string z.target, .string z.name]
  have c2 : (w.alloc (.cells #[.string z.target, .string z.name] 142)).cell? ⟨b, 0, none⟩ = some (.string nm) := cell_later hone.2 hc
  generalize decide (z.name = nm) = q at *
  go_enter Tryz.func166, Tryz.ntmps166
  go_wp2_with fail
  go_ret
  exact ⟨rfl, hone.2⟩
set_option maxRecDepth 100000 in
theorem index_zone (zs : List ZoneM) (nm : ByteArray) (b : Nat) (A : Option Addr) (c : Nat) (w : World) (h : Reads w w.heap.size 2 A zs.length (zs.flatMap ZoneM.cells)) (hc : w.cell? ⟨b, 0, none⟩ = some (.string nm)) (hn : zs.length ≤ 1000000) :
    Calls Tryz.prog 163 #[.slice A zs.length c, .func (Fn.func 164) #[] #[.pointer (some ⟨b, 0, none⟩)]] w fun e w' => e = .returned (.int .i64 (atI (zoneAt zs nm))) ∧ Below w.heap.size w w' := by
  have H := Lib.hid h; have HC := Lib.hid hc; clear h hc
  obtain ⟨Q, hQ⟩ : ∃ Q, zoneAt zs nm = Q := ⟨_, rfl⟩
  rw [hQ]
  have HQ := Lib.hid hQ; clear hQ
  go_enter Tryz.func163, Tryz.ntmps163
  go_wp2
  go_loopw [8] (fun i wr => ∃ k : Nat, k ≤ zs.length ∧ i = .int .i64 k ∧ (zs.take k).all (fun z => !decide (z.name = nm)) = true ∧ Below w.heap.size w wr) (fun i _ => zs.length - (intOf i).toNat)
  case atStart => exact ⟨0, Nat.zero_le _, rfl, rfl, Below.refl _ _⟩
  case round =>
    obtain ⟨k, hk, rfl, hall, hb⟩ := hrel
    have Hall := Lib.hid hall; have HB := Lib.hid hb; clear hall hb
    by_cases hkn : k < zs.length
    · obtain ⟨ad, rfl, hadb, a0, a1⟩ := zone_cells (H.out.below HB.out) hkn rfl
      have Hc := Lib.hid (fun z (hb : Below w.heap.size w z) => name_any zs[k] nm b z (cell_later hb HC.out))
      have hstep : decide (zs[k].name = nm) = false → (zs.take (k + 1)).all (fun z => !decide (z.name = nm)) = true := no_step hkn Hall.out
      have hhit : decide (zs[k].name = nm) = true → zoneAt zs nm = some k := find_hit hkn Hall.out
      have HS := Lib.hid hstep; have HH := Lib.hid hhit
      clear hstep hhit Hall
      generalize hd : decide (zs[k].name = nm) = d at *
      clear hd
      generalize zs[k] = z at *
      cases d
      · go_wp2_with (go_at_call 164; refine (Hc.out _ HB.out).mono ?_; rintro e w1 ⟨rfl, hb1⟩; have HB1 := Lib.hid (HB.out.trans (hb1.mono HB.out.size)); clear hb1)
        exact ⟨⟨k + 1, by omega, by go_num, HS.out (by trivial), HB1.out⟩, by simp [intOf]; omega⟩
      · go_wp2_with (go_at_call 164; refine (Hc.out _ HB.out).mono ?_; rintro e w1 ⟨rfl, hb1⟩; have HB1 := Lib.hid (HB.out.trans (hb1.mono HB.out.size)); clear hb1)
        go_ret
        exact ⟨by rw [← HQ.out, HH.out (by trivial)]; rfl, HB1.out⟩
    · obtain rfl : k = zs.length := by omega
      have hall := Hall.out
      rw [List.take_length] at hall
      have hm : zoneAt zs nm = none := find_miss hall
      have HM := Lib.hid hm
      clear hall Hall hm
      go_wp2
      go_ret
      exact ⟨by rw [← HQ.out, HM.out]; rfl, HB.out⟩
set_option maxRecDepth 100000 in
theorem index_link (zs : List Link) (nm : ByteArray) (b : Nat) (A : Option Addr) (c : Nat) (w : World) (h : Reads w w.heap.size 2 A zs.length (zs.flatMap Link.cells)) (hc : w.cell? ⟨b, 0, none⟩ = some (.string nm)) (hn : zs.length ≤ 1000000) :
    Calls Tryz.prog 165 #[.slice A zs.length c, .func (Fn.func 166) #[] #[.pointer (some ⟨b, 0, none⟩)]] w fun e w' => e = .returned (.int .i64 (atI (linkAt zs nm))) ∧ Below w.heap.size w w' := by
  have H := Lib.hid h; have HC := Lib.hid hc; clear h hc
  obtain ⟨Q, hQ⟩ : ∃ Q, linkAt zs nm = Q := ⟨_, rfl⟩
  rw [hQ]
  have HQ := Lib.hid hQ; clear hQ
  go_enter Tryz.func165, Tryz.ntmps165
  go_wp2
  go_loopw [8] (fun i wr => ∃ k : Nat, k ≤ zs.length ∧ i = .int .i64 k ∧ (zs.take k).all (fun z => !decide (z.name = nm)) = true ∧ Below w.heap.size w wr) (fun i _ => zs.length - (intOf i).toNat)
  case atStart => exact ⟨0, Nat.zero_le _, rfl, rfl, Below.refl _ _⟩
  case round =>
    obtain ⟨k, hk, rfl, hall, hb⟩ := hrel
    have Hall := Lib.hid hall; have HB := Lib.hid hb; clear hall hb
    by_cases hkn : k < zs.length
    · obtain ⟨ad, rfl, hadb, a0, a1⟩ := link_cells (H.out.below HB.out) hkn rfl
      have Hc := Lib.hid (fun z (hb : Below w.heap.size w z) => lname_any zs[k] nm b z (cell_later hb HC.out))
      have hstep : decide (zs[k].name = nm) = false → (zs.take (k + 1)).all (fun z => !decide (z.name = nm)) = true := no_step hkn Hall.out
      have hhit : decide (zs[k].name = nm) = true → linkAt zs nm = some k := find_hit hkn Hall.out
      have HS := Lib.hid hstep; have HH := Lib.hid hhit
      clear hstep hhit Hall
      generalize hd : decide (zs[k].name = nm) = d at *
      clear hd
      generalize zs[k] = z at *
      cases d
      · go_wp2_with (go_at_call 166; refine (Hc.out _ HB.out).mono ?_; rintro e w1 ⟨rfl, hb1⟩; have HB1 := Lib.hid (HB.out.trans (hb1.mono HB.out.size)); clear hb1)
        exact ⟨⟨k + 1, by omega, by go_num, HS.out (by trivial), HB1.out⟩, by simp [intOf]; omega⟩
      · go_wp2_with (go_at_call 166; refine (Hc.out _ HB.out).mono ?_; rintro e w1 ⟨rfl, hb1⟩; have HB1 := Lib.hid (HB.out.trans (hb1.mono HB.out.size)); clear hb1)
        go_ret
        exact ⟨by rw [← HQ.out, HH.out (by trivial)]; rfl, HB1.out⟩
    · obtain rfl : k = zs.length := by omega
      have hall := Hall.out
      rw [List.take_length] at hall
      have hm : linkAt zs nm = none := find_miss hall
      have HM := Lib.hid hm
      clear hall Hall hm
      go_wp2
      go_ret
      exact ⟨by rw [← HQ.out, HM.out]; rfl, HB.out⟩
set_option maxHeartbeats 1000000 in
set_option maxRecDepth 100000 in
theorem resolve_any (s : Src) (A A2 A3 : Option Addr) (c c2 c3 : Nat) (nm : ByteArray) (w : World) (h : SrcOk s A A2 A3 w) :
    Calls Tryz.prog 110 #[.agg #[.slice A s.rules.length c, .slice A2 s.zones.length c2, .slice A3 s.links.length c3], .string nm] w fun e w' => e = .returned (.tuple #[.int .i64 ((resolveB s nm).getD 0 : Nat), .bool (resolveB s nm).isSome]) ∧ Below w.heap.size w w' := by
  have nz := h.nz; have nl := h.nl; have hrz := h.rz; have hrl := h.rl
  clear h
  obtain ⟨Q, hQ⟩ : ∃ Q, resolveB s nm = Q := ⟨_, rfl⟩
  rw [hQ]
  unfold resolveB at hQ
  obtain ⟨rs, zs, ls⟩ := s
  simp only at nz nl hrz hrl hQ ⊢
  have hb2 := box2 w 26 9 #[.slice A rs.length c, .slice A2 zs.length c2, .slice A3 ls.length c3] #[.string nm]
  obtain ⟨W, hW⟩ : ∃ W, (w.alloc (.cells #[.slice A rs.length c, .slice A2 zs.length c2, .slice A3 ls.length c3] 26)).alloc (.cells #[.string nm] 9) = W := ⟨_, rfl⟩
  rw [hW] at hb2
  obtain ⟨b0, b1, hbw, hsz⟩ := hb2
  have HZ := Lib.hid hrz; have HL := Lib.hid hrl; have HQ := Lib.hid hQ; have HB0 := Lib.hid b0; have HB1 := Lib.hid b1; have HBw := Lib.hid hbw
  have c0 := fun i => b0.cell i
  clear hrz hrl hQ b0 b1 hbw
  go_enter Tryz.func110, Tryz.ntmps110
  go_wp2_with fail
  clear c0
  go_loopw [12] (fun i wr => ∃ (k : Nat) (n : ByteArray), k ≤ ls.length + 1 ∧ i = .int .i64 k ∧ stepR zs ls (ls.length + 1 - k) n = Q ∧ Blk wr w.heap.size 26 #[.slice A rs.length c, .slice A2 zs.length c2, .slice A3 ls.length c3] ∧ Blk wr (w.heap.size + 1) 9 #[.string n] ∧ Below w.heap.size w wr) (fun i _ => ls.length + 1 - (intOf i).toNat)
  case atStart => exact ⟨0, nm, Nat.zero_le _, rfl, HQ.out, HB0.out, HB1.out, HBw.out⟩
  case round =>
    clear HB0 HB1 HBw HQ
    obtain ⟨k, n, hk, rfl, hst, hb0, hb1, hbel⟩ := hrel
    have HB0 := Lib.hid hb0; have HB1 := Lib.hid hb1; have HB := Lib.hid hbel
    have c0 := fun i => hb0.cell i
    have c1 : wr.cell? ⟨w.heap.size + 1, 0, none⟩ = some (.string n) := hb1.cell 0
    clear hb0 hb1 hbel
    by_cases hkn : k < ls.length + 1
    · obtain ⟨m, hm⟩ : ∃ m, ls.length + 1 - k = m + 1 := ⟨ls.length - k, by omega⟩
      have hm2 : ls.length + 1 - (k + 1) = m := by omega
      rw [hm, stepR] at hst
      have HI := Lib.hid (index_zone zs n (w.heap.size + 1) A2 c2 wr ((HZ.out.below HB.out).more HB.out.size) c1 nz)
      have HM2 := Lib.hid hm2
      clear hm hm2
      cases hz : zoneAt zs n with
      | some i =>
        simp only [hz] at hst HI
        simp only [atI] at HI
        obtain rfl := hst
        have hd : decide ((0 : Int) ≤ (i : Nat)) = true := decide_eq_true (by omega)
        clear hz
        go_wp2_with (go_at_call 163; refine HI.out.mono ?_; rintro e w1 ⟨rfl, hb1⟩; have HB2 := Lib.hid (HB.out.trans (hb1.mono HB.out.size)); clear hb1)
        go_ret2
        exact ⟨rfl, HB2.out⟩
      | none =>
        simp only [hz] at hst HI
        simp only [atI] at HI
        clear hz
        have HJ := Lib.hid (fun w1 (hb : Below w.heap.size w w1) hc => index_link ls n (w.heap.size + 1) A3 c3 w1 ((HL.out.below hb).more hb.size) hc nl)
        cases hl : linkAt ls n with
        | none =>
          simp only [hl, Option.bind_none] at hst HJ
          simp only [atI] at HJ
          obtain rfl := hst
          clear hl
          go_wp2_with (first
            | (go_at_call 163; refine HI.out.mono ?_; rintro e w1 ⟨rfl, hb1⟩; have HB2 := Lib.hid (HB.out.trans (hb1.mono HB.out.size)); have hx0 := HB0.out.below hb1 HB0.out.lt; have hx1 := HB1.out.below hb1 HB1.out.lt; have c2 := fun i => hx0.cell i; have HX1 := Lib.hid hx1; clear hb1 hx0 hx1)
            | (go_at_call 165; refine (HJ.out _ HB2.out (HX1.out.cell 0)).mono ?_; rintro e w2 ⟨rfl, hb1⟩; have HB3 := Lib.hid (HB2.out.trans (hb1.mono HB2.out.size)); clear hb1))
          go_ret2
          exact ⟨rfl, HB3.out⟩
        | some j =>
          have hj := linkAt_lt hl
          simp only [hl, Option.bind_some, List.getElem?_eq_getElem hj] at hst HJ
          simp only [atI] at HJ
          have HSt := Lib.hid hst
          have hd : decide (((j : Nat) : Int) < 0) = false := decide_eq_false (by omega)
          clear hl hst
          go_wp2_with (first
            | (go_at_call 163; refine HI.out.mono ?_; rintro e w1 ⟨rfl, hb1⟩; have HB2 := Lib.hid (HB.out.trans (hb1.mono HB.out.size)); have hx0 := HB0.out.below hb1 HB0.out.lt; have hx1 := HB1.out.below hb1 HB1.out.lt; have c2 := fun i => hx0.cell i; have HX0 := Lib.hid hx0; have HX1 := Lib.hid hx1; clear hb1 hx0 hx1 c0 c1)
            | (go_at_call 165; refine (HJ.out _ HB2.out (HX1.out.cell 0)).mono ?_; rintro e w2 ⟨rfl, hb1⟩; have HB3 := Lib.hid (HB2.out.trans (hb1.mono HB2.out.size)); have hx0 := HX0.out.below hb1 HX0.out.lt; have hx1 := HX1.out.below hb1 HX1.out.lt; have c3 := fun i => hx0.cell i; have f3 := fun i => hx1.frozen i; have c4 := fun i => hx1.cell i; have HY0 := Lib.hid hx0; have HY1 := Lib.hid hx1; obtain ⟨ad, hA, hadb, a0, a1⟩ := link_cells (HL.out.below HB3.out) hj rfl; subst hA; clear hb1 hx0 hx1 c2))
          refine ⟨⟨k + 1, ls[j].target, by omega, by go_num, ?_, ?_, ?_, ?_⟩, by simp [intOf]; omega⟩
          · rw [HM2.out]; exact HSt.out
          · exact HY0.out.far (by simp) _
          · exact HY1.out.set_ 0 _
          · exact HB3.out.setCell (by simp) _
    · obtain rfl : k = ls.length + 1 := by omega
      rw [Nat.sub_self, stepR] at hst
      obtain rfl := hst
      go_wp2_with fail
      go_ret2
      exact ⟨rfl, HB.out⟩
end Go.Proofs.YtdicedpklpadgaaGreatDoor.Snd
namespace Go.Proofs.YtdicedpklpadgaaGreatDoor.Snd
open Go.RowKit Mem Civ Mom Img Plc Rul Src

set_option maxRecDepth 100000 in
theorem rzone_any (s : Src) (A A2 A3 : Option Addr) (c c2 c3 : Nat) (nm : ByteArray) (w : World) (h : SrcOk s A A2 A3 w) :
    Calls Tryz.prog 132 #[.agg #[.slice A s.rules.length c, .slice A2 s.zones.length c2, .slice A3 s.links.length c3], .string nm] w fun e w' => e = .returned (.int .i64 (atI (zoneAt s.zones nm))) ∧ Below w.heap.size w w' := by
  have nz := h.nz; have hrz := h.rz
  clear h
  obtain ⟨Q, hQ⟩ : ∃ Q, zoneAt s.zones nm = Q := ⟨_, rfl⟩
  rw [hQ]
  have HQ := Lib.hid hQ
  clear hQ
  obtain ⟨rs, zs, ls⟩ := s
  simp only at nz hrz HQ ⊢
  have hone := One.new w 26 #[.slice A rs.length c, .slice A2 zs.length c2, .slice A3 ls.length c3]
  obtain ⟨W, hW⟩ : ∃ W, w.alloc (.cells #[.slice A rs.length c, .slice A2 zs.length c2, .slice A3 ls.length c3] 26) = W := ⟨_, rfl⟩
  rw [hW] at hone
  have HO := Lib.hid hone
  have HZ := Lib.hid (hrz.below hone.2)
  have c0 := fun i => hone.1.cell i
  clear hone hrz
  go_enter Tryz.func132, Tryz.ntmps132
  go_wp2_with fail
  go_loopw [5] (fun i wr => ∃ k : Nat, k ≤ zs.length ∧ i = .int .i64 k ∧ (zs.take k).all (fun z => !decide (z.name = nm)) = true ∧ wr = W) (fun i _ => zs.length - (intOf i).toNat)
  case atStart => exact ⟨0, Nat.zero_le _, rfl, rfl, rfl⟩
  case round =>
    obtain ⟨k, hk, rfl, hall, rfl⟩ := hrel
    have Hall := Lib.hid hall; clear hall
    by_cases hkn : k < zs.length
    · obtain ⟨ad, rfl, hadb, a0, a1⟩ := zone_cells HZ.out hkn rfl
      have hstep : decide (zs[k].name = nm) = false → (zs.take (k + 1)).all (fun z => !decide (z.name = nm)) = true := no_step hkn Hall.out
      have hhit : decide (zs[k].name = nm) = true → zoneAt zs nm = some k := find_hit hkn Hall.out
      have h1 := tl_beq zs[k].name nm
      have HS := Lib.hid hstep; have HH := Lib.hid hhit
      clear hstep hhit Hall
      generalize hd : decide (zs[k].name = nm) = d at *
      clear hd
      generalize zs[k] = z at *
      cases d
      · go_wp2_with fail
        exact ⟨⟨k + 1, by omega, by go_num, HS.out (by trivial), by trivial⟩, by simp [intOf]; omega⟩
      · go_wp2_with fail
        go_ret
        exact ⟨by rw [← HQ.out, HH.out (by trivial)]; rfl, HO.out.2⟩
    · obtain rfl : k = zs.length := by omega
      have hall := Hall.out
      rw [List.take_length] at hall
      have hm : zoneAt zs nm = none := find_miss hall
      have HM := Lib.hid hm
      clear hall Hall hm
      go_wp2_with fail
      go_ret
      exact ⟨by rw [← HQ.out, HM.out]; rfl, HO.out.2⟩
set_option maxRecDepth 100000 in
theorem rlink_any (s : Src) (A A2 A3 : Option Addr) (c c2 c3 : Nat) (nm : ByteArray) (w : World) (h : SrcOk s A A2 A3 w) :
    Calls Tryz.prog 133 #[.agg #[.slice A s.rules.length c, .slice A2 s.zones.length c2, .slice A3 s.links.length c3], .string nm] w fun e w' => e = .returned (.int .i64 (atI (linkAt s.links nm))) ∧ Below w.heap.size w w' := by
  have nz := h.nl; have hrz := h.rl
  clear h
  obtain ⟨Q, hQ⟩ : ∃ Q, linkAt s.links nm = Q := ⟨_, rfl⟩
  rw [hQ]
  have HQ := Lib.hid hQ
  clear hQ
  obtain ⟨rs, qs, zs⟩ := s
  simp only at nz hrz HQ ⊢
  have hone := One.new w 26 #[.slice A rs.length c, .slice A2 qs.length c2, .slice A3 zs.length c3]
  obtain ⟨W, hW⟩ : ∃ W, w.alloc (.cells #[.slice A rs.length c, .slice A2 qs.length c2, .slice A3 zs.length c3] 26) = W := ⟨_, rfl⟩
  rw [hW] at hone
  have HO := Lib.hid hone
  have HZ := Lib.hid (hrz.below hone.2)
  have c0 := fun i => hone.1.cell i
  clear hone hrz
  go_enter Tryz.func133, Tryz.ntmps133
  go_wp2_with fail
  go_loopw [5] (fun i wr => ∃ k : Nat, k ≤ zs.length ∧ i = .int .i64 k ∧ (zs.take k).all (fun z => !decide (z.name = nm)) = true ∧ wr = W) (fun i _ => zs.length - (intOf i).toNat)
  case atStart => exact ⟨0, Nat.zero_le _, rfl, rfl, rfl⟩
  case round =>
    obtain ⟨k, hk, rfl, hall, rfl⟩ := hrel
    have Hall := Lib.hid hall; clear hall
    by_cases hkn : k < zs.length
    · obtain ⟨ad, rfl, hadb, a0, a1⟩ := link_cells HZ.out hkn rfl
      have hstep : decide (zs[k].name = nm) = false → (zs.take (k + 1)).all (fun z => !decide (z.name = nm)) = true := no_step hkn Hall.out
      have hhit : decide (zs[k].name = nm) = true → linkAt zs nm = some k := find_hit hkn Hall.out
      have h1 := tl_beq zs[k].name nm
      have HS := Lib.hid hstep; have HH := Lib.hid hhit
      clear hstep hhit Hall
      generalize hd : decide (zs[k].name = nm) = d at *
      clear hd
      generalize zs[k] = z at *
      cases d
      · go_wp2_with fail
        exact ⟨⟨k + 1, by omega, by go_num, HS.out (by trivial), by trivial⟩, by simp [intOf]; omega⟩
      · go_wp2_with fail
        go_ret
        exact ⟨by rw [← HQ.out, HH.out (by trivial)]; rfl, HO.out.2⟩
    · obtain rfl : k = zs.length := by omega
      have hall := Hall.out
      rw [List.take_length] at hall
      have hm : linkAt zs nm = none := find_miss hall
      have HM := Lib.hid hm
      clear hall Hall hm
      go_wp2_with fail
      go_ret
      exact ⟨by rw [← HQ.out, HM.out]; rfl, HO.out.2⟩
set_option maxHeartbeats 1000000 in
set_option maxRecDepth 100000 in
theorem rresolve_any (s : Src) (A A2 A3 : Option Addr) (c c2 c3 : Nat) (nm : ByteArray) (w : World) (h : SrcOk s A A2 A3 w) :
    Calls Tryz.prog 134 #[.agg #[.slice A s.rules.length c, .slice A2 s.zones.length c2, .slice A3 s.links.length c3], .string nm] w fun e w' => e = .returned (.tuple #[.int .i64 ((resolveB s nm).getD 0 : Nat), .bool (resolveB s nm).isSome]) ∧ Below w.heap.size w w' := by
  have hZ := fun n z (hb : Below w.heap.size w z) => rzone_any s A A2 A3 c c2 c3 n z (h.below hb)
  have hL := fun n z (hb : Below w.heap.size w z) => rlink_any s A A2 A3 c c2 c3 n z (h.below hb)
  have nl := h.nl; have hrl := h.rl
  clear h
  obtain ⟨Q, hQ⟩ : ∃ Q, resolveB s nm = Q := ⟨_, rfl⟩
  rw [hQ]
  unfold resolveB at hQ
  obtain ⟨rs, zs, ls⟩ := s
  simp only at nl hrl hQ hZ hL ⊢
  have HZ := Lib.hid hZ; have HL := Lib.hid hL
  have hone := One.new w 26 #[.slice A rs.length c, .slice A2 zs.length c2, .slice A3 ls.length c3]
  obtain ⟨W, hW⟩ : ∃ W, w.alloc (.cells #[.slice A rs.length c, .slice A2 zs.length c2, .slice A3 ls.length c3] 26) = W := ⟨_, rfl⟩
  rw [hW] at hone
  have HO := Lib.hid hone; have HR := Lib.hid hrl; have HQ := Lib.hid hQ
  clear hone hrl hZ hL hQ
  go_enter Tryz.func134, Tryz.ntmps134
  go_wp2_with fail
  go_loopw [1, 6] (fun v i wr => ∃ (k : Nat) (n : ByteArray), k ≤ ls.length + 1 ∧ i = .int .i64 k ∧ v = .string n ∧ stepR zs ls (ls.length + 1 - k) n = Q ∧ One w w.heap.size 26 #[.slice A rs.length c, .slice A2 zs.length c2, .slice A3 ls.length c3] wr) (fun _ i _ => ls.length + 1 - (intOf i).toNat)
  case atStart => exact ⟨0, nm, Nat.zero_le _, rfl, rfl, HQ.out, HO.out⟩
  case round =>
    clear HO HQ
    obtain ⟨k, n, hk, rfl, rfl, hst, ho⟩ := hrel
    have HO := Lib.hid ho
    have c0 := fun i => ho.1.cell i
    clear ho
    by_cases hkn : k < ls.length + 1
    · obtain ⟨m, hm⟩ : ∃ m, ls.length + 1 - k = m + 1 := ⟨ls.length - k, by omega⟩
      have hm2 : ls.length + 1 - (k + 1) = m := by omega
      rw [hm, stepR] at hst
      have HM2 := Lib.hid hm2
      have hle : decide (((k : Nat) : Int) ≤ (ls.length : Nat)) = true := decide_eq_true (by omega)
      clear hm hm2
      cases hz : zoneAt zs n with
      | some i =>
        have HI := Lib.hid (HZ.out n wr HO.out.2)
        simp only [hz] at hst HI
        simp only [atI] at HI
        obtain rfl := hst
        have hd : decide ((0 : Int) ≤ (i : Nat)) = true := decide_eq_true (by omega)
        clear hz
        go_wp2_with (go_at_call 132; refine HI.out.mono ?_; rintro e w1 ⟨rfl, hb1⟩; have HB2 := Lib.hid (HO.out.step hb1); clear hb1)
        go_ret2
        exact ⟨rfl, HB2.out.2⟩
      | none =>
        have HI := Lib.hid (HZ.out n wr HO.out.2)
        have HJ := Lib.hid (fun w1 hb => HL.out n w1 hb)
        simp only [hz] at hst HI
        simp only [atI] at HI
        clear hz
        cases hl : linkAt ls n with
        | none =>
          simp only [hl, Option.bind_none] at hst HJ
          simp only [atI] at HJ
          obtain rfl := hst
          clear hl
          go_wp2_with (first
            | (go_at_call 132; refine HI.out.mono ?_; rintro e w1 ⟨rfl, hb1⟩; have ho2 := HO.out.step hb1; have HB2 := Lib.hid ho2; have c2 := fun i => ho2.1.cell i; clear hb1 ho2)
            | (go_at_call 133; refine (HJ.out _ HB2.out.2).mono ?_; rintro e w2 ⟨rfl, hb1⟩; have HB3 := Lib.hid (HB2.out.step hb1); clear hb1))
          go_ret2
          exact ⟨rfl, HB3.out.2⟩
        | some j =>
          have hj := linkAt_lt hl
          simp only [hl, Option.bind_some, List.getElem?_eq_getElem hj] at hst HJ
          simp only [atI] at HJ
          have HSt := Lib.hid hst
          have hd : decide (((j : Nat) : Int) < 0) = false := decide_eq_false (by omega)
          clear hl hst
          go_wp2_with (first
            | (go_at_call 132; refine HI.out.mono ?_; rintro e w1 ⟨rfl, hb1⟩; have ho2 := HO.out.step hb1; have HB2 := Lib.hid ho2; have c2 := fun i => ho2.1.cell i; clear hb1 ho2 c0)
            | (go_at_call 133; refine (HJ.out _ HB2.out.2).mono ?_; rintro e w2 ⟨rfl, hb1⟩; have ho3 := HB2.out.step hb1; have HB3 := Lib.hid ho3; have c3 := fun i => ho3.1.cell i; obtain ⟨ad, hA, hadb, a0, a1⟩ := link_cells (HR.out.below ho3.2) hj rfl; subst hA; clear hb1 ho3 c2))
          refine ⟨⟨k + 1, ls[j].target, by omega, by go_num, rfl, ?_, HB3.out⟩, by simp [intOf]; omega⟩
          rw [HM2.out]; exact HSt.out
    · obtain rfl : k = ls.length + 1 := by omega
      have hle : decide (((ls.length + 1 : Nat) : Int) ≤ (ls.length : Nat)) = false := decide_eq_false (by omega)
      rw [Nat.sub_self, stepR] at hst
      obtain rfl := hst
      go_wp2_with fail
      go_ret2
      exact ⟨rfl, HO.out.2⟩
end Go.Proofs.YtdicedpklpadgaaGreatDoor.Snd
namespace Go.Proofs.YtdicedpklpadgaaGreatDoor.Snd
open Go.RowKit Mem Civ Mom Img Plc Rul Src

theorem one_str {s : ByteArray} : ∀ u ∈ (#[Value.string s] : Array Value).toList, u.oneCell' = true := by intro u hu; simp at hu; subst hu; rfl
theorem info_str : (Tryz.prog.info? 9).map (fun i => (i.zero, i.size, i.bytes)) = some (some (.string ⟨#[]⟩), 1, 16) := by kernel_rfl
def ltB (a b : ByteArray) : Bool := Op.bytesLess a.toList b.toList
/-- A name in its place, if it isn't there. -/
def putL (nm : ByteArray) : List ByteArray → List ByteArray
  | [] => [nm]
  | x :: t => if ltB x nm = true then x :: putL nm t else if x.toList == nm.toList then x :: t else nm :: x :: t
theorem putL_len (nm : ByteArray) : ∀ l : List ByteArray, l.length ≤ (putL nm l).length ∧ (putL nm l).length ≤ l.length + 1
  | [] => by simp [putL]
  | x :: t => by
    have ih := putL_len nm t
    unfold putL
    split
    · simp only [List.length_cons]; omega
    · split <;> simp
def txs (l : List ByteArray) : List Value := l.map Value.string
theorem txs_len (l : List ByteArray) : (txs l).length = l.length := by simp [txs]
theorem txt_at {w : World} {B : Nat} {A : Option Addr} {l : List ByteArray} (h : Reads w B 1 A l.length (txs l)) {k : Nat} (hk : k < l.length) :
    ∃ ad, A = some ad ∧ ad.block < B ∧ w.cell? (ad.add k) = some (.string l[k]) := by
  obtain ⟨ad, e, hb, hc⟩ := h.2 (by omega)
  refine ⟨ad, e, hb, hc k _ ?_⟩
  unfold txs
  rw [List.getElem?_map, List.getElem?_eq_getElem hk]; rfl

end Go.Proofs.YtdicedpklpadgaaGreatDoor.Snd
namespace Go.Proofs.YtdicedpklpadgaaGreatDoor.Snd
open Go.RowKit Mem Civ Mom Img Plc Rul Src

def namesL (ns : List ByteArray) : List ByteArray := ns.foldl (fun l n => putL n l) []
theorem namesL_snoc (ns : List ByteArray) (n : ByteArray) : namesL (ns ++ [n]) = putL n (namesL ns) := by simp [namesL, List.foldl_append]
theorem namesL_len (ns : List ByteArray) : (namesL ns).length ≤ ns.length := by
  suffices h : ∀ (ns : List ByteArray), (namesL ns.reverse).length ≤ ns.length by have := h ns.reverse; simpa using this
  intro ns
  induction ns with
  | nil => simp [namesL]
  | cons a t ih =>
    rw [List.reverse_cons, namesL_snoc, List.length_cons]
    have := (putL_len a (namesL t.reverse)).2
    omega
theorem own_txs {w : World} {base : Nat} {e : TypeId} {v : Value} {l P : List ByteArray} (h : w.ownsRow base e 1 v l.length (txs l)) (he : l = P) : w.ownsRow base e 1 v P.length (txs P) := by subst he; exact h
def allNames (s : Src) : List ByteArray := s.zones.map (·.name) ++ s.links.map (·.name)

end Go.Proofs.YtdicedpklpadgaaGreatDoor.Snd
namespace Go.Proofs.YtdicedpklpadgaaGreatDoor.Snd
open Go.RowKit Mem Civ Mom Img Plc Rul Src Go.Maps Go.Sort

/-- A map reads as a set of names. -/
def SM (ks : List (List UInt8)) (D : DataW Unit) : Prop := IsMap D ∧ ∀ x, has D (.string x) = decide (x ∈ ks) ∧ ∀ zd, D.atKey (.string x) zd = if x ∈ ks then .lit (.bool true) else zd
theorem SM.empty : SM [] (.map []) := ⟨isMap_empty, fun x => ⟨by simp [has], fun zd => by simp [DataW.atKey]⟩⟩
theorem SM.put {ks : List (List UInt8)} {D : DataW Unit} (h : SM ks D) (x : List UInt8) : SM (ks ++ [x]) (D.put (.string x) (.lit (.bool true))) := by
  refine ⟨h.1.put _ _, fun y => ?_⟩
  by_cases e : y = x
  · subst e
    refine ⟨?_, fun zd => ?_⟩
    · rw [has_put_same h.1 (show WideAt.IsKeyLit (.string y) from trivial)]
      simp
    · rw [atKey_put_same h.1 (show WideAt.IsKeyLit (.string y) from trivial)]
      simp
  · have hne : (Lit.string y) ≠ .string x := fun e2 => e (by injection e2)
    refine ⟨?_, fun zd => ?_⟩
    · rw [has_put_other hne, (h.2 y).1]
      simp [e]
    · rw [atKey_put_other hne, (h.2 y).2]
      simp [e]
theorem setLaw : Keyed Tryz.prog 9 := string_keyed Tryz.underlying9
theorem nm_key {s : ByteArray} (h : s.size ≤ 2097152) : keyOf Tryz.prog 9 (.string s) = some (.string s.data.toList) := WideMaps.keyOf_string_mk Tryz.underlying9 (by unfold maxLen; omega)
def keyL (l : List ByteArray) : List (List UInt8) := l.map fun s => s.data.toList
/-- A map of names, of no more than n stores. -/
def MapOf (w : World) (b n : Nat) (l : List ByteArray) : Prop := ∃ D : DataW Unit, w.ownsMap Tryz.prog 9 (plainElem Tryz.prog 4) b n D ∧ SM (keyL l) D
theorem MapOf.lt {w : World} {b n : Nat} {l : List ByteArray} (h : MapOf w b n l) : b < w.heap.size := by
  obtain ⟨D, h1, _⟩ := h
  exact h1.lt
theorem MapOf.kept {w w' : World} {b n : Nat} {l : List ByteArray} {r : Option Nat} (h : MapOf w b n l) (hg : w.grownBy w' r) (hr : some b ≠ r) : MapOf w' b n l := by
  obtain ⟨D, h1, h2⟩ := h
  exact ⟨D, h1.kept hg hr, h2⟩
theorem MapOf.alloc {w : World} {b n : Nat} {l : List ByteArray} (h : MapOf w b n l) (o : Obj) : MapOf (w.alloc o) b n l := h.kept (World.grownBy_alloc w o none) (by simp)

theorem keyL_mem {l : List ByteArray} {s : ByteArray} : s.data.toList ∈ keyL l ↔ s ∈ l := by
  unfold keyL
  rw [List.mem_map]
  constructor
  · rintro ⟨a, ha, e⟩
    obtain ⟨⟨x⟩⟩ := a
    obtain ⟨⟨y⟩⟩ := s
    simp only at e
    subst e
    exact ha
  · intro h; exact ⟨s, h, rfl⟩
theorem zero_bool (w : World) : (zeroValue 4).run Tryz.prog w = .ok (.bool false) w := by kernel_rfl
def inL (l : List ByteArray) (s : ByteArray) : Bool := l.any fun a => decide (a = s)
theorem inL_iff {l : List ByteArray} {s : ByteArray} : inL l s = true ↔ s ∈ l := by
  unfold inL
  rw [List.any_eq_true]
  constructor
  · rintro ⟨a, ha, e⟩
    have : a = s := by simpa using e
    subst this
    exact ha
  · intro h; exact ⟨s, h, by simp⟩
theorem bool_inv {P : Program} {e : TypeId} (he : P.underlying e = some .bool) {v : Value} {y : DataW Unit × List MemPlace} (h : plainElem (H := Unit) P e v = some y) : ∃ q, v = .bool q ∧ y = (.lit (.bool q), []) := by
  unfold plainElem at h
  rw [he] at h
  cases v with
  | bool q =>
    injection h with h
    exact ⟨q, rfl, h.symm⟩
  | _ => cases h
set_option maxRecDepth 100000 in
/-- 'seen[name]'. -/
theorem MapOf.look {w : World} {b n : Nat} {l : List ByteArray} (h : MapOf w b n l) {s : ByteArray} (hs : s.size ≤ 2097152) :
    (Instr.lookup 143 (.map (some b)) (.string s) false).run Tryz.prog w = .ok (.bool (inL l s)) w := by
  obtain ⟨D, h1, h2⟩ := h
  obtain ⟨v, ps, hrun, hv⟩ := h1.lookup setLaw Tryz.underlying143 (zero_bool w) (plainElem_bool Tryz.underlying4 false) (nm_key hs)
  rw [(h2.2 _).2] at hv
  obtain ⟨q, rfl, hq⟩ := bool_inv Tryz.underlying4 hv
  rw [hrun]
  have e : q = inL l s := by
    injection hq with hq _
    cases hm : inL l s
    · rw [if_neg (fun h => by rw [inL_iff.2 (keyL_mem.1 h)] at hm; cases hm)] at hq
      injection hq with hq
      injection hq with hq
      exact hq.symm
    · rw [if_pos (keyL_mem.2 (inL_iff.1 hm))] at hq
      injection hq with hq
      injection hq with hq
      exact hq.symm
  rw [e]
set_option maxHeartbeats 1000000 in
set_option maxRecDepth 100000 in
theorem named_any (s : Src) (A A2 A3 : Option Addr) (c c2 c3 : Nat) (w : World) (h : SrcOk s A A2 A3 w) :
    Calls Tryz.prog 109 #[.agg #[.slice A s.rules.length c, .slice A2 s.zones.length c2, .slice A3 s.links.length c3]] w fun e w' => ∃ b, e = .returned (.map (some b)) ∧ w.heap.size ≤ b ∧ MapOf w' b s.zones.length (s.zones.map (·.name)) ∧ Below w.heap.size w w' := by
  have hrz := h.rz; have nz := h.nz; have tz := h.tz
  clear h
  obtain ⟨rs, zs, ls⟩ := s
  simp only at hrz nz tz ⊢
  have hmm := @run_makeMap Tryz.prog
  have hone := One.new w 26 #[.slice A rs.length c, .slice A2 zs.length c2, .slice A3 ls.length c3]
  obtain ⟨W, hW⟩ : ∃ W, w.alloc (.cells #[.slice A rs.length c, .slice A2 zs.length c2, .slice A3 ls.length c3] 26) = W := ⟨_, rfl⟩
  have hsz : w.heap.size < W.heap.size := by rw [← hW]; simp
  rw [hW] at hone
  have HO := Lib.hid hone; have HZ := Lib.hid hrz; have HT := Lib.hid tz; have Hsz := Lib.hid hsz
  have HM0 := Lib.hid (World.ownsMap_made W Tryz.prog 9 (plainElem (H := Unit) Tryz.prog 4))
  have ca := fun o i => (hone.1.alloc o).cell i
  clear hone hrz tz hsz
  go_enter Tryz.func109, Tryz.ntmps109
  go_wp2_with fail
  clear ca
  go_loopw [10] (fun i wr => ∃ k : Nat, k ≤ zs.length ∧ i = .int .i64 k ∧ MapOf wr W.heap.size k ((zs.take k).map (·.name)) ∧ One w w.heap.size 26 #[.slice A rs.length c, .slice A2 zs.length c2, .slice A3 ls.length c3] wr) (fun i _ => zs.length - (intOf i).toNat)
  case atStart => exact ⟨0, Nat.zero_le _, rfl, ⟨_, HM0.out, SM.empty⟩, HO.out.1.alloc _, HO.out.2.alloc HO.out.2.size _⟩
  case round =>
    clear HM0
    obtain ⟨k, hk, rfl, hm, ho⟩ := hrel
    have HO1 := Lib.hid ho
    clear ho HO
    by_cases hkn : k < zs.length
    · obtain ⟨ad, rfl, hadb, a0, a1⟩ := zone_cells (HZ.out.below HO1.out.2) hkn rfl
      have hkey := nm_key (HT.out zs[k] (List.getElem_mem hkn))
      have hst : (zs.take (k + 1)).map (·.name) = (zs.take k).map (·.name) ++ [zs[k].name] := by rw [List.take_succ_eq_append_getElem hkn, List.map_append]; rfl
      have HSt := Lib.hid hst
      obtain ⟨D, hown, hsm⟩ := hm
      have Hown := Lib.hid hown; have Hsm := Lib.hid hsm
      clear hown hsm hst
      generalize zs[k] = z at *
      go_wp2_with (at_mapUpdate; refine wpList_mapUpdate_own (H := Unit) _ rfl _ _ _ 143 rfl 9 4 setLaw Tryz.underlying143 (plainElem Tryz.prog 4) W.heap.size k D rfl (Hown.out.alloc _) (by unfold maxLen; omega) _ _ _ rfl rfl hkey (.lit (.bool true)) [] (plainElem_bool Tryz.underlying4 true) ?_; intro w1 hmap1 hg1; have Hmap1 := Lib.hid hmap1; have Hg1 := Lib.hid hg1; clear hmap1 hg1)
      refine ⟨⟨k + 1, by omega, by go_num, ⟨_, Hmap1.out, ?_⟩, ?_, ?_⟩, by simp [intOf]; omega⟩
      · rw [HSt.out, keyL, List.map_append]
        exact Hsm.out.put _
      · exact (HO1.out.1.alloc _).grown Hg1.out (by have := Hsz.out; intro e; injection e with e; omega)
      · exact (HO1.out.2.alloc HO1.out.2.size _).grown Hg1.out (by have := HO1.out.2.size; simp; omega) (fun j hj => by have := Hsz.out; injection hj with hj; omega)
    · obtain rfl : k = zs.length := by omega
      rw [List.take_length] at hm
      have HM := Lib.hid hm
      clear hm
      go_wp2_with fail
      go_ret
      exact ⟨_, rfl, by have := Hsz.out; omega, HM.out, HO1.out.2⟩
end Go.Proofs.YtdicedpklpadgaaGreatDoor.Snd
