/-
  Package sound: plain words of names, and the contract of Resolve. Conditions: what the source's slices hold is read.
-/
import Derived.Test.YtgfdmjldfahbpaaGreatDoorSrc3
namespace Go.Proofs.YtgfdmjldfahbpaaGreatDoor.Snd
open Go.RowKit Mem Civ Mom Img Plc Rul Src

theorem tl_beq (a b : ByteArray) : (a.toList == b.toList) = decide (a = b) := by
  rw [ByteArray.toList_eq, ByteArray.toList_eq, Bool.eq_iff_iff]
  simp only [beq_iff_eq, decide_eq_true_eq]
  constructor
  · intro h
    obtain ⟨⟨a⟩⟩ := a
    obtain ⟨⟨b⟩⟩ := b
    simp only at h
    rw [h]
  · rintro rfl; rfl
theorem find_hit {α : Type} {p : α → Bool} {l : List α} {k : Nat} (hk : k < l.length) (h : (l.take k).all (fun x => !p x) = true) (hp : p l[k] = true) : l.findIdx? p = some k := by
  rw [List.findIdx?_eq_some_iff_getElem]
  refine ⟨hk, hp, fun j hj => ?_⟩
  have hm : l[j] ∈ l.take k := by
    rw [List.mem_take_iff_getElem]
    exact ⟨j, by omega, rfl⟩
  have := List.all_eq_true.1 h _ hm
  simpa using this
theorem find_miss {α : Type} {p : α → Bool} {l : List α} (h : l.all (fun x => !p x) = true) : l.findIdx? p = none := by
  rw [List.findIdx?_eq_none_iff]
  intro x hx
  have := List.all_eq_true.1 h x hx
  simpa using this
theorem no_step {α : Type} {p : α → Bool} {l : List α} {k : Nat} (hk : k < l.length) (h : (l.take k).all (fun x => !p x) = true) (hp : p l[k] = false) : (l.take (k + 1)).all (fun x => !p x) = true := by
  rw [List.take_succ_eq_append_getElem hk, List.all_append, h]
  simp [hp]
/-- The place of the first zone, of the first link of a name. -/
def zoneAt (zs : List ZoneM) (nm : ByteArray) : Option Nat := zs.findIdx? fun z => decide (z.name = nm)
def linkAt (ls : List Link) (nm : ByteArray) : Option Nat := ls.findIdx? fun l => decide (l.name = nm)
def atI : Option Nat → Int
  | some i => i
  | none => -1
def stepR (zs : List ZoneM) (ls : List Link) : Nat → ByteArray → Option Nat
  | 0, _ => none
  | n + 1, nm => match zoneAt zs nm with
    | some i => some i
    | none => match (linkAt ls nm).bind fun k => ls[k]? with
      | none => none
      | some l => stepR zs ls n l.target
/-- The zone of a name. -/
def resolveB (s : Src) (nm : ByteArray) : Option Nat := stepR s.zones s.links (s.links.length + 1) nm
theorem zoneAt_lt {zs : List ZoneM} {nm : ByteArray} {i : Nat} (h : zoneAt zs nm = some i) : i < zs.length := (List.findIdx?_eq_some_iff_getElem.1 h).1
theorem linkAt_lt {ls : List Link} {nm : ByteArray} {i : Nat} (h : linkAt ls nm = some i) : i < ls.length := (List.findIdx?_eq_some_iff_getElem.1 h).1

theorem name_any (z : ZoneM) (nm : ByteArray) (b : Nat) (w : World) (hc : w.cell? ⟨b, 0, none⟩ = some (.string nm)) :
    Calls Tryz.prog 30 #[.agg #[.string z.name, .slice z.A z.eras.length z.c], .pointer (some ⟨b, 0, none⟩)] w fun e w' => e = .returned (.bool (decide (z.name = nm))) ∧ Below w.heap.size w w' := by
  have h1 := tl_beq z.name nm
  have hone := One.new w 41 #[.string z.name, .slice z.A z.eras.length z.c]
  have c2 : (w.alloc (.cells #[.string z.name, .slice z.A z.eras.length z.c] 41)).cell? ⟨b, 0, none⟩ = some (.string nm) := cell_later hone.2 hc
  generalize decide (z.name = nm) = q at *
  go_enter Tryz.func30, Tryz.ntmps30
  go_wp2_with fail
  go_ret
  exact ⟨rfl, hone.2⟩
theorem lname_any (z : Link) (nm : ByteArray) (b : Nat) (w : World) (hc : w.cell? ⟨b, 0, none⟩ = some (.string nm)) :
    Calls Tryz.prog 32 #[.agg #[.string z.target, .string z.name], .pointer (some ⟨b, 0, none⟩)] w fun e w' => e = .returned (.bool (decide (z.name = nm))) ∧ Below w.heap.size w w' := by
  have h1 := tl_beq z.name nm
  have hone := One.new w 50 #[.string z.target, .string z.name]
  have c2 : (w.alloc (.cells #[.string z.target, .string z.name] 50)).cell? ⟨b, 0, none⟩ = some (.string nm) := cell_later hone.2 hc
  generalize decide (z.name = nm) = q at *
  go_enter Tryz.func32, Tryz.ntmps32
  go_wp2_with fail
  go_ret
  exact ⟨rfl, hone.2⟩
set_option maxRecDepth 100000 in
theorem index_zone (zs : List ZoneM) (nm : ByteArray) (b : Nat) (A : Option Addr) (c : Nat) (w : World) (h : Reads w w.heap.size 2 A zs.length (zs.flatMap ZoneM.cells)) (hc : w.cell? ⟨b, 0, none⟩ = some (.string nm)) (hn : zs.length ≤ 1000000) :
    Calls Tryz.prog 29 #[.slice A zs.length c, .func (Fn.func 30) #[] #[.pointer (some ⟨b, 0, none⟩)]] w fun e w' => e = .returned (.int .i64 (atI (zoneAt zs nm))) ∧ Below w.heap.size w w' := by
  have H := Lib.hid h; have HC := Lib.hid hc; clear h hc
  obtain ⟨Q, hQ⟩ : ∃ Q, zoneAt zs nm = Q := ⟨_, rfl⟩
  rw [hQ]
  have HQ := Lib.hid hQ; clear hQ
  go_enter Tryz.func29, Tryz.ntmps29
  go_wp2
  go_loopw [8] (fun i wr => ∃ k : Nat, k ≤ zs.length ∧ i = .int .i64 k ∧ (zs.take k).all (fun z => !decide (z.name = nm)) = true ∧ Below w.heap.size w wr) (fun i _ => zs.length - (intOf i).toNat)
  case atStart => exact ⟨0, Nat.zero_le _, rfl, rfl, Below.refl _ _⟩
  case round =>
    obtain ⟨k, hk, rfl, hall, hb⟩ := hrel
    have Hall := Lib.hid hall; have HB := Lib.hid hb; clear hall hb
    by_cases hkn : k < zs.length
    · obtain ⟨ad, rfl, hadb, a0, a1⟩ := zone_cells (H.out.below HB.out) hkn rfl
      have Hc := Lib.hid (fun z (hb : Below w.heap.size w z) => name_any zs[k] nm b z (cell_later hb HC.out))
      have hstep : decide (zs[k].name = nm) = false → (zs.take (k + 1)).all (fun z => !decide (z.name = nm)) = true := no_step hkn Hall.out
      have hhit : decide (zs[k].name = nm) = true → zoneAt zs nm = some k := find_hit hkn Hall.out
      have HS := Lib.hid hstep; have HH := Lib.hid hhit
      clear hstep hhit Hall
      generalize hd : decide (zs[k].name = nm) = d at *
      clear hd
      generalize zs[k] = z at *
      cases d
      · go_wp2_with (go_at_call 30; refine (Hc.out _ HB.out).mono ?_; rintro e w1 ⟨rfl, hb1⟩; have HB1 := Lib.hid (HB.out.trans (hb1.mono HB.out.size)); clear hb1)
        exact ⟨⟨k + 1, by omega, by go_num, HS.out (by trivial), HB1.out⟩, by simp [intOf]; omega⟩
      · go_wp2_with (go_at_call 30; refine (Hc.out _ HB.out).mono ?_; rintro e w1 ⟨rfl, hb1⟩; have HB1 := Lib.hid (HB.out.trans (hb1.mono HB.out.size)); clear hb1)
        go_ret
        exact ⟨by rw [← HQ.out, HH.out (by trivial)]; rfl, HB1.out⟩
    · obtain rfl : k = zs.length := by omega
      have hall := Hall.out
      rw [List.take_length] at hall
      have hm : zoneAt zs nm = none := find_miss hall
      have HM := Lib.hid hm
      clear hall Hall hm
      go_wp2
      go_ret
      exact ⟨by rw [← HQ.out, HM.out]; rfl, HB.out⟩
set_option maxRecDepth 100000 in
theorem index_link (zs : List Link) (nm : ByteArray) (b : Nat) (A : Option Addr) (c : Nat) (w : World) (h : Reads w w.heap.size 2 A zs.length (zs.flatMap Link.cells)) (hc : w.cell? ⟨b, 0, none⟩ = some (.string nm)) (hn : zs.length ≤ 1000000) :
    Calls Tryz.prog 31 #[.slice A zs.length c, .func (Fn.func 32) #[] #[.pointer (some ⟨b, 0, none⟩)]] w fun e w' => e = .returned (.int .i64 (atI (linkAt zs nm))) ∧ Below w.heap.size w w' := by
  have H := Lib.hid h; have HC := Lib.hid hc; clear h hc
  obtain ⟨Q, hQ⟩ : ∃ Q, linkAt zs nm = Q := ⟨_, rfl⟩
  rw [hQ]
  have HQ := Lib.hid hQ; clear hQ
  go_enter Tryz.func31, Tryz.ntmps31
  go_wp2
  go_loopw [8] (fun i wr => ∃ k : Nat, k ≤ zs.length ∧ i = .int .i64 k ∧ (zs.take k).all (fun z => !decide (z.name = nm)) = true ∧ Below w.heap.size w wr) (fun i _ => zs.length - (intOf i).toNat)
  case atStart => exact ⟨0, Nat.zero_le _, rfl, rfl, Below.refl _ _⟩
  case round =>
    obtain ⟨k, hk, rfl, hall, hb⟩ := hrel
    have Hall := Lib.hid hall; have HB := Lib.hid hb; clear hall hb
    by_cases hkn : k < zs.length
    · obtain ⟨ad, rfl, hadb, a0, a1⟩ := link_cells (H.out.below HB.out) hkn rfl
      have Hc := Lib.hid (fun z (hb : Below w.heap.size w z) => lname_any zs[k] nm b z (cell_later hb HC.out))
      have hstep : decide (zs[k].name = nm) = false → (zs.take (k + 1)).all (fun z => !decide (z.name = nm)) = true := no_step hkn Hall.out
      have hhit : decide (zs[k].name = nm) = true → linkAt zs nm = some k := find_hit hkn Hall.out
      have HS := Lib.hid hstep; have HH := Lib.hid hhit
      clear hstep hhit Hall
      generalize hd : decide (zs[k].name = nm) = d at *
      clear hd
      generalize zs[k] = z at *
      cases d
      · go_wp2_with (go_at_call 32; refine (Hc.out _ HB.out).mono ?_; rintro e w1 ⟨rfl, hb1⟩; have HB1 := Lib.hid (HB.out.trans (hb1.mono HB.out.size)); clear hb1)
        exact ⟨⟨k + 1, by omega, by go_num, HS.out (by trivial), HB1.out⟩, by simp [intOf]; omega⟩
      · go_wp2_with (go_at_call 32; refine (Hc.out _ HB.out).mono ?_; rintro e w1 ⟨rfl, hb1⟩; have HB1 := Lib.hid (HB.out.trans (hb1.mono HB.out.size)); clear hb1)
        go_ret
        exact ⟨by rw [← HQ.out, HH.out (by trivial)]; rfl, HB1.out⟩
    · obtain rfl : k = zs.length := by omega
      have hall := Hall.out
      rw [List.take_length] at hall
      have hm : linkAt zs nm = none := find_miss hall
      have HM := Lib.hid hm
      clear hall Hall hm
      go_wp2
      go_ret
      exact ⟨by rw [← HQ.out, HM.out]; rfl, HB.out⟩
set_option maxHeartbeats 1000000 in
set_option maxRecDepth 100000 in
theorem resolve_any (s : Src) (A A2 A3 : Option Addr) (c c2 c3 : Nat) (nm : ByteArray) (w : World) (h : SrcOk s A A2 A3 w) :
    Calls Tryz.prog 11 #[.agg #[.slice A s.rules.length c, .slice A2 s.zones.length c2, .slice A3 s.links.length c3], .string nm] w fun e w' => e = .returned (.tuple #[.int .i64 ((resolveB s nm).getD 0 : Nat), .bool (resolveB s nm).isSome]) ∧ Below w.heap.size w w' := by
  have nz := h.nz; have nl := h.nl; have hrz := h.rz; have hrl := h.rl
  clear h
  obtain ⟨Q, hQ⟩ : ∃ Q, resolveB s nm = Q := ⟨_, rfl⟩
  rw [hQ]
  unfold resolveB at hQ
  obtain ⟨rs, zs, ls⟩ := s
  simp only at nz nl hrz hrl hQ ⊢
  have hb2 := box2 w 26 9 #[.slice A rs.length c, .slice A2 zs.length c2, .slice A3 ls.length c3] #[.string nm]
  obtain ⟨W, hW⟩ : ∃ W, (w.alloc (.cells #[.slice A rs.length c, .slice A2 zs.length c2, .slice A3 ls.length c3] 26)).alloc (.cells #[.string nm] 9) = W := ⟨_, rfl⟩
  rw [hW] at hb2
  obtain ⟨b0, b1, hbw, hsz⟩ := hb2
  have HZ := Lib.hid hrz; have HL := Lib.hid hrl; have HQ := Lib.hid hQ; have HB0 := Lib.hid b0; have HB1 := Lib.hid b1; have HBw := Lib.hid hbw
  have c0 := fun i => b0.cell i
  clear hrz hrl hQ b0 b1 hbw
  go_enter Tryz.func11, Tryz.ntmps11
  go_wp2_with fail
  clear c0
  go_loopw [12] (fun i wr => ∃ (k : Nat) (n : ByteArray), k ≤ ls.length + 1 ∧ i = .int .i64 k ∧ stepR zs ls (ls.length + 1 - k) n = Q ∧ Blk wr w.heap.size 26 #[.slice A rs.length c, .slice A2 zs.length c2, .slice A3 ls.length c3] ∧ Blk wr (w.heap.size + 1) 9 #[.string n] ∧ Below w.heap.size w wr) (fun i _ => ls.length + 1 - (intOf i).toNat)
  case atStart => exact ⟨0, nm, Nat.zero_le _, rfl, HQ.out, HB0.out, HB1.out, HBw.out⟩
  case round =>
    clear HB0 HB1 HBw HQ
    obtain ⟨k, n, hk, rfl, hst, hb0, hb1, hbel⟩ := hrel
    have HB0 := Lib.hid hb0; have HB1 := Lib.hid hb1; have HB := Lib.hid hbel
    have c0 := fun i => hb0.cell i
    have c1 : wr.cell? ⟨w.heap.size + 1, 0, none⟩ = some (.string n) := hb1.cell 0
    clear hb0 hb1 hbel
    by_cases hkn : k < ls.length + 1
    · obtain ⟨m, hm⟩ : ∃ m, ls.length + 1 - k = m + 1 := ⟨ls.length - k, by omega⟩
      have hm2 : ls.length + 1 - (k + 1) = m := by omega
      rw [hm, stepR] at hst
      have HI := Lib.hid (index_zone zs n (w.heap.size + 1) A2 c2 wr ((HZ.out.below HB.out).more HB.out.size) c1 nz)
      have HM2 := Lib.hid hm2
      clear hm hm2
      cases hz : zoneAt zs n with
      | some i =>
        simp only [hz] at hst HI
        simp only [atI] at HI
        obtain rfl := hst
        have hd : decide ((0 : Int) ≤ (i : Nat)) = true := decide_eq_true (by omega)
        clear hz
        go_wp2_with (go_at_call 29; refine HI.out.mono ?_; rintro e w1 ⟨rfl, hb1⟩; have HB2 := Lib.hid (HB.out.trans (hb1.mono HB.out.size)); clear hb1)
        go_ret2
        exact ⟨rfl, HB2.out⟩
      | none =>
        simp only [hz] at hst HI
        simp only [atI] at HI
        clear hz
        have HJ := Lib.hid (fun w1 (hb : Below w.heap.size w w1) hc => index_link ls n (w.heap.size + 1) A3 c3 w1 ((HL.out.below hb).more hb.size) hc nl)
        cases hl : linkAt ls n with
        | none =>
          simp only [hl, Option.bind_none] at hst HJ
          simp only [atI] at HJ
          obtain rfl := hst
          clear hl
          go_wp2_with (first
            | (go_at_call 29; refine HI.out.mono ?_; rintro e w1 ⟨rfl, hb1⟩; have HB2 := Lib.hid (HB.out.trans (hb1.mono HB.out.size)); have hx0 := HB0.out.below hb1 HB0.out.lt; have hx1 := HB1.out.below hb1 HB1.out.lt; have c2 := fun i => hx0.cell i; have HX1 := Lib.hid hx1; clear hb1 hx0 hx1)
            | (go_at_call 31; refine (HJ.out _ HB2.out (HX1.out.cell 0)).mono ?_; rintro e w2 ⟨rfl, hb1⟩; have HB3 := Lib.hid (HB2.out.trans (hb1.mono HB2.out.size)); clear hb1))
          go_ret2
          exact ⟨rfl, HB3.out⟩
        | some j =>
          have hj := linkAt_lt hl
          simp only [hl, Option.bind_some, List.getElem?_eq_getElem hj] at hst HJ
          simp only [atI] at HJ
          have HSt := Lib.hid hst
          have hd : decide (((j : Nat) : Int) < 0) = false := decide_eq_false (by omega)
          clear hl hst
          go_wp2_with (first
            | (go_at_call 29; refine HI.out.mono ?_; rintro e w1 ⟨rfl, hb1⟩; have HB2 := Lib.hid (HB.out.trans (hb1.mono HB.out.size)); have hx0 := HB0.out.below hb1 HB0.out.lt; have hx1 := HB1.out.below hb1 HB1.out.lt; have c2 := fun i => hx0.cell i; have HX0 := Lib.hid hx0; have HX1 := Lib.hid hx1; clear hb1 hx0 hx1 c0 c1)
            | (go_at_call 31; refine (HJ.out _ HB2.out (HX1.out.cell 0)).mono ?_; rintro e w2 ⟨rfl, hb1⟩; have HB3 := Lib.hid (HB2.out.trans (hb1.mono HB2.out.size)); have hx0 := HX0.out.below hb1 HX0.out.lt; have hx1 := HX1.out.below hb1 HX1.out.lt; have c3 := fun i => hx0.cell i; have f3 := fun i => hx1.frozen i; have c4 := fun i => hx1.cell i; have HY0 := Lib.hid hx0; have HY1 := Lib.hid hx1; obtain ⟨ad, hA, hadb, a0, a1⟩ := link_cells (HL.out.below HB3.out) hj rfl; subst hA; clear hb1 hx0 hx1 c2))
          refine ⟨⟨k + 1, ls[j].target, by omega, by go_num, ?_, ?_, ?_, ?_⟩, by simp [intOf]; omega⟩
          · rw [HM2.out]; exact HSt.out
          · exact HY0.out.far (by simp) _
          · exact HY1.out.set_ 0 _
          · exact HB3.out.setCell (by simp) _
    · obtain rfl : k = ls.length + 1 := by omega
      rw [Nat.sub_self, stepR] at hst
      obtain rfl := hst
      go_wp2_with fail
      go_ret2
      exact ⟨rfl, HB.out⟩
end Go.Proofs.YtgfdmjldfahbpaaGreatDoor.Snd
