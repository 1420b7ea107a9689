/-
  A turned byte of an image: it is no image of any table; how long images may be. Conditions: none (plain).
  Bytes of a text, one of them turned, and back to a text. Conditions: none.
  The walk of the law ImageTurned. Conditions: what the table's slices hold is read, the lengths are bounded; the cell of bytealg.MaxLen holds a number.
-/
import Derived.Test.YtaffaobhcnnfnaaGreatDoorTail
import Derived.Laws.Bits64
import Derived.Test.YtaffaobhcnnfnaaGreatDoorYrs
import Derived.Test.YtaffaobhcnnfnaaGreatDoorAlive
namespace Go.Proofs.YtaffaobhcnnfnaaGreatDoor.Tur
open Go.RowKit Mem Img Rgt Rd Plc Src

def stepS (n : Nat) (c : UInt8) : Nat := (31 * n + c.toNat) % 4294967296
theorem fold_inj (q : List UInt8) : ∀ (n m : Nat), n < 4294967296 → m < 4294967296 → q.foldl stepS n = q.foldl stepS m → n = m := by
  induction q with
  | nil => intro n m _ _ h; exact h
  | cons c t ih =>
    intro n m hn hm h
    have h1 := ih _ _ (Nat.mod_lt _ (by decide)) (Nat.mod_lt _ (by decide)) h
    have hc := c.toNat_lt
    omega
theorem sumB_turn (p q : List UInt8) (c d : UInt8) (h : sumB (p ++ c :: q) = sumB (p ++ d :: q)) : c = d := by
  have e : ∀ x, sumB (p ++ x :: q) = q.foldl stepS (stepS (sumB p) x) := fun x => by
    unfold sumB; rw [List.foldl_append, List.foldl_cons]; rfl
  rw [e, e] at h
  have h1 := fold_inj q _ _ (Nat.mod_lt _ (by decide)) (Nat.mod_lt _ (by decide)) h
  have := c.toNat_lt
  have := d.toNat_lt
  apply UInt8.toNat_inj.1
  omega
theorem byte_inj {x y : Int} (hx : 0 ≤ x ∧ x < 256) (hy : 0 ≤ y ∧ y < 256) (e : UInt8.ofNat x.toNat = UInt8.ofNat y.toNat) : x = y := by
  have h := congrArg UInt8.toNat e
  simp only [UInt8.toNat_ofNat'] at h
  omega
theorem num4_inj {a b : Nat} (ha : a < 4294967296) (hb : b < 4294967296) (h : num a 4 = num b 4) : a = b := by
  simp only [num, byteI, List.cons.injEq] at h
  obtain ⟨h3, h2, h1, h0, _⟩ := h
  have h3 := byte_inj (by omega) (by omega) h3
  have h2 := byte_inj (by omega) (by omega) h2
  have h1 := byte_inj (by omega) (by omega) h1
  have h0 := byte_inj (by omega) (by omega) h0
  simp only [show (256 : Int) ^ 3 = 16777216 from rfl, show (256 : Int) ^ 2 = 65536 from rfl, show (256 : Int) ^ 1 = 256 from rfl, show (256 : Int) ^ 0 = 1 from rfl] at h3 h2 h1 h0
  omega

/-- A text with one byte turned. -/
def turnAt (l : List UInt8) (k : Nat) (b : UInt8) : List UInt8 := l.set k (l.getD k 0 ^^^ b)
theorem xor_ne {c b : UInt8} (hb : b ≠ 0) : c ^^^ b ≠ c := fun h => hb (by
  have h2 : c ^^^ (c ^^^ b) = c ^^^ c := by rw [h]
  rw [← UInt8.xor_assoc, UInt8.xor_self, UInt8.zero_xor] at h2
  exact h2)
theorem turn_parts (B C N M : List UInt8) (k : Nat) (b : UInt8) (hk : k < (B ++ N).length) (hb : b ≠ 0) (hl : C.length = B.length) (h : C ++ M = turnAt (B ++ N) k b) :
    (∃ p q c d, B = p ++ c :: q ∧ C = p ++ d :: q ∧ d ≠ c ∧ M = N) ∨ (C = B ∧ M ≠ N) := by
  unfold turnAt at h
  by_cases hkb : k < B.length
  · have hg : (B ++ N).getD k 0 = B[k] := by rw [List.getD, List.getElem?_append_left hkb, List.getElem?_eq_getElem hkb]; rfl
    rw [hg, List.set_append_left _ _ hkb] at h
    obtain ⟨h1, h2⟩ := List.append_inj h (by simp [hl])
    refine .inl ⟨B.take k, B.drop (k + 1), B[k], B[k] ^^^ b, ?_, ?_, xor_ne hb, h2⟩
    · rw [List.getElem_cons_drop, List.take_append_drop]
    · rw [h1, List.set_eq_take_append_cons_drop, if_pos hkb]
  · have hkb' : B.length ≤ k := by omega
    have hk2 : k - B.length < N.length := by rw [List.length_append] at hk; omega
    have hg : (B ++ N).getD k 0 = N[k - B.length] := by rw [List.getD, List.getElem?_append_right hkb', List.getElem?_eq_getElem hk2]; rfl
    rw [hg, List.set_append_right _ _ hkb'] at h
    obtain ⟨h1, h2⟩ := List.append_inj h hl
    refine .inr ⟨h1, fun e => ?_⟩
    rw [e] at h2
    have h3 := congrArg (fun l => l[k - B.length]?) h2
    simp only [List.getElem?_set_self hk2, List.getElem?_eq_getElem hk2, Option.some.injEq] at h3
    exact xor_ne hb h3.symm
theorem img_turned (x y : Table) (k : Nat) (b : UInt8) (hk : k < (img x).length) (hb : b ≠ 0) (h : img y = turnAt (img x) k b) : False := by
  have hlen : (img y).length = (img x).length := by rw [h]; simp [turnAt]
  unfold img at h hk hlen
  simp only [List.length_append, num_length] at hlen
  generalize hB : body x = B at *
  generalize hC : body y = C at *
  clear hB hC
  rcases turn_parts B C (num (sumB B) 4) (num (sumB C) 4) k b hk hb (by omega) h with ⟨p, q, c, d, rfl, rfl, hne, hs⟩ | ⟨rfl, hs⟩
  · exact hne (sumB_turn p q d c (num4_inj (sumB_lt _) (sumB_lt _) hs))
  · exact hs rfl
theorem load_turned (tb : Table → Bool) (x : Table) (k : Nat) (b : UInt8) (hk : k < (img x).length) (hb : b ≠ 0) : loadM tb (turnAt (img x) k b) = none := by
  unfold loadM
  cases h : readM (turnAt (img x) k b) with
  | none => rfl
  | some y =>
    rw [Option.bind_some, if_neg]
    rintro ⟨_, h2⟩
    exact img_turned x y.1 k b hk hb h2

/-! ### How long images are -/
theorem made_le {s : ByteArray} {most : Nat} {others : List UInt8} (h : madeB s.data.toList most others = true) : s.size ≤ most := by
  simp only [madeB, Bool.and_eq_true, decide_eq_true_eq] at h
  have := h.2.2
  rw [len_toList] at this
  omega
theorem ruleR_le {r : Rule} (h : ruleR r = true) : r.name.size ≤ 20 ∧ r.letter.size ≤ 8 := by
  simp only [ruleR, setB, letterB, Bool.and_eq_true, Bool.or_eq_true, decide_eq_true_eq] at h
  refine ⟨made_le (most := 20) h.1.1, ?_⟩
  rcases h.2.2.2.2.2 with h | h
  · have e : r.letter.data.toList.length = 0 := by rw [← ByteArray.toList_eq, h]; rfl
    rw [len_toList] at e
    omega
  · exact made_le (most := 8) h.2
theorem tail_le {x : Table} (h : tailB x = true) : x.tail.length ≤ 2 ∧ (∀ r ∈ x.tail, r.name.size ≤ 20 ∧ r.letter.size ≤ 8) ∧ x.format.size ≤ 20 := by
  unfold tailB at h
  split at h
  · next h0 =>
    refine ⟨by omega, fun r hr => ?_, ?_⟩
    · rw [List.length_eq_zero_iff] at h0
      rw [h0] at hr
      cases hr
    · simp only [Bool.and_eq_true, List.isEmpty_iff] at h
      have e : x.format.data.toList = [] := by rw [← ByteArray.toList_eq]; exact h.2
      rw [← len_toList, e]
      decide
  · simp only [Bool.and_eq_true, decide_eq_true_eq] at h
    obtain ⟨_, h1, h2, _⟩ := h
    simp only [srcB, tryOf, Bool.and_eq_true] at h2
    obtain ⟨_, h3, h4, _⟩ := h2
    refine ⟨h1, fun r hr => ruleR_le (List.all_eq_true.1 h3 r hr), ?_⟩
    simp only [List.all_cons, zoneB, Bool.and_eq_true, List.length_singleton, erasOk] at h4
    have h5 := h4.1.2.2.2.2
    simp only [List.getElem?_cons_zero, Bool.and_eq_true, eraB, eraOf, formatB] at h5
    exact made_le (most := 20) h5.1.1.2.1
theorem phaseB_le {p : Phase} (h : phaseB p = true) : p.abbr.size ≤ 40 := by
  simp only [phaseB, Bool.and_eq_true, decide_eq_true_eq] at h
  omega
theorem shifts_le {x : Table} (h : shiftsB x = true) : ∀ s ∈ x.shifts, s.ph.abbr.size ≤ 40 := by
  intro s hs
  obtain ⟨k, hk, rfl⟩ := List.getElem_of_mem hs
  have := List.all_eq_true.1 h k (List.mem_range.2 hk)
  simp only [okAt, List.getElem?_eq_getElem hk, Bool.and_eq_true] at this
  exact phaseB_le this.1
theorem img_len {x : Table} {n : Nat} (h : rightB x (tailB x) = true) (hn : x.shifts.length ≤ n) : (img x).length ≤ 65 * n + 300 := by
  simp only [rightB, Bool.and_eq_true] at h
  obtain ⟨⟨hname, hfirst, _, htail⟩, hsh⟩ := h
  obtain ⟨t1, t2, t3⟩ := tail_le htail
  have hnm : x.name.size ≤ 40 := by
    simp only [placeB, Bool.and_eq_true, decide_eq_true_eq] at hname
    omega
  have hk : x.kinds.length ≤ x.shifts.length + 1 := kindsL_all _ _
  have hkm : ∀ p ∈ x.kinds, p.abbr.size ≤ 40 := fun p hp => by
    rcases (kindsL_mem x.first x.shifts).2.2 p hp with rfl | ⟨s, hs, rfl⟩
    · exact phaseB_le hfirst
    · exact shifts_le hsh s hs
  have ht := poolL_le 40 x.kinds hkm x.kinds.length
  rw [List.take_length] at ht
  have ht2 : x.text.length ≤ x.kinds.length * 41 := ht
  have e3 := flat_take_le (fun s : Shift => num s.sec 8) 8 x.shifts (fun _ _ => by simp [num_length]) x.shifts.length
  have e4 := flat_take_le (fun s : Shift => num (x.kinds.idxOf s.ph) 4) 4 x.shifts (fun _ _ => by simp [num_length]) x.shifts.length
  have e5 := flat_take_le (fun p : Phase => num p.off 4 ++ num p.save 4 ++ num (x.begin_ p) 4) 12 x.kinds (fun _ _ => by simp [num_length]) x.kinds.length
  have e7 := flat_take_le Img.ruleB 60 x.tail (fun r hr => by
    have := t2 r hr
    simp only [Img.ruleB, List.length_append, num_length, short_length, len_toList]
    omega) x.tail.length
  have := three_len x.shifts.length x.kinds.length x.text.length 3
  simp only [img, body, b7, b6, b5, b4, b3, b2, b1, magic, List.length_append, num_length, short_length, len_toList, List.length_cons, List.length_nil]
  omega
end Go.Proofs.YtaffaobhcnnfnaaGreatDoor.Tur
namespace Go.Proofs.YtaffaobhcnnfnaaGreatDoor.Tur
open Go.RowKit Mem Img Rgt Rd Plc Src

theorem xor_u8 (a b : UInt8) : bits .xor .u8 (a.toNat : Int) (b.toNat : Int) = ((a ^^^ b).toNat : Int) := by
  have ha := a.toNat_lt
  have hb := b.toNat_lt
  have hx : a.toNat ^^^ b.toNat < 2 ^ 8 := Nat.xor_lt_two_pow (by omega) (by omega)
  have h1 : (BitVec.ofInt 8 (a.toNat : Int)).toNat = a.toNat := by
    rw [BitVec.ofInt_natCast, BitVec.toNat_ofNat]; exact Nat.mod_eq_of_lt (by omega)
  have h2 : (BitVec.ofInt 8 (b.toNat : Int)).toNat = b.toNat := by
    rw [BitVec.ofInt_natCast, BitVec.toNat_ofNat]; exact Nat.mod_eq_of_lt (by omega)
  show IntKind.u8.wrap ((BitVec.ofInt 8 (a.toNat : Int) ^^^ BitVec.ofInt 8 (b.toNat : Int)).toNat : Int) = _
  rw [BitVec.toNat_xor, h1, h2, UInt8.toNat_xor]
  simp [IntKind.wrap, IntKind.bits, IntKind.signed]
  omega
theorem turn_conv (w : World) (l : List UInt8) (k : Nat) (hk : k < l.length) (b : UInt8) : ∃ cap w2,
    (convert 9 43 (.string ⟨l.toArray⟩)).run Tryz.prog w = .ok (.slice (some ⟨w.heap.size, 0, none⟩) l.length cap) w2 ∧ Below w.heap.size w w2 ∧ w.heap.size < w2.heap.size ∧
    w2.cell? ⟨w.heap.size, k, none⟩ = some (.int .u8 ((l[k]'hk).toNat : Int)) ∧ w2.frozen? ⟨w.heap.size, k, none⟩ = false ∧
    (convert 43 9 (.slice (some ⟨w.heap.size, 0, none⟩) l.length cap)).run Tryz.prog (w2.setCell ⟨w.heap.size, k, none⟩ (.int .u8 (bits .xor .u8 ((l[k]'hk).toNat : Int) (b.toNat : Int)))) =
      .ok (.string ⟨(turnAt l k b).toArray⟩) (w2.setCell ⟨w.heap.size, k, none⟩ (.int .u8 (bits .xor .u8 ((l[k]'hk).toNat : Int) (b.toNat : Int)))) ∧
    Below w.heap.size w (w2.setCell ⟨w.heap.size, k, none⟩ (.int .u8 (bits .xor .u8 ((l[k]'hk).toNat : Int) (b.toNat : Int)))) := by
  obtain ⟨W, hW⟩ : ∃ W, w.drew.alloc (.cells (bytesRow ⟨l.toArray⟩ (grownCap w (⟨l.toArray⟩ : ByteArray).size 0 5)) 5 ((bytesRow ⟨l.toArray⟩ (grownCap w (⟨l.toArray⟩ : ByteArray).size 0 5)).size, (bytesRow ⟨l.toArray⟩ (grownCap w (⟨l.toArray⟩ : ByteArray).size 0 5)).size + 1)) = W := ⟨_, rfl⟩
  have hrow : ∀ j (hj : j < l.length), (bytesRow ⟨l.toArray⟩ (grownCap w (⟨l.toArray⟩ : ByteArray).size 0 5))[j]? = some (.int .u8 (l[j].toNat : Int)) := fun j hj => by
    simp only [bytesRow]
    rw [Array.getElem?_append_left (by simp; exact hj)]
    simp [hj]
  have hcell : ∀ j (hj : j < l.length), W.cell? ⟨w.heap.size, j, none⟩ = some (.int .u8 (l[j].toNat : Int)) := fun j hj => by
    rw [← hW, show w.heap.size = w.drew.heap.size from rfl, World.cell?_alloc_mark]
    exact hrow j hj
  have hb : Below w.heap.size w W := by
    rw [← hW]
    exact (Below.refl _ _).drew.alloc (Nat.le_refl _) _
  refine ⟨_, W, (run_bytes_of_string w _ _ _ ⟨l.toArray⟩ Tryz.underlying9 Tryz.underlying43 Tryz.underlying5).trans (by rw [hW]; rfl), hb, by rw [← hW]; simp, hcell k hk, ?_, ?_, hb.setCell (Nat.le_refl _) _⟩
  · rw [← hW, show w.heap.size = w.drew.heap.size from rfl, World.frozen?_alloc_mark]
    have : k < (bytesRow ⟨l.toArray⟩ (grownCap w (⟨l.toArray⟩ : ByteArray).size 0 5)).size := (Array.getElem?_eq_some_iff.1 (hrow k hk)).1
    simp
    omega
  · have hl : l.length = (turnAt l k b).length := by simp [turnAt]
    rw [hl]
    refine run_convert_bytes_back _ _ _ _ _ _ (turnAt l k b) Tryz.underlying43 Tryz.underlying5 Tryz.underlying9 fun j hj => ?_
    rw [show Addr.add ⟨w.heap.size, 0, none⟩ j = ⟨w.heap.size, j, none⟩ from by unfold Addr.add; split <;> simp_all]
    by_cases hjk : j = k
    · subst hjk
      rw [World.cell?_setCell_same _ _ _ (hcell j hk)]
      rw [xor_u8]
      simp [turnAt, hk]
    · rw [World.cell?_setCell_other _ _ _ _ (by intro e; injection e with _ e2; omega), hcell j (by rw [hl]; exact hj)]
      simp [turnAt, Ne.symm hjk]
end Go.Proofs.YtaffaobhcnnfnaaGreatDoor.Tur
namespace Go.Proofs.YtaffaobhcnnfnaaGreatDoor.Tur
open Go.RowKit Mem Img Rd Src

theorem rem_lt (a : Int) (n : Nat) (h0 : 0 < n) (hn : n ≤ 100000) : ∃ K : Nat, K < n ∧ wrap64 ((IntKind.u64.wrap a).tmod (n : Int)) = (K : Int) := by
  have ha : 0 ≤ IntKind.u64.wrap a := by rw [IntKind.wrap_u64]; omega
  rw [Int.tmod_eq_emod_of_nonneg ha]
  refine ⟨(IntKind.u64.wrap a % (n : Int)).toNat, ?_, ?_⟩
  · have := Int.emod_lt_of_pos (IntKind.u64.wrap a) (show (0 : Int) < n by omega)
    have := Int.emod_nonneg (IntKind.u64.wrap a) (show (n : Int) ≠ 0 by omega)
    omega
  · have := Int.emod_lt_of_pos (IntKind.u64.wrap a) (show (0 : Int) < n by omega)
    have h1 := Int.emod_nonneg (IntKind.u64.wrap a) (show (n : Int) ≠ 0 by omega)
    rw [Int.toNat_of_nonneg h1]
    generalize IntKind.u64.wrap a % (n : Int) = z at *
    unfold wrap64
    omega
set_option maxHeartbeats 4000000 in
set_option maxRecDepth 100000 in
theorem turned (x : Table) (A A2 : Option Addr) (c c2 : Nat) (at_ : Int) (b : UInt8) (m : Int) (w : World) (h : TabOk x A A2 w) (hm : w.cell? ⟨0, 0, none⟩ = some (.int .i64 m)) :
    Calls Tryz.prog 6 #[.agg (tabCells x A c A2 c2), .int .i64 at_, .int .u8 (b.toNat : Int)] w fun e w' => e = .returned (.bool true) ∧ Below w.heap.size w w' := by
  have HA := Lib.hid (fun z (hb : Below w.heap.size w z) => Alv.alive_any m z (cell_later hb hm))
  have HY := Lib.hid (fun z (hb : Below w.heap.size w z) => Yrs.years_any x A A2 c c2 z (h.below hb))
  have HS := Lib.hid (fun z (hb : Below w.heap.size w z) => save_any x A A2 c c2 (tailB x) m z (h.below hb) (cell_later hb hm) fun w1 hw1 => tail_any x A A2 c c2 m w1 (h.below (hb.trans (hw1.mono hb.size))) (cell_later (hb.trans (hw1.mono hb.size)) hm))
  have HL := Lib.hid (fun (l : List UInt8) (hl : l.length ≤ 8388608) z (hb : Below w.heap.size w z) => load_any tailB l m z hl (cell_later hb hm) (fun _ => True) (tail_is m) (fun _ _ _ => trivial))
  have hone := Civ.One.new w 27 (tabCells x A c A2 c2)
  clear h hm
  simp only [tabCells] at hone HY HS ⊢
  obtain ⟨W, hW⟩ : ∃ W, w.alloc (.cells #[.string x.name, .int .i64 x.first.off, .int .i64 x.first.save, .string x.first.abbr, .slice A x.shifts.length c, .int .i64 x.till, .slice A2 x.tail.length c2, .int .i64 x.off, .string x.format] 27) = W := ⟨_, rfl⟩
  rw [hW] at hone
  have HO := Lib.hid hone
  have c0 := fun i => hone.1.cell i
  clear hone
  have hlen := fun h hs => img_len (x := x) (n := 400) h hs
  have hne : 0 < (img x).length := List.length_pos_iff.2 img_ne
  have htur := load_turned tailB x
  have HT := Lib.hid htur
  have HLen := Lib.hid hlen
  have HNe := Lib.hid hne
  clear htur hlen hne
  generalize Rgt.rightB x (tailB x) = rb at *
  generalize img x = l at *
  go_enter Tryz.func6, Tryz.ntmps6
  by_cases hs : x.shifts.length ≤ 400
  rotate_left
  · have hsb : decide ((400 : Int) < (x.shifts.length : Nat)) = true := decide_eq_true (by omega)
    clear hs
    go_wp2_with (first
      | (go_at_call 8; refine (HY.out _ HO.out.2).mono ?_; rintro e w1 ⟨yb, rfl, hyb, hb⟩; have HB1 := Lib.hid (HO.out.step hb); have c1 := fun i => (HO.out.step hb).1.cell i; clear hb hyb HO c0; cases yb)
      | (go_at_call 9; refine (HA.out _ HB1.out.2).mono ?_; rintro e w2 ⟨rfl, hb⟩; have HB2 := Lib.hid (HB1.out.step hb); clear hb))
    all_goals go_ret
    all_goals exact ⟨rfl, HB2.out.2⟩
  · have hsb : decide ((400 : Int) < (x.shifts.length : Nat)) = false := decide_eq_false (by omega)
    have HLen := Lib.hid fun h => HLen.out h hs
    clear hs
    cases rb
    · go_wp2_with (first
        | (go_at_call 8; refine (HY.out _ HO.out.2).mono ?_; rintro e w1 ⟨yb, rfl, hyb, hb⟩; have HB1 := Lib.hid (HO.out.step hb); have c1 := fun i => (HO.out.step hb).1.cell i; clear hb hyb HO c0; cases yb)
        | (go_at_call 10; refine (HS.out _ HB1.out.2).mono ?_; rintro e w2 ⟨rfl, hb⟩; have HB1 := Lib.hid (HB1.out.step hb); clear hb)
        | (go_at_call 9; refine (HA.out _ HB1.out.2).mono ?_; rintro e w3 ⟨rfl, hb⟩; have HB3 := Lib.hid (HB1.out.step hb); clear hb))
      all_goals go_ret
      all_goals exact ⟨rfl, HB3.out.2⟩
    · by_cases hb0 : b = 0
      · subst hb0
        go_wp2_with (first
          | (go_at_call 8; refine (HY.out _ HO.out.2).mono ?_; rintro e w1 ⟨yb, rfl, hyb, hb⟩; have HB1 := Lib.hid (HO.out.step hb); have c1 := fun i => (HO.out.step hb).1.cell i; clear hb hyb HO c0; cases yb)
          | (go_at_call 10; refine (HS.out _ HB1.out.2).mono ?_; rintro e w2 ⟨rfl, hb⟩; have HB1 := Lib.hid (HB1.out.step hb); clear hb)
          | (go_at_call 9; refine (HA.out _ HB1.out.2).mono ?_; rintro e w3 ⟨rfl, hb⟩; have HB3 := Lib.hid (HB1.out.step hb); clear hb))
        all_goals go_ret
        all_goals exact ⟨rfl, HB3.out.2⟩
      · have hbb : ((b.toNat : Int) == 0) = false := by
          rw [beq_eq_false_iff_ne]
          intro e
          exact hb0 (UInt8.toNat_inj.1 (by simpa using e))
        have hl2 := HLen.out rfl
        obtain ⟨K, hK, hKe⟩ := rem_lt at_ l.length HNe.out (by omega)
        have hl0 : (((l.length : Nat) : Int) == 0) = false := by rw [beq_eq_false_iff_ne]; have := HNe.out; omega
        go_wp2_with (first
          | (go_at_call 8; refine (HY.out _ HO.out.2).mono ?_; rintro e w1 ⟨yb, rfl, hyb, hb⟩; have HB1 := Lib.hid (HO.out.step hb); have c1 := fun i => (HO.out.step hb).1.cell i; clear hb hyb HO c0; cases yb)
          | (go_at_call 10; refine (HS.out _ HB1.out.2).mono ?_; rintro e w2 ⟨rfl, hb⟩; have HB2 := Lib.hid (HB1.out.step hb); obtain ⟨cap, wc, q1, q2, q3, q4, q5, q6, q7⟩ := turn_conv w2 l K hK b; have hz := HB2.out.2.size; have HQ := Lib.hid (HB2.out.2.trans (q7.mono hz)); have HL2 := Lib.hid (HL.out (turnAt l K b) (by simp [turnAt]; omega) _ HQ.out); rw [HT.out K b hK hb0] at HL2; clear hb q7 q2)
          | (go_at_call 12; refine HL2.out.mono ?_; rintro e w4 ⟨hb, he⟩; simp only at he; subst he; have HB4 := Lib.hid (HQ.out.trans (hb.mono HQ.out.size)); clear hb)
          | (refine wpList_store_row rfl 27 (.tmp 11) (.tmp 60) rfl w4.heap.size zTab rfl rfl 27 _ (Blk.new w4 27 zTab) size27 rfl tab_one ?_; have HB5 := Lib.hid (row_below (X := w4.heap.size) (cy := zTab) (HB4.out.alloc HB4.out.size (.cells zTab 27)) (by have := HB4.out.size; simp; omega) HB4.out.size))
          | (go_at_call 9; refine (HA.out _ HB5.out).mono ?_; rintro e w6 ⟨rfl, hb⟩; have HB6 := Lib.hid (HB5.out.trans (hb.mono HB5.out.size)); clear hb)
          | (go_at_call 9; refine (HA.out _ HB1.out.2).mono ?_; rintro e w3 ⟨rfl, hb⟩; have HB3 := Lib.hid (HB1.out.step hb); clear hb))
        · go_ret
          exact ⟨rfl, HB3.out.2⟩
        · go_ret
          exact ⟨rfl, HB6.out⟩
end Go.Proofs.YtaffaobhcnnfnaaGreatDoor.Tur
