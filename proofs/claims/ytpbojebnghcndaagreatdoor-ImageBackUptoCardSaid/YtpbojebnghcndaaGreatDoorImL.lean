/-
  A turned byte of an image: it is no image of any table; how long images may be. Conditions: none (plain).
-/
import Derived.Test.YtpbojebnghcndaaGreatDoorTail
namespace Go.Proofs.YtpbojebnghcndaaGreatDoor.Tur
open Go.RowKit Mem Img Rgt Rd Plc Src

def stepS (n : Nat) (c : UInt8) : Nat := (31 * n + c.toNat) % 4294967296
theorem fold_inj (q : List UInt8) : ∀ (n m : Nat), n < 4294967296 → m < 4294967296 → q.foldl stepS n = q.foldl stepS m → n = m := by
  induction q with
  | nil => intro n m _ _ h; exact h
  | cons c t ih =>
    intro n m hn hm h
    have h1 := ih _ _ (Nat.mod_lt _ (by decide)) (Nat.mod_lt _ (by decide)) h
    have hc := c.toNat_lt
    omega
theorem sumB_turn (p q : List UInt8) (c d : UInt8) (h : sumB (p ++ c :: q) = sumB (p ++ d :: q)) : c = d := by
  have e : ∀ x, sumB (p ++ x :: q) = q.foldl stepS (stepS (sumB p) x) := fun x => by
    unfold sumB; rw [List.foldl_append, List.foldl_cons]; rfl
  rw [e, e] at h
  have h1 := fold_inj q _ _ (Nat.mod_lt _ (by decide)) (Nat.mod_lt _ (by decide)) h
  have := c.toNat_lt
  have := d.toNat_lt
  apply UInt8.toNat_inj.1
  omega
theorem byte_inj {x y : Int} (hx : 0 ≤ x ∧ x < 256) (hy : 0 ≤ y ∧ y < 256) (e : UInt8.ofNat x.toNat = UInt8.ofNat y.toNat) : x = y := by
  have h := congrArg UInt8.toNat e
  simp only [UInt8.toNat_ofNat'] at h
  omega
theorem num4_inj {a b : Nat} (ha : a < 4294967296) (hb : b < 4294967296) (h : num a 4 = num b 4) : a = b := by
  simp only [num, byteI, List.cons.injEq] at h
  obtain ⟨h3, h2, h1, h0, _⟩ := h
  have h3 := byte_inj (by omega) (by omega) h3
  have h2 := byte_inj (by omega) (by omega) h2
  have h1 := byte_inj (by omega) (by omega) h1
  have h0 := byte_inj (by omega) (by omega) h0
  simp only [show (256 : Int) ^ 3 = 16777216 from rfl, show (256 : Int) ^ 2 = 65536 from rfl, show (256 : Int) ^ 1 = 256 from rfl, show (256 : Int) ^ 0 = 1 from rfl] at h3 h2 h1 h0
  omega

/-- A text with one byte turned. -/
def turnAt (l : List UInt8) (k : Nat) (b : UInt8) : List UInt8 := l.set k (l.getD k 0 ^^^ b)
theorem xor_ne {c b : UInt8} (hb : b ≠ 0) : c ^^^ b ≠ c := fun h => hb (by
  have h2 : c ^^^ (c ^^^ b) = c ^^^ c := by rw [h]
  rw [← UInt8.xor_assoc, UInt8.xor_self, UInt8.zero_xor] at h2
  exact h2)
theorem turn_parts (B C N M : List UInt8) (k : Nat) (b : UInt8) (hk : k < (B ++ N).length) (hb : b ≠ 0) (hl : C.length = B.length) (h : C ++ M = turnAt (B ++ N) k b) :
    (∃ p q c d, B = p ++ c :: q ∧ C = p ++ d :: q ∧ d ≠ c ∧ M = N) ∨ (C = B ∧ M ≠ N) := by
  unfold turnAt at h
  by_cases hkb : k < B.length
  · have hg : (B ++ N).getD k 0 = B[k] := by rw [List.getD, List.getElem?_append_left hkb, List.getElem?_eq_getElem hkb]; rfl
    rw [hg, List.set_append_left _ _ hkb] at h
    obtain ⟨h1, h2⟩ := List.append_inj h (by simp [hl])
    refine .inl ⟨B.take k, B.drop (k + 1), B[k], B[k] ^^^ b, ?_, ?_, xor_ne hb, h2⟩
    · rw [List.getElem_cons_drop, List.take_append_drop]
    · rw [h1, List.set_eq_take_append_cons_drop, if_pos hkb]
  · have hkb' : B.length ≤ k := by omega
    have hk2 : k - B.length < N.length := by rw [List.length_append] at hk; omega
    have hg : (B ++ N).getD k 0 = N[k - B.length] := by rw [List.getD, List.getElem?_append_right hkb', List.getElem?_eq_getElem hk2]; rfl
    rw [hg, List.set_append_right _ _ hkb'] at h
    obtain ⟨h1, h2⟩ := List.append_inj h hl
    refine .inr ⟨h1, fun e => ?_⟩
    rw [e] at h2
    have h3 := congrArg (fun l => l[k - B.length]?) h2
    simp only [List.getElem?_set_self hk2, List.getElem?_eq_getElem hk2, Option.some.injEq] at h3
    exact xor_ne hb h3.symm
theorem img_turned (x y : Table) (k : Nat) (b : UInt8) (hk : k < (img x).length) (hb : b ≠ 0) (h : img y = turnAt (img x) k b) : False := by
  have hlen : (img y).length = (img x).length := by rw [h]; simp [turnAt]
  unfold img at h hk hlen
  simp only [List.length_append, num_length] at hlen
  generalize hB : body x = B at *
  generalize hC : body y = C at *
  clear hB hC
  rcases turn_parts B C (num (sumB B) 4) (num (sumB C) 4) k b hk hb (by omega) h with ⟨p, q, c, d, rfl, rfl, hne, hs⟩ | ⟨rfl, hs⟩
  · exact hne (sumB_turn p q d c (num4_inj (sumB_lt _) (sumB_lt _) hs))
  · exact hs rfl
theorem load_turned (tb : Table → Bool) (x : Table) (k : Nat) (b : UInt8) (hk : k < (img x).length) (hb : b ≠ 0) : loadM tb (turnAt (img x) k b) = none := by
  unfold loadM
  cases h : readM (turnAt (img x) k b) with
  | none => rfl
  | some y =>
    rw [Option.bind_some, if_neg]
    rintro ⟨_, h2⟩
    exact img_turned x y.1 k b hk hb h2

/-! ### How long images are -/
theorem made_le {s : ByteArray} {most : Nat} {others : List UInt8} (h : madeB s.data.toList most others = true) : s.size ≤ most := by
  simp only [madeB, Bool.and_eq_true, decide_eq_true_eq] at h
  have := h.2.2
  rw [len_toList] at this
  omega
theorem ruleR_le {r : Rule} (h : ruleR r = true) : r.name.size ≤ 20 ∧ r.letter.size ≤ 8 := by
  simp only [ruleR, setB, letterB, Bool.and_eq_true, Bool.or_eq_true, decide_eq_true_eq] at h
  refine ⟨made_le (most := 20) h.1.1, ?_⟩
  rcases h.2.2.2.2.2 with h | h
  · have e : r.letter.data.toList.length = 0 := by rw [← ByteArray.toList_eq, h]; rfl
    rw [len_toList] at e
    omega
  · exact made_le (most := 8) h.2
theorem tail_le {x : Table} (h : tailB x = true) : x.tail.length ≤ 2 ∧ (∀ r ∈ x.tail, r.name.size ≤ 20 ∧ r.letter.size ≤ 8) ∧ x.format.size ≤ 20 := by
  unfold tailB at h
  split at h
  · next h0 =>
    refine ⟨by omega, fun r hr => ?_, ?_⟩
    · rw [List.length_eq_zero_iff] at h0
      rw [h0] at hr
      cases hr
    · simp only [Bool.and_eq_true, List.isEmpty_iff] at h
      have e : x.format.data.toList = [] := by rw [← ByteArray.toList_eq]; exact h.2
      rw [← len_toList, e]
      decide
  · simp only [Bool.and_eq_true, decide_eq_true_eq] at h
    obtain ⟨_, h1, h2, _⟩ := h
    simp only [srcB, tryOf, Bool.and_eq_true] at h2
    obtain ⟨_, h3, h4, _⟩ := h2
    refine ⟨h1, fun r hr => ruleR_le (List.all_eq_true.1 h3 r hr), ?_⟩
    simp only [List.all_cons, zoneB, Bool.and_eq_true, List.length_singleton, erasOk] at h4
    have h5 := h4.1.2.2.2.2
    simp only [List.getElem?_cons_zero, Bool.and_eq_true, eraB, eraOf, formatB] at h5
    exact made_le (most := 20) h5.1.1.2.1
theorem phaseB_le {p : Phase} (h : phaseB p = true) : p.abbr.size ≤ 40 := by
  simp only [phaseB, Bool.and_eq_true, decide_eq_true_eq] at h
  omega
theorem shifts_le {x : Table} (h : shiftsB x = true) : ∀ s ∈ x.shifts, s.ph.abbr.size ≤ 40 := by
  intro s hs
  obtain ⟨k, hk, rfl⟩ := List.getElem_of_mem hs
  have := List.all_eq_true.1 h k (List.mem_range.2 hk)
  simp only [okAt, List.getElem?_eq_getElem hk, Bool.and_eq_true] at this
  exact phaseB_le this.1
theorem img_len {x : Table} {n : Nat} (h : rightB x (tailB x) = true) (hn : x.shifts.length ≤ n) : (img x).length ≤ 65 * n + 300 := by
  simp only [rightB, Bool.and_eq_true] at h
  obtain ⟨⟨hname, hfirst, _, htail⟩, hsh⟩ := h
  obtain ⟨t1, t2, t3⟩ := tail_le htail
  have hnm : x.name.size ≤ 40 := by
    simp only [placeB, Bool.and_eq_true, decide_eq_true_eq] at hname
    omega
  have hk : x.kinds.length ≤ x.shifts.length + 1 := kindsL_all _ _
  have hkm : ∀ p ∈ x.kinds, p.abbr.size ≤ 40 := fun p hp => by
    rcases (kindsL_mem x.first x.shifts).2.2 p hp with rfl | ⟨s, hs, rfl⟩
    · exact phaseB_le hfirst
    · exact shifts_le hsh s hs
  have ht := poolL_le 40 x.kinds hkm x.kinds.length
  rw [List.take_length] at ht
  have ht2 : x.text.length ≤ x.kinds.length * 41 := ht
  have e3 := flat_take_le (fun s : Shift => num s.sec 8) 8 x.shifts (fun _ _ => by simp [num_length]) x.shifts.length
  have e4 := flat_take_le (fun s : Shift => num (x.kinds.idxOf s.ph) 4) 4 x.shifts (fun _ _ => by simp [num_length]) x.shifts.length
  have e5 := flat_take_le (fun p : Phase => num p.off 4 ++ num p.save 4 ++ num (x.begin_ p) 4) 12 x.kinds (fun _ _ => by simp [num_length]) x.kinds.length
  have e7 := flat_take_le Img.ruleB 60 x.tail (fun r hr => by
    have := t2 r hr
    simp only [Img.ruleB, List.length_append, num_length, short_length, len_toList]
    omega) x.tail.length
  have := three_len x.shifts.length x.kinds.length x.text.length 3
  simp only [img, body, b7, b6, b5, b4, b3, b2, b1, magic, List.length_append, num_length, short_length, len_toList, List.length_cons, List.length_nil]
  omega
end Go.Proofs.YtpbojebnghcndaaGreatDoor.Tur
