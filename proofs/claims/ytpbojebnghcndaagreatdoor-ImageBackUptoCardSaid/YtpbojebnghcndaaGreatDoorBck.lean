/-
  What was saved is read as it was: the image of a right table, read, is the table. Conditions: none (plain).
-/
import Derived.Test.YtpbojebnghcndaaGreatDoorImL
namespace Go.Proofs.YtpbojebnghcndaaGreatDoor.Bck
open Go.RowKit Mem Img Rgt Rd Plc Src

/-! ### Numbers -/
theorem numU_cons (c : UInt8) (l : List UInt8) : numU (c :: l) = c.toNat * 256 ^ l.length + numU l := by
  suffices h : ∀ (l : List UInt8) (n : Nat), l.foldl (fun n c => n * 256 + c.toNat) n = n * 256 ^ l.length + l.foldl (fun n c => n * 256 + c.toNat) 0 by
    have := h l c.toNat
    simpa [numU] using this
  intro l
  induction l with
  | nil => intro n; simp
  | cons c t ih =>
    intro n
    rw [List.foldl_cons, List.foldl_cons, ih, ih (0 * 256 + c.toNat), List.length_cons, Nat.pow_succ]
    rw [Nat.add_mul, Nat.zero_mul, Nat.zero_add]
    have : n * 256 * 256 ^ t.length = n * (256 ^ t.length * 256) := by rw [Nat.mul_assoc, Nat.mul_comm 256]
    omega
theorem byteI_nat (n : Int) (i : Nat) : ((byteI n i).toNat : Int) = n / 256 ^ i % 256 := by
  unfold byteI
  rw [UInt8.toNat_ofNat']
  omega
theorem numU_num (v : Int) : ∀ k : Nat, ((numU (num v k) : Nat) : Int) = v % 256 ^ k
  | 0 => by simp [num, numU]
  | k + 1 => by
    rw [num, numU_cons, num_length]
    have ih := numU_num v k
    have h0 : (0 : Int) < 256 ^ k := Int.pow_pos (by decide)
    rw [Int.natCast_add, Int.natCast_mul, byteI_nat, ih, Int.natCast_pow, Int.pow_succ]
    have e1 := Int.emod_add_mul_ediv v (256 ^ k * 256)
    have e2 := Int.emod_add_mul_ediv v (256 ^ k)
    have e3 := Int.emod_add_mul_ediv (v / 256 ^ k) 256
    rw [Int.ediv_ediv_of_nonneg (Int.le_of_lt h0)] at e3
    rw [Int.mul_assoc] at e1
    have e4 : (256 : Int) ^ k * (v / 256 ^ k) = 256 ^ k * (v / 256 ^ k % 256) + 256 ^ k * (256 * (v / (256 ^ k * 256))) := by
      rw [← Int.mul_add, e3]
    show v / 256 ^ k % 256 * ((256 : Nat) : Int) ^ k + v % 256 ^ k = v % (256 ^ k * 256)
    rw [show (((256 : Nat) : Int)) = 256 from rfl, Int.mul_comm (v / 256 ^ k % 256)]
    omega
theorem takeM_app (a b : List UInt8) : takeM a.length (a ++ b) = some (a, b) := by
  unfold takeM
  rw [if_pos (by simp)]
  simp
theorem numM_num (q : IntKind) (v : Int) (k : Nat) (r : List UInt8) : numM q k (num v k ++ r) = some (q.wrap (v % 256 ^ k), r) := by
  have h := takeM_app (num v k) r
  rw [num_length] at h
  rw [numM, h, Option.map_some, numU_num]
theorem num_u8 {v : Int} (h : 0 ≤ v ∧ v < 256) (r : List UInt8) : numM .u8 1 (num v 1 ++ r) = some (v, r) := by
  rw [numM_num, IntKind.wrap_u8]
  congr 2
  show v % 256 ^ 1 % 256 = v
  simp
  omega
theorem num_u16 {v : Int} (h : 0 ≤ v ∧ v < 65536) (r : List UInt8) : numM .u16 2 (num v 2 ++ r) = some (v, r) := by
  rw [numM_num, IntKind.wrap_u16]
  congr 2
  simp only [show (256 : Int) ^ 2 = 65536 from rfl]
  omega
theorem num_u32 {v : Int} (h : 0 ≤ v ∧ v < 4294967296) (r : List UInt8) : numM .u32 4 (num v 4 ++ r) = some (v, r) := by
  rw [numM_num]
  congr 2
  simp only [IntKind.wrap, IntKind.bits, IntKind.signed, show (256 : Int) ^ 4 = 4294967296 from rfl]
  simp
  omega
theorem num_i32 {v : Int} (h : -2147483648 ≤ v ∧ v < 2147483648) (r : List UInt8) : numM .i32 4 (num v 4 ++ r) = some (v, r) := by
  rw [numM_num, IntKind.wrap_i32]
  congr 2
  simp only [show (256 : Int) ^ 4 = 4294967296 from rfl]
  omega
theorem num_i64 {v : Int} (h : In64 v) (r : List UInt8) : numM .i64 8 (num v 8 ++ r) = some (v, r) := by
  unfold In64 at h
  rw [numM_num]
  congr 2
  rw [IntKind.wrap_i64]
  simp only [show (256 : Int) ^ 8 = 18446744073709551616 from rfl]
  omega
theorem short_back {l : List UInt8} (h : l.length < 256) (r : List UInt8) : shortM (short l ++ r) = some (l, r) := by
  unfold shortM short
  rw [List.append_assoc, num_u8 (by omega), Option.bind_some]
  simp only [Int.toNat_natCast]
  exact takeM_app l r
theorem many_back {v : Int} {b : Nat} (h : 0 ≤ v ∧ v < 4294967296) {r : List UInt8} (hr : v * b ≤ r.length) : manyM b (num v 4 ++ r) = some (v, r) := by
  unfold manyM
  rw [num_u32 h, Option.bind_some, if_neg (by show ¬ ((r.length : Int) < v * b); omega)]

/-! ### Rows -/
theorem rep_back {α β : Type} (p : List UInt8 → Option (β × List UInt8)) (f : α → List UInt8) (g : α → β) : ∀ (l : List α), (∀ a ∈ l, ∀ r, p (f a ++ r) = some (g a, r)) → ∀ r, repM p l.length (l.flatMap f ++ r) = some (l.map g, r) := by
  intro l
  generalize hn : l.length = n
  induction n generalizing l with
  | zero =>
    intro _ r
    obtain rfl : l = [] := List.length_eq_zero_iff.1 hn
    rfl
  | succ n ih =>
    intro h r
    have hne : l ≠ [] := fun e => by subst e; simp at hn
    obtain ⟨t, a, rfl⟩ : ∃ t a, l = t ++ [a] := ⟨l.dropLast, l.getLast hne, (List.dropLast_concat_getLast hne).symm⟩
    have ht : t.length = n := by simpa using hn
    rw [List.flatMap_append, List.append_assoc, repM, ih t ht (fun b hb => h b (by simp [hb])), Option.bind_some]
    simp only [List.flatMap_cons, List.flatMap_nil, List.append_nil]
    rw [h a (by simp), Option.map_some]
    simp
theorem map_back {α β : Type} (p : β → Option α) (g : α → β) : ∀ (l : List α), (∀ a ∈ l, p (g a) = some a) → mapO p (l.map g) = some l
  | [], _ => rfl
  | a :: t, h => by
    rw [List.map_cons, mapO, h a (by simp), Option.bind_some, map_back p g t fun b hb => h b (by simp [hb])]
    rfl
theorem bytes_back (s : ByteArray) : (⟨s.data.toList.toArray⟩ : ByteArray) = s := by cases s; simp
/-- What is asked of a rule. -/
structure RuleN (r : Rule) : Prop where
  name : r.name.size < 256
  lo : 0 ≤ r.lo ∧ r.lo < 65536
  hi : r.hi = 1000000
  month : 0 ≤ r.month ∧ r.month < 256
  kind : 0 ≤ r.kind ∧ r.kind < 256
  weekday : 0 ≤ r.weekday ∧ r.weekday < 256
  day : 0 ≤ r.day ∧ r.day < 256
  time : -2147483648 ≤ r.time ∧ r.time < 2147483648
  ref : 0 ≤ r.ref ∧ r.ref < 256
  save : -2147483648 ≤ r.save ∧ r.save < 2147483648
  letter : r.letter.size < 256
theorem rule_back {x : Rule} (h : RuleN x) (r : List UInt8) : ruleM (Img.ruleB x ++ r) = some (x, r) := by
  unfold ruleM Img.ruleB
  simp only [List.append_assoc]
  rw [short_back (by rw [len_toList]; exact h.name), Option.bind_some, num_u16 h.lo, Option.bind_some]
  simp only [rM]
  rw [num_u8 h.month, Option.bind_some, num_u8 h.kind, Option.bind_some, num_u8 h.weekday, Option.bind_some, num_u8 h.day, Option.bind_some]
  simp only [rM4]
  rw [num_i32 h.time, Option.bind_some, num_u8 h.ref, Option.bind_some, num_i32 h.save, Option.bind_some, short_back (by rw [len_toList]; exact h.letter), Option.map_some]
  simp only [bytes_back]
  rw [← h.hi]

/-! ### The pool -/
theorem index_zero (s r : List UInt8) (h : (0 : UInt8) ∉ s) : Lib.index (s ++ 0 :: r) [0] = s.length := by
  induction s with
  | nil => simp [Lib.index, List.isPrefixOf]
  | cons b l ih =>
    have hb : (0 : UInt8) ≠ b := fun e => h (by simp [e])
    have ih := ih fun hm => h (by simp [hm])
    rw [List.cons_append, Lib.index, ih]
    have h1 : ([0] : List UInt8).isPrefixOf (b :: (l ++ 0 :: r)) = false := by simp [List.isPrefixOf, hb]
    have h2 : (((l.length : Nat) : Int) == -1) = false := by rw [beq_eq_false_iff_ne]; omega
    rw [h1, h2]
    simp
theorem cut_zero (s r : List UInt8) (h : (0 : UInt8) ∉ s) : Lib.cut (s ++ 0 :: r) [0] = (s, r, true) := by
  unfold Lib.cut
  rw [index_zero s r h, if_pos (by omega)]
  simp
theorem pool_snoc (l : List Phase) (p : Phase) : poolL (l ++ [p]) = poolStep (poolL l) p := by
  rw [poolL, poolL, List.foldl_append]
  rfl
theorem pool_inv (l : List Phase) : ∀ (s : ByteArray) (k : Nat), Img.look (poolL l).2 s = some k → ∃ rest, (poolL l).1.drop k = s.data.toList ++ 0 :: rest := by
  generalize hn : l.length = n
  induction n generalizing l with
  | zero =>
    obtain rfl : l = [] := List.length_eq_zero_iff.1 hn
    intro s k h
    cases h
  | succ n ih =>
    have hne : l ≠ [] := fun e => by subst e; simp at hn
    obtain ⟨t, p, rfl⟩ : ∃ t a, l = t ++ [a] := ⟨l.dropLast, l.getLast hne, (List.dropLast_concat_getLast hne).symm⟩
    have ih := ih t (by simpa using hn)
    intro s k
    rw [pool_snoc]
    generalize poolL t = a at *
    obtain ⟨T, A⟩ := a
    unfold poolStep
    cases hs : (Img.look A p.abbr).isSome
    · simp only [Bool.false_eq_true, if_false]
      rw [look_snoc]
      cases hl : Img.look A s with
      | some k' =>
        intro h
        simp only [Option.some_or, Option.some.injEq] at h
        subst h
        obtain ⟨rest, hr⟩ := ih s k' hl
        have hk : k' ≤ T.length := by
          rcases Nat.lt_or_ge T.length k' with h | h
          · simp only at hr
            rw [List.drop_eq_nil_of_le (by omega)] at hr
            simp at hr
          · exact h
        refine ⟨rest ++ (p.abbr.data.toList ++ [0]), ?_⟩
        rw [List.drop_append_of_le_length hk, hr]
        simp
      | none =>
        intro h
        simp only [Option.none_or] at h
        split at h
        · next e =>
          simp only [Option.some.injEq] at h
          subst h e
          exact ⟨[], by simp⟩
        · cases h
    · simp only [if_true]
      exact ih s k
theorem text_at {x : Table} {p : Phase} (hp : p ∈ x.kinds) : ∃ k rest, x.begin_ p = (k : Nat) ∧ x.text.drop k = p.abbr.data.toList ++ 0 :: rest := by
  have h := look_some x.kinds p hp
  obtain ⟨k, hk⟩ := Option.isSome_iff_exists.1 h
  obtain ⟨rest, hr⟩ := pool_inv x.kinds p.abbr k hk
  exact ⟨k, rest, by unfold Table.begin_; rw [hk]; rfl, hr⟩
theorem no_zero {p : Phase} (h : phaseB p = true) : (0 : UInt8) ∉ p.abbr.data.toList := by
  intro h0
  simp only [phaseB, Bool.and_eq_true] at h
  have := List.all_eq_true.1 h.1 0 h0
  simp [byteOk] at this
theorem abbr_back {x : Table} {p : Phase} (hp : p ∈ x.kinds) (h : phaseB p = true) : phM x.text (p.off, p.save, x.begin_ p) = some p ∧ 0 ≤ x.begin_ p ∧ x.begin_ p < x.text.length := by
  obtain ⟨k, rest, hk, hr⟩ := text_at hp
  have hlt : k < x.text.length := by
    rcases Nat.lt_or_ge k x.text.length with h | h
    · exact h
    · rw [List.drop_eq_nil_of_le h] at hr
      simp at hr
  refine ⟨?_, by omega, by omega⟩
  unfold phM abbrM
  rw [hk]
  simp only [Int.toNat_natCast]
  rw [if_neg (by omega), hr, cut_zero _ _ (no_zero h)]
  simp only [if_true, Option.map_some]

/-! ### The whole -/
theorem flat_const {α : Type} {f : α → List UInt8} {n : Nat} (h : ∀ a, (f a).length = n) : ∀ l : List α, (l.flatMap f).length = l.length * n
  | [] => by simp
  | a :: t => by rw [List.flatMap_cons, List.length_append, h, flat_const h t, List.length_cons, Nat.succ_mul]; omega
theorem phaseB_num {p : Phase} (h : phaseB p = true) : (-2147483648 ≤ p.off ∧ p.off < 2147483648) ∧ (-2147483648 ≤ p.save ∧ p.save < 2147483648) := by
  simp only [phaseB, dayB, Bool.and_eq_true, decide_eq_true_eq] at h
  omega
theorem kinds_right {x : Table} (h1 : phaseB x.first = true) (h2 : shiftsB x = true) : ∀ p ∈ x.kinds, phaseB p = true := fun p hp => by
  rcases (kindsL_mem x.first x.shifts).2.2 p hp with rfl | ⟨s, hs, rfl⟩
  · exact h1
  · obtain ⟨k, hk, rfl⟩ := List.getElem_of_mem hs
    have := List.all_eq_true.1 h2 k (List.mem_range.2 hk)
    simp only [okAt, List.getElem?_eq_getElem hk, Bool.and_eq_true] at this
    exact this.1
theorem kinds_head (first : Phase) (ss : List Shift) : (kindsL first ss).head? = some first := by
  unfold kindsL
  suffices h : ∀ l : List Phase, l.head? = some first → (ss.foldl (fun l s => if s.ph ∈ l then l else l ++ [s.ph]) l).head? = some first from h [first] rfl
  induction ss with
  | nil => intro l h; exact h
  | cons a t ih =>
    intro l h
    rw [List.foldl_cons]
    refine ih _ ?_
    split
    · exact h
    · rw [List.head?_append, h]; rfl
theorem tail_num {x : Table} (h : tailB x = true) : (∀ r ∈ x.tail, RuleN r) ∧ (-2147483648 ≤ x.off ∧ x.off < 2147483648) := by
  obtain ⟨t1, t2, t3⟩ := Tur.tail_le h
  unfold tailB at h
  split at h
  · next h0 =>
    rw [List.length_eq_zero_iff] at h0
    simp only [Bool.and_eq_true, beq_iff_eq] at h
    exact ⟨by simp [h0], by omega⟩
  · simp only [Bool.and_eq_true, decide_eq_true_eq] at h
    obtain ⟨h0, h1, h2, _⟩ := h
    simp only [srcB, tryOf, Bool.and_eq_true] at h2
    obtain ⟨_, h3, h4, _⟩ := h2
    refine ⟨fun r hr => ?_, ?_⟩
    · have a := List.all_eq_true.1 h3 r hr
      have b := List.all_eq_true.1 h0 r hr
      have c := t2 r hr
      simp only [ruleR, yearB, savingB, Bool.and_eq_true, decide_eq_true_eq, Bool.or_eq_true] at a
      simp only [tailR, Bool.and_eq_true, beq_iff_eq] at b
      obtain ⟨_, hlo, _, hsp, hsv, _⟩ := a
      have hok := Mom.spotB_ok hsp
      simp only [Mom.Spot.okP, Rul.spotOf] at hok
      obtain ⟨m1, m2, k1, k2, i1, i2, f1, f2, d1, d2, d3⟩ := hok
      have hw : (0 ≤ r.weekday ∧ r.weekday < 256) ∧ (0 ≤ r.day ∧ r.day < 256) := by
        by_cases e0 : r.kind = 0
        · have := d1 e0; omega
        · by_cases e1 : r.kind = 1
          · have := d2 e1; omega
          · have := d3 (by omega); omega
      exact ⟨by omega, by omega, b.1, by omega, by omega, hw.1, hw.2, by omega, by omega, by omega, by omega⟩
    · simp only [List.all_cons, zoneB, Bool.and_eq_true, List.length_singleton, erasOk] at h4
      have h5 := h4.1.2.2.2.2
      simp only [List.getElem?_cons_zero, Bool.and_eq_true, eraB, eraOf, dayB, decide_eq_true_eq] at h5
      omega
/-- What was saved is read as it was. -/
theorem read_back (x : Table) (h : rightB x (tailB x) = true) (ht : In64 x.till) (hs : ∀ s ∈ x.shifts, In64 s.sec) : readM (img x) = some (x, num (sumB (body x)) 4) := by
  have h' := h
  simp only [rightB, Bool.and_eq_true, Bool.not_eq_true', decide_eq_false_iff_not] at h
  obtain ⟨⟨hname, hfirst, hns, htail⟩, hsh⟩ := h
  obtain ⟨t1, t2, t3⟩ := Tur.tail_le htail
  obtain ⟨n1, n2⟩ := tail_num htail
  have hk := kinds_right hfirst hsh
  have hkl : x.kinds.length ≤ x.shifts.length + 1 := kindsL_all _ _
  have htx := poolL_le 40 x.kinds (fun p hp => Tur.phaseB_le (hk p hp)) x.kinds.length
  rw [List.take_length] at htx
  have htx2 : x.text.length ≤ x.kinds.length * 41 := htx
  have hnm : x.name.size ≤ 40 := by
    simp only [placeB, Bool.and_eq_true, decide_eq_true_eq] at hname
    omega
  have hm4 : takeM 4 (magic ++ (img x).drop 4) = some (magic, (img x).drop 4) := takeM_app magic _
  obtain ⟨R, hR⟩ : ∃ R, num (sumB (body x)) 4 = R := ⟨_, rfl⟩
  have hi : img x = magic ++ (short x.name.data.toList ++ (num x.shifts.length 4 ++ (num x.kinds.length 4 ++ (num x.text.length 4 ++ ((x.shifts.flatMap fun s => num s.sec 8) ++ ((x.shifts.flatMap fun s => num (x.kinds.idxOf s.ph) 4) ++
      ((x.kinds.flatMap fun p => num p.off 4 ++ num p.save 4 ++ num (x.begin_ p) 4) ++ (x.text ++ (num x.till 8 ++ (num x.tail.length 1 ++ ((x.tail.flatMap Img.ruleB) ++ (num x.off 4 ++ (short x.format.data.toList ++ R))))))))))))) := by
    rw [img, hR]
    simp only [body, b7, b6, b5, b4, b3, b2, b1, three, List.take_length, List.append_assoc]
  rw [hR, hi]
  have l8 : (x.shifts.flatMap fun s => num s.sec 8).length = x.shifts.length * 8 := flat_const (fun _ => num_length _ _) _
  have l4 : (x.shifts.flatMap fun s => num (x.kinds.idxOf s.ph) 4).length = x.shifts.length * 4 := flat_const (fun _ => num_length _ _) _
  have l12 : (x.kinds.flatMap fun p => num p.off 4 ++ num p.save 4 ++ num (x.begin_ p) 4).length = x.kinds.length * 12 := flat_const (fun _ => by simp [num_length]) _
  unfold readM
  rw [show takeM 4 (magic ++ _) = some (magic, _) from takeM_app magic _, Option.bind_some]
  simp only [if_true]
  unfold r1
  rw [short_back (by rw [len_toList]; omega), Option.bind_some]
  rw [many_back ⟨by omega, by omega⟩ (by simp only [List.length_append, num_length, l8, l4, l12]; omega), Option.bind_some]
  rw [many_back ⟨by omega, by omega⟩ (by simp only [List.length_append, num_length, l8, l4, l12]; omega), Option.bind_some]
  rw [many_back ⟨by omega, by omega⟩ (by simp only [List.length_append, num_length, l8, l4, l12]; omega), Option.bind_some]
  simp only [Int.toNat_natCast]
  unfold r2
  rw [rep_back (numM .i64 8) (fun s : Shift => num s.sec 8) (fun s => s.sec) x.shifts (fun s hs' r => num_i64 (hs s hs') r), Option.bind_some]
  rw [rep_back (numM .u32 4) (fun s : Shift => num (x.kinds.idxOf s.ph) 4) (fun s => ((x.kinds.idxOf s.ph : Nat) : Int)) x.shifts (fun s hs' r => num_u32 (by have := List.idxOf_le_length (a := s.ph) (l := x.kinds); omega) r), Option.bind_some]
  rw [rep_back quadM (fun p : Phase => num p.off 4 ++ num p.save 4 ++ num (x.begin_ p) 4) (fun p => (p.off, p.save, x.begin_ p)) x.kinds (fun p hp r => by
    obtain ⟨_, a, b⟩ := abbr_back hp (hk p hp)
    obtain ⟨c, d⟩ := phaseB_num (hk p hp)
    unfold quadM
    simp only [List.append_assoc]
    rw [num_i32 c, Option.bind_some, num_i32 d, Option.bind_some, num_u32 ⟨a, by omega⟩, Option.map_some]), Option.bind_some]
  rw [takeM_app x.text, Option.bind_some]
  unfold r2c
  rw [map_back (phM x.text) (fun p : Phase => (p.off, p.save, x.begin_ p)) x.kinds (fun p hp => (abbr_back hp (hk p hp)).1), Option.bind_some]
  have hz : (x.shifts.map fun s => s.sec).zip (x.shifts.map fun s => ((x.kinds.idxOf s.ph : Nat) : Int)) = x.shifts.map fun s => (s.sec, ((x.kinds.idxOf s.ph : Nat) : Int)) := by
    rw [List.zip_map']
  rw [hz, map_back (shM x.kinds) (fun s : Shift => (s.sec, ((x.kinds.idxOf s.ph : Nat) : Int))) x.shifts (fun s hs' => by
    have hmem : s.ph ∈ x.kinds := (kindsL_mem x.first x.shifts).2.1 s hs'
    have hlt := List.idxOf_lt_length_of_mem hmem
    unfold shM
    simp only [Int.toNat_natCast]
    rw [List.getElem?_eq_getElem hlt, List.getElem_idxOf hlt, Option.map_some]), Option.bind_some]
  have hhd : x.kinds.head? = some x.first := kinds_head _ _
  rw [hhd, Option.bind_some]
  unfold r3
  rw [num_i64 ht, Option.bind_some, num_u8 (by omega), Option.bind_some]
  simp only [Int.toNat_natCast]
  rw [rep_back ruleM Img.ruleB id x.tail (fun r hr q => rule_back (n1 r hr) q), Option.bind_some, num_i32 n2, Option.bind_some, short_back (by rw [len_toList]; omega), Option.map_some]
  simp only [bytes_back, List.map_id]
theorem load_back (x : Table) (h : rightB x (tailB x) = true) (ht : In64 x.till) (hs : ∀ s ∈ x.shifts, In64 s.sec) : loadM tailB (img x) = some x := by
  unfold loadM
  rw [read_back x h ht hs, Option.bind_some, if_pos ⟨h, rfl⟩]
end Go.Proofs.YtpbojebnghcndaaGreatDoor.Bck
