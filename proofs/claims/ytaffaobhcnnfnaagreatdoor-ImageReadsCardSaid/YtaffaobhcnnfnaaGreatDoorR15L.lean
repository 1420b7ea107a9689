/-
  What the document's Load reads, in plain words, and that an image is read as the table that it is of (plain). Conditions: none.
-/
import Derived.Test.YtaffaobhcnnfnaaGreatDoorBck
import Derived.Test.YtaffaobhcnnfnaaGreatDoorR15P
namespace Go.Proofs.YtaffaobhcnnfnaaGreatDoor.R15
open Go.RowKit Mem Img Rgt Rd Plc Src Bck

/-- A number without a sign. -/
def nU (k : Nat) (l : List UInt8) : Option (Nat × List UInt8) := (takeM k l).map fun x => (numU x.1, x.2)
/-- A number with a sign, by four bytes. -/
def fQ (l : List UInt8) : Option (Int × List UInt8) := (nU 4 l).map fun x => (IntKind.i32.wrap x.1, x.2)
def shQ (l : List UInt8) : Option (List UInt8 × List UInt8) := (nU 1 l).bind fun x => takeM x.1 x.2
def ruleQ (l : List UInt8) : Option (Rule × List UInt8) :=
  (shQ l).bind fun a => (nU 2 a.2).bind fun b => (nU 1 b.2).bind fun c => (nU 1 c.2).bind fun d => (nU 1 d.2).bind fun e => (nU 1 e.2).bind fun f => (fQ f.2).bind fun g => (nU 1 g.2).bind fun h => (fQ h.2).bind fun i => (shQ i.2).map fun j =>
    (⟨⟨a.1.toArray⟩, b.1, 1000000, c.1, d.1, e.1, f.1, g.1, h.1, i.1, ⟨j.1.toArray⟩⟩, j.2)
/-- A phase without its text, and where this begins. -/
def quadQ (l : List UInt8) : Option ((Int × Int × Nat) × List UInt8) := (fQ l).bind fun a => (fQ a.2).bind fun b => (nU 4 b.2).map fun c => ((a.1, b.1, c.1), c.2)
/-- A text of the pool. -/
def txt (pool : List UInt8) (k : Nat) : List UInt8 := (pool.drop k).takeWhile (· ≠ 0)
def phQ (pool : List UInt8) (q : Int × Int × Nat) : Phase := ⟨q.1, q.2.1, ⟨(txt pool q.2.2).toArray⟩⟩
def shfQ (phs : List Phase) (q : Nat × Nat) : Option Shift := (phs[q.2]?).map fun ph => ⟨IntKind.i64.wrap q.1, ph⟩
def q6 (name : List UInt8) (first : Phase) (ss : List Shift) (l : List UInt8) : Option (Table × List UInt8) :=
  (nU 8 l).bind fun till => (nU 1 till.2).bind fun t => (repM ruleQ t.1 t.2).bind fun rs => (fQ rs.2).bind fun off => (shQ off.2).map fun f => (⟨⟨name.toArray⟩, first, ss, IntKind.i64.wrap till.1, rs.1, off.1, ⟨f.1.toArray⟩⟩, f.2)
def q5 (name : List UInt8) (s p : List Nat) (q : List (Int × Int × Nat)) (t : List UInt8 × List UInt8) : Option (Table × List UInt8) :=
  (mapO (shfQ (q.map (phQ t.1))) (s.zip p)).bind fun ss => (q.map (phQ t.1)).head?.bind fun first => q6 name first ss t.2
def q4 (name : List UInt8) (m : Nat) (s p : List Nat) (y : List (Int × Int × Nat) × List UInt8) : Option (Table × List UInt8) := (takeM m y.2).bind fun t => q5 name s p y.1 t
def q3 (name : List UInt8) (k m : Nat) (s : List Nat) (y : List Nat × List UInt8) : Option (Table × List UInt8) := (repM quadQ k y.2).bind (q4 name m s y.1)
def q2 (name : List UInt8) (n k m : Nat) (y : List Nat × List UInt8) : Option (Table × List UInt8) := (repM (nU 4) n y.2).bind (q3 name k m y.1)
def q1 (len : Nat) (name : List UInt8) (n k m : Nat) (l : List UInt8) : Option (Table × List UInt8) := if len < n ∨ len < k ∨ k = 0 then none else (repM (nU 8) n l).bind (q2 name n k m)
def q0 (len : Nat) (l : List UInt8) : Option (Table × List UInt8) := (shQ l).bind fun a => (nU 4 a.2).bind fun n => (nU 4 n.2).bind fun k => (nU 4 k.2).bind fun m => q1 len a.1 n.1 k.1 m.1 m.2
/-- The table of bytes, whatever they are, by the document, and what is left. -/
def refM (l : List UInt8) : Option (Table × List UInt8) := (takeM 4 l).bind fun h => if h.1 = magic then q0 l.length h.2 else none

/-! ### What was written is read -/
theorem numU_lt (l : List UInt8) : numU l < 256 ^ l.length := by
  suffices h : ∀ l : List UInt8, numU l.reverse < 256 ^ l.length by have := h l.reverse; simpa using this
  intro l
  induction l with
  | nil => decide
  | cons c t ih =>
    rw [List.reverse_cons, numU_snoc, List.length_cons, Nat.pow_succ]
    have := c.toNat_lt
    omega
theorem nU_num (v : Int) (k : Nat) (r : List UInt8) : nU k (num v k ++ r) = some ((v % 256 ^ k).toNat, r) := by
  have h := takeM_app (num v k) r
  rw [num_length] at h
  rw [nU, h, Option.map_some, ← numU_num v k, Int.toNat_natCast]
theorem nU_at {v : Int} {k n : Nat} (h : v % 256 ^ k = n) (r : List UInt8) : nU k (num v k ++ r) = some (n, r) := by
  rw [nU_num, h, Int.toNat_natCast]
theorem nU_1 {v : Int} (h : 0 ≤ v ∧ v < 256) (r : List UInt8) : nU 1 (num v 1 ++ r) = some (v.toNat, r) := nU_at (by simp; omega) r
theorem nU_2 {v : Int} (h : 0 ≤ v ∧ v < 65536) (r : List UInt8) : nU 2 (num v 2 ++ r) = some (v.toNat, r) := nU_at (by simp only [show (256 : Int) ^ 2 = 65536 from rfl]; omega) r
theorem nU_4 {v : Int} (h : 0 ≤ v ∧ v < 4294967296) (r : List UInt8) : nU 4 (num v 4 ++ r) = some (v.toNat, r) := nU_at (by simp only [show (256 : Int) ^ 4 = 4294967296 from rfl]; omega) r
theorem fQ_back {v : Int} (h : -2147483648 ≤ v ∧ v < 2147483648) (r : List UInt8) : fQ (num v 4 ++ r) = some (v, r) := by
  rw [fQ, nU_num, Option.map_some]
  congr 2
  rw [IntKind.wrap_i32]
  simp only [show (256 : Int) ^ 4 = 4294967296 from rfl]
  omega
theorem i64_back {v : Int} (h : In64 v) : IntKind.i64.wrap (((v % 256 ^ 8).toNat : Nat) : Int) = v := by
  unfold In64 at h
  rw [IntKind.wrap_i64]
  simp only [show (256 : Int) ^ 8 = 18446744073709551616 from rfl]
  omega
theorem shQ_back {l : List UInt8} (h : l.length < 256) (r : List UInt8) : shQ (short l ++ r) = some (l, r) := by
  unfold shQ short
  rw [List.append_assoc, nU_1 (by omega), Option.bind_some]
  simp only [Int.toNat_natCast]
  exact takeM_app l r
theorem ruleQ_back {x : Rule} (h : RuleN x) (r : List UInt8) : ruleQ (Img.ruleB x ++ r) = some (x, r) := by
  obtain ⟨h1, h2, h3, h4, h5, h6, h7, h8, h9, h10, h11⟩ := h
  unfold ruleQ Img.ruleB
  simp only [List.append_assoc]
  rw [shQ_back (by rw [len_toList]; exact h1), Option.bind_some, nU_2 h2, Option.bind_some]
  simp only []
  rw [nU_1 h4, Option.bind_some, nU_1 h5, Option.bind_some, nU_1 h6, Option.bind_some, nU_1 h7, Option.bind_some]
  simp only []
  rw [fQ_back h8, Option.bind_some, nU_1 h9, Option.bind_some, fQ_back h10, Option.bind_some, shQ_back (by rw [len_toList]; exact h11), Option.map_some]
  simp only [bytes_back]
  obtain ⟨a, b, c, d, e, f, g, i, j, k, m⟩ := x
  simp only at *
  subst h3
  rw [Int.toNat_of_nonneg h2.1, Int.toNat_of_nonneg h4.1, Int.toNat_of_nonneg h5.1, Int.toNat_of_nonneg h6.1, Int.toNat_of_nonneg h7.1, Int.toNat_of_nonneg h9.1]
theorem take_zero (s r : List UInt8) (h : (0 : UInt8) ∉ s) : (s ++ 0 :: r).takeWhile (· ≠ 0) = s := by
  induction s with
  | nil => simp
  | cons b l ih =>
    have hb : b ≠ 0 := fun e => h (by simp [e])
    rw [List.cons_append, List.takeWhile_cons, if_pos (by simpa using hb), ih fun hm => h (by simp [hm])]
theorem txt_back {x : Table} {p : Phase} (hp : p ∈ x.kinds) (h : phaseB p = true) : phQ x.text (p.off, p.save, (x.begin_ p).toNat) = p := by
  obtain ⟨k, rest, hk, hr⟩ := text_at hp
  unfold phQ txt
  rw [hk]
  simp only [Int.toNat_natCast]
  rw [hr, take_zero _ _ (no_zero h)]
/-- What was saved is read as it was, by the document. -/
theorem ref_back (x : Table) (h : rightB x (tailB x) = true) (ht : In64 x.till) (hs : ∀ s ∈ x.shifts, In64 s.sec) : ∃ r, refM (img x) = some (x, r) := by
  have h' := h
  simp only [rightB, Bool.and_eq_true, Bool.not_eq_true', decide_eq_false_iff_not] at h
  obtain ⟨⟨hname, hfirst, hns, htail⟩, hsh⟩ := h
  obtain ⟨t1, t2, t3⟩ := Tur.tail_le htail
  obtain ⟨n1, n2⟩ := tail_num htail
  have hk := kinds_right hfirst hsh
  have hkl : x.kinds.length ≤ x.shifts.length + 1 := kindsL_all _ _
  have hk0 : 0 < x.kinds.length := kindsL_pos _ _
  have htx := poolL_le 40 x.kinds (fun p hp => Tur.phaseB_le (hk p hp)) x.kinds.length
  rw [List.take_length] at htx
  have htx2 : x.text.length ≤ x.kinds.length * 41 := htx
  have hnm : x.name.size ≤ 40 := by
    simp only [placeB, Bool.and_eq_true, decide_eq_true_eq] at hname
    omega
  obtain ⟨R, hR⟩ : ∃ R, num (sumB (body x)) 4 = R := ⟨_, rfl⟩
  have hi : img x = magic ++ (short x.name.data.toList ++ (num x.shifts.length 4 ++ (num x.kinds.length 4 ++ (num x.text.length 4 ++ ((x.shifts.flatMap fun s => num s.sec 8) ++ ((x.shifts.flatMap fun s => num (x.kinds.idxOf s.ph) 4) ++
      ((x.kinds.flatMap fun p => num p.off 4 ++ num p.save 4 ++ num (x.begin_ p) 4) ++ (x.text ++ (num x.till 8 ++ (num x.tail.length 1 ++ ((x.tail.flatMap Img.ruleB) ++ (num x.off 4 ++ (short x.format.data.toList ++ R))))))))))))) := by
    rw [img, hR]
    simp only [body, b7, b6, b5, b4, b3, b2, b1, three, List.take_length, List.append_assoc]
  have l8 : (x.shifts.flatMap fun s => num s.sec 8).length = x.shifts.length * 8 := flat_const (fun _ => num_length _ _) _
  have l12 : (x.kinds.flatMap fun p => num p.off 4 ++ num p.save 4 ++ num (x.begin_ p) 4).length = x.kinds.length * 12 := flat_const (fun _ => by simp [num_length]) _
  refine ⟨R, ?_⟩
  unfold refM
  obtain ⟨L2, hL2⟩ : ∃ L2, (img x).length = L2 := ⟨_, rfl⟩
  have hlen2 : x.shifts.length ≤ L2 ∧ x.kinds.length ≤ L2 := by
    rw [← hL2, hi]
    simp only [List.length_append, l8, l12]
    omega
  rw [hL2, hi]
  rw [show takeM 4 (magic ++ _) = some (magic, _) from takeM_app magic _, Option.bind_some]
  simp only [if_true]
  unfold q0
  rw [shQ_back (by rw [len_toList]; omega), Option.bind_some]
  rw [nU_4 ⟨by omega, by omega⟩, Option.bind_some]
  rw [nU_4 ⟨by omega, by omega⟩, Option.bind_some]
  rw [nU_4 ⟨by omega, by omega⟩, Option.bind_some]
  simp only [Int.toNat_natCast]
  unfold q1
  rw [if_neg (by omega)]
  rw [rep_back (nU 8) (fun s : Shift => num s.sec 8) (fun s => (s.sec % 256 ^ 8).toNat) x.shifts (fun s hs' r => nU_num _ _ _), Option.bind_some]
  unfold q2
  rw [rep_back (nU 4) (fun s : Shift => num (x.kinds.idxOf s.ph) 4) (fun s => x.kinds.idxOf s.ph) x.shifts (fun s hs' r => by
    have := List.idxOf_le_length (a := s.ph) (l := x.kinds)
    rw [nU_4 (by omega), Int.toNat_natCast]), Option.bind_some]
  unfold q3
  rw [rep_back quadQ (fun p : Phase => num p.off 4 ++ num p.save 4 ++ num (x.begin_ p) 4) (fun p => (p.off, p.save, (x.begin_ p).toNat)) x.kinds (fun p hp r => by
    obtain ⟨_, a, b⟩ := abbr_back hp (hk p hp)
    obtain ⟨c, d⟩ := phaseB_num (hk p hp)
    unfold quadQ
    simp only [List.append_assoc]
    rw [fQ_back c, Option.bind_some, fQ_back d, Option.bind_some, nU_4 ⟨a, by omega⟩, Option.map_some]), Option.bind_some]
  unfold q4
  rw [takeM_app x.text, Option.bind_some]
  unfold q5
  have hph : (x.kinds.map fun p : Phase => (p.off, p.save, (x.begin_ p).toNat)).map (phQ x.text) = x.kinds := by
    rw [List.map_map]
    conv => rhs; rw [← List.map_id x.kinds]
    exact List.map_congr_left fun p hp => txt_back hp (hk p hp)
  rw [hph]
  have hz : (x.shifts.map fun s => (s.sec % 256 ^ 8).toNat).zip (x.shifts.map fun s => x.kinds.idxOf s.ph) = x.shifts.map fun s => ((s.sec % 256 ^ 8).toNat, x.kinds.idxOf s.ph) := by
    rw [List.zip_map']
  have hmp : mapO (shfQ x.kinds) (x.shifts.map fun s : Shift => ((s.sec % 256 ^ 8).toNat, x.kinds.idxOf s.ph)) = some x.shifts := map_back (shfQ x.kinds) _ x.shifts fun s hs' => by
    have hmem : s.ph ∈ x.kinds := (kindsL_mem x.first x.shifts).2.1 s hs'
    have hlt := List.idxOf_lt_length_of_mem hmem
    unfold shfQ
    simp only
    rw [List.getElem?_eq_getElem hlt, List.getElem_idxOf hlt, Option.map_some, i64_back (hs s hs')]
  rw [hz, hmp, Option.bind_some]
  have hhd : x.kinds.head? = some x.first := kinds_head _ _
  rw [hhd, Option.bind_some]
  unfold q6
  rw [nU_num, Option.bind_some, nU_1 (by omega), Option.bind_some]
  simp only [Int.toNat_natCast]
  rw [rep_back ruleQ Img.ruleB id x.tail (fun r hr q => ruleQ_back (n1 r hr) q), Option.bind_some, fQ_back n2, Option.bind_some, shQ_back (by rw [len_toList]; omega), Option.map_some]
  simp only [bytes_back, List.map_id, i64_back ht]
end Go.Proofs.YtaffaobhcnnfnaaGreatDoor.R15
