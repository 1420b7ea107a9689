/-
  Images: the plain words (numbers as bytes, the sum of bytes) and the contracts of image.Sum, (*writer).num, (*writer).short. Conditions: the lengths are bounded.
  Tables as plain data (phases, shifts, rules, tables), how their values lie, and the contract of (*writer).rule. Conditions: the lengths are bounded.
  Phases as a map's keys, and the contract of image.kinds. Conditions: the numbers are of 64 bits, the lengths bounded.
  Images read: the contracts of (*reader).take and num, and what they compute in plain words. Conditions: the lengths are bounded.
  Images read: the contracts of (*reader).short, many, and of abbr. Conditions: the lengths are bounded; for abbr the cell of bytealg.MaxLen holds a number.
  Images read: the contract of (*reader).rule, and a reader with objects of the walk's own beside it. Conditions: the lengths are bounded.
  strings.Builder's copyCheck and WriteString over this program (whose copyCheck ends, where a builder was copied, in a panic that the loader refuses: the shelf's contract is laid over another text). The proofs are the shelf's own, turned. Conditions: the bytes have room.
  The contract of image.pool: phases' abbreviations, each once, and where each begins. Conditions: the lengths are bounded.
-/
import Derived.Test.YtdicedpklpadgaaGreatDoorChecked
import Derived.Test.YtdicedpklpadgaaGreatDoorZ00
import Derived.Test.YtdicedpklpadgaaGreatDoorZ04
import Derived.WalkKit
import Derived.ProofKit
import Derived.OpenShut
import Derived.Handy
import Derived.WalkLawsBesides
import Derived.WalkSpells
import Derived.Lib.Hide
import Derived.Lib.UnsafeStr
import Derived.Lib.OthersKept
import Derived.Lib.AppendStr
import Derived.Maps.Own
import Derived.Maps.OwnOps
import Derived.Maps.OwnSet
import Derived.Maps.Views
import Derived.DeepKeys4
import Derived.MapViews
import Derived.Deep.DeepCutAuto
import Derived.Deep.RegionWith
import Derived.Laws.IdiomStrings
import Derived.Laws.BitsAllLaws
import Derived.Test.YtdicedpklpadgaaGreatDoorShelf
import Derived.Lib.Builder
import Derived.Lib.FrozenHead2
import Derived.Laws.Externs
import Derived.Shelf.Strings.BuilderK
section
namespace Go.Proofs.YtdicedpklpadgaaGreatDoor.Img
open Go.RowKit Mem

/-- The sum of bytes. -/
def sumB (l : List UInt8) : Nat := l.foldl (fun n c => (31 * n + c.toNat) % 4294967296) 0
theorem sumB_lt (l : List UInt8) : sumB l < 4294967296 := by
  unfold sumB
  generalize hz : (0 : Nat) = z
  have : z < 4294967296 := by omega
  clear hz
  induction l generalizing z with
  | nil => simpa using this
  | cons a t ih => rw [List.foldl_cons]; exact ih _ (Nat.mod_lt _ (by omega))
theorem sumB_snoc (l : List UInt8) (c : UInt8) : sumB (l ++ [c]) = (31 * sumB l + c.toNat) % 4294967296 := by simp [sumB, List.foldl_append]

/-- A number's byte, the lowest first; a number by so many bytes, the highest first. -/
def byteI (n : Int) (i : Nat) : UInt8 := UInt8.ofNat (n / 256 ^ i % 256).toNat
def num (n : Int) : Nat → List UInt8
  | 0 => []
  | k + 1 => byteI n k :: num n k
theorem num_length (n : Int) (k : Nat) : (num n k).length = k := by
  induction k with
  | zero => rfl
  | succ k ih => simp [num, ih]
def short (l : List UInt8) : List UInt8 := num l.length 1 ++ l

/-- What a writer's step keeps: all below B, and all that is no row of bytes and not the writer. -/
structure Kept (B g : Nat) (w w' : World) : Prop where
  bel : Below B w w'
  oth : Lib.OthersKept 5 (some g) w w'
theorem Kept.refl (B g : Nat) (w : World) : Kept B g w w := ⟨Below.refl _ _, Lib.OthersKept.refl _ _ _⟩
theorem Kept.trans {B g : Nat} {w w' w'' : World} (h : Kept B g w w') (k : Kept B g w' w'') : Kept B g w w'' := ⟨h.bel.trans k.bel, h.oth.trans k.oth⟩

theorem byteI_wrap (n : Int) (k : Nat) : Value.int .u8 (IntKind.u8.wrap (n / 2 ^ (8 * (k : Int)).toNat)) = Value.int .u8 (byteI n k).toNat := by
  have e : (8 * (k : Int)).toNat = 8 * k := by omega
  have e2 : (2 : Int) ^ (8 * k) = 256 ^ k := by rw [Int.pow_mul]; rfl
  rw [e, e2, byteI]
  have h0 : 0 ≤ n / 256 ^ k % 256 := Int.emod_nonneg _ (by omega)
  have h1 : n / 256 ^ k % 256 < 256 := Int.emod_lt_of_pos _ (by omega)
  rw [IntKind.wrap_u8]
  congr 1
  rw [UInt8.toNat_ofNat']
  omega
theorem info8 : (Tryz.prog.info? 5).map (fun i => (i.zero, i.size, i.bytes)) = some (some (.int .u8 0), 1, 1) := by kernel_rfl

end Go.Proofs.YtdicedpklpadgaaGreatDoor.Img
namespace Go.Proofs.YtdicedpklpadgaaGreatDoor.Img
open Go.RowKit Mem

def ruleB (r : Rule) : List UInt8 :=
  short r.name.data.toList ++ num r.lo 2 ++ num r.month 1 ++ num r.kind 1 ++ num r.weekday 1 ++ num r.day 1 ++ num r.time 4 ++ num r.ref 1 ++ num r.save 4 ++ short r.letter.data.toList
theorem short_length (l : List UInt8) : (short l).length = l.length + 1 := by simp [short, num_length]; omega

theorem Kept.blk {B g b : Nat} {w w' : World} {t : TypeId} {cs : Array Value} (h : Kept B g w w') (hb : Blk w b t cs) (hg : b ≠ g) (ht : t ≠ 5) : Blk w' b t cs := by
  refine h.oth b _ hb (by simpa using hg) ?_
  intro c fz e
  injection e with _ e2
  exact ht e2
theorem Kept.alloc {B g : Nat} {w w' : World} (h : Kept B g w w') (hB : B ≤ w.heap.size) (o : Obj) : Kept B g w (w'.alloc o) := ⟨h.bel.alloc (Nat.le_trans hB h.bel.size) o, h.oth.alloc o⟩
theorem Kept.drew {B g : Nat} {w w' : World} (h : Kept B g w w') : Kept B g w w'.drew := ⟨h.bel.drew, h.oth.drew⟩
section
variable {B g : Nat} {w0 w : World} {os : List (Nat × Obj)} {l : List UInt8}
theorem not_bytes {t : TypeId} {cs : Array Value} {z : Nat × Nat} (ht : t ≠ 5) : ∀ c fz, Obj.cells cs t z ≠ .cells c 5 fz := by
  intro c fz e
  injection e with _ e2
  exact ht e2
end
def four (a b c d : Int) : Nat → List UInt8
  | 0 => []
  | 1 => num a 1
  | 2 => num a 1 ++ num b 1
  | 3 => num a 1 ++ num b 1 ++ num c 1
  | _ => num a 1 ++ num b 1 ++ num c 1 ++ num d 1
theorem four_len (a b c d : Int) (k : Nat) : (four a b c d k).length ≤ 4 := by
  unfold four
  split <;> simp [num_length]
theorem four_succ (a b c d : Int) (k : Nat) (hk : k < 4) : four a b c d (k + 1) = four a b c d k ++ num (#[a, b, c, d].getD k 0) 1 := by
  match k, hk with
  | 0, _ => rfl
  | 1, _ => rfl
  | 2, _ => rfl
  | 3, _ => rfl

end Go.Proofs.YtdicedpklpadgaaGreatDoor.Img
namespace Go.Proofs.YtdicedpklpadgaaGreatDoor.Img
open Go.RowKit Mem Go.Maps

def kl (p : Phase) : Lit := .string (keyBytes [.int .i64 p.off, .int .i64 p.save, .string p.abbr.data.toList])
theorem phLaidOut : laidOutB Tryz.prog = true := by kernel_rfl
theorem phRow : (30 : TypeId) < Tryz.prog.types.size := of_decide_eq_true (by kernel_rfl)
theorem phWide : (match Tryz.prog.underlying 30 with | some (.array _ _) | some (.struct _) => true | _ => false) = true := by rw [Tryz.underlying30]
set_option maxRecDepth 1000000 in
theorem phLaw : Keyed Tryz.prog 30 := Keyed.of_law (deep_law_laid phLaidOut (m := 3) (by omega) phRow (by kernel_rfl) phWide)
theorem phType : Tryz.prog.keyType 30 = true := by kernel_rfl
theorem phCells : Tryz.prog.cellsOf 30 = 3 := by kernel_rfl
theorem cells3 : Tryz.prog.cellsOf 3 = 1 := by kernel_rfl
theorem cells9 : Tryz.prog.cellsOf 9 = 1 := by kernel_rfl
theorem phKey (p : Phase) (h : PW p) : keyOf Tryz.prog 30 (.agg p.cells.toArray) = some (kl p) := by
  obtain ⟨h1, h2, h3⟩ := h
  have i64 : ∀ n : Int, In64 n → (Lit.int .i64 n).wf = true := by
    intro n hn
    unfold In64 at hn
    simp [Lit.wf, IntKind.min, IntKind.max, IntKind.signed, IntKind.bits]
    omega
  have w1 := i64 _ h1
  have w2 := i64 _ h2
  have w3 : p.abbr.size ≤ maxLen := by simp only [maxLen]; omega
  simp only [keyOf, Tryz.underlying30, phType]
  have hf : (Value.agg p.cells.toArray).formed Tryz.prog 30 = true := by
    simp [Value.formed, Tryz.underlying30, phCells, Phase.cells]
  rw [hf]
  have : Tryz.prog.keyLits (Tryz.prog.types.size + 1) 30 (Value.agg p.cells.toArray).cells.toList = some [.int .i64 p.off, .int .i64 p.save, .string p.abbr.data.toList] := by
    have hsz : ∃ m, Tryz.prog.types.size = m + 1 := ⟨Tryz.prog.types.size - 1, by have : (30 : Nat) < Tryz.prog.types.size := phRow; omega⟩
    obtain ⟨m, hm⟩ := hsz
    rw [hm]
    simp [Program.keyLits, Value.cells, Phase.cells, Tryz.underlying30, Tryz.underlying3, Tryz.underlying9, phCells, cells3, cells9, w1, w2, w3]
  rw [this]
  rfl
theorem kl_inj {p q : Phase} (hp : PW p) (hq : PW q) (h : kl p = kl q) : p = q := by
  have h1 := phKey p hp
  have h2 := phKey q hq
  rw [← h] at h2
  have := phLaw.inj h1 h2
  obtain ⟨a, b, c⟩ := p
  obtain ⟨d, e, f⟩ := q
  simpa [Phase.cells] using this
theorem kl_key (p : Phase) : WideAt.IsKeyLit (kl p) := trivial

/-- A map reads as the places of a list's phases. -/
def PM (l : List Phase) (D : DataW Unit) : Prop :=
  IsMap D ∧ ∀ p, PW p → has D (kl p) = decide (p ∈ l) ∧ (p ∈ l → ∀ z, D.atKey (kl p) z = .lit (.int .i64 (l.idxOf p)))
theorem PM.snoc {l : List Phase} {D : DataW Unit} {q : Phase} (h : PM l D) (hq : PW q) (hn : q ∉ l) : PM (l ++ [q]) (D.put (kl q) (.lit (.int .i64 l.length))) := by
  refine ⟨h.1.put _ _, fun p hp => ?_⟩
  by_cases e : p = q
  · subst e
    refine ⟨by rw [has_put_same h.1 (kl_key p)]; simp, fun _ z => ?_⟩
    rw [atKey_put_same h.1 (kl_key p)]
    rw [List.idxOf_append, if_neg hn]
    simp
  · have hne : kl p ≠ kl q := fun e2 => e (kl_inj hp hq e2)
    obtain ⟨h1, h2⟩ := h.2 p hp
    refine ⟨by rw [has_put_other hne, h1]; simp [e], fun hm z => ?_⟩
    have hm' : p ∈ l := by simpa [e] using hm
    rw [atKey_put_other hne, h2 hm' z, List.idxOf_append, if_pos hm']
theorem PM.one {q : Phase} (hq : PW q) : PM [q] ((DataW.map []).put (kl q) (.lit (.int .i64 0))) := by
  have h : PM [] (.map []) := ⟨isMap_empty, fun p _ => ⟨by simp [has], fun hm => by simp at hm⟩⟩
  exact h.snoc hq (by simp)

theorem zero3 (w : World) : (zeroValue 3).run Tryz.prog w = .ok (.int .i64 0) w := by kernel_rfl
theorem info23 : (Tryz.prog.info? 30).map (fun i => (i.zero, i.size, i.bytes)) = some (some (.agg #[.int .i64 0, .int .i64 0, .string ⟨#[]⟩]), 3, 32) := by kernel_rfl

theorem kindsL_succ (first : Phase) (ss : List Shift) (k : Nat) (hk : k < ss.length) : kindsL first (ss.take (k + 1)) = if ss[k].ph ∈ kindsL first (ss.take k) then kindsL first (ss.take k) else kindsL first (ss.take k) ++ [ss[k].ph] := by
  rw [List.take_succ_eq_append_getElem hk, kindsL, kindsL, List.foldl_append]
  rfl
theorem kindsL_length (first : Phase) (ss : List Shift) (k : Nat) : (kindsL first (ss.take k)).length ≤ k + 1 := by
  induction k with
  | zero => simp [kindsL]
  | succ k ih =>
    by_cases hk : k < ss.length
    · rw [kindsL_succ _ _ _ hk]
      split
      · omega
      · simp; omega
    · rw [List.take_of_length_le (by omega)] at ih ⊢
      omega
theorem own_map_ne {H : Type} {w : World} {base r n m : Nat} {e k : TypeId} {size : Nat} {v : Value} {xs : List Value} {P : Program} {R : Value → Option (DataW H × List MemPlace)} {D : DataW H} (h : w.ownsRow base e size v n xs) (hm : w.ownsMap P k R r m D) : v.ownBlock ≠ some r := by
  obtain ⟨es, clock, hb, _⟩ := hm
  rcases h.2 with ⟨rfl, _⟩ | ⟨g', cap, cur, rfl, _, hh, _⟩
  · simp [Value.ownBlock]
  · intro he
    have : g' = r := by simpa [Value.ownBlock] using he
    subst this
    rw [hb] at hh
    cases hh
theorem kindsL_pos (first : Phase) (ss : List Shift) : 0 < (kindsL first ss).length := by
  unfold kindsL
  generalize hl : [first] = l
  have h0 : 0 < l.length := by subst hl; simp
  clear hl
  induction ss generalizing l with
  | nil => exact h0
  | cons a t ih =>
    rw [List.foldl_cons]
    split
    · exact ih _ h0
    · exact ih _ (by simp)
end Go.Proofs.YtdicedpklpadgaaGreatDoor.Img
end
section
namespace Go.Proofs.YtdicedpklpadgaaGreatDoor.Rd
open Go.RowKit Mem Img

/-- The panic of a reader. -/
abbrev badE : Ending := .panicked [{ v := .iface 34 (.int .i64 18), recovered := false }]
theorem World.grownBy_setCell (w : World) (p : Addr) (v : Value) {g : Nat} (hp : p.block = g) : w.grownBy (w.setCell p v) (some g) :=
  ⟨rfl, rfl, rfl, by simp [World.setCell], fun k _ hk => Below.heap_setCell _ _ _ _ (fun e => hk (by rw [e, hp]))⟩
def takeM (n : Nat) (l : List UInt8) : Option (List UInt8 × List UInt8) := if n ≤ l.length then some (l.take n, l.drop n) else none
abbrev strV (l : List UInt8) : Value := .string ⟨l.toArray⟩
theorem ext_take (l : List UInt8) (n : Nat) : (⟨l.toArray⟩ : ByteArray).extract 0 n = ⟨(l.take n).toArray⟩ := by
  apply ByteArray.ext
  simp [ByteArray.extract, ByteArray.copySlice]
theorem ext_drop (l : List UInt8) (n : Nat) : (⟨l.toArray⟩ : ByteArray).extract n l.length = ⟨(l.drop n).toArray⟩ := by
  apply ByteArray.ext
  simp [ByteArray.extract, ByteArray.copySlice]
  exact List.take_of_length_le (by simp)

/-- The number of bytes, the highest first. -/
def numU (l : List UInt8) : Nat := l.foldl (fun n c => n * 256 + c.toNat) 0
theorem numU_snoc (l : List UInt8) (c : UInt8) : numU (l ++ [c]) = numU l * 256 + c.toNat := by simp [numU, List.foldl_append]
def numM (q : IntKind) (k : Nat) (l : List UInt8) : Option (Int × List UInt8) := (takeM k l).map fun x => (q.wrap (numU x.1), x.2)

theorem gr2 {w w1 w2 : World} {g : Nat} (h : w.grownBy w1 (some g)) (k : w1.grownBy w2 none) : w.grownBy w2 (some g) :=
  ⟨k.os.trans h.os, k.tape.trans h.tape, k.output.trans h.output, Nat.le_trans h.size k.size, fun j hj hne => (k.block j (Nat.lt_of_lt_of_le hj h.size) (by simp)).trans (h.block j hj hne)⟩
theorem gr3 {w w1 w2 : World} {r : Option Nat} (h : w.grownBy w1 r) (k : w1.grownBy w2 r) : w.grownBy w2 r :=
  ⟨k.os.trans h.os, k.tape.trans h.tape, k.output.trans h.output, Nat.le_trans h.size k.size, fun j hj hne => (k.block j (Nat.lt_of_lt_of_le hj h.size) hne).trans (h.block j hj hne)⟩
theorem or_i64 (y b : Int) (hy : y % 256 = 0) (hb : 0 ≤ b ∧ b < 256) : bits .or .i64 y b = IntKind.i64.wrap (y + b) := by
  show IntKind.i64.wrap ((BitVec.ofInt 64 y ||| BitVec.ofInt 64 b).toNat : Int) = _
  rw [BitVec.toNat_or, BitVec.toNat_ofInt, BitVec.toNat_ofInt]
  have h1 : (b % ((2 ^ 64 : Nat) : Int)).toNat = b.toNat := by congr 1; omega
  rw [h1]
  obtain ⟨Y, hY⟩ : ∃ Y : Nat, (y % ((2 ^ 64 : Nat) : Int)).toNat = Y <<< 8 := ⟨(y % ((2 ^ 64 : Nat) : Int)).toNat / 256, by rw [Nat.shiftLeft_eq]; omega⟩
  rw [hY, ← Nat.shiftLeft_add_eq_or_of_lt (by omega : b.toNat < 2 ^ 8), ← hY, IntKind.wrap_i64, IntKind.wrap_i64]
  omega
theorem w64 (x : Int) : ∃ t, wrap64 x = x + 18446744073709551616 * t := ⟨-((x + 9223372036854775808) / 18446744073709551616), by unfold wrap64; omega⟩
theorem i64w (x : Int) : ∃ t, IntKind.i64.wrap x = x + 18446744073709551616 * t := ⟨-((x + 9223372036854775808) / 18446744073709551616), by rw [IntKind.wrap_i64]; omega⟩
theorem i64_small (b : Nat) (hb : b < 256) : wrap64 b = b := by unfold wrap64; omega
theorem or_step (n : Int) (b : Nat) (hb : b < 256) : ∃ t, bits .or .i64 (wrap64 (wrap64 n * 256)) (wrap64 b) = n * 256 + b + 18446744073709551616 * t := by
  obtain ⟨t1, h1⟩ := w64 n
  obtain ⟨t2, h2⟩ := w64 (wrap64 n * 256)
  rw [i64_small b hb, or_i64 _ _ (by rw [h2]; omega) (by omega)]
  obtain ⟨t3, h3⟩ := i64w (wrap64 (wrap64 n * 256) + b)
  rw [h3, h2, h1]
  exact ⟨256 * t1 + t2 + t3, by omega⟩
theorem step_u32 (M b : Nat) (hb : b < 256) : bits .or .i64 (wrap64 (wrap64 ((M : Int) % 4294967296) * 256)) (wrap64 b) % 4294967296 = IntKind.u32.wrap ((M * 256 + b : Nat) : Int) := by
  obtain ⟨t, h⟩ := or_step ((M : Int) % 4294967296) b hb
  rw [h, IntKind.wrap_u32]
  omega
theorem step_u8 (M b : Nat) (hb : b < 256) : bits .or .i64 (wrap64 (wrap64 ((M : Int) % 256) * 256)) (wrap64 b) % 256 = IntKind.u8.wrap ((M * 256 + b : Nat) : Int) := by
  obtain ⟨t, h⟩ := or_step ((M : Int) % 256) b hb
  rw [h, IntKind.wrap_u8]
  omega
theorem step_i64 (M b : Nat) (hb : b < 256) : bits .or .i64 (wrap64 (wrap64 (M : Int) * 256)) (wrap64 b) = IntKind.i64.wrap ((M * 256 + b : Nat) : Int) := by
  obtain ⟨t1, h1⟩ := w64 M
  obtain ⟨t2, h2⟩ := w64 (wrap64 M * 256)
  rw [i64_small b hb, or_i64 _ _ (by rw [h2]; omega) (by omega), h2, h1, IntKind.wrap_i64, IntKind.wrap_i64]
  omega
theorem step_i32 (M b : Nat) (hb : b < 256) : wrap32 (bits .or .i64 (wrap64 (wrap64 (wrap32 M) * 256)) (wrap64 b)) = IntKind.i32.wrap ((M * 256 + b : Nat) : Int) := by
  obtain ⟨t, h⟩ := or_step (wrap32 M) b hb
  obtain ⟨s, hs⟩ : ∃ s, wrap32 (M : Int) = M + 4294967296 * s := ⟨-((M + 2147483648) / 4294967296), by unfold wrap32; omega⟩
  rw [h, hs, IntKind.wrap_i32]
  unfold wrap32
  omega
theorem step_u16 (M b : Nat) (hb : b < 256) : IntKind.u16.wrap (bits .or .i64 (wrap64 (wrap64 (IntKind.u16.wrap M) * 256)) (wrap64 b)) = IntKind.u16.wrap ((M * 256 + b : Nat) : Int) := by
  obtain ⟨t, h⟩ := or_step (IntKind.u16.wrap M) b hb
  rw [h, IntKind.wrap_u16, IntKind.wrap_u16, IntKind.wrap_u16]
  omega
theorem bytes_of (w : World) (bs : List UInt8) : ∃ cap w2, (convert 9 157 (.string ⟨bs.toArray⟩)).run Tryz.prog w = .ok (.slice (some ⟨w.heap.size, 0, none⟩) bs.length cap) w2 ∧ w.grownBy w2 none ∧
    ∀ j (hj : j < bs.length), w2.cell? ⟨w.heap.size, j, none⟩ = some (.int .u8 (bs[j].toNat : Int)) := by
  refine ⟨_, _, run_bytes_of_string w _ _ _ ⟨bs.toArray⟩ Tryz.underlying9 Tryz.underlying157 Tryz.underlying5, ⟨rfl, rfl, rfl, by simp, fun _ hk _ => heap_alloc_old w.drew _ hk⟩, fun j hj => ?_⟩
  rw [show w.heap.size = w.drew.heap.size from rfl, World.cell?_alloc_mark]
  simp [bytesRow]
  rw [Array.getElem?_append_left (by simp; exact hj)]
  simp [hj]

end Go.Proofs.YtdicedpklpadgaaGreatDoor.Rd
namespace Go.Proofs.YtdicedpklpadgaaGreatDoor.Rd
open Go.RowKit Mem Img

def shortM (l : List UInt8) : Option (List UInt8 × List UInt8) := (numM .u8 1 l).bind fun x => takeM x.1.toNat x.2
def manyM (b : Nat) (l : List UInt8) : Option (Int × List UInt8) := (numM .u32 4 l).bind fun x => if (x.2.length : Int) < x.1 * b then none else some x
theorem numM_u8 {k : Nat} {l rest : List UInt8} {n : Int} (h : numM .u8 k l = some (n, rest)) : 0 ≤ n ∧ n < 256 ∧ rest.length ≤ l.length := by
  unfold numM takeM at h
  split at h
  · simp only [Option.map_some, Option.some.injEq, Prod.mk.injEq] at h
    rw [IntKind.wrap_u8] at h
    refine ⟨by omega, by omega, ?_⟩
    rw [← h.2, List.length_drop]
    omega
  · cases h
theorem numM_u32 {k : Nat} {l rest : List UInt8} {n : Int} (h : numM .u32 k l = some (n, rest)) : 0 ≤ n ∧ n < 4294967296 ∧ rest.length ≤ l.length := by
  unfold numM takeM at h
  split at h
  · simp only [Option.map_some, Option.some.injEq, Prod.mk.injEq] at h
    rw [IntKind.wrap_u32] at h
    refine ⟨by omega, by omega, ?_⟩
    rw [← h.2, List.length_drop]
    omega
  · cases h

/-- A text of a pool: from a place on, up to the next byte 0. -/
def abbrM (pool : List UInt8) (at_ : Nat) : Option (List UInt8) :=
  if pool.length ≤ at_ then none else if (Lib.cut (pool.drop at_) [0]).2.2 = true then some (Lib.cut (pool.drop at_) [0]).1 else none

end Go.Proofs.YtdicedpklpadgaaGreatDoor.Rd
namespace Go.Proofs.YtdicedpklpadgaaGreatDoor.Rd
open Go.RowKit Mem Img

section
variable {w0 w w' : World} {g : Nat} {os : List (Nat × TypeId × Array Value)} {l l' : List UInt8}
theorem grown_alloc (w : World) (o : Obj) : w.grownBy (w.alloc o) none := ⟨rfl, rfl, rfl, by simp, fun k hk _ => Below.heap_alloc w o k hk⟩
theorem grown_set {r : Option Nat} (h : w0.grownBy w r) {p : Addr} (v : Value) (hp : w0.heap.size ≤ p.block) : w0.grownBy (w.setCell p v) r :=
  ⟨h.os, h.tape, h.output, by simpa [World.setCell] using h.size, fun k hk hne => (Below.heap_setCell _ _ _ _ (by omega)).trans (h.block k hk hne)⟩
end

def rM4 (v : List UInt8) (lo a b c d : Int) (r : List UInt8) : Option (Rule × List UInt8) :=
  (numM .i32 4 r).bind fun g => (numM .u8 1 g.2).bind fun h => (numM .i32 4 h.2).bind fun i => (shortM i.2).map fun j => (⟨⟨v.toArray⟩, lo, 1000000, a, b, c, d, g.1, h.1, i.1, ⟨j.1.toArray⟩⟩, j.2)
def rM (v : List UInt8) (lo : Int) (k : Nat) (a b c d : Int) (r : List UInt8) : Option (Rule × List UInt8) :=
  match k with
  | 0 => (numM .u8 1 r).bind fun e => (numM .u8 1 e.2).bind fun f => (numM .u8 1 f.2).bind fun g => (numM .u8 1 g.2).bind fun h => rM4 v lo e.1 f.1 g.1 h.1 h.2
  | 1 => (numM .u8 1 r).bind fun f => (numM .u8 1 f.2).bind fun g => (numM .u8 1 g.2).bind fun h => rM4 v lo a f.1 g.1 h.1 h.2
  | 2 => (numM .u8 1 r).bind fun g => (numM .u8 1 g.2).bind fun h => rM4 v lo a b g.1 h.1 h.2
  | 3 => (numM .u8 1 r).bind fun h => rM4 v lo a b c h.1 h.2
  | _ => rM4 v lo a b c d r
def ruleM (l : List UInt8) : Option (Rule × List UInt8) := (shortM l).bind fun a => (numM .u16 2 a.2).bind fun b => rM a.1 b.1 0 0 0 0 0 b.2

theorem numM_u16 {k : Nat} {l rest : List UInt8} {n : Int} (h : numM .u16 k l = some (n, rest)) : 0 ≤ n ∧ n < 65536 := by
  unfold numM takeM at h
  split at h
  · simp only [Option.map_some, Option.some.injEq, Prod.mk.injEq] at h
    rw [IntKind.wrap_u16] at h
    exact ⟨by omega, by omega⟩
  · cases h
theorem numM_i32 {k : Nat} {l rest : List UInt8} {n : Int} (h : numM .i32 k l = some (n, rest)) : -2147483648 ≤ n ∧ n < 2147483648 := by
  unfold numM takeM at h
  split at h
  · simp only [Option.map_some, Option.some.injEq, Prod.mk.injEq] at h
    rw [IntKind.wrap_i32] at h
    exact ⟨by omega, by omega⟩
  · cases h
def zRule : Array Value := #[.string ⟨#[]⟩, .int .i64 0, .int .i64 0, .int .i64 0, .int .i64 0, .int .i64 0, .int .i64 0, .int .i64 0, .int .i64 0, .int .i64 0, .string ⟨#[]⟩]
end Go.Proofs.YtdicedpklpadgaaGreatDoor.Rd
end
section
namespace Go.Proofs.YtdicedpklpadgaaGreatDoor.Bld
open Go.RowKit

theorem sizeBuilder : (Tryz.prog.info? 159).map (·.size) = some 2 := by kernel_rfl
theorem liesBuilder : liesAt Tryz.prog Tryz.prog.depth 159 (2 / Tryz.prog.cellsOf 159) 0 159 1 = true := by kernel_rfl
theorem infoByte : (Tryz.prog.info? 5).map (fun i => (i.zero, i.size, i.bytes)) = some (some (.int .u8 0), 1, 1) := by kernel_rfl

set_option maxHeartbeats 1000000 in
set_option maxRecDepth 100000 in
theorem check_used (b : Nat) (w : World) (h0 : w.cell? ⟨b, 0, none⟩ = some (.pointer (some ⟨b, 0, none⟩))) :
    Calls Tryz.prog 177 #[.pointer (some ⟨b, 0, none⟩)] w fun e w' => e = .returned (.tuple #[]) ∧ w' = w := by
  obtain ⟨j, hj, _⟩ := Option.map_eq_some_iff.1 sizeBuilder
  go_enter Tryz.func177, Tryz.ntmps177
  go_wp2
  rw [Lib.run_neq_ptr_same w _ Tryz.underlying156 hj]
  go_wp2
  go_end0
  exact ⟨rfl, rfl⟩

set_option maxHeartbeats 1000000 in
set_option maxRecDepth 100000 in
theorem check_fresh (b : Nat) (w : World) (h0 : w.cell? ⟨b, 0, none⟩ = some (.pointer none)) (hsh : w.shape? b = some (159, 2)) (hfz : w.frozen? ⟨b, 0, none⟩ = false) :
    Calls Tryz.prog 177 #[.pointer (some ⟨b, 0, none⟩)] w fun e w' => e = .returned (.tuple #[]) ∧ w' = w.setCell ⟨b, 0, none⟩ (.pointer (some ⟨b, 0, none⟩)) := by
  obtain ⟨j, hj, hjs⟩ := Option.map_eq_some_iff.1 sizeBuilder
  go_enter Tryz.func177, Tryz.ntmps177
  go_wp2
  rw [Lib.run_to_unsafe w ⟨b, 0, none⟩ Tryz.underlying156 Tryz.underlying199 hj (by rw [hjs]; decide) hsh (Nat.zero_lt_succ 1)]
  simp only [Result.andThen]
  rw [Oper.upon_value]
  go_wp2
  rw [run_callFunc_extern Tryz.func197 (by kernel_rfl) (by kernel_rfl) (by kernel_rfl) (e := Extern.AbiNoEscape.same) (by kernel_rfl)]
  rw [Lib.run_noEscape]
  simp only [Result.andThen]
  rw [Oper.upon_value]
  go_wp2
  rw [Lib.run_from_unsafe w ⟨b, 0, none⟩ Tryz.underlying199 Tryz.underlying156 hj hsh liesBuilder]
  simp only [Result.andThen]
  rw [Oper.upon_value]
  go_wp2
  go_end0
  exact ⟨rfl, rfl⟩

theorem check_any (B b : Nat) (bs : List Value) (w : World) (h : Lib.IsBuilderF 159 5 B b bs w) :
    Calls Tryz.prog 177 #[.pointer (some ⟨b, 0, none⟩)] w fun e w' => e = .returned (.tuple #[]) ∧ (Lib.BuilderAtF 159 5 B b (.pointer (some ⟨b, 0, none⟩)) bs w' ∧ Below B w w' ∧ Lib.OthersKept 5 (some b) w w') := by
  rcases h with h | h
  · refine (check_fresh b w h.cell0 h.shape h.frozen0).mono ?_
    rintro e w' ⟨rfl, rfl⟩
    exact ⟨rfl, h.used _, (Below.refl B w).setCell (p := ⟨b, 0, none⟩) h.1 _, (Lib.OthersKept.refl _ _ w).setCell ⟨b, 0, none⟩ rfl _⟩
  · refine (check_used b w h.cell0).mono ?_
    rintro e w' ⟨rfl, rfl⟩
    exact ⟨rfl, h, Below.refl B _, Lib.OthersKept.refl _ _ _⟩

set_option maxHeartbeats 2000000 in
set_option maxRecDepth 100000 in
theorem write_any (B b : Nat) (bs : List Value) (s : ByteArray) (w : World) (h : Lib.IsBuilderF 159 5 B b bs w) (hlen : bs.length + s.size ≤ 140737488355328) (hBw : B ≤ w.heap.size) :
    Calls Tryz.prog 124 #[.pointer (some ⟨b, 0, none⟩), .string s] w fun e w' => e = .returned (.tuple #[.int .i64 s.size, .nilIface]) ∧ (Lib.BuilderAtF 159 5 B b (.pointer (some ⟨b, 0, none⟩)) (bs ++ Lib.strCells s) w' ∧ Below B w w' ∧ Lib.OthersKept 5 (some b) w w') := by
  obtain ⟨i0, hi, hz0, hz1, hz2⟩ := info_parts infoByte
  go_enter Tryz.func124, Tryz.ntmps124
  go_wp2_with (go_at_call 177; refine (check_any B b bs _ h).mono ?_)
  rintro e w1 ⟨rfl, h1, hb1, hk1⟩
  obtain ⟨hB, v, hbk, hown, hne⟩ := h1
  have c0 : w1.cell? ⟨b, 0, none⟩ = some (.pointer (some ⟨b, 0, none⟩)) := by rw [Lib.cell_of_heap hbk]; rfl
  have c1 : w1.cell? ⟨b, 1, none⟩ = some v := by rw [Lib.cell_of_heap hbk]; rfl
  go_wp2_with (at_builtin; refine Lib.wpList_append_own_stringF _ rfl _ _ 157 9 rfl B 5 i0 Tryz.underlying157 Tryz.underlying9 hi hz0 hz1 hz2 _ _ _ rfl hown s rfl ?c3 ?c4 ?c5 ?_)
  case c3 => unfold maxLen; omega
  case c4 => omega
  case c5 => have := hb1.size; omega
  intro v' w2 hown' hgrow _
  have hlt : b < w1.heap.size := by
    rcases Nat.lt_or_ge b w1.heap.size with h' | h'
    · exact h'
    · simp [Array.getElem?_eq_none h'] at hbk
  have hb2 : w2.heap[b]? = some (.cells #[.pointer (some ⟨b, 0, none⟩), v] 159 (0, 0)) := by
    rw [hgrow.block b hlt (fun e => hne e.symm)]
    exact hbk
  have d0 : w2.cell? ⟨b, 0, none⟩ = some (.pointer (some ⟨b, 0, none⟩)) := by rw [Lib.cell_of_heap hb2]; rfl
  have d1 : w2.cell? ⟨b, 1, none⟩ = some v := by rw [Lib.cell_of_heap hb2]; rfl
  have f1 : w2.frozen? ⟨b, 1, none⟩ = false := Lib.frozen_of_heap hb2 1
  obtain ⟨ao, n', cap, rfl⟩ : ∃ ao n' cap, v' = .slice ao n' cap := by
    rcases hown'.2 with ⟨hv, _⟩ | ⟨g, cap, cur, fz, hv, _⟩
    · exact ⟨_, _, _, hv⟩
    · exact ⟨_, _, _, hv⟩
  go_wp2
  go_ret2
  refine ⟨rfl, ?_, ?_, (hk1.grown hgrow (Lib.ownsRowF_kind hown)).setCell ⟨b, 1, none⟩ rfl _⟩
  · exact Lib.BuilderAtF.put (T := 159) (e := 5) hB hb2 (bs' := bs ++ Lib.strCells s) (by simpa [Lib.strCells_length] using hown') (by decide)
  · exact (hb1.grown hgrow (by have := hb1.size; omega) (fun k hk => (hown.lt k hk).1)).setCell (p := ⟨b, 1, none⟩) hB _
end Go.Proofs.YtdicedpklpadgaaGreatDoor.Bld
namespace Go.Proofs.YtdicedpklpadgaaGreatDoor.Img
open Go.RowKit Mem Go.Maps

def look : List (ByteArray × Nat) → ByteArray → Option Nat
  | [], _ => none
  | (s, k) :: t, x => if s = x then some k else look t x
theorem look_snoc (a : List (ByteArray × Nat)) (q : ByteArray) (n : Nat) (x : ByteArray) : look (a ++ [(q, n)]) x = (look a x).or (if q = x then some n else none) := by
  induction a with
  | nil => rfl
  | cons p t ih =>
    obtain ⟨s, k⟩ := p
    simp only [List.cons_append, look]
    split
    · rfl
    · exact ih
def poolStep (a : List UInt8 × List (ByteArray × Nat)) (p : Phase) : List UInt8 × List (ByteArray × Nat) :=
  if (look a.2 p.abbr).isSome then a else (a.1 ++ (p.abbr.data.toList ++ [0]), a.2 ++ [(p.abbr, a.1.length)])
def poolL (l : List Phase) : List UInt8 × List (ByteArray × Nat) := l.foldl poolStep ([], [])
theorem poolL_succ (l : List Phase) (k : Nat) (hk : k < l.length) : poolL (l.take (k + 1)) = poolStep (poolL (l.take k)) l[k] := by
  rw [List.take_succ_eq_append_getElem hk, poolL, poolL, List.foldl_append]
  rfl
theorem poolL_le (M : Nat) (l : List Phase) (hl : ∀ p ∈ l, p.abbr.size ≤ M) (k : Nat) : (poolL (l.take k)).1.length ≤ k * (M + 1) := by
  induction k with
  | zero => simp [poolL]
  | succ k ih =>
    by_cases hk : k < l.length
    · rw [poolL_succ _ _ hk, poolStep]
      have := hl l[k] (List.getElem_mem hk)
      rw [Nat.succ_mul]
      split
      · omega
      · simp only [List.length_append, len_toList, List.length_cons, List.length_nil]
        omega
    · rw [List.take_of_length_le (by omega)] at ih ⊢
      rw [Nat.succ_mul]
      omega

/-- A map reads as where a list's texts begin. -/
def SM (a : List (ByteArray × Nat)) (D : DataW Unit) : Prop :=
  IsMap D ∧ ∀ s, has D (.string s.data.toList) = (look a s).isSome ∧ ∀ k, look a s = some k → ∀ z, D.atKey (.string s.data.toList) z = .lit (.int .i64 k)
theorem toList_inj {a b : ByteArray} (h : (Lit.string a.data.toList) = .string b.data.toList) : a = b := by
  injection h with h
  obtain ⟨⟨a⟩⟩ := a
  obtain ⟨⟨b⟩⟩ := b
  simpa using h
theorem SM.nil_ : SM [] (.map []) := ⟨isMap_empty, fun s => ⟨by simp [has, look], fun k h => by simp [look] at h⟩⟩
theorem SM.snoc {a : List (ByteArray × Nat)} {D : DataW Unit} {q : ByteArray} (h : SM a D) (n : Nat) (hn : (look a q).isSome = false) : SM (a ++ [(q, n)]) (D.put (.string q.data.toList) (.lit (.int .i64 n))) := by
  refine ⟨h.1.put _ _, fun s => ?_⟩
  rw [look_snoc]
  by_cases e : q = s
  · subst e
    have h0 : look a q = none := by simpa using hn
    rw [h0]
    refine ⟨by rw [has_put_same h.1 (show WideAt.IsKeyLit (.string _) from trivial)]; simp, fun k hk z => ?_⟩
    simp at hk
    rw [atKey_put_same h.1 (show WideAt.IsKeyLit (.string _) from trivial), hk]
  · have hne : (Lit.string s.data.toList) ≠ .string q.data.toList := fun e2 => e (toList_inj e2).symm
    obtain ⟨h1, h2⟩ := h.2 s
    rw [if_neg e, has_put_other hne]
    refine ⟨by simpa using h1, fun k hk z => ?_⟩
    rw [atKey_put_other hne]
    exact h2 k (by simpa using hk) z
theorem strLaw : Keyed Tryz.prog 9 := string_keyed Tryz.underlying9

theorem Phase.cells_length (s : Phase) : s.cells.length = 3 := rfl
theorem phase_at {w : World} {B : Nat} {A : Option Addr} {ss : List Phase} (h : Reads w B 3 A ss.length (ss.flatMap Phase.cells)) {k : Nat} (hk : k < ss.length) :
    ∃ ad, A = some ad ∧ ad.block < B ∧ w.cell? (ad.add (k * 3)) = some (.int .i64 ss[k].off) ∧ w.cell? ⟨(ad.add (k * 3)).block, (ad.add (k * 3)).off + 1, none⟩ = some (.int .i64 ss[k].save) ∧ w.cell? ⟨(ad.add (k * 3)).block, (ad.add (k * 3)).off + 2, none⟩ = some (.string ss[k].abbr) := by
  obtain ⟨ad, e, hb, hc⟩ := h.2 (by omega)
  have g : ∀ j, j < 3 → (ss.flatMap Phase.cells)[k * 3 + j]? = ss[k].cells[j]? := fun j hj => by
    rw [flat_get Phase.cells 3 Phase.cells_length ss k j hj, List.getElem?_eq_getElem hk]; rfl
  have ee : ∀ j, 0 < j → (⟨(ad.add (k * 3)).block, (ad.add (k * 3)).off + j, none⟩ : Addr) = ad.add (k * 3 + j) := fun j hj => by
    rw [← add_of_add, add_pos _ hj]
  refine ⟨ad, e, hb, ?_⟩
  rw [ee 1 (by omega), ee 2 (by omega)]
  exact ⟨hc (k * 3) _ (g 0 (by omega)), hc _ _ (g 1 (by omega)), hc _ _ (g 2 (by omega))⟩

theorem bld_alloc {T e : TypeId} {B b : Nat} {bs : List Value} {w : World} (h : Lib.IsBuilderF T e B b bs w) (o : Obj) : Lib.IsBuilderF T e B b bs (w.alloc o) := by
  have key : ∀ p, Lib.BuilderAtF T e B b p bs w → Lib.BuilderAtF T e B b p bs (w.alloc o) := by
    rintro p ⟨hB, v, hb, hown, hne⟩
    have hlt : b < w.heap.size := (Array.getElem?_eq_some_iff.1 hb).1
    exact ⟨hB, v, (Below.heap_alloc w o b hlt).trans hb, hown.alloc o, hne⟩
  exact h.elim (fun x => .inl (key _ x)) (fun x => .inr (key _ x))

theorem bld_grown {H : Type} {T e : TypeId} {B b : Nat} {bs : List Value} {w w' : World} {r n : Nat} {P : Program} {k : TypeId} {R : Value → Option (DataW H × List MemPlace)} {D : DataW H} (h : Lib.IsBuilderF T e B b bs w) (hg : w.grownBy w' (some r)) (hb : b ≠ r) (hm : w.ownsMap P k R r n D) : Lib.IsBuilderF T e B b bs w' := by
  have key : ∀ p, Lib.BuilderAtF T e B b p bs w → Lib.BuilderAtF T e B b p bs w' := by
    rintro p ⟨hB, v, hb', hown, hne⟩
    have hlt : b < w.heap.size := (Array.getElem?_eq_some_iff.1 hb').1
    refine ⟨hB, v, (hg.block b hlt (by simpa using hb)).trans hb', hown.kept hg (.inr ?_), hne⟩
    intro he
    obtain ⟨c, fz, hc⟩ := Lib.ownsRowF_kind hown r he
    obtain ⟨es, clock, hb2, _⟩ := hm
    rw [hb2] at hc
    cases hc
  exact h.elim (fun x => .inl (key _ x)) (fun x => .inr (key _ x))

theorem map_kept {H : Type} {w w' : World} {r n b : Nat} {P : Program} {k e : TypeId} {R : Value → Option (DataW H × List MemPlace)} {D : DataW H} (hm : w.ownsMap P k R r n D) (ho : Lib.OthersKept e (some b) w w') (hb : r ≠ b) : w'.ownsMap P k R r n D := by
  obtain ⟨es, clock, hb2, F, hs, rfl⟩ := hm
  exact ⟨es, clock, ho r _ hb2 (by simpa using hb) (fun _ _ e => by cases e), F, hs, rfl⟩

end Go.Proofs.YtdicedpklpadgaaGreatDoor.Img
end
