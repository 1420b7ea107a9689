/-
  Searching by halves (plain): what sort.Search finds. Conditions: none.
  sort.Search at a closure. Conditions: the closure's contract at every index within.
  Images: the plain words (numbers as bytes, the sum of bytes) and the contracts of image.Sum, (*writer).num, (*writer).short. Conditions: the lengths are bounded.
  Tables as plain data (phases, shifts, rules, tables), how their values lie, and the contract of (*writer).rule. Conditions: the lengths are bounded.
  Phases as a map's keys, and the contract of image.kinds. Conditions: the numbers are of 64 bits, the lengths bounded.
  Images read: the contracts of (*reader).take and num, and what they compute in plain words. Conditions: the lengths are bounded.
  Images read: the contracts of (*reader).short, many, and of abbr. Conditions: the lengths are bounded; for abbr the cell of bytealg.MaxLen holds a number.
  Images read: the contract of (*reader).rule, and a reader with objects of the walk's own beside it. Conditions: the lengths are bounded.
  strings.Builder's copyCheck and WriteString over this program (whose copyCheck ends, where a builder was copied, in a panic that the loader refuses: the shelf's contract is laid over another text). The proofs are the shelf's own, turned. Conditions: the bytes have room.
  The contract of image.pool: phases' abbreviations, each once, and where each begins. Conditions: the lengths are bounded.
-/
import Derived.Test.YtdicedpklpadgaaGreatDoorY04
import Derived.Test.YtdicedpklpadgaaGreatDoorChecked
import Derived.Test.YtdicedpklpadgaaGreatDoorY00
import Derived.WalkKit
import Derived.ProofKit
import Derived.OpenShut
import Derived.Handy
import Derived.WalkLawsBesides
import Derived.WalkSpells
import Derived.Lib.Hide
import Derived.Lib.UnsafeStr
import Derived.Lib.OthersKept
import Derived.Lib.AppendStr
import Derived.Maps.Own
import Derived.Maps.OwnOps
import Derived.Maps.OwnSet
import Derived.Maps.Views
import Derived.DeepKeys4
import Derived.MapViews
import Derived.Deep.DeepCutAuto
import Derived.Deep.RegionWith
import Derived.Laws.IdiomStrings
import Derived.Laws.BitsAllLaws
import Derived.Test.YtdicedpklpadgaaGreatDoorShelf
import Derived.Lib.Builder
import Derived.Lib.FrozenHead2
import Derived.Laws.Externs
import Derived.Shelf.Strings.BuilderK
set_option linter.all false
section
namespace Go.Proofs.YtdicedpklpadgaaGreatDoor.Sch
open Go.RowKit Mem Img

/-- The place that halving finds, between two places, in so many steps. -/
def searchF (f : Nat → Bool) : Nat → Nat → Nat → Nat
  | 0, i, _ => i
  | k + 1, i, j => if i < j then (if f ((i + j) / 2) = true then searchF f k i ((i + j) / 2) else searchF f k ((i + j) / 2 + 1) j) else i
theorem search_more (f : Nat → Bool) : ∀ (k i j : Nat), j - i ≤ k → searchF f k i j = searchF f (j - i) i j
  | 0, i, j, h => by rw [show j - i = 0 by omega]
  | k + 1, i, j, h => by
    by_cases hij : i < j
    · obtain ⟨d, hd⟩ : ∃ d, j - i = d + 1 := ⟨j - i - 1, by omega⟩
      rw [hd, searchF, searchF, if_pos hij, if_pos hij]
      have h1 := search_more f k i ((i + j) / 2) (by omega)
      have h2 := search_more f k ((i + j) / 2 + 1) j (by omega)
      have h3 := search_more f d i ((i + j) / 2) (by omega)
      have h4 := search_more f d ((i + j) / 2 + 1) j (by omega)
      rw [h1, h2, h3, h4]
    · rw [show j - i = 0 by omega, searchF, searchF, if_neg hij]
termination_by k i j _ => k
theorem search_step {f : Nat → Bool} {i j : Nat} (h : i < j) : searchF f (j - i) i j = if f ((i + j) / 2) = true then searchF f ((i + j) / 2 - i) i ((i + j) / 2) else searchF f (j - ((i + j) / 2 + 1)) ((i + j) / 2 + 1) j := by
  obtain ⟨d, hd⟩ : ∃ d, j - i = d + 1 := ⟨j - i - 1, by omega⟩
  rw [hd, searchF, if_pos h, search_more f d i ((i + j) / 2) (by omega), search_more f d ((i + j) / 2 + 1) j (by omega)]
theorem search_le (f : Nat → Bool) : ∀ (k i j : Nat), i ≤ j → searchF f k i j ≤ j
  | 0, i, j, h => h
  | k + 1, i, j, h => by
    rw [searchF]
    split
    · split
      · exact Nat.le_trans (search_le f k i _ (by omega)) (by omega)
      · exact search_le f k _ j (by omega)
    · exact h
/-- Of a test that stays true once it is, halving finds the first place where it is. -/
theorem search_first {f : Nat → Bool} {n : Nat} (hm : ∀ a b, a ≤ b → b < n → f a = true → f b = true) : ∀ (k i j : Nat), j - i ≤ k → i ≤ j → j ≤ n → (∀ t, t < i → f t = false) → (∀ t, j ≤ t → t < n → f t = true) →
    (∀ t, t < searchF f k i j → f t = false) ∧ (∀ t, searchF f k i j ≤ t → t < n → f t = true)
  | 0, i, j, h, hij, hjn, h1, h2 => ⟨h1, fun t ht => h2 t (by simp only [searchF] at ht; omega)⟩
  | k + 1, i, j, h, hij, hjn, h1, h2 => by
    rw [searchF]
    split
    · next hlt =>
      split
      · next hf => exact search_first hm k i _ (by omega) (by omega) (by omega) h1 fun t ht htn => hm _ t ht htn hf
      · next hf =>
        refine search_first hm k _ j (by omega) (by omega) hjn (fun t ht => ?_) h2
        cases ht2 : f t with
        | false => rfl
        | true => exact absurd (hm t _ (by omega) (by omega) ht2) hf
    · next hge => exact ⟨h1, fun t ht => h2 t (by omega)⟩
end Go.Proofs.YtdicedpklpadgaaGreatDoor.Sch
end
section
namespace Go.Proofs.YtdicedpklpadgaaGreatDoor.Sch
open Go.RowKit Mem Img

set_option maxHeartbeats 2000000 in
set_option maxRecDepth 100000 in
theorem search_any (n g : Nat) (lb : Array Value) (f : Nat → Bool) (w : World) (hn : n ≤ 1000000) (hent : ∀ args z, (callFunc g args).run Tryz.prog z = .ok (.enter g args) z)
    (hf : ∀ (i : Nat) z, i < n → Below w.heap.size w z → Calls Tryz.prog g (#[.int .i64 i] ++ lb) z fun e w' => e = .returned (.bool (f i)) ∧ Below z.heap.size z w') :
    Calls Tryz.prog 38 #[.int .i64 n, .func (.func g) #[] lb] w fun e w' => e = .returned (.int .i64 (searchF f n 0 n : Nat)) ∧ Below w.heap.size w w' := by
  have HF := Lib.hid hf
  obtain ⟨Q, hQ⟩ : ∃ Q, searchF f n 0 n = Q := ⟨_, rfl⟩
  rw [hQ]
  have HQ := Lib.hid hQ
  clear hf hQ
  go_enter Tryz.func38, Tryz.ntmps38
  go_wp2
  go_loopw [5, 6] (fun s5 s6 wr => Below w.heap.size w wr ∧ ∃ i j : Nat, i ≤ j ∧ j ≤ n ∧ s5 = .int .i64 i ∧ s6 = .int .i64 j ∧ searchF f (j - i) i j = Q) (fun s5 s6 _ => (intOf s6).toNat - (intOf s5).toNat)
  case atStart => exact ⟨Below.refl _ _, 0, n, Nat.zero_le _, Nat.le_refl _, rfl, rfl, by rw [Nat.sub_zero]; exact HQ.out⟩
  case round =>
    obtain ⟨hb, i, j, hij, hjn, rfl, rfl, hq⟩ := hrel
    have HB := Lib.hid hb; have Hq := Lib.hid hq
    clear hb hq HQ
    by_cases hlt : i < j
    · have hltb : decide ((i : Int) < (j : Int)) = true := decide_eq_true (by omega)
      go_wp2
      rw [show ((i : Int) + (j : Int)) / 2 = (((i + j) / 2 : Nat) : Int) by omega]
      have hs := search_step (f := f) hlt
      rw [Hq.out] at hs
      have hm1 : i ≤ (i + j) / 2 := by omega
      have hm2 : (i + j) / 2 < j := by omega
      generalize (i + j) / 2 = k at *
      refine (HF.out k wr (by omega) HB.out).mono ?_
      rintro e w1 ⟨rfl, hb⟩
      have HB2 := Lib.hid (HB.out.trans (hb.mono HB.out.size))
      clear hb HB
      have Hs := Lib.hid hs
      clear hs hltb
      cases hfk : f k
      · have hs := Hs.out
        rw [if_neg (by rw [hfk]; decide)] at hs
        have Hs2 := Lib.hid hs
        clear hs Hs hfk
        go_wp2
        exact ⟨⟨HB2.out, k + 1, j, by omega, hjn, by go_num, rfl, Hs2.out.symm⟩, by simp [intOf]; omega⟩
      · have hs := Hs.out
        rw [if_pos hfk] at hs
        have Hs2 := Lib.hid hs
        clear hs Hs hfk
        go_wp2
        exact ⟨⟨HB2.out, i, k, by omega, by omega, rfl, rfl, Hs2.out.symm⟩, by simp [intOf]; omega⟩
    · obtain rfl : i = j := by omega
      have hltb : decide ((i : Int) < (i : Int)) = false := decide_eq_false (by omega)
      have hq := Hq.out
      rw [Nat.sub_self, searchF] at hq
      subst hq
      go_wp2
      go_ret
      exact ⟨rfl, HB.out⟩
end Go.Proofs.YtdicedpklpadgaaGreatDoor.Sch
end
section
namespace Go.Proofs.YtdicedpklpadgaaGreatDoor.Img
open Go.RowKit Mem

/-- The sum of bytes. -/
def sumB (l : List UInt8) : Nat := l.foldl (fun n c => (31 * n + c.toNat) % 4294967296) 0
/-- A number's byte, the lowest first; a number by so many bytes, the highest first. -/
def byteI (n : Int) (i : Nat) : UInt8 := UInt8.ofNat (n / 256 ^ i % 256).toNat
def num (n : Int) : Nat → List UInt8
  | 0 => []
  | k + 1 => byteI n k :: num n k
def short (l : List UInt8) : List UInt8 := num l.length 1 ++ l

/-- What a writer's step keeps: all below B, and all that is no row of bytes and not the writer. -/
structure Kept (B g : Nat) (w w' : World) : Prop where
  bel : Below B w w'
  oth : Lib.OthersKept 5 (some g) w w'
end Go.Proofs.YtdicedpklpadgaaGreatDoor.Img
namespace Go.Proofs.YtdicedpklpadgaaGreatDoor.Img
open Go.RowKit Mem

def ruleB (r : Rule) : List UInt8 :=
  short r.name.data.toList ++ num r.lo 2 ++ num r.month 1 ++ num r.kind 1 ++ num r.weekday 1 ++ num r.day 1 ++ num r.time 4 ++ num r.ref 1 ++ num r.save 4 ++ short r.letter.data.toList
section
variable {B g : Nat} {w0 w : World} {os : List (Nat × Obj)} {l : List UInt8}
end
def four (a b c d : Int) : Nat → List UInt8
  | 0 => []
  | 1 => num a 1
  | 2 => num a 1 ++ num b 1
  | 3 => num a 1 ++ num b 1 ++ num c 1
  | _ => num a 1 ++ num b 1 ++ num c 1 ++ num d 1
end Go.Proofs.YtdicedpklpadgaaGreatDoor.Img
namespace Go.Proofs.YtdicedpklpadgaaGreatDoor.Img
open Go.RowKit Mem Go.Maps

def kl (p : Phase) : Lit := .string (keyBytes [.int .i64 p.off, .int .i64 p.save, .string p.abbr.data.toList])
/-- A map reads as the places of a list's phases. -/
def PM (l : List Phase) (D : DataW Unit) : Prop :=
  IsMap D ∧ ∀ p, PW p → has D (kl p) = decide (p ∈ l) ∧ (p ∈ l → ∀ z, D.atKey (kl p) z = .lit (.int .i64 (l.idxOf p)))
end Go.Proofs.YtdicedpklpadgaaGreatDoor.Img
end
section
namespace Go.Proofs.YtdicedpklpadgaaGreatDoor.Rd
open Go.RowKit Mem Img

/-- The panic of a reader. -/
abbrev badE : Ending := .panicked [{ v := .iface 34 (.int .i64 18), recovered := false }]
def takeM (n : Nat) (l : List UInt8) : Option (List UInt8 × List UInt8) := if n ≤ l.length then some (l.take n, l.drop n) else none
abbrev strV (l : List UInt8) : Value := .string ⟨l.toArray⟩
/-- The number of bytes, the highest first. -/
def numU (l : List UInt8) : Nat := l.foldl (fun n c => n * 256 + c.toNat) 0
def numM (q : IntKind) (k : Nat) (l : List UInt8) : Option (Int × List UInt8) := (takeM k l).map fun x => (q.wrap (numU x.1), x.2)

end Go.Proofs.YtdicedpklpadgaaGreatDoor.Rd
namespace Go.Proofs.YtdicedpklpadgaaGreatDoor.Rd
open Go.RowKit Mem Img

def shortM (l : List UInt8) : Option (List UInt8 × List UInt8) := (numM .u8 1 l).bind fun x => takeM x.1.toNat x.2
def manyM (b : Nat) (l : List UInt8) : Option (Int × List UInt8) := (numM .u32 4 l).bind fun x => if (x.2.length : Int) < x.1 * b then none else some x
/-- A text of a pool: from a place on, up to the next byte 0. -/
def abbrM (pool : List UInt8) (at_ : Nat) : Option (List UInt8) :=
  if pool.length ≤ at_ then none else if (Lib.cut (pool.drop at_) [0]).2.2 = true then some (Lib.cut (pool.drop at_) [0]).1 else none

end Go.Proofs.YtdicedpklpadgaaGreatDoor.Rd
namespace Go.Proofs.YtdicedpklpadgaaGreatDoor.Rd
open Go.RowKit Mem Img

section
variable {w0 w w' : World} {g : Nat} {os : List (Nat × TypeId × Array Value)} {l l' : List UInt8}
end

def rM4 (v : List UInt8) (lo a b c d : Int) (r : List UInt8) : Option (Rule × List UInt8) :=
  (numM .i32 4 r).bind fun g => (numM .u8 1 g.2).bind fun h => (numM .i32 4 h.2).bind fun i => (shortM i.2).map fun j => (⟨⟨v.toArray⟩, lo, 1000000, a, b, c, d, g.1, h.1, i.1, ⟨j.1.toArray⟩⟩, j.2)
def rM (v : List UInt8) (lo : Int) (k : Nat) (a b c d : Int) (r : List UInt8) : Option (Rule × List UInt8) :=
  match k with
  | 0 => (numM .u8 1 r).bind fun e => (numM .u8 1 e.2).bind fun f => (numM .u8 1 f.2).bind fun g => (numM .u8 1 g.2).bind fun h => rM4 v lo e.1 f.1 g.1 h.1 h.2
  | 1 => (numM .u8 1 r).bind fun f => (numM .u8 1 f.2).bind fun g => (numM .u8 1 g.2).bind fun h => rM4 v lo a f.1 g.1 h.1 h.2
  | 2 => (numM .u8 1 r).bind fun g => (numM .u8 1 g.2).bind fun h => rM4 v lo a b g.1 h.1 h.2
  | 3 => (numM .u8 1 r).bind fun h => rM4 v lo a b c h.1 h.2
  | _ => rM4 v lo a b c d r
def ruleM (l : List UInt8) : Option (Rule × List UInt8) := (shortM l).bind fun a => (numM .u16 2 a.2).bind fun b => rM a.1 b.1 0 0 0 0 0 b.2

def zRule : Array Value := #[.string ⟨#[]⟩, .int .i64 0, .int .i64 0, .int .i64 0, .int .i64 0, .int .i64 0, .int .i64 0, .int .i64 0, .int .i64 0, .int .i64 0, .string ⟨#[]⟩]
end Go.Proofs.YtdicedpklpadgaaGreatDoor.Rd
end
section
namespace Go.Proofs.YtdicedpklpadgaaGreatDoor.Bld
open Go.RowKit

end Go.Proofs.YtdicedpklpadgaaGreatDoor.Bld
namespace Go.Proofs.YtdicedpklpadgaaGreatDoor.Img
open Go.RowKit Mem Go.Maps

def look : List (ByteArray × Nat) → ByteArray → Option Nat
  | [], _ => none
  | (s, k) :: t, x => if s = x then some k else look t x
def poolStep (a : List UInt8 × List (ByteArray × Nat)) (p : Phase) : List UInt8 × List (ByteArray × Nat) :=
  if (look a.2 p.abbr).isSome then a else (a.1 ++ (p.abbr.data.toList ++ [0]), a.2 ++ [(p.abbr, a.1.length)])
def poolL (l : List Phase) : List UInt8 × List (ByteArray × Nat) := l.foldl poolStep ([], [])
/-- A map reads as where a list's texts begin. -/
def SM (a : List (ByteArray × Nat)) (D : DataW Unit) : Prop :=
  IsMap D ∧ ∀ s, has D (.string s.data.toList) = (look a s).isSome ∧ ∀ k, look a s = some k → ∀ z, D.atKey (.string s.data.toList) z = .lit (.int .i64 k)
end Go.Proofs.YtdicedpklpadgaaGreatDoor.Img
end
