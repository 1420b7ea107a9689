/-
  What Save's walk leans on: a writer's first text (onto the constant that it begins with), worlds that grow, objects that are kept. Conditions: the lengths are bounded.
  The contract of image.Save: of a right table the image in plain words, of another one nothing and the error. What tail answers is handed in. Conditions: the table lies in memory, its lengths are bounded.
  Images read: what (*reader).read computes, in plain words, and how large what it reads is. Conditions: none but bounded lengths.
  Images read: what the contract of (*reader).read says, and lemmas for it. Conditions: none.
  Images read: the contract of (*reader).read. Conditions: at most 8388608 bytes; the cell of bytealg.MaxLen holds a number.
  Images read: the contract of Load. Conditions: at most 8388608 bytes; the cell of bytealg.MaxLen holds a number; table.tail answers.
  The contract of table.tail, at every table. Conditions: what the table's slices hold is read, their lengths are bounded; the cell of bytealg.MaxLen holds a number.
-/
import Derived.Test.YtdicedpklpadgaaGreatDoorY18
import Derived.ArgAppend
import Derived.Laws.IdiomStrings
import Derived.Test.YtdicedpklpadgaaGreatDoorY19
import Derived.Lib.SlBytesConst
import Derived.RegionDies
import Derived.Recover
import Derived.Defers
import Derived.Laws.Pointers
import Derived.Test.YtdicedpklpadgaaGreatDoorY12
set_option linter.all false
section
namespace Go.Proofs.YtdicedpklpadgaaGreatDoor.Img
open Go.RowKit Mem Go.Maps

section
variable {P : Program} (w : World)
end

def magic : List UInt8 := [65, 78, 76, 49]
def Table.kinds (x : Table) : List Phase := kindsL x.first x.shifts
def Table.text (x : Table) : List UInt8 := (poolL x.kinds).1
def Table.begin_ (x : Table) (p : Phase) : Int := ((look (poolL x.kinds).2 p.abbr).getD 0 : Nat)
def b1 (x : Table) : List UInt8 := magic ++ short x.name.data.toList
def three (a b c : Int) : Nat → List UInt8
  | 0 => []
  | 1 => num a 4
  | 2 => num a 4 ++ num b 4
  | _ => num a 4 ++ num b 4 ++ num c 4
def b2 (x : Table) (k : Nat) : List UInt8 := b1 x ++ three x.shifts.length x.kinds.length x.text.length k
def b3 (x : Table) (k : Nat) : List UInt8 := b2 x 3 ++ (x.shifts.take k).flatMap fun s => num s.sec 8
def b4 (x : Table) (k : Nat) : List UInt8 := b3 x x.shifts.length ++ (x.shifts.take k).flatMap fun s => num (x.kinds.idxOf s.ph) 4
def b5 (x : Table) (k : Nat) : List UInt8 := b4 x x.shifts.length ++ (x.kinds.take k).flatMap fun p => num p.off 4 ++ num p.save 4 ++ num (x.begin_ p) 4
def b6 (x : Table) : List UInt8 := b5 x x.kinds.length ++ x.text ++ num x.till 8 ++ num x.tail.length 1
def b7 (x : Table) (k : Nat) : List UInt8 := b6 x ++ (x.tail.take k).flatMap ruleB
def body (x : Table) : List UInt8 := b7 x x.tail.length ++ num x.off 4 ++ short x.format.data.toList
def img (x : Table) : List UInt8 := body x ++ num (sumB (body x)) 4

/-- What is asked of a table in memory. -/
structure TabOk (x : Table) (A A2 : Option Addr) (w : World) : Prop where
  rs : Reads w w.heap.size 4 A x.shifts.length (x.shifts.flatMap Shift.cells)
  rt : Reads w w.heap.size 11 A2 x.tail.length (x.tail.flatMap Rule.cells)
  ns : x.shifts.length ≤ 1000000
  nt : x.tail.length ≤ 1000000
  name : x.name.size ≤ 2097152
  format : x.format.size ≤ 2097152
  first : PW x.first
  shifts : ∀ s ∈ x.shifts, PW s.ph
  rules : ∀ r ∈ x.tail, r.name.size ≤ 2097152 ∧ r.letter.size ≤ 2097152
theorem TabOk.below {x : Table} {A A2 : Option Addr} {w w' : World} (h : TabOk x A A2 w) (hb : Below w.heap.size w w') : TabOk x A A2 w' :=
  ⟨(h.rs.below hb).more hb.size, (h.rt.below hb).more hb.size, h.ns, h.nt, h.name, h.format, h.first, h.shifts, h.rules⟩

end Go.Proofs.YtdicedpklpadgaaGreatDoor.Img
namespace Go.Proofs.YtdicedpklpadgaaGreatDoor.Img
open Go.RowKit Mem Go.Maps Rgt

section
variable {x : Table} {A A2 : Option Addr} {w : World}
end
/-- A table's box's cells. -/
abbrev boxC (x : Table) (A : Option Addr) (c : Nat) (A2 : Option Addr) (c2 : Nat) : Array Value := #[.string x.name, .int .i64 x.first.off, .int .i64 x.first.save, .string x.first.abbr, .slice A x.shifts.length c, .int .i64 x.till, .slice A2 x.tail.length c2, .int .i64 x.off, .string x.format]
end Go.Proofs.YtdicedpklpadgaaGreatDoor.Img
end
section
namespace Go.Proofs.YtdicedpklpadgaaGreatDoor.Rd
open Go.RowKit Mem Img

section
variable {α β : Type}
/-- So many times. -/
def repM (p : List UInt8 → Option (α × List UInt8)) : Nat → List UInt8 → Option (List α × List UInt8)
  | 0, l => some ([], l)
  | n + 1, l => (repM p n l).bind fun y => (p y.2).map fun x => (y.1 ++ [x.1], x.2)
/-- A list through a function that may fail. -/
def mapO (f : α → Option β) : List α → Option (List β)
  | [] => some []
  | a :: t => (f a).bind fun b => (mapO f t).map (b :: ·)
end

def quadM (r : List UInt8) : Option ((Int × Int × Int) × List UInt8) := (numM .i32 4 r).bind fun a => (numM .i32 4 a.2).bind fun b => (numM .u32 4 b.2).map fun c => ((a.1, b.1, c.1), c.2)
def phM (pool : List UInt8) (q : Int × Int × Int) : Option Phase := (abbrM pool q.2.2.toNat).map fun s => ⟨q.1, q.2.1, ⟨s.toArray⟩⟩
def shM (phs : List Phase) (q : Int × Int) : Option Shift := (phs[q.2.toNat]?).map fun ph => ⟨q.1, ph⟩
def r3 (name : List UInt8) (first : Phase) (ss : List Shift) (l : List UInt8) : Option (Table × List UInt8) :=
  (numM .i64 8 l).bind fun till => (numM .u8 1 till.2).bind fun t => (repM ruleM t.1.toNat t.2).bind fun rs => (numM .i32 4 rs.2).bind fun off => (shortM off.2).map fun f => (⟨⟨name.toArray⟩, first, ss, till.1, rs.1, off.1, ⟨f.1.toArray⟩⟩, f.2)
def r2c (name : List UInt8) (s p : List Int) (q : List (Int × Int × Int)) (t : List UInt8 × List UInt8) : Option (Table × List UInt8) :=
  (mapO (phM t.1) q).bind fun phs => (mapO (shM phs) (s.zip p)).bind fun ss => phs.head?.bind fun first => r3 name first ss t.2
def r2 (name : List UInt8) (n k m : Nat) (l : List UInt8) : Option (Table × List UInt8) :=
  (repM (numM .i64 8) n l).bind fun s => (repM (numM .u32 4) n s.2).bind fun p => (repM quadM k p.2).bind fun q => (takeM m q.2).bind fun t => r2c name s.1 p.1 q.1 t
def r1 (l : List UInt8) : Option (Table × List UInt8) := (shortM l).bind fun a => (manyM 12 a.2).bind fun n => (manyM 12 n.2).bind fun k => (manyM 1 k.2).bind fun m => r2 a.1 n.1.toNat k.1.toNat m.1.toNat m.2
/-- The table of bytes, whatever they are, and what is left. -/
def readM (l : List UInt8) : Option (Table × List UInt8) := (takeM 4 l).bind fun h => if h.1 = magic then r1 h.2 else none

/-- What is bounded in a table that was read. -/
structure TabB (x : Table) : Prop where
  ns : x.shifts.length ≤ 1000000
  nt : x.tail.length ≤ 1000000
  name : x.name.size ≤ 2097152
  format : x.format.size ≤ 2097152
  first : PW x.first
  shifts : ∀ s ∈ x.shifts, PW s.ph
  rules : ∀ r ∈ x.tail, r.name.size ≤ 2097152 ∧ r.letter.size ≤ 2097152

end Go.Proofs.YtdicedpklpadgaaGreatDoor.Rd
namespace Go.Proofs.YtdicedpklpadgaaGreatDoor.Rd
open Go.RowKit Mem Img

/-- A slice's cells lie in a new block. -/
def NewAt (B : Nat) (A : Option Addr) (n : Nat) : Prop := 0 < n → ∃ b, A = some ⟨b, 0, none⟩ ∧ B ≤ b
def zTab : Array Value := #[.string ⟨#[]⟩, .int .i64 0, .int .i64 0, .string ⟨#[]⟩, .slice none 0 0, .int .i64 0, .slice none 0 0, .int .i64 0, .string ⟨#[]⟩]
section
variable {w0 w w' : World} {g X R0 base n : Nat} {cx cr : Array Value} {l l' : List UInt8} {v : Value} {xs : List Value}
end
def sh0 (n : Int) : List Value := [.int .i64 n, .int .i64 0, .int .i64 0, .string ⟨#[]⟩]
def u32C (n : Int) : Value := .int .u32 n
def ph0 (q : Int × Int × Int) : List Value := [.int .i64 q.1, .int .i64 q.2.1, .string ⟨#[]⟩]
end Go.Proofs.YtdicedpklpadgaaGreatDoor.Rd
end
section
namespace Go.Proofs.YtdicedpklpadgaaGreatDoor.Rd
open Go.RowKit Mem Img

end Go.Proofs.YtdicedpklpadgaaGreatDoor.Rd
end
section
namespace Go.Proofs.YtdicedpklpadgaaGreatDoor.Rd
open Go.RowKit Mem Img Rgt

/-- The table that an image is of, if it is one. -/
def loadM (tb : Table → Bool) (l : List UInt8) : Option Table := (readM l).bind fun y => if rightB y.1 (tb y.1) = true ∧ img y.1 = l then some y.1 else none
def LP (w : World) (r : Option Table) (e : Ending) (w' : World) : Prop :=
  Below w.heap.size w w' ∧ match r with
    | some x => ∃ A c A2 c2, e = .returned (.tuple #[.agg (tabCells x A c A2 c2), .int .i64 0]) ∧ TabOk x A A2 w'
    | none => e = .returned (.tuple #[.agg zTab, .int .i64 18])
/-- table.tail answers, at tables of a kind. -/
def TailIs (Pt : Table → Prop) (tb : Table → Bool) (m : Int) : Prop := ∀ (x : Table) (A A2 : Option Addr) (c c2 : Nat) (w : World), Pt x → TabOk x A A2 w → w.cell? ⟨0, 0, none⟩ = some (.int .i64 m) →
  Calls Tryz.prog 49 #[.agg (tabCells x A c A2 c2)] w fun e w' => e = .returned (.bool (tb x)) ∧ Below w.heap.size w w'

end Go.Proofs.YtdicedpklpadgaaGreatDoor.Rd
end
section
namespace Go.Proofs.YtdicedpklpadgaaGreatDoor.Src
open Go.RowKit Mem Civ Mom Img Plc Rul

def eraOf (x : Table) : Era := ⟨x.off, 0, 0, ⟨#[]⟩, x.format, false, 0, ⟨0, 0, 0, 0, 0, 0⟩⟩
def tryOf (x : Table) : Src := ⟨x.tail, [⟨x.name, [eraOf x], none, 0⟩], []⟩
def tailR (off : Int) (r : Rule) : Bool := (r.hi == 1000000) && Rgt.dayB (wrap64 (off + r.save))
/-- Whether a table's tail may be. -/
def tailB (x : Table) : Bool :=
  if x.tail.length = 0 then (x.off == 0) && x.format.toList.isEmpty
  else x.tail.all (tailR x.off) && (decide (x.tail.length ≤ 2) && (srcB (tryOf x) && !nearB x.tail))
theorem srcOk_try {x : Table} {A A2 : Option Addr} {w w' : World} (h : TabOk x A A2 w) (hb : Below w.heap.size w w') {g g2 c : Nat}
    (hg : Blk w' g 57 (eraOf x).cells.toArray) (hg2 : Blk w' g2 49 #[.string x.name, .slice (some ⟨g, 0, none⟩) 1 c]) :
    SrcOk ⟨x.tail, [⟨x.name, [eraOf x], some ⟨g, 0, none⟩, c⟩], []⟩ A2 (some ⟨g2, 0, none⟩) none w' := by
  have e1 : ∀ (b j : Nat), (⟨b, 0, none⟩ : Addr).add j = ⟨b, j, none⟩ := fun b j => by unfold Addr.add; split <;> simp_all
  refine ⟨(h.rt.below hb).more hb.size, ⟨rfl, fun _ => ⟨_, rfl, hg2.lt, fun j u hu => ?_⟩⟩, Reads.none_, ?_, h.nt, by simp, by simp, by simp, h.rules, by simp; exact h.name, ?_, by simp⟩
  · rw [e1, hg2.cell j]
    change [Value.string x.name, Value.slice (some ⟨g, 0, none⟩) 1 c][j]? = some u at hu
    simpa using hu
  · intro z hz
    simp only [List.mem_singleton] at hz
    subst hz
    refine ⟨rfl, fun _ => ⟨_, rfl, hg.lt, fun j u hu => ?_⟩⟩
    rw [e1, hg.cell j]
    have e2 : List.flatMap Era.cells [eraOf x] = (eraOf x).cells := by simp
    rw [e2] at hu
    simpa using hu
  · intro z hz e he
    simp only [List.mem_singleton] at hz
    subst hz
    simp only [List.mem_singleton] at he
    subst he
    exact ⟨Nat.zero_le _, h.format⟩
set_option maxHeartbeats 2000000 in
set_option maxRecDepth 100000 in
theorem tail_any (x : Table) (A A2 : Option Addr) (c c2 : Nat) (m : Int) (w : World) (h : TabOk x A A2 w) (hm : w.cell? ⟨0, 0, none⟩ = some (.int .i64 m)) :
    Calls Tryz.prog 49 #[.agg (tabCells x A c A2 c2)] w fun e w' => e = .returned (.bool (tailB x)) ∧ Below w.heap.size w w' := by
  have hone := One.new w 33 (tabCells x A c A2 c2)
  have H := Lib.hid h; have HM := Lib.hid hm
  have nt := h.nt
  clear h hm
  obtain ⟨Q, hQ⟩ : ∃ Q, tailB x = Q := ⟨_, rfl⟩
  rw [hQ]
  unfold tailB at hQ
  have hts : ∀ g cc, srcB ⟨x.tail, [⟨x.name, [eraOf x], some ⟨g, 0, none⟩, cc⟩], []⟩ = srcB (tryOf x) := fun _ _ => rfl
  have HTs := Lib.hid hts
  clear hts
  have HNear := Lib.hid (fun z (hb : Below w.heap.size w z) => near_any x.tail A2 c2 z ((H.out.rt.below hb).more hb.size) nt)
  simp only [tabCells] at hone ⊢
  obtain ⟨W, hW⟩ : ∃ W, w.alloc (.cells #[.string x.name, .int .i64 x.first.off, .int .i64 x.first.save, .string x.first.abbr, .slice A x.shifts.length c, .int .i64 x.till, .slice A2 x.tail.length c2, .int .i64 x.off, .string x.format] 33) = W := ⟨_, rfl⟩
  rw [hW] at hone
  have HO := Lib.hid hone
  have c0 := fun i => hone.1.cell i
  clear hone
  go_enter Tryz.func49, Tryz.ntmps49
  by_cases h0 : x.tail.length = 0
  · rw [if_pos h0] at hQ
    have h0b : (((x.tail.length : Nat) : Int) == 0) = true := by rw [h0]; rfl
    clear h0
    cases h1 : (x.off == 0)
    · rw [h1] at hQ
      have hq : Q = false := hQ.symm
      subst hq
      clear hQ
      go_wp2
      go_ret
      exact ⟨rfl, HO.out.2⟩
    · cases h2 : x.format.toList.isEmpty
      · rw [h1, h2] at hQ
        have hq : Q = false := hQ.symm
        subst hq
        clear hQ
        go_wp2
        go_ret
        exact ⟨rfl, HO.out.2⟩
      · rw [h1, h2] at hQ
        have hq : Q = true := hQ.symm
        subst hq
        clear hQ
        go_wp2
        go_ret
        exact ⟨rfl, HO.out.2⟩
  · rw [if_neg h0] at hQ
    have HQ := Lib.hid hQ
    clear hQ
    have h0b : (((x.tail.length : Nat) : Int) == 0) = false := by rw [beq_eq_false_iff_ne]; omega
    go_wp2_with fail
    clear c0
    obtain ⟨CS, hCS⟩ : ∃ CS : Array Value, #[.string x.name, .int .i64 x.first.off, .int .i64 x.first.save, .string x.first.abbr, .slice A x.shifts.length c, .int .i64 x.till, .slice A2 x.tail.length c2, .int .i64 x.off, .string x.format] = CS := ⟨_, rfl⟩
    rw [hCS] at HO
    have HCS := Lib.hid hCS
    clear hCS
    go_loopw [21] (fun i wr => ∃ k : Nat, k ≤ x.tail.length ∧ i = .int .i64 k ∧ (x.tail.take k).all (tailR x.off) = true ∧ One w w.heap.size 33 CS wr) (fun i _ => x.tail.length - (intOf i).toNat)
    case atStart => exact ⟨0, Nat.zero_le _, rfl, rfl, HO.out⟩
    case round =>
      obtain ⟨k, hk, rfl, hall, hone⟩ := hrel
      have Hall := Lib.hid hall; have HOr := Lib.hid hone
      clear hall hone HO
      obtain ⟨wo, rfl⟩ : ∃ wo : World, wo = wr := ⟨_, rfl⟩
      have c0 := fun i => HOr.out.1.cell i
      rw [← HCS.out] at c0
      by_cases hkn : k < x.tail.length
      · obtain ⟨ad, hA, hadb, a0, a1, a2, a3, a4, a5, a6, a7, a8, a9, a10⟩ := rule_cells (H.out.rt.below HOr.out.2) hkn
        subst hA
        have hst := all_step (tailR x.off) x.tail k hkn Hall.out
        have hno := all_no (tailR x.off) x.tail k hkn
        generalize hr : x.tail[k] = r at *
        have htr : tailR x.off r = ((r.hi == 1000000) && Rgt.dayB (wrap64 (x.off + r.save))) := rfl
        have Hst := Lib.hid hst; have Hno := Lib.hid hno; have Htr := Lib.hid htr
        clear hst hno htr hr
        generalize tailR x.off r = b at *
        obtain ⟨r0, r1, r2, r3, r4, r5, r6, r7, r8, r9, r10⟩ := r
        simp only at a0 a1 a2 a3 a4 a5 a6 a7 a8 a9 a10 Htr
        have hbx := (Below.refl wo.heap.size wo).alloc (Nat.le_refl _) (.cells #[.string r0, .int .i64 r1, .int .i64 r2, .int .i64 r3, .int .i64 r4, .int .i64 r5, .int .i64 r6, .int .i64 r7, .int .i64 r8, .int .i64 r9, .string r10] 59)
        have hox := HOr.out.step hbx
        have HOx := Lib.hid hox
        have c1 := fun i => hox.1.cell i
        rw [← HCS.out] at c1
        have cr := fun i => (Blk.new wo 59 #[.string r0, .int .i64 r1, .int .i64 r2, .int .i64 r3, .int .i64 r4, .int .i64 r5, .int .i64 r6, .int .i64 r7, .int .i64 r8, .int .i64 r9, .string r10]).cell i
        have Hd := Lib.hid (fun z => Rgt.day_any (wrap64 (x.off + r9)) z)
        clear hbx hox
        generalize Rgt.dayB (wrap64 (x.off + r9)) = b2 at *
        by_cases h1 : r2 = 1000000
        rotate_left
        · have h1b : (r2 == 1000000) = false := by simpa using h1
          have hq : Q = false := by rw [← HQ.out, Hno.out (by rw [Htr.out, h1b]; rfl), Bool.false_and]
          subst hq
          clear HQ Hno Hst Htr
          go_wp2_with (go_at_call 99; refine (Hd.out _).mono ?_; rintro e w2 ⟨rfl, rfl⟩)
          go_ret
          exact ⟨rfl, HOx.out.2⟩
        · subst h1
          cases b2
          · have hq : Q = false := by rw [← HQ.out, Hno.out (by rw [Htr.out]; rfl), Bool.false_and]
            subst hq
            clear HQ Hno Hst Htr
            go_wp2_with (go_at_call 99; refine (Hd.out _).mono ?_; rintro e w2 ⟨rfl, rfl⟩)
            go_ret
            exact ⟨rfl, HOx.out.2⟩
          · have hst2 : (x.tail.take (k + 1)).all (tailR x.off) = true := by rw [Hst.out, Htr.out]; rfl
            have Hst2 := Lib.hid hst2
            clear Hno Hst Htr hst2
            go_wp2_with (go_at_call 99; refine (Hd.out _).mono ?_; rintro e w2 ⟨rfl, rfl⟩)
            exact ⟨⟨k + 1, by omega, by go_num, Hst2.out, HOx.out⟩, by simp [intOf]; omega⟩
      · obtain rfl : k = x.tail.length := by omega
        have hq := HQ.out
        rw [List.take_length] at Hall
        rw [Hall.out, Bool.true_and] at hq
        have hq2 : Q = (decide (x.tail.length ≤ 2) && (srcB (tryOf x) && !nearB x.tail)) := hq.symm
        have HQ2 := Lib.hid hq2
        clear hq hq2 HQ
        have hbE := (Below.refl wo.heap.size wo).alloc (Nat.le_refl _) (.cells (eraOf x).cells.toArray 57)
        have hE := Blk.new wo 57 (eraOf x).cells.toArray
        have hbZ := hbE.alloc hbE.size (.cells #[.string x.name, .slice (some ⟨wo.heap.size, 0, none⟩) 1 1] 49)
        have hZ := Blk.new (wo.alloc (.cells (eraOf x).cells.toArray 57)) 49 #[.string x.name, .slice (some ⟨wo.heap.size, 0, none⟩) 1 1]
        have hE2 := hE.alloc (.cells #[.string x.name, .slice (some ⟨wo.heap.size, 0, none⟩) 1 1] 49)
        rw [show (wo.alloc (.cells (eraOf x).cells.toArray 57)).heap.size = wo.heap.size + 1 from by simp] at hZ
        have hbS := hbZ.alloc hbZ.size (.cells #[.slice A2 x.tail.length c2, .slice (some ⟨wo.heap.size + 1, 0, none⟩) 1 1, .slice none 0 0] 26)
        have hS := Blk.new ((wo.alloc (.cells (eraOf x).cells.toArray 57)).alloc (.cells #[.string x.name, .slice (some ⟨wo.heap.size, 0, none⟩) 1 1] 49)) 26 #[.slice A2 x.tail.length c2, .slice (some ⟨wo.heap.size + 1, 0, none⟩) 1 1, .slice none 0 0]
        rw [show ((wo.alloc (.cells (eraOf x).cells.toArray 57)).alloc (.cells #[.string x.name, .slice (some ⟨wo.heap.size, 0, none⟩) 1 1] 49)).heap.size = wo.heap.size + 1 + 1 from by simp] at hS
        have hE3 := hE2.alloc (.cells #[.slice A2 x.tail.length c2, .slice (some ⟨wo.heap.size + 1, 0, none⟩) 1 1, .slice none 0 0] 26)
        have hZ3 := hZ.alloc (.cells #[.slice A2 x.tail.length c2, .slice (some ⟨wo.heap.size + 1, 0, none⟩) 1 1, .slice none 0 0] 26)
        simp only [eraOf, Era.cells] at hbE hbZ hbS hS hE3 hZ3
        obtain ⟨W3, hW3⟩ : ∃ W3, ((wo.alloc (.cells #[.int .i64 x.off, .int .i64 0, .int .i64 0, .string ⟨#[]⟩, .string x.format, .bool false, .int .i64 0, .int .i64 0, .int .i64 0, .int .i64 0, .int .i64 0, .int .i64 0, .int .i64 0] 57)).alloc (.cells #[.string x.name, .slice (some ⟨wo.heap.size, 0, none⟩) 1 1] 49)).alloc (.cells #[.slice A2 x.tail.length c2, .slice (some ⟨wo.heap.size + 1, 0, none⟩) 1 1, .slice none 0 0] 26) = W3 := ⟨_, rfl⟩
        rw [hW3] at hbS hS hE3 hZ3
        have fS := fun i => hS.frozen i
        have cS3 := fun i => hS.cell i
        have hS4 := hS.set_ 2 (.slice none 0 0)
        simp only [List.setIfInBounds_toArray, List.set_cons_succ, List.set_cons_zero] at hS4
        have hE4 := hE3.far (p := ⟨wo.heap.size + 1 + 1, 2, none⟩) (by show wo.heap.size ≠ wo.heap.size + 1 + 1; omega) (.slice none 0 0)
        have hZ4 := hZ3.far (p := ⟨wo.heap.size + 1 + 1, 2, none⟩) (by show wo.heap.size + 1 ≠ wo.heap.size + 1 + 1; omega) (.slice none 0 0)
        have hbS4 := hbS.setCell (p := ⟨wo.heap.size + 1 + 1, 2, none⟩) (by show wo.heap.size ≤ wo.heap.size + 1 + 1; omega) (.slice none 0 0)
        have hO3' := HOr.out.step hbS
        have cT' := fun i => hO3'.1.cell i
        rw [← HCS.out] at cT'
        obtain ⟨W4, hW4⟩ : ∃ W4, W3.setCell ⟨wo.heap.size + 1 + 1, 2, none⟩ (.slice none 0 0) = W4 := ⟨_, rfl⟩
        rw [hW4] at hS4 hE4 hZ4 hbS4
        have hO3 := HOr.out.step hbS4
        have cS := fun i => hS4.cell i
        have cT := fun i => hO3.1.cell i
        rw [← HCS.out] at cT
        have hm3 := cell_later hO3.2 HM.out
        have hsk := srcOk_try H.out hO3.2 (g := wo.heap.size) (g2 := wo.heap.size + 1) (c := 1) hE4 hZ4
        have HRt := Lib.hid (right_any _ A2 (some ⟨wo.heap.size + 1, 0, none⟩) none c2 1 0 m W4 hsk hm3)
        rw [HTs.out] at HRt
        have HO3 := Lib.hid hO3
        have HS4 := Lib.hid hS4
        clear hbE hE hbZ hZ hE2 hbS hS hE3 hZ3 hO3 hO3' hm3 hsk hS4 hE4 hZ4 hbS4
        simp only [List.length_singleton, List.length_nil] at HRt
        generalize srcB (tryOf x) = b1 at *
        generalize nearB x.tail = b2 at *
        by_cases h2 : x.tail.length ≤ 2
        · rw [decide_eq_true h2] at HQ2
          cases b1
          · have hq : Q = false := HQ2.out
            subst hq
            clear HQ2
            go_wp2_with (go_at_call 55; refine HRt.out.mono ?_; rintro e w5 ⟨rfl, hb⟩; have HB5 := Lib.hid (HO3.out.step hb); clear hb)
            go_ret
            exact ⟨rfl, HB5.out.2⟩
          · have hq : Q = !b2 := HQ2.out
            subst hq
            clear HQ2
            go_wp2_with (first
              | (go_at_call 55; refine HRt.out.mono ?_; rintro e w5 ⟨rfl, hb⟩; have HB5 := Lib.hid (HO3.out.step hb); have ct5 := fun i => (HO3.out.step hb).1.cell i; rw [← HCS.out] at ct5; clear hb)
              | (go_at_call 100; refine (HNear.out _ HB5.out.2).mono ?_; rintro e w6 ⟨rfl, hb⟩; have HB6 := Lib.hid (HB5.out.step hb); clear hb))
            go_ret
            exact ⟨rfl, HB6.out.2⟩
        · rw [decide_eq_false h2] at HQ2
          have hq : Q = false := HQ2.out
          subst hq
          clear HQ2
          go_wp2_with fail
          go_ret
          exact ⟨rfl, HO3.out.2⟩
/-- table.tail answers at every table. -/
theorem tail_is (m : Int) : Rd.TailIs (fun _ => True) tailB m := fun x A A2 c c2 w _ h hm => tail_any x A A2 c c2 m w h hm
end Go.Proofs.YtdicedpklpadgaaGreatDoor.Src
end
