/-
  Tables as plain data (phases, shifts, rules, tables), how their values lie, and the contract of (*writer).rule. Conditions: the lengths are bounded.
-/
import Derived.Test.YtaffaobhcnnfnaaGreatDoorImg
namespace Go.Proofs.YtaffaobhcnnfnaaGreatDoor.Img
open Go.RowKit Mem

structure Phase where
  off : Int
  save : Int
  abbr : ByteArray
  deriving DecidableEq
structure Shift where
  sec : Int
  ph : Phase
  deriving DecidableEq
structure Rule where
  name : ByteArray
  lo : Int
  hi : Int
  month : Int
  kind : Int
  weekday : Int
  day : Int
  time : Int
  ref : Int
  save : Int
  letter : ByteArray
  deriving DecidableEq
structure Table where
  name : ByteArray
  first : Phase
  shifts : List Shift
  till : Int
  tail : List Rule
  off : Int
  format : ByteArray
  deriving DecidableEq

def Phase.cells (p : Phase) : List Value := [.int .i64 p.off, .int .i64 p.save, .string p.abbr]
def Shift.cells (s : Shift) : List Value := [.int .i64 s.sec, .int .i64 s.ph.off, .int .i64 s.ph.save, .string s.ph.abbr]
def Rule.cells (r : Rule) : List Value := [.string r.name, .int .i64 r.lo, .int .i64 r.hi, .int .i64 r.month, .int .i64 r.kind, .int .i64 r.weekday, .int .i64 r.day, .int .i64 r.time, .int .i64 r.ref, .int .i64 r.save, .string r.letter]

def ruleB (r : Rule) : List UInt8 :=
  short r.name.data.toList ++ num r.lo 2 ++ num r.month 1 ++ num r.kind 1 ++ num r.weekday 1 ++ num r.day 1 ++ num r.time 4 ++ num r.ref 1 ++ num r.save 4 ++ short r.letter.data.toList
theorem short_length (l : List UInt8) : (short l).length = l.length + 1 := by simp [short, num_length]; omega

theorem Kept.blk {B g b : Nat} {w w' : World} {t : TypeId} {cs : Array Value} (h : Kept B g w w') (hb : Blk w b t cs) (hg : b ≠ g) (ht : t ≠ 5) : Blk w' b t cs := by
  refine h.oth b _ hb (by simpa using hg) ?_
  intro c fz e
  injection e with _ e2
  exact ht e2
theorem Kept.alloc {B g : Nat} {w w' : World} (h : Kept B g w w') (hB : B ≤ w.heap.size) (o : Obj) : Kept B g w (w'.alloc o) := ⟨h.bel.alloc (Nat.le_trans hB h.bel.size) o, h.oth.alloc o⟩
theorem Kept.drew {B g : Nat} {w w' : World} (h : Kept B g w w') : Kept B g w w'.drew := ⟨h.bel.drew, h.oth.drew⟩
theorem Wr.alloc {B g : Nat} {w : World} {l : List UInt8} (h : Wr w B g l) (o : Obj) : Wr (w.alloc o) B g l := by
  obtain ⟨hB, v, hb, ho⟩ := h
  exact ⟨hB, v, hb.alloc o, ho.alloc o⟩
theorem Wr.lt {B g : Nat} {w : World} {l : List UInt8} (h : Wr w B g l) : g < w.heap.size := by
  obtain ⟨_, v, hb, _⟩ := h
  exact hb.lt

/-- A writer and objects beside it, as a walk goes on: the bytes so far, what is kept since w0, and the objects (none a row of bytes). -/
def St (B g : Nat) (w0 : World) (os : List (Nat × Obj)) (l : List UInt8) (w : World) : Prop :=
  Wr w B g l ∧ Kept B g w0 w ∧ B ≤ w0.heap.size ∧ ∀ x ∈ os, w.heap[x.1]? = some x.2 ∧ x.1 ≠ g ∧ ∀ c fz, x.2 ≠ .cells c 5 fz
section
variable {B g : Nat} {w0 w : World} {os : List (Nat × Obj)} {l : List UInt8}
theorem St.wr (h : St B g w0 os l w) : Wr w B g l := h.1
theorem St.kept (h : St B g w0 os l w) : Kept B g w0 w := h.2.1
theorem St.le (h : St B g w0 os l w) : B ≤ w.heap.size := Nat.le_trans h.2.2.1 h.2.1.bel.size
theorem St.step {w' : World} {l' : List UInt8} (h : St B g w0 os l w) (hw : Wr w' B g l') (hk : Kept B g w w') : St B g w0 os l' w' :=
  ⟨hw, h.2.1.trans hk, h.2.2.1, fun x hx => ⟨hk.oth x.1 x.2 (h.2.2.2 x hx).1 (by simpa using (h.2.2.2 x hx).2.1) (h.2.2.2 x hx).2.2, (h.2.2.2 x hx).2⟩⟩
theorem St.num (n k : Int) (h : St B g w0 os l w) (hm : 0 ≤ k ∧ k ≤ 8) (hl : l.length ≤ 70368744177664) :
    Calls Tryz.prog 23 #[.pointer (some ⟨g, 0, none⟩), .int .i64 n, .int .i64 k] w fun e w' => e = .returned (.tuple #[]) ∧ St B g w0 os (l ++ num n k.toNat) w' := by
  obtain ⟨m, rfl⟩ : ∃ m : Nat, k = m := ⟨k.toNat, by omega⟩
  simp only [Int.toNat_natCast]
  refine (num_any n m B g l w h.1 h.le (by omega) hl).mono ?_
  rintro e w' ⟨rfl, hw, hk⟩
  exact ⟨rfl, h.step hw hk⟩
theorem St.short (s : ByteArray) (h : St B g w0 os l w) (hs : s.size ≤ 2097152) (hl : l.length ≤ 70368744000000) :
    Calls Tryz.prog 20 #[.pointer (some ⟨g, 0, none⟩), .string s] w fun e w' => e = .returned (.tuple #[]) ∧ St B g w0 os (l ++ Img.short s.data.toList) w' := by
  refine (short_any s B g l w h.1 h.le hs hl).mono ?_
  rintro e w' ⟨rfl, hw, hk⟩
  exact ⟨rfl, h.step hw hk⟩
theorem St.alloc (h : St B g w0 os l w) (o : Obj) : St B g w0 os l (w.alloc o) :=
  ⟨h.1.alloc o, h.2.1.alloc h.2.2.1 o, h.2.2.1, fun x hx => ⟨(Below.heap_alloc w o x.1 (Array.getElem?_eq_some_iff.1 (h.2.2.2 x hx).1).1).trans (h.2.2.2 x hx).1, (h.2.2.2 x hx).2⟩⟩
theorem Wr.drew (h : Wr w B g l) : Wr w.drew B g l := h
theorem St.drew (h : St B g w0 os l w) : St B g w0 os l w.drew := ⟨h.1, h.2.1.drew, h.2.2.1, h.2.2.2⟩
theorem St.add {b : Nat} {o : Obj} (h : St B g w0 os l w) (hb : w.heap[b]? = some o) (hg : b ≠ g) (ho : ∀ c fz, o ≠ .cells c 5 fz) : St B g w0 ((b, o) :: os) l w :=
  ⟨h.1, h.2.1, h.2.2.1, fun x hx => by
    rcases List.mem_cons.1 hx with rfl | hx
    · exact ⟨hb, hg, ho⟩
    · exact h.2.2.2 x hx⟩
theorem not_bytes {t : TypeId} {cs : Array Value} {z : Nat × Nat} (ht : t ≠ 5) : ∀ c fz, Obj.cells cs t z ≠ .cells c 5 fz := by
  intro c fz e
  injection e with _ e2
  exact ht e2
/-- A new block beside the writer. -/
theorem St.new {t : TypeId} {cs : Array Value} (h : St B g w0 os l w) (ht : t ≠ 5) : St B g w0 ((w.heap.size, .cells cs t (0, 0)) :: os) l (w.alloc (.cells cs t)) :=
  (h.alloc _).add (Blk.new w t cs) (fun e => by have := h.1.lt; omega) (not_bytes ht)
theorem St.blk {b : Nat} {t : TypeId} {cs : Array Value} (h : St B g w0 os l w) (hx : (b, Obj.cells cs t (0, 0)) ∈ os) : Blk w b t cs := (h.2.2.2 _ hx).1
theorem St.cells {b : Nat} {t : TypeId} {cs : Array Value} (h : St B g w0 os l w) (hx : (b, Obj.cells cs t (0, 0)) ∈ os) (i : Nat) : w.cell? ⟨b, i, none⟩ = cs[i]? := (h.blk hx).cell i
theorem St.start (h : Wr w B g l) (hB : B ≤ w.heap.size) : St B g w [] l w := ⟨h, Kept.refl _ _ _, hB, by simp⟩
end
theorem len_toList (s : ByteArray) : s.data.toList.length = s.size := by simp

def four (a b c d : Int) : Nat → List UInt8
  | 0 => []
  | 1 => num a 1
  | 2 => num a 1 ++ num b 1
  | 3 => num a 1 ++ num b 1 ++ num c 1
  | _ => num a 1 ++ num b 1 ++ num c 1 ++ num d 1
theorem four_len (a b c d : Int) (k : Nat) : (four a b c d k).length ≤ 4 := by
  unfold four
  split <;> simp [num_length]
theorem four_succ (a b c d : Int) (k : Nat) (hk : k < 4) : four a b c d (k + 1) = four a b c d k ++ num (#[a, b, c, d].getD k 0) 1 := by
  match k, hk with
  | 0, _ => rfl
  | 1, _ => rfl
  | 2, _ => rfl
  | 3, _ => rfl

set_option maxRecDepth 100000 in
theorem rule_any (r : Rule) (B g : Nat) (l : List UInt8) (w : World) (h : Wr w B g l) (hB : B ≤ w.heap.size) (hs : r.name.size ≤ 2097152) (hs2 : r.letter.size ≤ 2097152) (hl : l.length ≤ 70368740000000) :
    Calls Tryz.prog 24 #[.pointer (some ⟨g, 0, none⟩), .agg r.cells.toArray] w fun e w' => e = .returned (.tuple #[]) ∧ Wr w' B g (l ++ ruleB r) ∧ Kept B g w w' := by
  obtain ⟨name, lo, hi, month, kind, weekday, day, time, ref, save, letter⟩ := r
  simp only [Rule.cells] at *
  have hst : Hid (St B g w [(w.heap.size, _)] l _) := (St.start h hB).new (t := 52) (cs := #[.string name, .int .i64 lo, .int .i64 hi, .int .i64 month, .int .i64 kind, .int .i64 weekday, .int .i64 day, .int .i64 time, .int .i64 ref, .int .i64 save, .string letter]) (by decide)
  go_enter Tryz.func24, Tryz.ntmps24
  clear h
  go_wp2_with (first
    | (go_at_call 23; refine (St.num _ _ hst.out (by omega) (by first | omega | (simp only [List.length_append, short_length, len_toList]; omega))).mono ?_; rintro e w1 ⟨rfl, hst1⟩; have cc := fun i => hst1.cells (.head _) i; have hst := Lib.hid hst1; clear hst1)
    | (go_at_call 20; refine (St.short _ hst.out (by assumption) (by first | omega | (simp only [List.length_append, num_length, short_length, len_toList]; omega))).mono ?_; rintro e w1 ⟨rfl, hst1⟩; have cc := fun i => hst1.cells (.head _) i; have hst := Lib.hid hst1; clear hst1))
  go_loopw [5, 28] (fun _ i wr => ∃ k : Nat, k ≤ 4 ∧ i = .int .i64 k ∧ St B g w [(w1.heap.size, .cells #[.int .i64 month, .int .i64 kind, .int .i64 weekday, .int .i64 day] 3 (0, 0)), (w.heap.size, .cells #[.string name, .int .i64 lo, .int .i64 hi, .int .i64 month, .int .i64 kind, .int .i64 weekday, .int .i64 day, .int .i64 time, .int .i64 ref, .int .i64 save, .string letter] 52 (0, 0))] (l ++ Img.short name.data.toList ++ num lo 2 ++ four month kind weekday day k) wr) (fun _ i _ => 4 - (intOf i).toNat)
  case atStart => exact ⟨0, by omega, rfl, by rw [show four month kind weekday day 0 = [] from rfl, List.append_nil]; exact hst.out.new (t := 3) (cs := #[.int .i64 month, .int .i64 kind, .int .i64 weekday, .int .i64 day]) (by decide)⟩
  case round =>
    clear cc
    obtain ⟨k, hk, rfl, hst⟩ := hrel
    have hst := Lib.hid hst
    by_cases hk4 : k < 4
    · have cc : wr.cell? ⟨w1.heap.size, k, none⟩ = some (.int .i64 (#[month, kind, weekday, day].getD k 0)) := by
        rw [hst.out.cells (.head _) k]
        match k, hk4 with
        | 0, _ => rfl
        | 1, _ => rfl
        | 2, _ => rfl
        | 3, _ => rfl
      have h4 := four_len month kind weekday day k
      have ad : Addr.add ⟨w1.heap.size, 0, none⟩ k = ⟨w1.heap.size, k, none⟩ := by unfold Addr.add; split <;> simp_all
      generalize he : #[month, kind, weekday, day].getD k 0 = x at *
      have He := Lib.hid he; clear he
      go_wp2_with (go_at_call 23; refine (St.num _ _ hst.out (by omega) (by (simp only [List.length_append, num_length, short_length, len_toList]; omega))).mono ?_; rintro e w2 ⟨rfl, hst1⟩; have hst := Lib.hid hst1; clear hst1)
      refine ⟨⟨k + 1, by omega, by go_num, ?_⟩, by simp [intOf]; omega⟩
      rw [four_succ _ _ _ _ k hk4, He.out, ← List.append_assoc]
      exact hst.out
    · obtain rfl : k = 4 := by omega
      have cc := fun i => hst.out.cells (.tail _ (.head _)) i
      have h4 := four_len month kind weekday day 4
      go_wp2_with (first
        | (go_at_call 23; refine (St.num _ _ hst.out (by omega) (by (simp only [List.length_append, num_length, short_length, len_toList]; omega))).mono ?_; rintro e w1 ⟨rfl, hst1⟩; have cc := fun i => hst1.cells (.tail _ (.head _)) i; have hst := Lib.hid hst1; clear hst1)
        | (go_at_call 20; refine (St.short _ hst.out (by assumption) (by (simp only [List.length_append, num_length, short_length, len_toList]; omega))).mono ?_; rintro e w1 ⟨rfl, hst1⟩; have cc := fun i => hst1.cells (.tail _ (.head _)) i; have hst := Lib.hid hst1; clear hst1))
      go_end0
      refine ⟨rfl, ?_, hst.out.kept⟩
      have h := hst.out.wr
      simpa [ruleB, four, List.append_assoc] using h
end Go.Proofs.YtaffaobhcnnfnaaGreatDoor.Img
