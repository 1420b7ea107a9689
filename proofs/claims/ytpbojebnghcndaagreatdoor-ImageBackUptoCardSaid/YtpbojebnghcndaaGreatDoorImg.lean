/-
  Images: the plain words (numbers as bytes, the sum of bytes) and the contracts of image.Sum, (*writer).num, (*writer).short. Conditions: the lengths are bounded.
  Tables as plain data (phases, shifts, rules, tables), how their values lie, and the contract of (*writer).rule. Conditions: the lengths are bounded.
  Phases as a map's keys, and the contract of image.kinds. Conditions: the numbers are of 64 bits, the lengths bounded.
-/
import Derived.Test.YtpbojebnghcndaaGreatDoorChecked
import Derived.Test.YtpbojebnghcndaaGreatDoorMem
import Derived.Test.YtpbojebnghcndaaGreatDoorPln
import Derived.WalkKit
import Derived.ProofKit
import Derived.OpenShut
import Derived.Handy
import Derived.WalkLawsBesides
import Derived.WalkSpells
import Derived.Lib.Hide
import Derived.Lib.UnsafeStr
import Derived.Lib.OthersKept
import Derived.Lib.AppendStr
import Derived.Maps.Own
import Derived.Maps.OwnOps
import Derived.Maps.OwnSet
import Derived.Maps.Views
import Derived.DeepKeys4
import Derived.MapViews
import Derived.Deep.DeepCutAuto
import Derived.Deep.RegionWith
namespace Go.Proofs.YtpbojebnghcndaaGreatDoor.Img
open Go.RowKit Mem

/-- The sum of bytes. -/
def sumB (l : List UInt8) : Nat := l.foldl (fun n c => (31 * n + c.toNat) % 4294967296) 0
theorem sumB_lt (l : List UInt8) : sumB l < 4294967296 := by
  unfold sumB
  generalize hz : (0 : Nat) = z
  have : z < 4294967296 := by omega
  clear hz
  induction l generalizing z with
  | nil => simpa using this
  | cons a t ih => rw [List.foldl_cons]; exact ih _ (Nat.mod_lt _ (by omega))
theorem sumB_snoc (l : List UInt8) (c : UInt8) : sumB (l ++ [c]) = (31 * sumB l + c.toNat) % 4294967296 := by simp [sumB, List.foldl_append]

set_option maxRecDepth 100000 in
theorem sum_any (s : ByteArray) (w : World) (hs : s.size ≤ 140737488355328) :
    Calls Tryz.prog 47 #[.string s] w fun e w' => e = .returned (.int .u32 (sumB s.data.toList)) ∧ w' = w := by
  go_enter Tryz.func47, Tryz.ntmps47
  go_wp2
  go_loopw [3, 7] (fun n i wr => ∃ k : Nat, k ≤ s.size ∧ i = .int .i64 k ∧ n = .int .u32 (sumB (s.data.toList.take k)) ∧ wr = w) (fun _ i _ => s.size - (intOf i).toNat)
  case atStart => exact ⟨0, Nat.zero_le _, rfl, rfl, rfl⟩
  case round =>
    obtain ⟨k, hk, rfl, rfl, rfl⟩ := hrel
    go_wp2
    case roundEnd =>
      have hlt : k < s.size := by assumption
      refine ⟨⟨k + 1, by omega, by go_num, ?_, trivial⟩, ?_⟩
      · rw [List.take_succ_eq_append_getElem (by simpa using hlt), sumB_snoc]
        have e : (s[k]'hlt).toNat = (s.data[k]'(by simpa using hlt)).toNat := rfl
        simp
        omega
      · simp [intOf]; omega
    · have : k = s.size := by omega
      subst this
      rw [show s.data.toList.take s.size = s.data.toList from List.take_of_length_le (by simp)]
      go_ret
      exact ⟨rfl, rfl⟩

/-- A number's byte, the lowest first; a number by so many bytes, the highest first. -/
def byteI (n : Int) (i : Nat) : UInt8 := UInt8.ofNat (n / 256 ^ i % 256).toNat
def num (n : Int) : Nat → List UInt8
  | 0 => []
  | k + 1 => byteI n k :: num n k
theorem num_length (n : Int) (k : Nat) : (num n k).length = k := by
  induction k with
  | zero => rfl
  | succ k ih => simp [num, ih]
def short (l : List UInt8) : List UInt8 := num l.length 1 ++ l

/-- A writer: its block, and the bytes that it owns. -/
def Wr (w : World) (B g : Nat) (l : List UInt8) : Prop :=
  B ≤ g ∧ ∃ v, Blk w g 86 #[v] ∧ w.ownsRow B 5 1 v l.length (Lib.byteCells l)

/-- What a writer's step keeps: all below B, and all that is no row of bytes and not the writer. -/
structure Kept (B g : Nat) (w w' : World) : Prop where
  bel : Below B w w'
  oth : Lib.OthersKept 5 (some g) w w'
theorem Kept.refl (B g : Nat) (w : World) : Kept B g w w := ⟨Below.refl _ _, Lib.OthersKept.refl _ _ _⟩
theorem Kept.trans {B g : Nat} {w w' w'' : World} (h : Kept B g w w') (k : Kept B g w' w'') : Kept B g w w'' := ⟨h.bel.trans k.bel, h.oth.trans k.oth⟩

theorem Wr.step {w W w1 : World} {B g n : Nat} {l k : List UInt8} {v v' : Value} (hB : B ≤ g) (hblk : Blk W g 86 #[v]) (hown : W.ownsRow B 5 1 v l.length (Lib.byteCells l))
    (hn : n = l.length + k.length) (hown1 : w1.ownsRow B 5 1 v' n (Lib.byteCells l ++ Lib.byteCells k)) (hg : W.grownBy w1 v.ownBlock) (hk : Kept B g w W) (hs : B ≤ W.heap.size) :
    Wr (w1.setCell ⟨g, 0, none⟩ v') B g (l ++ k) ∧ Kept B g w (w1.setCell ⟨g, 0, none⟩ v') := by
  have hne : v.ownBlock ≠ some g := own_blk_ne hown hblk (by decide)
  have hblk1 : Blk w1 g 86 #[v] := hblk.grown hg (fun e => hne e.symm)
  have hne1 : v'.ownBlock ≠ some g := own_blk_ne hown1 hblk1 (by decide)
  have hb : Below B w w1 := hk.bel.grown hg hs fun j hj => (hown.lt j hj).1
  refine ⟨⟨hB, v', by simpa using hblk1.set_ 0 v', ?_⟩, hb.setCell hB _, ?_⟩
  · have := ownsRow_setCell_other hown1 (a := ⟨g, 0, none⟩) hne1 v'
    rw [List.length_append, ← hn, Lib.byteCells_append]
    exact this
  · refine Lib.OthersKept.setCell (hk.oth.grown hg fun j hj => ?_) _ rfl _
    rcases hown.2 with ⟨rfl, _⟩ | ⟨g', cap, cur, rfl, _, hgg, _⟩
    · simp [Value.ownBlock] at hj
    · simp [Value.ownBlock] at hj
      subst hj
      exact ⟨cur, _, hgg⟩

theorem byteI_wrap (n : Int) (k : Nat) : Value.int .u8 (IntKind.u8.wrap (n / 2 ^ (8 * (k : Int)).toNat)) = Value.int .u8 (byteI n k).toNat := by
  have e : (8 * (k : Int)).toNat = 8 * k := by omega
  have e2 : (2 : Int) ^ (8 * k) = 256 ^ k := by rw [Int.pow_mul]; rfl
  rw [e, e2, byteI]
  have h0 : 0 ≤ n / 256 ^ k % 256 := Int.emod_nonneg _ (by omega)
  have h1 : n / 256 ^ k % 256 < 256 := Int.emod_lt_of_pos _ (by omega)
  rw [IntKind.wrap_u8]
  congr 1
  rw [UInt8.toNat_ofNat']
  omega
theorem info8 : (Tryz.prog.info? 5).map (fun i => (i.zero, i.size, i.bytes)) = some (some (.int .u8 0), 1, 1) := by kernel_rfl

set_option maxRecDepth 100000 in
theorem num_any (n : Int) (m B g : Nat) (l : List UInt8) (w : World) (h : Wr w B g l) (hB : B ≤ w.heap.size) (hm : m ≤ 8) (hl : l.length ≤ 70368744177664) :
    Calls Tryz.prog 51 #[.pointer (some ⟨g, 0, none⟩), .int .i64 n, .int .i64 m] w fun e w' => e = .returned (.tuple #[]) ∧ Wr w' B g (l ++ num n m) ∧ Kept B g w w' := by
  obtain ⟨i0, hi0, hz0, hz1, hz2⟩ := info_parts info8
  go_enter Tryz.func51, Tryz.ntmps51
  have H := Lib.hid h; clear h
  go_wp2
  go_loopw [6] (fun i wr => ∃ (k : Nat) (c : List UInt8), k ≤ m ∧ i = .int .i64 ((k : Int) - 1) ∧ c.length + k = l.length + m ∧ Wr wr B g c ∧ c ++ num n k = l ++ num n m ∧ Kept B g w wr) (fun i _ => (intOf i + 1).toNat)
  case atStart => exact ⟨m, l, Nat.le_refl _, by go_num, rfl, H.out, rfl, Kept.refl _ _ _⟩
  case round =>
    obtain ⟨k, c, hk, rfl, hcl, hw, hc, hkept⟩ := hrel
    have Hc := Lib.hid hc; have Hl := Lib.hid hcl; clear hc hcl
    obtain ⟨hBg, v, hblk, hown⟩ := hw
    have hsz := hkept.bel.size
    have g0 := hblk.cell 0
    by_cases hk0 : 0 < k
    · obtain ⟨k, rfl⟩ : ∃ j, k = j + 1 := ⟨k - 1, by omega⟩
      have Hown := Lib.hid hown; have Hblk := Lib.hid hblk; have Hkept := Lib.hid hkept; clear hown hblk hkept
      have w8 : IntKind.i64.wrap (8 * (k : Int)) = 8 * (k : Int) := by rw [IntKind.wrap_i64]; omega
      have p8 : (0 : Int) ≤ 8 * (k : Int) := by omega
      have q8 : 8 * (k : Int) ≤ 64 := by omega
      have g1 : ∀ o, (wr.alloc o).cell? ⟨g, 0, none⟩ = some v := fun o => by rw [World.cell?_alloc_lt wr o _ Hblk.out.lt]; simpa using g0
      go_wp2
      have m1 : c.length + 1 ≤ maxLen := by have := Hl.out; simp only [maxLen]; omega
      have m2 : (c.length + 1) * 1 ≤ 140737488355328 := by have := Hl.out; omega
      have m3 : B ≤ wr.drew.heap.size := by simpa using (by omega : B ≤ wr.heap.size)
      have hx1 : (Lib.byteCells c ++ (#[Value.int .u8 (IntKind.u8.wrap (n / 2 ^ (8 * (k : Int)).toNat))] : Array Value).toList) = Lib.byteCells c ++ Lib.byteCells [byteI n k] := by
        rw [byteI_wrap]; rfl
      have Hx1 := Lib.hid hx1; have M1 := Lib.hid m1; have M2 := Lib.hid m2; have M3 := Lib.hid m3; clear hx1 m1 m2 m3
      have Hne := Lib.hid (own_blk_ne Hown.out Hblk.out (by decide))
      go_region_law (refine step_append1 wr.drew rfl (.tmp 17) (.tmp 23) 84 rfl B 5 i0 _ 1 1 Tryz.underlying84 hi0 hz0 hz1 hz2 rfl (by omega) v c.length (Lib.byteCells c) (by simp [Act.eval]) Hown.out (by simp [Act.eval]) rfl one_of_int M1.out M2.out M3.out ?_; intro v' w1 hown1 hg1; have Hown1 := Lib.hid hown1; have Hg1 := Lib.hid hg1; have b1 : Hid (Blk w1 g 86 #[v]) := Blk.grown (Hblk.out.drew.alloc _) hg1 (fun e => Hne.out e.symm); obtain ⟨g1, cap1, rfl, _, _⟩ := hown1.form (Nat.succ_pos _); have c1 := b1.out.cell 0; have f1 := b1.out.frozen 0; clear hown1 hg1)
      all_goals
        have hk1 : Kept B g w (wr.drew.alloc (.cells #[Value.int .u8 (IntKind.u8.wrap (n / 2 ^ (8 * (k : Int)).toNat))] 5)) := ⟨(Hkept.out.bel.drew).alloc (by simpa using M3.out) _, (Hkept.out.oth.drew).alloc _⟩
        have h1 := Hown1.out
        rw [Hx1.out] at h1
        have R := Lib.hid (Wr.step (k := [byteI n k]) hBg ((Hblk.out.drew).alloc _) (Hown.out.drew.alloc _) rfl h1 Hg1.out hk1 (Nat.le_trans M3.out (by simp)))
        clear hk1 h1
        go_wp2
      all_goals
        refine ⟨⟨k, c ++ [byteI n k], by omega, by go_num, ?_, R.out.1, ?_, R.out.2⟩, by simp [intOf]⟩
        · have := Hl.out
          rw [List.length_append]
          simp only [List.length_cons, List.length_nil]
          omega
        · have := Hc.out
          simpa [num] using this
    · obtain rfl : k = 0 := by omega
      go_wp2
      go_end0
      refine ⟨rfl, ?_, hkept⟩
      have e := Hc.out
      simp only [num, List.append_nil] at e
      rw [← e]
      exact ⟨hBg, v, hblk, hown⟩

set_option maxRecDepth 100000 in
theorem short_any (s : ByteArray) (B g : Nat) (l : List UInt8) (w : World) (h : Wr w B g l) (hB : B ≤ w.heap.size) (hs : s.size ≤ 2097152) (hl : l.length ≤ 70368744000000) :
    Calls Tryz.prog 48 #[.pointer (some ⟨g, 0, none⟩), .string s] w fun e w' => e = .returned (.tuple #[]) ∧ Wr w' B g (l ++ short s.data.toList) ∧ Kept B g w w' := by
  obtain ⟨i0, hi0, hz0, hz1, hz2⟩ := info_parts info8
  go_enter Tryz.func48, Tryz.ntmps48
  have H := Lib.hid h; clear h
  go_wp2_with (first
    | (go_at_call 51; refine (num_any _ 1 B g l w H.out hB (by omega) (by omega)).mono ?_; rintro e w1 ⟨rfl, ⟨hBg, v, hblk, hown⟩, hk1⟩; have Hblk := Lib.hid hblk; have Hown := Lib.hid hown; have Hk1 := Lib.hid hk1; have c1 := hblk.cell 0; clear hblk hown hk1)
    | (at_builtin; refine Lib.wpList_append_own_string _ rfl (.tmp 12) (.tmp 13) 84 9 rfl B 5 i0 Tryz.underlying84 Tryz.underlying9 hi0 hz0 hz1 hz2 v (l ++ num s.size 1).length _ rfl Hown.out s rfl ?m1 ?m2 ?m3 ?_))
  case m1 => simp only [List.length_append, num_length, maxLen]; omega
  case m2 => simp only [List.length_append, num_length]; omega
  case m3 => exact Nat.le_trans hB Hk1.out.bel.size
  intro v' w2 hown2 hg2 _
  have hne : v.ownBlock ≠ some g := own_blk_ne Hown.out Hblk.out (by decide)
  have b2 : Blk w2 g 86 #[v] := Hblk.out.grown hg2 (fun e => hne e.symm)
  have c2 := b2.cell 0
  have f2 := b2.frozen 0
  rw [Lib.strCells_eq] at hown2
  obtain ⟨r1, r2⟩ := Wr.step (k := s.data.toList) hBg Hblk.out Hown.out (by simp) hown2 hg2 Hk1.out (Nat.le_trans hB Hk1.out.bel.size)
  obtain ⟨g1, cap1, rfl, _, _⟩ := hown2.form (by simp [num_length]; omega)
  have R1 := Lib.hid r1; have R2 := Lib.hid r2
  clear b2 hown2 hg2 hne Hblk Hown Hk1 r1 r2
  go_wp2
  go_end0
  refine ⟨rfl, ?_, R2.out⟩
  have := R1.out
  simpa [short, List.append_assoc] using this
end Go.Proofs.YtpbojebnghcndaaGreatDoor.Img
namespace Go.Proofs.YtpbojebnghcndaaGreatDoor.Img
open Go.RowKit Mem

def ruleB (r : Rule) : List UInt8 :=
  short r.name.data.toList ++ num r.lo 2 ++ num r.month 1 ++ num r.kind 1 ++ num r.weekday 1 ++ num r.day 1 ++ num r.time 4 ++ num r.ref 1 ++ num r.save 4 ++ short r.letter.data.toList
theorem short_length (l : List UInt8) : (short l).length = l.length + 1 := by simp [short, num_length]; omega

theorem Kept.blk {B g b : Nat} {w w' : World} {t : TypeId} {cs : Array Value} (h : Kept B g w w') (hb : Blk w b t cs) (hg : b ≠ g) (ht : t ≠ 5) : Blk w' b t cs := by
  refine h.oth b _ hb (by simpa using hg) ?_
  intro c fz e
  injection e with _ e2
  exact ht e2
theorem Kept.alloc {B g : Nat} {w w' : World} (h : Kept B g w w') (hB : B ≤ w.heap.size) (o : Obj) : Kept B g w (w'.alloc o) := ⟨h.bel.alloc (Nat.le_trans hB h.bel.size) o, h.oth.alloc o⟩
theorem Kept.drew {B g : Nat} {w w' : World} (h : Kept B g w w') : Kept B g w w'.drew := ⟨h.bel.drew, h.oth.drew⟩
theorem Wr.alloc {B g : Nat} {w : World} {l : List UInt8} (h : Wr w B g l) (o : Obj) : Wr (w.alloc o) B g l := by
  obtain ⟨hB, v, hb, ho⟩ := h
  exact ⟨hB, v, hb.alloc o, ho.alloc o⟩
theorem Wr.lt {B g : Nat} {w : World} {l : List UInt8} (h : Wr w B g l) : g < w.heap.size := by
  obtain ⟨_, v, hb, _⟩ := h
  exact hb.lt

/-- A writer and objects beside it, as a walk goes on: the bytes so far, what is kept since w0, and the objects (none a row of bytes). -/
def St (B g : Nat) (w0 : World) (os : List (Nat × Obj)) (l : List UInt8) (w : World) : Prop :=
  Wr w B g l ∧ Kept B g w0 w ∧ B ≤ w0.heap.size ∧ ∀ x ∈ os, w.heap[x.1]? = some x.2 ∧ x.1 ≠ g ∧ ∀ c fz, x.2 ≠ .cells c 5 fz
section
variable {B g : Nat} {w0 w : World} {os : List (Nat × Obj)} {l : List UInt8}
theorem St.wr (h : St B g w0 os l w) : Wr w B g l := h.1
theorem St.kept (h : St B g w0 os l w) : Kept B g w0 w := h.2.1
theorem St.le (h : St B g w0 os l w) : B ≤ w.heap.size := Nat.le_trans h.2.2.1 h.2.1.bel.size
theorem St.step {w' : World} {l' : List UInt8} (h : St B g w0 os l w) (hw : Wr w' B g l') (hk : Kept B g w w') : St B g w0 os l' w' :=
  ⟨hw, h.2.1.trans hk, h.2.2.1, fun x hx => ⟨hk.oth x.1 x.2 (h.2.2.2 x hx).1 (by simpa using (h.2.2.2 x hx).2.1) (h.2.2.2 x hx).2.2, (h.2.2.2 x hx).2⟩⟩
theorem St.num (n k : Int) (h : St B g w0 os l w) (hm : 0 ≤ k ∧ k ≤ 8) (hl : l.length ≤ 70368744177664) :
    Calls Tryz.prog 51 #[.pointer (some ⟨g, 0, none⟩), .int .i64 n, .int .i64 k] w fun e w' => e = .returned (.tuple #[]) ∧ St B g w0 os (l ++ num n k.toNat) w' := by
  obtain ⟨m, rfl⟩ : ∃ m : Nat, k = m := ⟨k.toNat, by omega⟩
  simp only [Int.toNat_natCast]
  refine (num_any n m B g l w h.1 h.le (by omega) hl).mono ?_
  rintro e w' ⟨rfl, hw, hk⟩
  exact ⟨rfl, h.step hw hk⟩
theorem St.short (s : ByteArray) (h : St B g w0 os l w) (hs : s.size ≤ 2097152) (hl : l.length ≤ 70368744000000) :
    Calls Tryz.prog 48 #[.pointer (some ⟨g, 0, none⟩), .string s] w fun e w' => e = .returned (.tuple #[]) ∧ St B g w0 os (l ++ Img.short s.data.toList) w' := by
  refine (short_any s B g l w h.1 h.le hs hl).mono ?_
  rintro e w' ⟨rfl, hw, hk⟩
  exact ⟨rfl, h.step hw hk⟩
theorem St.alloc (h : St B g w0 os l w) (o : Obj) : St B g w0 os l (w.alloc o) :=
  ⟨h.1.alloc o, h.2.1.alloc h.2.2.1 o, h.2.2.1, fun x hx => ⟨(Below.heap_alloc w o x.1 (Array.getElem?_eq_some_iff.1 (h.2.2.2 x hx).1).1).trans (h.2.2.2 x hx).1, (h.2.2.2 x hx).2⟩⟩
theorem Wr.drew (h : Wr w B g l) : Wr w.drew B g l := h
theorem St.drew (h : St B g w0 os l w) : St B g w0 os l w.drew := ⟨h.1, h.2.1.drew, h.2.2.1, h.2.2.2⟩
theorem St.add {b : Nat} {o : Obj} (h : St B g w0 os l w) (hb : w.heap[b]? = some o) (hg : b ≠ g) (ho : ∀ c fz, o ≠ .cells c 5 fz) : St B g w0 ((b, o) :: os) l w :=
  ⟨h.1, h.2.1, h.2.2.1, fun x hx => by
    rcases List.mem_cons.1 hx with rfl | hx
    · exact ⟨hb, hg, ho⟩
    · exact h.2.2.2 x hx⟩
theorem not_bytes {t : TypeId} {cs : Array Value} {z : Nat × Nat} (ht : t ≠ 5) : ∀ c fz, Obj.cells cs t z ≠ .cells c 5 fz := by
  intro c fz e
  injection e with _ e2
  exact ht e2
/-- A new block beside the writer. -/
theorem St.new {t : TypeId} {cs : Array Value} (h : St B g w0 os l w) (ht : t ≠ 5) : St B g w0 ((w.heap.size, .cells cs t (0, 0)) :: os) l (w.alloc (.cells cs t)) :=
  (h.alloc _).add (Blk.new w t cs) (fun e => by have := h.1.lt; omega) (not_bytes ht)
theorem St.blk {b : Nat} {t : TypeId} {cs : Array Value} (h : St B g w0 os l w) (hx : (b, Obj.cells cs t (0, 0)) ∈ os) : Blk w b t cs := (h.2.2.2 _ hx).1
theorem St.cells {b : Nat} {t : TypeId} {cs : Array Value} (h : St B g w0 os l w) (hx : (b, Obj.cells cs t (0, 0)) ∈ os) (i : Nat) : w.cell? ⟨b, i, none⟩ = cs[i]? := (h.blk hx).cell i
theorem St.start (h : Wr w B g l) (hB : B ≤ w.heap.size) : St B g w [] l w := ⟨h, Kept.refl _ _ _, hB, by simp⟩
end
def four (a b c d : Int) : Nat → List UInt8
  | 0 => []
  | 1 => num a 1
  | 2 => num a 1 ++ num b 1
  | 3 => num a 1 ++ num b 1 ++ num c 1
  | _ => num a 1 ++ num b 1 ++ num c 1 ++ num d 1
theorem four_len (a b c d : Int) (k : Nat) : (four a b c d k).length ≤ 4 := by
  unfold four
  split <;> simp [num_length]
theorem four_succ (a b c d : Int) (k : Nat) (hk : k < 4) : four a b c d (k + 1) = four a b c d k ++ num (#[a, b, c, d].getD k 0) 1 := by
  match k, hk with
  | 0, _ => rfl
  | 1, _ => rfl
  | 2, _ => rfl
  | 3, _ => rfl

set_option maxRecDepth 100000 in
theorem rule_any (r : Rule) (B g : Nat) (l : List UInt8) (w : World) (h : Wr w B g l) (hB : B ≤ w.heap.size) (hs : r.name.size ≤ 2097152) (hs2 : r.letter.size ≤ 2097152) (hl : l.length ≤ 70368740000000) :
    Calls Tryz.prog 52 #[.pointer (some ⟨g, 0, none⟩), .agg r.cells.toArray] w fun e w' => e = .returned (.tuple #[]) ∧ Wr w' B g (l ++ ruleB r) ∧ Kept B g w w' := by
  obtain ⟨name, lo, hi, month, kind, weekday, day, time, ref, save, letter⟩ := r
  simp only [Rule.cells] at *
  have hst : Hid (St B g w [(w.heap.size, _)] l _) := (St.start h hB).new (t := 63) (cs := #[.string name, .int .i64 lo, .int .i64 hi, .int .i64 month, .int .i64 kind, .int .i64 weekday, .int .i64 day, .int .i64 time, .int .i64 ref, .int .i64 save, .string letter]) (by decide)
  go_enter Tryz.func52, Tryz.ntmps52
  clear h
  go_wp2_with (first
    | (go_at_call 51; refine (St.num _ _ hst.out (by omega) (by first | omega | (simp only [List.length_append, short_length, len_toList]; omega))).mono ?_; rintro e w1 ⟨rfl, hst1⟩; have cc := fun i => hst1.cells (.head _) i; have hst := Lib.hid hst1; clear hst1)
    | (go_at_call 48; refine (St.short _ hst.out (by assumption) (by first | omega | (simp only [List.length_append, num_length, short_length, len_toList]; omega))).mono ?_; rintro e w1 ⟨rfl, hst1⟩; have cc := fun i => hst1.cells (.head _) i; have hst := Lib.hid hst1; clear hst1))
  go_loopw [5, 28] (fun _ i wr => ∃ k : Nat, k ≤ 4 ∧ i = .int .i64 k ∧ St B g w [(w1.heap.size, .cells #[.int .i64 month, .int .i64 kind, .int .i64 weekday, .int .i64 day] 3 (0, 0)), (w.heap.size, .cells #[.string name, .int .i64 lo, .int .i64 hi, .int .i64 month, .int .i64 kind, .int .i64 weekday, .int .i64 day, .int .i64 time, .int .i64 ref, .int .i64 save, .string letter] 63 (0, 0))] (l ++ Img.short name.data.toList ++ num lo 2 ++ four month kind weekday day k) wr) (fun _ i _ => 4 - (intOf i).toNat)
  case atStart => exact ⟨0, by omega, rfl, by rw [show four month kind weekday day 0 = [] from rfl, List.append_nil]; exact hst.out.new (t := 3) (cs := #[.int .i64 month, .int .i64 kind, .int .i64 weekday, .int .i64 day]) (by decide)⟩
  case round =>
    clear cc
    obtain ⟨k, hk, rfl, hst⟩ := hrel
    have hst := Lib.hid hst
    by_cases hk4 : k < 4
    · have cc : wr.cell? ⟨w1.heap.size, k, none⟩ = some (.int .i64 (#[month, kind, weekday, day].getD k 0)) := by
        rw [hst.out.cells (.head _) k]
        match k, hk4 with
        | 0, _ => rfl
        | 1, _ => rfl
        | 2, _ => rfl
        | 3, _ => rfl
      have h4 := four_len month kind weekday day k
      have ad : Addr.add ⟨w1.heap.size, 0, none⟩ k = ⟨w1.heap.size, k, none⟩ := by unfold Addr.add; split <;> simp_all
      generalize he : #[month, kind, weekday, day].getD k 0 = x at *
      have He := Lib.hid he; clear he
      go_wp2_with (go_at_call 51; refine (St.num _ _ hst.out (by omega) (by (simp only [List.length_append, num_length, short_length, len_toList]; omega))).mono ?_; rintro e w2 ⟨rfl, hst1⟩; have hst := Lib.hid hst1; clear hst1)
      refine ⟨⟨k + 1, by omega, by go_num, ?_⟩, by simp [intOf]; omega⟩
      rw [four_succ _ _ _ _ k hk4, He.out, ← List.append_assoc]
      exact hst.out
    · obtain rfl : k = 4 := by omega
      have cc := fun i => hst.out.cells (.tail _ (.head _)) i
      have h4 := four_len month kind weekday day 4
      go_wp2_with (first
        | (go_at_call 51; refine (St.num _ _ hst.out (by omega) (by (simp only [List.length_append, num_length, short_length, len_toList]; omega))).mono ?_; rintro e w1 ⟨rfl, hst1⟩; have cc := fun i => hst1.cells (.tail _ (.head _)) i; have hst := Lib.hid hst1; clear hst1)
        | (go_at_call 48; refine (St.short _ hst.out (by assumption) (by (simp only [List.length_append, num_length, short_length, len_toList]; omega))).mono ?_; rintro e w1 ⟨rfl, hst1⟩; have cc := fun i => hst1.cells (.tail _ (.head _)) i; have hst := Lib.hid hst1; clear hst1))
      go_end0
      refine ⟨rfl, ?_, hst.out.kept⟩
      have h := hst.out.wr
      simpa [ruleB, four, List.append_assoc] using h
end Go.Proofs.YtpbojebnghcndaaGreatDoor.Img
namespace Go.Proofs.YtpbojebnghcndaaGreatDoor.Img
open Go.RowKit Mem Go.Maps

def kl (p : Phase) : Lit := .string (keyBytes [.int .i64 p.off, .int .i64 p.save, .string p.abbr.data.toList])
theorem phLaidOut : laidOutB Tryz.prog = true := by kernel_rfl
theorem phRow : (23 : TypeId) < Tryz.prog.types.size := of_decide_eq_true (by kernel_rfl)
theorem phWide : (match Tryz.prog.underlying 23 with | some (.array _ _) | some (.struct _) => true | _ => false) = true := by rw [Tryz.underlying23]
set_option maxRecDepth 1000000 in
theorem phLaw : Keyed Tryz.prog 23 := Keyed.of_law (deep_law_laid phLaidOut (m := 3) (by omega) phRow (by kernel_rfl) phWide)
theorem phType : Tryz.prog.keyType 23 = true := by kernel_rfl
theorem phCells : Tryz.prog.cellsOf 23 = 3 := by kernel_rfl
theorem cells3 : Tryz.prog.cellsOf 3 = 1 := by kernel_rfl
theorem cells9 : Tryz.prog.cellsOf 9 = 1 := by kernel_rfl
theorem phKey (p : Phase) (h : PW p) : keyOf Tryz.prog 23 (.agg p.cells.toArray) = some (kl p) := by
  obtain ⟨h1, h2, h3⟩ := h
  have i64 : ∀ n : Int, In64 n → (Lit.int .i64 n).wf = true := by
    intro n hn
    unfold In64 at hn
    simp [Lit.wf, IntKind.min, IntKind.max, IntKind.signed, IntKind.bits]
    omega
  have w1 := i64 _ h1
  have w2 := i64 _ h2
  have w3 : p.abbr.size ≤ maxLen := by simp only [maxLen]; omega
  simp only [keyOf, Tryz.underlying23, phType]
  have hf : (Value.agg p.cells.toArray).formed Tryz.prog 23 = true := by
    simp [Value.formed, Tryz.underlying23, phCells, Phase.cells]
  rw [hf]
  have : Tryz.prog.keyLits (Tryz.prog.types.size + 1) 23 (Value.agg p.cells.toArray).cells.toList = some [.int .i64 p.off, .int .i64 p.save, .string p.abbr.data.toList] := by
    have hsz : ∃ m, Tryz.prog.types.size = m + 1 := ⟨Tryz.prog.types.size - 1, by have : (23 : Nat) < Tryz.prog.types.size := phRow; omega⟩
    obtain ⟨m, hm⟩ := hsz
    rw [hm]
    simp [Program.keyLits, Value.cells, Phase.cells, Tryz.underlying23, Tryz.underlying3, Tryz.underlying9, phCells, cells3, cells9, w1, w2, w3]
  rw [this]
  rfl
theorem kl_inj {p q : Phase} (hp : PW p) (hq : PW q) (h : kl p = kl q) : p = q := by
  have h1 := phKey p hp
  have h2 := phKey q hq
  rw [← h] at h2
  have := phLaw.inj h1 h2
  obtain ⟨a, b, c⟩ := p
  obtain ⟨d, e, f⟩ := q
  simpa [Phase.cells] using this
theorem kl_key (p : Phase) : WideAt.IsKeyLit (kl p) := trivial

/-- A map reads as the places of a list's phases. -/
def PM (l : List Phase) (D : DataW Unit) : Prop :=
  IsMap D ∧ ∀ p, PW p → has D (kl p) = decide (p ∈ l) ∧ (p ∈ l → ∀ z, D.atKey (kl p) z = .lit (.int .i64 (l.idxOf p)))
theorem PM.snoc {l : List Phase} {D : DataW Unit} {q : Phase} (h : PM l D) (hq : PW q) (hn : q ∉ l) : PM (l ++ [q]) (D.put (kl q) (.lit (.int .i64 l.length))) := by
  refine ⟨h.1.put _ _, fun p hp => ?_⟩
  by_cases e : p = q
  · subst e
    refine ⟨by rw [has_put_same h.1 (kl_key p)]; simp, fun _ z => ?_⟩
    rw [atKey_put_same h.1 (kl_key p)]
    rw [List.idxOf_append, if_neg hn]
    simp
  · have hne : kl p ≠ kl q := fun e2 => e (kl_inj hp hq e2)
    obtain ⟨h1, h2⟩ := h.2 p hp
    refine ⟨by rw [has_put_other hne, h1]; simp [e], fun hm z => ?_⟩
    have hm' : p ∈ l := by simpa [e] using hm
    rw [atKey_put_other hne, h2 hm' z, List.idxOf_append, if_pos hm']
theorem PM.one {q : Phase} (hq : PW q) : PM [q] ((DataW.map []).put (kl q) (.lit (.int .i64 0))) := by
  have h : PM [] (.map []) := ⟨isMap_empty, fun p _ => ⟨by simp [has], fun hm => by simp at hm⟩⟩
  exact h.snoc hq (by simp)

theorem zero3 (w : World) : (zeroValue 3).run Tryz.prog w = .ok (.int .i64 0) w := by kernel_rfl
theorem info23 : (Tryz.prog.info? 23).map (fun i => (i.zero, i.size, i.bytes)) = some (some (.agg #[.int .i64 0, .int .i64 0, .string ⟨#[]⟩]), 3, 32) := by kernel_rfl

theorem insert_first (W : World) (r : Nat) (p : Phase) (h : W.ownsMap Tryz.prog 23 (plainElem (H := Unit) Tryz.prog 3) r 0 (.map [])) (hp : PW p) :
    ∃ w', (Instr.mapUpdate 89 (.map (some r)) (.agg #[.int .i64 p.off, .int .i64 p.save, .string p.abbr]) (.int .i64 0)).run Tryz.prog W = .ok () w' ∧
      w'.ownsMap Tryz.prog 23 (plainElem (H := Unit) Tryz.prog 3) r 1 ((DataW.map []).put (kl p) (.lit (.int .i64 0))) ∧ W.grownBy w' (some r) :=
  h.update phLaw Tryz.underlying89 (by decide) (phKey p hp) (plainElem_int Tryz.underlying3 (by decide))

theorem kindsL_succ (first : Phase) (ss : List Shift) (k : Nat) (hk : k < ss.length) : kindsL first (ss.take (k + 1)) = if ss[k].ph ∈ kindsL first (ss.take k) then kindsL first (ss.take k) else kindsL first (ss.take k) ++ [ss[k].ph] := by
  rw [List.take_succ_eq_append_getElem hk, kindsL, kindsL, List.foldl_append]
  rfl
theorem kindsL_length (first : Phase) (ss : List Shift) (k : Nat) : (kindsL first (ss.take k)).length ≤ k + 1 := by
  induction k with
  | zero => simp [kindsL]
  | succ k ih =>
    by_cases hk : k < ss.length
    · rw [kindsL_succ _ _ _ hk]
      split
      · omega
      · simp; omega
    · rw [List.take_of_length_le (by omega)] at ih ⊢
      omega
theorem own_map_ne {H : Type} {w : World} {base r n m : Nat} {e k : TypeId} {size : Nat} {v : Value} {xs : List Value} {P : Program} {R : Value → Option (DataW H × List MemPlace)} {D : DataW H} (h : w.ownsRow base e size v n xs) (hm : w.ownsMap P k R r m D) : v.ownBlock ≠ some r := by
  obtain ⟨es, clock, hb, _⟩ := hm
  rcases h.2 with ⟨rfl, _⟩ | ⟨g', cap, cur, rfl, _, hh, _⟩
  · simp [Value.ownBlock]
  · intro he
    have : g' = r := by simpa [Value.ownBlock] using he
    subst this
    rw [hb] at hh
    cases hh
theorem kindsL_pos (first : Phase) (ss : List Shift) : 0 < (kindsL first ss).length := by
  unfold kindsL
  generalize hl : [first] = l
  have h0 : 0 < l.length := by subst hl; simp
  clear hl
  induction ss generalizing l with
  | nil => exact h0
  | cons a t ih =>
    rw [List.foldl_cons]
    split
    · exact ih _ h0
    · exact ih _ (by simp)
set_option maxRecDepth 100000 in
theorem kinds_any (x : Table) (A A2 : Option Addr) (c c2 : Nat) (w : World) (hA : Reads w w.heap.size 4 A x.shifts.length (x.shifts.flatMap Shift.cells)) (hn : x.shifts.length ≤ 1000000) (hf : PW x.first) (hp : ∀ s ∈ x.shifts, PW s.ph) :
    Calls Tryz.prog 49 #[.agg (tabCells x A c A2 c2)] w fun e w' => ∃ (v : Value) (r : Nat) (D : DataW Unit), e = .returned (.tuple #[v, .map (some r)]) ∧
      w'.ownsRow w.heap.size 23 3 v (kindsL x.first x.shifts).length ((kindsL x.first x.shifts).flatMap Phase.cells) ∧ w'.ownsMap Tryz.prog 23 (plainElem Tryz.prog 3) r (kindsL x.first x.shifts).length D ∧
      PM (kindsL x.first x.shifts) D ∧ Below w.heap.size w w' ∧ w.heap.size ≤ r := by
  obtain ⟨i0, hi0, hz0, hz1, hz2⟩ := info_parts info23
  obtain ⟨name, ⟨fo, fs, fa⟩, ss, till, tail, off, format⟩ := x
  simp only [tabCells] at *
  have hkey := phKey ⟨fo, fs, fa⟩ hf
  simp only [Phase.cells] at hkey
  have hmm := @run_makeMap Tryz.prog
  have HA := Lib.hid hA; clear hA
  go_enter Tryz.func49, Tryz.ntmps49
  go_upto_region 1 with fail
  obtain ⟨W0, hW0⟩ : ∃ W0, (w.alloc (Obj.cells #[Value.string name, Value.int IntKind.i64 fo, Value.int IntKind.i64 fs, Value.string fa, Value.slice A ss.length c, Value.int IntKind.i64 till, Value.slice A2 tail.length c2, Value.int IntKind.i64 off, Value.string format] 27)) = W0 := ⟨_, rfl⟩
  have hbx := box1 w 27 #[Value.string name, Value.int IntKind.i64 fo, Value.int IntKind.i64 fs, Value.string fa, Value.slice A ss.length c, Value.int IntKind.i64 till, Value.slice A2 tail.length c2, Value.int IntKind.i64 off, Value.string format]
  rw [hW0] at hbx ⊢
  clear hW0
  obtain ⟨hb0, hbel, hsz⟩ := hbx
  have HB0 := Lib.hid hb0; have HBel := Lib.hid hbel; clear hb0 hbel
  go_cut [4, 5] (fun s4 s5 wx => ∃ (r : Nat) (D : DataW Unit), s5 = .map (some r) ∧ wx.ownsRow (w.heap.size + 1) 23 3 s4 1 (Phase.cells ⟨fo, fs, fa⟩) ∧ wx.ownsMap Tryz.prog 23 (plainElem Tryz.prog 3) r 1 D ∧ PM [⟨fo, fs, fa⟩] D ∧ Below W0.heap.size W0 wx ∧ w.heap.size < r)
  case first =>
    have cc := fun i => HB0.out.cell i
    have cx1 : ∀ o i, (W0.alloc o).cell? ⟨w.heap.size, i, none⟩ = #[Value.string name, Value.int IntKind.i64 fo, Value.int IntKind.i64 fs, Value.string fa, Value.slice A ss.length c, Value.int IntKind.i64 till, Value.slice A2 tail.length c2, Value.int IntKind.i64 off, Value.string format][i]? := fun o i => (HB0.out.alloc o).cell i
    have cx2 : ∀ o o' i, ((W0.alloc o').alloc o).cell? ⟨w.heap.size, i, none⟩ = #[Value.string name, Value.int IntKind.i64 fo, Value.int IntKind.i64 fs, Value.string fa, Value.slice A ss.length c, Value.int IntKind.i64 till, Value.slice A2 tail.length c2, Value.int IntKind.i64 off, Value.string format][i]? := fun o o' i => ((HB0.out.alloc o').alloc o).cell i
    obtain ⟨wa, ea, oa, ga⟩ := insert_first ((W0.alloc (.cells #[.int .i64 fo, .int .i64 fs, .string fa] 23)).alloc (.map #[] 0)).drew (W0.heap.size + 1) ⟨fo, fs, fa⟩ (by
      have := World.ownsMap_made (W0.alloc (.cells #[.int .i64 fo, .int .i64 fs, .string fa] 23)) Tryz.prog 23 (plainElem (H := Unit) Tryz.prog 3)
      exact World.ownsMap.drew (by simpa using this)) hf
    obtain ⟨wb, eb, ob, gb⟩ := insert_first ((W0.alloc (.map #[] 0)).alloc (.cells #[.int .i64 fo, .int .i64 fs, .string fa] 23)).drew W0.heap.size ⟨fo, fs, fa⟩ ((World.ownsMap_made W0 Tryz.prog 23 (plainElem (H := Unit) Tryz.prog 3)).alloc _) hf
    obtain ⟨wc, ec, oc, gc⟩ := insert_first (W0.alloc (.map #[] 0)).drew W0.heap.size ⟨fo, fs, fa⟩ (World.ownsMap_made W0 Tryz.prog 23 (plainElem (H := Unit) Tryz.prog 3)) hf
    simp only at ea eb ec
    have Oa := Lib.hid oa; have Ga := Lib.hid ga; have Ob := Lib.hid ob; have Gb := Lib.hid gb; have Oc := Lib.hid oc; have Gc := Lib.hid gc; clear oa ga ob gb oc gc
    have hbc : Blk wc w.heap.size 27 _ := Blk.grown (HB0.out.alloc _).drew Gc.out (by simp; exact Nat.ne_of_lt hsz)
    have hba : Blk wa w.heap.size 27 _ := Blk.grown ((HB0.out.alloc _).alloc _).drew Ga.out (by simp; omega)
    have hbb : Blk wb w.heap.size 27 _ := Blk.grown ((HB0.out.alloc _).alloc _).drew Gb.out (by simp; exact Nat.ne_of_lt hsz)
    have cca := fun i => hba.cell i
    have ccb := fun i => hbb.cell i
    have ccc := fun i => hbc.cell i
    clear hba hbb hbc
    have ra : wa.ownsRow (w.heap.size + 1) 23 3 (.slice (some ⟨W0.heap.size, 0, none⟩) 1 1) 1 (Phase.cells ⟨fo, fs, fa⟩) ∧ Below W0.heap.size W0 wa :=
      ⟨own_of_blk (Blk.grown ((Blk.new W0 _ _).alloc _).drew Ga.out (by simp)) hsz rfl (by decide), (((Below.refl _ _).alloc (Nat.le_refl _) _).alloc (by simp) _).drew.grown Ga.out (by simp; omega) (fun j hj => by simp at hj; omega)⟩
    have rb : wb.ownsRow (w.heap.size + 1) 23 3 (.slice (some ⟨W0.heap.size + 1, 0, none⟩) 1 1) 1 (Phase.cells ⟨fo, fs, fa⟩) ∧ Below W0.heap.size W0 wb := by
      have := Blk.new (W0.alloc (.map #[] 0)) 23 #[.int .i64 fo, .int .i64 fs, .string fa]
      rw [show (W0.alloc (Obj.map #[] 0)).heap.size = W0.heap.size + 1 from by simp] at this
      exact ⟨own_of_blk (Blk.grown (g := W0.heap.size + 1) this.drew Gb.out (by simp)) (by omega) rfl (by decide), (((Below.refl _ _).alloc (Nat.le_refl _) _).alloc (by simp) _).drew.grown Gb.out (by simp; omega) (fun j hj => by simp at hj; omega)⟩
    have rc : (wc.alloc (.cells #[.int .i64 fo, .int .i64 fs, .string fa] 23)).ownsRow (w.heap.size + 1) 23 3 (.slice (some ⟨wc.heap.size, 0, none⟩) 1 1) 1 (Phase.cells ⟨fo, fs, fa⟩) ∧ Below W0.heap.size W0 (wc.alloc (.cells #[.int .i64 fo, .int .i64 fs, .string fa] 23)) := by
      have hz : W0.heap.size + 1 ≤ wc.heap.size := by have := Gc.out.size; simpa using this
      exact ⟨own_of_blk (Blk.new wc _ _) (by omega) rfl (by decide), (((Below.refl _ _).alloc (Nat.le_refl _) _).drew.grown Gc.out (by simp) (fun j hj => by simp at hj; omega)).alloc (by omega) _⟩
    have Fa := Lib.hid ra; have Fb := Lib.hid rb; have Fc := Lib.hid rc; clear ra rb rc
    go_region
    all_goals go_wp2_with fail
    all_goals go_meet
    · exact ⟨_, _, rfl, Fa.out.1, Oa.out, PM.one hf, Fa.out.2, by omega⟩
    · exact ⟨_, _, rfl, Fb.out.1, Ob.out, PM.one hf, Fb.out.2, by omega⟩
    · exact ⟨_, _, rfl, Fc.out.1, Oc.out.alloc _, PM.one hf, Fc.out.2, by omega⟩
  case rest =>
    obtain ⟨r, D, rfl, hown, hmap, hPM, hbel, hr⟩ := hcut
    have hbw : Blk wc w.heap.size 27 _ := HB0.out.below hbel hsz
    have cc := fun i => hbw.cell i
    clear hbw
    have Hown := Lib.hid hown; have Hmap := Lib.hid hmap; have HPM := Lib.hid hPM; have Hbel := Lib.hid hbel; clear hown hmap hPM hbel
    go_wp2_with fail
    go_loopw [4, 20] (fun v i wr => ∃ (k : Nat) (D : DataW Unit), k ≤ ss.length ∧ i = .int .i64 k ∧ wr.ownsRow (w.heap.size + 1) 23 3 v (kindsL ⟨fo, fs, fa⟩ (ss.take k)).length ((kindsL ⟨fo, fs, fa⟩ (ss.take k)).flatMap Phase.cells) ∧ wr.ownsMap Tryz.prog 23 (plainElem Tryz.prog 3) r (kindsL ⟨fo, fs, fa⟩ (ss.take k)).length D ∧ PM (kindsL ⟨fo, fs, fa⟩ (ss.take k)) D ∧ Below (w.heap.size + 1) W0 wr) (fun _ i _ => ss.length - (intOf i).toNat)
    case atStart => exact ⟨0, D, Nat.zero_le _, rfl, Hown.out, Hmap.out, HPM.out, Hbel.out.mono hsz⟩
    case round =>
      clear cc Hown Hmap HPM Hbel D
      obtain ⟨k, D, hk, rfl, hown, hmap, hPM, hbel⟩ := hrel
      have hsz2 := hbel.size
      have Hown := Lib.hid hown; have Hmap := Lib.hid hmap; have HPM := Lib.hid hPM; have Hbel := Lib.hid hbel; clear hown hmap hPM hbel
      by_cases hkn : k < ss.length
      · have hst := kindsL_succ ⟨fo, fs, fa⟩ ss k hkn
        have hpw := hp ss[k] (List.getElem_mem hkn)
        obtain ⟨ad, rfl, hadb, c0, c1, c2, c3⟩ := shift_at ((HA.out.below HBel.out).below (Hbel.out.mono (by omega))) hkn
        generalize hse : ss[k] = s at *
        obtain ⟨sec, ⟨po, ps, pa⟩⟩ := s
        have Hse := Lib.hid hse; have Hst := Lib.hid hst; clear hse hst
        have hkl : (kindsL ⟨fo, fs, fa⟩ (ss.take k)).length ≤ k + 1 := kindsL_length _ _ k
        have hkpos := kindsL_pos ⟨fo, fs, fa⟩ (ss.take k)
        generalize kindsL ⟨fo, fs, fa⟩ (ss.take k) = K at *
        have hkey2 := phKey ⟨po, ps, pa⟩ hpw
        simp only [Phase.cells] at hkey2
        have hwr : w.heap.size < wr.heap.size := by omega
        obtain ⟨hhas, hat⟩ := HPM.out.2 ⟨po, ps, pa⟩ hpw
        have Hat := Lib.hid hat; clear hat
        by_cases hmem : (⟨po, ps, pa⟩ : Phase) ∈ K
        · rw [decide_eq_true hmem] at hhas
          have Hhas := Lib.hid hhas; clear hhas
          go_wp2_with (at_lookup; refine wpList_lookup_own_ok_int (H := Unit) _ rfl _ _ 89 rfl 23 3 .i64 phLaw Tryz.underlying89 Tryz.underlying3 (zero3 _) r _ _ rfl (Hmap.out.alloc _) _ _ rfl hkey2 ?_; intro cv hcv _; rw [Hhas.out])
          have hcond := Hst.out
          rw [if_pos hmem] at hcond
          refine ⟨⟨k + 1, D, by omega, by go_num, ?_⟩, by simp [intOf]; omega⟩
          rw [hcond]
          exact ⟨Hown.out.alloc _, Hmap.out.alloc _, HPM.out, Hbel.out.alloc (by omega) _⟩
        · rw [decide_eq_false hmem] at hhas
          have Hhas := Lib.hid hhas; clear hhas
          obtain ⟨g4, cap4, rfl, _, _⟩ := Hown.out.form hkpos
          have hwf : (Lit.int .i64 (K.length : Int)).wf = true := WalkArith.wf_i64 (by omega)
          go_wp2_with (first
            | (at_lookup; refine wpList_lookup_own_ok_int (H := Unit) _ rfl _ _ 89 rfl 23 3 .i64 phLaw Tryz.underlying89 Tryz.underlying3 (zero3 _) r _ _ rfl (Hmap.out.alloc _) _ _ rfl hkey2 ?_; intro cv hcv _; rw [Hhas.out])
            | (at_mapUpdate; refine wpList_mapUpdate_own (H := Unit) _ rfl _ _ _ 89 rfl 23 3 phLaw Tryz.underlying89 (plainElem Tryz.prog 3) r K.length D rfl (Hmap.out.alloc _) (by unfold maxLen; omega) _ _ _ rfl rfl hkey2 (.lit (.int .i64 K.length)) [] (plainElem_int Tryz.underlying3 hwf) ?_; intro w1 hmap1 hg1; have Hmap1 := Lib.hid hmap1; have Hg1 := Lib.hid hg1; have cs := fun i => (Blk.grown (Blk.new wr _ _) hg1 (by intro e; have := Hmap.out.lt; simp at e; omega)).cell i; clear hmap1 hg1)
            | (at_builtin; refine wpList_append1g w1 rfl (.tmp 38) (.tmp 41) 88 rfl (w.heap.size + 1) 23 i0 _ 3 32 Tryz.underlying88 hi0 hz0 hz1 hz2 rfl (by decide) _ K.length _ rfl ((Hown.out.alloc _).kept Hg1.out (.inr (own_map_ne Hown.out Hmap.out))) rfl rfl phases_oneCell ?m1 ?m2 ?m3 ?_))
          case m1 => unfold maxLen; omega
          case m2 => omega
          case m3 => have := Hg1.out.size; simp at this; omega
          intro v' w2 hown2 hg2
          have hne4 : some r ≠ Value.ownBlock (.slice (some ⟨g4, 0, none⟩) K.length cap4) := fun e => own_map_ne Hown.out Hmap.out e.symm
          have hlt4 := (Hown.out.lt g4 rfl).1
          have hz1 : wr.heap.size + 1 ≤ w1.heap.size := by have := Hg1.out.size; simpa using this
          have R : Hid (w2.ownsRow (w.heap.size + 1) 23 3 v' (K ++ [(⟨po, ps, pa⟩ : Phase)]).length ((K ++ [(⟨po, ps, pa⟩ : Phase)]).flatMap Phase.cells) ∧ w2.ownsMap Tryz.prog 23 (plainElem Tryz.prog 3) r (K ++ [(⟨po, ps, pa⟩ : Phase)]).length (D.put (kl ⟨po, ps, pa⟩) (.lit (.int .i64 K.length))) ∧ PM (K ++ [(⟨po, ps, pa⟩ : Phase)]) (D.put (kl ⟨po, ps, pa⟩) (.lit (.int .i64 K.length))) ∧ Below (w.heap.size + 1) W0 w2) := by
            refine ⟨?_, ?_, HPM.out.snoc hpw hmem, ?_⟩
            · simpa [Phase.cells] using hown2
            · have := (Hmap1.out.alloc (.cells #[.int .i64 po, .int .i64 ps, .string pa] 23)).kept hg2 hne4
              simpa using this
            · exact (((Hbel.out.alloc (by omega) _).grown Hg1.out (by simp; omega) (fun j hj => by simp at hj; omega)).alloc (by omega) _).grown hg2 (by simp; omega) (fun j hj => by simp [Value.ownBlock] at hj; omega)
          clear hown2 hg2
          go_wp2
          have hcond := Hst.out
          rw [if_neg hmem] at hcond
          refine ⟨⟨k + 1, D.put (kl ⟨po, ps, pa⟩) (.lit (.int .i64 K.length)), by omega, by go_num, ?_⟩, by simp [intOf]; omega⟩
          rw [hcond]
          exact R.out
      · obtain rfl : k = ss.length := by omega
        rw [List.take_length] at *
        go_wp2
        go_ret2
        exact ⟨_, _, _, rfl, own_base Hown.out (by omega), Hmap.out, HPM.out, HBel.out.trans (Hbel.out.mono (by omega)), by omega⟩
end Go.Proofs.YtpbojebnghcndaaGreatDoor.Img
