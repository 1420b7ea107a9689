/-
  Images: the plain words (numbers as bytes, the sum of bytes) and the contracts of image.Sum, (*writer).num, (*writer).short. Conditions: the lengths are bounded.
-/
import Derived.Test.YtaffaobhcnnfnaaGreatDoorChecked
import Derived.Test.YtaffaobhcnnfnaaGreatDoorMem2
import Derived.Test.YtaffaobhcnnfnaaGreatDoorPost
import Derived.WalkKit
import Derived.ProofKit
import Derived.OpenShut
import Derived.Handy
import Derived.WalkLawsBesides
import Derived.WalkSpells
import Derived.Lib.Hide
import Derived.Lib.UnsafeStr
import Derived.Lib.OthersKept
import Derived.Lib.AppendStr
namespace Go.Proofs.YtaffaobhcnnfnaaGreatDoor.Img
open Go.RowKit Mem

def In64 (a : Int) : Prop := -9223372036854775808 ≤ a ∧ a ≤ 9223372036854775807
/-- The sum of bytes. -/
def sumB (l : List UInt8) : Nat := l.foldl (fun n c => (31 * n + c.toNat) % 4294967296) 0
theorem sumB_lt (l : List UInt8) : sumB l < 4294967296 := by
  unfold sumB
  generalize hz : (0 : Nat) = z
  have : z < 4294967296 := by omega
  clear hz
  induction l generalizing z with
  | nil => simpa using this
  | cons a t ih => rw [List.foldl_cons]; exact ih _ (Nat.mod_lt _ (by omega))
theorem sumB_snoc (l : List UInt8) (c : UInt8) : sumB (l ++ [c]) = (31 * sumB l + c.toNat) % 4294967296 := by simp [sumB, List.foldl_append]

set_option maxRecDepth 100000 in
theorem sum_any (s : ByteArray) (w : World) (hs : s.size ≤ 140737488355328) :
    Calls Tryz.prog 15 #[.string s] w fun e w' => e = .returned (.int .u32 (sumB s.data.toList)) ∧ w' = w := by
  go_enter Tryz.func15, Tryz.ntmps15
  go_wp2
  go_loopw [3, 7] (fun n i wr => ∃ k : Nat, k ≤ s.size ∧ i = .int .i64 k ∧ n = .int .u32 (sumB (s.data.toList.take k)) ∧ wr = w) (fun _ i _ => s.size - (intOf i).toNat)
  case atStart => exact ⟨0, Nat.zero_le _, rfl, rfl, rfl⟩
  case round =>
    obtain ⟨k, hk, rfl, rfl, rfl⟩ := hrel
    go_wp2
    case roundEnd =>
      have hlt : k < s.size := by assumption
      refine ⟨⟨k + 1, by omega, by go_num, ?_, trivial⟩, ?_⟩
      · rw [List.take_succ_eq_append_getElem (by simpa using hlt), sumB_snoc]
        have e : (s[k]'hlt).toNat = (s.data[k]'(by simpa using hlt)).toNat := rfl
        simp
        omega
      · simp [intOf]; omega
    · have : k = s.size := by omega
      subst this
      rw [show s.data.toList.take s.size = s.data.toList from List.take_of_length_le (by simp)]
      go_ret
      exact ⟨rfl, rfl⟩

/-- A number's byte, the lowest first; a number by so many bytes, the highest first. -/
def byteI (n : Int) (i : Nat) : UInt8 := UInt8.ofNat (n / 256 ^ i % 256).toNat
def num (n : Int) : Nat → List UInt8
  | 0 => []
  | k + 1 => byteI n k :: num n k
theorem num_length (n : Int) (k : Nat) : (num n k).length = k := by
  induction k with
  | zero => rfl
  | succ k ih => simp [num, ih]
def short (l : List UInt8) : List UInt8 := num l.length 1 ++ l

/-- A writer: its block, and the bytes that it owns. -/
def Wr (w : World) (B g : Nat) (l : List UInt8) : Prop :=
  B ≤ g ∧ ∃ v, Blk w g 55 #[v] ∧ w.ownsRow B 5 1 v l.length (Lib.byteCells l)

/-- What a writer's step keeps: all below B, and all that is no row of bytes and not the writer. -/
structure Kept (B g : Nat) (w w' : World) : Prop where
  bel : Below B w w'
  oth : Lib.OthersKept 5 (some g) w w'
theorem Kept.refl (B g : Nat) (w : World) : Kept B g w w := ⟨Below.refl _ _, Lib.OthersKept.refl _ _ _⟩
theorem Kept.trans {B g : Nat} {w w' w'' : World} (h : Kept B g w w') (k : Kept B g w' w'') : Kept B g w w'' := ⟨h.bel.trans k.bel, h.oth.trans k.oth⟩

theorem Wr.step {w W w1 : World} {B g n : Nat} {l k : List UInt8} {v v' : Value} (hB : B ≤ g) (hblk : Blk W g 55 #[v]) (hown : W.ownsRow B 5 1 v l.length (Lib.byteCells l))
    (hn : n = l.length + k.length) (hown1 : w1.ownsRow B 5 1 v' n (Lib.byteCells l ++ Lib.byteCells k)) (hg : W.grownBy w1 v.ownBlock) (hk : Kept B g w W) (hs : B ≤ W.heap.size) :
    Wr (w1.setCell ⟨g, 0, none⟩ v') B g (l ++ k) ∧ Kept B g w (w1.setCell ⟨g, 0, none⟩ v') := by
  have hne : v.ownBlock ≠ some g := own_blk_ne hown hblk (by decide)
  have hblk1 : Blk w1 g 55 #[v] := hblk.grown hg (fun e => hne e.symm)
  have hne1 : v'.ownBlock ≠ some g := own_blk_ne hown1 hblk1 (by decide)
  have hb : Below B w w1 := hk.bel.grown hg hs fun j hj => (hown.lt j hj).1
  refine ⟨⟨hB, v', by simpa using hblk1.set_ 0 v', ?_⟩, hb.setCell hB _, ?_⟩
  · have := ownsRow_setCell_other hown1 (a := ⟨g, 0, none⟩) hne1 v'
    rw [List.length_append, ← hn, Lib.byteCells_append]
    exact this
  · refine Lib.OthersKept.setCell (hk.oth.grown hg fun j hj => ?_) _ rfl _
    rcases hown.2 with ⟨rfl, _⟩ | ⟨g', cap, cur, rfl, _, hgg, _⟩
    · simp [Value.ownBlock] at hj
    · simp [Value.ownBlock] at hj
      subst hj
      exact ⟨cur, _, hgg⟩

theorem byteI_wrap (n : Int) (k : Nat) : Value.int .u8 (IntKind.u8.wrap (n / 2 ^ (8 * (k : Int)).toNat)) = Value.int .u8 (byteI n k).toNat := by
  have e : (8 * (k : Int)).toNat = 8 * k := by omega
  have e2 : (2 : Int) ^ (8 * k) = 256 ^ k := by rw [Int.pow_mul]; rfl
  rw [e, e2, byteI]
  have h0 : 0 ≤ n / 256 ^ k % 256 := Int.emod_nonneg _ (by omega)
  have h1 : n / 256 ^ k % 256 < 256 := Int.emod_lt_of_pos _ (by omega)
  rw [IntKind.wrap_u8]
  congr 1
  rw [UInt8.toNat_ofNat']
  omega
theorem info8 : (Tryz.prog.info? 5).map (fun i => (i.zero, i.size, i.bytes)) = some (some (.int .u8 0), 1, 1) := by kernel_rfl

set_option maxRecDepth 100000 in
theorem num_any (n : Int) (m B g : Nat) (l : List UInt8) (w : World) (h : Wr w B g l) (hB : B ≤ w.heap.size) (hm : m ≤ 8) (hl : l.length ≤ 70368744177664) :
    Calls Tryz.prog 23 #[.pointer (some ⟨g, 0, none⟩), .int .i64 n, .int .i64 m] w fun e w' => e = .returned (.tuple #[]) ∧ Wr w' B g (l ++ num n m) ∧ Kept B g w w' := by
  obtain ⟨i0, hi0, hz0, hz1, hz2⟩ := info_parts info8
  go_enter Tryz.func23, Tryz.ntmps23
  have H := Lib.hid h; clear h
  go_wp2
  go_loopw [6] (fun i wr => ∃ (k : Nat) (c : List UInt8), k ≤ m ∧ i = .int .i64 ((k : Int) - 1) ∧ c.length + k = l.length + m ∧ Wr wr B g c ∧ c ++ num n k = l ++ num n m ∧ Kept B g w wr) (fun i _ => (intOf i + 1).toNat)
  case atStart => exact ⟨m, l, Nat.le_refl _, by go_num, rfl, H.out, rfl, Kept.refl _ _ _⟩
  case round =>
    obtain ⟨k, c, hk, rfl, hcl, hw, hc, hkept⟩ := hrel
    have Hc := Lib.hid hc; have Hl := Lib.hid hcl; clear hc hcl
    obtain ⟨hBg, v, hblk, hown⟩ := hw
    have hsz := hkept.bel.size
    have g0 := hblk.cell 0
    by_cases hk0 : 0 < k
    · obtain ⟨k, rfl⟩ : ∃ j, k = j + 1 := ⟨k - 1, by omega⟩
      have Hown := Lib.hid hown; have Hblk := Lib.hid hblk; have Hkept := Lib.hid hkept; clear hown hblk hkept
      have w8 : IntKind.i64.wrap (8 * (k : Int)) = 8 * (k : Int) := by rw [IntKind.wrap_i64]; omega
      have p8 : (0 : Int) ≤ 8 * (k : Int) := by omega
      have q8 : 8 * (k : Int) ≤ 64 := by omega
      have g1 : ∀ o, (wr.alloc o).cell? ⟨g, 0, none⟩ = some v := fun o => by rw [World.cell?_alloc_lt wr o _ Hblk.out.lt]; simpa using g0
      go_wp2
      have m1 : c.length + 1 ≤ maxLen := by have := Hl.out; simp only [maxLen]; omega
      have m2 : (c.length + 1) * 1 ≤ 140737488355328 := by have := Hl.out; omega
      have m3 : B ≤ wr.drew.heap.size := by simpa using (by omega : B ≤ wr.heap.size)
      have hx1 : (Lib.byteCells c ++ (#[Value.int .u8 (IntKind.u8.wrap (n / 2 ^ (8 * (k : Int)).toNat))] : Array Value).toList) = Lib.byteCells c ++ Lib.byteCells [byteI n k] := by
        rw [byteI_wrap]; rfl
      have Hx1 := Lib.hid hx1; have M1 := Lib.hid m1; have M2 := Lib.hid m2; have M3 := Lib.hid m3; clear hx1 m1 m2 m3
      have Hne := Lib.hid (own_blk_ne Hown.out Hblk.out (by decide))
      go_region_law (refine step_append1 wr.drew rfl (.tmp 17) (.tmp 23) 43 rfl B 5 i0 _ 1 1 Tryz.underlying43 hi0 hz0 hz1 hz2 rfl (by omega) v c.length (Lib.byteCells c) (by simp [Act.eval]) Hown.out (by simp [Act.eval]) rfl one_of_int M1.out M2.out M3.out ?_; intro v' w1 hown1 hg1; have Hown1 := Lib.hid hown1; have Hg1 := Lib.hid hg1; have b1 : Hid (Blk w1 g 55 #[v]) := Blk.grown (Hblk.out.drew.alloc _) hg1 (fun e => Hne.out e.symm); obtain ⟨g1, cap1, rfl, _, _⟩ := hown1.form (Nat.succ_pos _); have c1 := b1.out.cell 0; have f1 := b1.out.frozen 0; clear hown1 hg1)
      all_goals
        have hk1 : Kept B g w (wr.drew.alloc (.cells #[Value.int .u8 (IntKind.u8.wrap (n / 2 ^ (8 * (k : Int)).toNat))] 5)) := ⟨(Hkept.out.bel.drew).alloc (by simpa using M3.out) _, (Hkept.out.oth.drew).alloc _⟩
        have h1 := Hown1.out
        rw [Hx1.out] at h1
        have R := Lib.hid (Wr.step (k := [byteI n k]) hBg ((Hblk.out.drew).alloc _) (Hown.out.drew.alloc _) rfl h1 Hg1.out hk1 (Nat.le_trans M3.out (by simp)))
        clear hk1 h1
        go_wp2
      all_goals
        refine ⟨⟨k, c ++ [byteI n k], by omega, by go_num, ?_, R.out.1, ?_, R.out.2⟩, by simp [intOf]⟩
        · have := Hl.out
          rw [List.length_append]
          simp only [List.length_cons, List.length_nil]
          omega
        · have := Hc.out
          simpa [num] using this
    · obtain rfl : k = 0 := by omega
      go_wp2
      go_end0
      refine ⟨rfl, ?_, hkept⟩
      have e := Hc.out
      simp only [num, List.append_nil] at e
      rw [← e]
      exact ⟨hBg, v, hblk, hown⟩

set_option maxRecDepth 100000 in
theorem short_any (s : ByteArray) (B g : Nat) (l : List UInt8) (w : World) (h : Wr w B g l) (hB : B ≤ w.heap.size) (hs : s.size ≤ 2097152) (hl : l.length ≤ 70368744000000) :
    Calls Tryz.prog 20 #[.pointer (some ⟨g, 0, none⟩), .string s] w fun e w' => e = .returned (.tuple #[]) ∧ Wr w' B g (l ++ short s.data.toList) ∧ Kept B g w w' := by
  obtain ⟨i0, hi0, hz0, hz1, hz2⟩ := info_parts info8
  go_enter Tryz.func20, Tryz.ntmps20
  have H := Lib.hid h; clear h
  go_wp2_with (first
    | (go_at_call 23; refine (num_any _ 1 B g l w H.out hB (by omega) (by omega)).mono ?_; rintro e w1 ⟨rfl, ⟨hBg, v, hblk, hown⟩, hk1⟩; have Hblk := Lib.hid hblk; have Hown := Lib.hid hown; have Hk1 := Lib.hid hk1; have c1 := hblk.cell 0; clear hblk hown hk1)
    | (at_builtin; refine Lib.wpList_append_own_string _ rfl (.tmp 12) (.tmp 13) 43 9 rfl B 5 i0 Tryz.underlying43 Tryz.underlying9 hi0 hz0 hz1 hz2 v (l ++ num s.size 1).length _ rfl Hown.out s rfl ?m1 ?m2 ?m3 ?_))
  case m1 => simp only [List.length_append, num_length, maxLen]; omega
  case m2 => simp only [List.length_append, num_length]; omega
  case m3 => exact Nat.le_trans hB Hk1.out.bel.size
  intro v' w2 hown2 hg2 _
  have hne : v.ownBlock ≠ some g := own_blk_ne Hown.out Hblk.out (by decide)
  have b2 : Blk w2 g 55 #[v] := Hblk.out.grown hg2 (fun e => hne e.symm)
  have c2 := b2.cell 0
  have f2 := b2.frozen 0
  rw [Lib.strCells_eq] at hown2
  obtain ⟨r1, r2⟩ := Wr.step (k := s.data.toList) hBg Hblk.out Hown.out (by simp) hown2 hg2 Hk1.out (Nat.le_trans hB Hk1.out.bel.size)
  obtain ⟨g1, cap1, rfl, _, _⟩ := hown2.form (by simp [num_length]; omega)
  have R1 := Lib.hid r1; have R2 := Lib.hid r2
  clear b2 hown2 hg2 hne Hblk Hown Hk1 r1 r2
  go_wp2
  go_end0
  refine ⟨rfl, ?_, R2.out⟩
  have := R1.out
  simpa [short, List.append_assoc] using this
end Go.Proofs.YtaffaobhcnnfnaaGreatDoor.Img
