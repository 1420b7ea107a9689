/-
  Images read: the contracts of (*reader).take and num, and what they compute in plain words. Conditions: the lengths are bounded.
  Images read: the contracts of (*reader).short, many, and of abbr. Conditions: the lengths are bounded; for abbr the cell of bytealg.MaxLen holds a number.
  Images read: the contract of (*reader).rule, and a reader with objects of the walk's own beside it. Conditions: the lengths are bounded.
-/
import Derived.Test.YtpbojebnghcndaaGreatDoorImg
import Derived.Laws.IdiomStrings
import Derived.Laws.BitsAllLaws
import Derived.Test.YtpbojebnghcndaaGreatDoorShelf
namespace Go.Proofs.YtpbojebnghcndaaGreatDoor.Rd
open Go.RowKit Mem Img

/-- The panic of a reader. -/
abbrev badE : Ending := .panicked [{ v := .iface 30 (.int .i64 18), recovered := false }]
def Rd (w : World) (g : Nat) (l : List UInt8) : Prop := Blk w g 103 #[.string ⟨l.toArray⟩]
/-- What a reader's function leaves: its answer and what is left to be read, or the panic; nothing but the reader has turned. -/
def RP {α : Type} (enc : α → Value) (g : Nat) (w : World) (r : Option (α × List UInt8)) (e : Ending) (w' : World) : Prop :=
  w.grownBy w' (some g) ∧ match r with
    | some (v, rest) => e = .returned (enc v) ∧ Rd w' g rest
    | none => e = badE
theorem RP.ok {α : Type} {enc : α → Value} {g : Nat} {w : World} {v : α} {rest : List UInt8} {e : Ending} {w' : World} (h : RP enc g w (some (v, rest)) e w') : e = .returned (enc v) ∧ Rd w' g rest ∧ w.grownBy w' (some g) := ⟨h.2.1, h.2.2, h.1⟩
theorem RP.bad {α : Type} {enc : α → Value} {g : Nat} {w : World} {e : Ending} {w' : World} (h : RP enc g w none e w') : e = badE ∧ w.grownBy w' (some g) := ⟨h.2, h.1⟩

theorem World.grownBy_setCell (w : World) (p : Addr) (v : Value) {g : Nat} (hp : p.block = g) : w.grownBy (w.setCell p v) (some g) :=
  ⟨rfl, rfl, rfl, by simp [World.setCell], fun k _ hk => Below.heap_setCell _ _ _ _ (fun e => hk (by rw [e, hp]))⟩
def takeM (n : Nat) (l : List UInt8) : Option (List UInt8 × List UInt8) := if n ≤ l.length then some (l.take n, l.drop n) else none
abbrev strV (l : List UInt8) : Value := .string ⟨l.toArray⟩
theorem ext_take (l : List UInt8) (n : Nat) : (⟨l.toArray⟩ : ByteArray).extract 0 n = ⟨(l.take n).toArray⟩ := by
  apply ByteArray.ext
  simp [ByteArray.extract, ByteArray.copySlice]
theorem ext_drop (l : List UInt8) (n : Nat) : (⟨l.toArray⟩ : ByteArray).extract n l.length = ⟨(l.drop n).toArray⟩ := by
  apply ByteArray.ext
  simp [ByteArray.extract, ByteArray.copySlice]
  exact List.take_of_length_le (by simp)

set_option maxRecDepth 100000 in
theorem take_any (n : Nat) (g : Nat) (l : List UInt8) (w : World) (h : Rd w g l) (hn : n ≤ 140737488355328) :
    Calls Tryz.prog 103 #[.pointer (some ⟨g, 0, none⟩), .int .i64 n] w (RP strV g w (takeM n l)) := by
  go_enter Tryz.func103, Tryz.ntmps103
  have H := Lib.hid h; clear h
  have c0 := H.out.cell 0
  have f0 := H.out.frozen 0
  by_cases hle : n ≤ l.length
  · have hm : takeM n l = some (l.take n, l.drop n) := if_pos hle
    have Hm := Lib.hid hm; clear hm
    go_wp2
    go_ret
    rw [Hm.out]
    refine ⟨World.grownBy_setCell _ _ _ rfl, ?_, ?_⟩
    · rw [strV, ← ext_take]; rfl
    · have := H.out.set_ 0 (.string ((⟨l.toArray⟩ : ByteArray).extract n l.length))
      rw [ext_drop] at this
      simpa [Rd, ext_drop] using this
  · have hm : takeM n l = none := if_neg hle
    have Hm := Lib.hid hm; clear hm
    go_wp2
    refine ⟨rfl, ?_⟩
    show RP strV g w (takeM n l) badE w
    rw [Hm.out]
    exact ⟨World.grownBy.refl w _, rfl⟩

/-- The number of bytes, the highest first. -/
def numU (l : List UInt8) : Nat := l.foldl (fun n c => n * 256 + c.toNat) 0
theorem numU_snoc (l : List UInt8) (c : UInt8) : numU (l ++ [c]) = numU l * 256 + c.toNat := by simp [numU, List.foldl_append]
def numM (q : IntKind) (k : Nat) (l : List UInt8) : Option (Int × List UInt8) := (takeM k l).map fun x => (q.wrap (numU x.1), x.2)

theorem gr2 {w w1 w2 : World} {g : Nat} (h : w.grownBy w1 (some g)) (k : w1.grownBy w2 none) : w.grownBy w2 (some g) :=
  ⟨k.os.trans h.os, k.tape.trans h.tape, k.output.trans h.output, Nat.le_trans h.size k.size, fun j hj hne => (k.block j (Nat.lt_of_lt_of_le hj h.size) (by simp)).trans (h.block j hj hne)⟩
theorem gr3 {w w1 w2 : World} {r : Option Nat} (h : w.grownBy w1 r) (k : w1.grownBy w2 r) : w.grownBy w2 r :=
  ⟨k.os.trans h.os, k.tape.trans h.tape, k.output.trans h.output, Nat.le_trans h.size k.size, fun j hj hne => (k.block j (Nat.lt_of_lt_of_le hj h.size) hne).trans (h.block j hj hne)⟩
theorem or_i64 (y b : Int) (hy : y % 256 = 0) (hb : 0 ≤ b ∧ b < 256) : bits .or .i64 y b = IntKind.i64.wrap (y + b) := by
  show IntKind.i64.wrap ((BitVec.ofInt 64 y ||| BitVec.ofInt 64 b).toNat : Int) = _
  rw [BitVec.toNat_or, BitVec.toNat_ofInt, BitVec.toNat_ofInt]
  have h1 : (b % ((2 ^ 64 : Nat) : Int)).toNat = b.toNat := by congr 1; omega
  rw [h1]
  obtain ⟨Y, hY⟩ : ∃ Y : Nat, (y % ((2 ^ 64 : Nat) : Int)).toNat = Y <<< 8 := ⟨(y % ((2 ^ 64 : Nat) : Int)).toNat / 256, by rw [Nat.shiftLeft_eq]; omega⟩
  rw [hY, ← Nat.shiftLeft_add_eq_or_of_lt (by omega : b.toNat < 2 ^ 8), ← hY, IntKind.wrap_i64, IntKind.wrap_i64]
  omega
theorem w64 (x : Int) : ∃ t, wrap64 x = x + 18446744073709551616 * t := ⟨-((x + 9223372036854775808) / 18446744073709551616), by unfold wrap64; omega⟩
theorem i64w (x : Int) : ∃ t, IntKind.i64.wrap x = x + 18446744073709551616 * t := ⟨-((x + 9223372036854775808) / 18446744073709551616), by rw [IntKind.wrap_i64]; omega⟩
theorem i64_small (b : Nat) (hb : b < 256) : wrap64 b = b := by unfold wrap64; omega
theorem or_step (n : Int) (b : Nat) (hb : b < 256) : ∃ t, bits .or .i64 (wrap64 (wrap64 n * 256)) (wrap64 b) = n * 256 + b + 18446744073709551616 * t := by
  obtain ⟨t1, h1⟩ := w64 n
  obtain ⟨t2, h2⟩ := w64 (wrap64 n * 256)
  rw [i64_small b hb, or_i64 _ _ (by rw [h2]; omega) (by omega)]
  obtain ⟨t3, h3⟩ := i64w (wrap64 (wrap64 n * 256) + b)
  rw [h3, h2, h1]
  exact ⟨256 * t1 + t2 + t3, by omega⟩
theorem step_u32 (M b : Nat) (hb : b < 256) : bits .or .i64 (wrap64 (wrap64 ((M : Int) % 4294967296) * 256)) (wrap64 b) % 4294967296 = IntKind.u32.wrap ((M * 256 + b : Nat) : Int) := by
  obtain ⟨t, h⟩ := or_step ((M : Int) % 4294967296) b hb
  rw [h, IntKind.wrap_u32]
  omega
theorem step_u8 (M b : Nat) (hb : b < 256) : bits .or .i64 (wrap64 (wrap64 ((M : Int) % 256) * 256)) (wrap64 b) % 256 = IntKind.u8.wrap ((M * 256 + b : Nat) : Int) := by
  obtain ⟨t, h⟩ := or_step ((M : Int) % 256) b hb
  rw [h, IntKind.wrap_u8]
  omega
theorem step_i64 (M b : Nat) (hb : b < 256) : bits .or .i64 (wrap64 (wrap64 (M : Int) * 256)) (wrap64 b) = IntKind.i64.wrap ((M * 256 + b : Nat) : Int) := by
  obtain ⟨t1, h1⟩ := w64 M
  obtain ⟨t2, h2⟩ := w64 (wrap64 M * 256)
  rw [i64_small b hb, or_i64 _ _ (by rw [h2]; omega) (by omega), h2, h1, IntKind.wrap_i64, IntKind.wrap_i64]
  omega
theorem step_i32 (M b : Nat) (hb : b < 256) : wrap32 (bits .or .i64 (wrap64 (wrap64 (wrap32 M) * 256)) (wrap64 b)) = IntKind.i32.wrap ((M * 256 + b : Nat) : Int) := by
  obtain ⟨t, h⟩ := or_step (wrap32 M) b hb
  obtain ⟨s, hs⟩ : ∃ s, wrap32 (M : Int) = M + 4294967296 * s := ⟨-((M + 2147483648) / 4294967296), by unfold wrap32; omega⟩
  rw [h, hs, IntKind.wrap_i32]
  unfold wrap32
  omega
theorem step_u16 (M b : Nat) (hb : b < 256) : IntKind.u16.wrap (bits .or .i64 (wrap64 (wrap64 (IntKind.u16.wrap M) * 256)) (wrap64 b)) = IntKind.u16.wrap ((M * 256 + b : Nat) : Int) := by
  obtain ⟨t, h⟩ := or_step (IntKind.u16.wrap M) b hb
  rw [h, IntKind.wrap_u16, IntKind.wrap_u16, IntKind.wrap_u16]
  omega
theorem bytes_of (w : World) (bs : List UInt8) : ∃ cap w2, (convert 9 84 (.string ⟨bs.toArray⟩)).run Tryz.prog w = .ok (.slice (some ⟨w.heap.size, 0, none⟩) bs.length cap) w2 ∧ w.grownBy w2 none ∧
    ∀ j (hj : j < bs.length), w2.cell? ⟨w.heap.size, j, none⟩ = some (.int .u8 (bs[j].toNat : Int)) := by
  refine ⟨_, _, run_bytes_of_string w _ _ _ ⟨bs.toArray⟩ Tryz.underlying9 Tryz.underlying84 Tryz.underlying5, ⟨rfl, rfl, rfl, by simp, fun _ hk _ => heap_alloc_old w.drew _ hk⟩, fun j hj => ?_⟩
  rw [show w.heap.size = w.drew.heap.size from rfl, World.cell?_alloc_mark]
  simp [bytesRow]
  rw [Array.getElem?_append_left (by simp; exact hj)]
  simp [hj]

set_option maxRecDepth 100000 in
theorem num_u32 (k : Nat) (g : Nat) (l : List UInt8) (w : World) (h : Rd w g l) (hk : k ≤ 8) :
    Calls Tryz.prog 107 #[.pointer (some ⟨g, 0, none⟩), .int .i64 k] w (RP (Value.int .u32) g w (numM .u32 k l)) := by
  go_enter Tryz.func107, Tryz.ntmps107
  have H := Lib.hid h; clear h
  have Ht := Lib.hid (take_any k g l w H.out (by omega))
  cases ht : takeM k l with
  | none =>
    rw [ht] at Ht
    have hm : numM .u32 k l = none := by rw [numM, ht]; rfl
    rw [hm]
    clear hm ht
    go_wp2_with (go_at_call 103; refine Ht.out.mono ?_; rintro e w1 hr; obtain ⟨rfl, hg⟩ := hr.bad; have Hg := Lib.hid hg; clear hr hg)
    exact ⟨rfl, Hg.out, rfl⟩
  | some x =>
    obtain ⟨bs, rest⟩ := x
    rw [ht] at Ht
    have hm : numM .u32 k l = some (IntKind.u32.wrap (numU bs), rest) := by rw [numM, ht]; rfl
    rw [hm]
    have hbl : bs.length = k := by
      unfold takeM at ht
      split at ht
      · injection ht with ht; injection ht with h1 h2; rw [← h1, List.length_take]; omega
      · cases ht
    clear hm ht
    go_wp2_with (go_at_call 103; refine Ht.out.mono ?_; rintro e w1 hr; obtain ⟨rfl, hrd, hg⟩ := hr.ok; obtain ⟨cap, w2, hconv, hg2, hc2⟩ := bytes_of w1 bs; have Hrd := Lib.hid hrd; have Hg := Lib.hid hg; have Hg2 := Lib.hid hg2; have Hc2 := Lib.hid hc2; clear hr hg hrd hg2 hc2)
    go_loopw [5, 13] (fun n i wr => ∃ j : Nat, j ≤ k ∧ i = .int .i64 j ∧ n = .int .u32 (IntKind.u32.wrap (numU (bs.take j))) ∧ wr = w2) (fun _ i _ => k - (intOf i).toNat)
    case atStart => exact ⟨0, Nat.zero_le _, rfl, rfl, rfl⟩
    case round =>
      obtain ⟨j, hj, rfl, rfl, rfl⟩ := hrel
      by_cases hjk : j < k
      · have hcc := Hc2.out j (by omega)
        have ad : Addr.add ⟨w1.heap.size, 0, none⟩ j = ⟨w1.heap.size, j, none⟩ := by unfold Addr.add; split <;> simp_all
        generalize hb : bs[j]'(by omega) = b at *
        have Hb := Lib.hid hb; clear hb
        go_wp2
        refine ⟨⟨j + 1, by omega, by go_num, ?_, trivial⟩, by simp [intOf]; omega⟩
        rw [List.take_succ_eq_append_getElem (by omega), numU_snoc, Hb.out]
        congr 1
        generalize numU (bs.take j) = M
        have hb2 : b.toNat < 256 := b.toNat_lt
        exact step_u32 M b.toNat (by omega)
      · obtain rfl : j = k := by omega
        rw [List.take_of_length_le (by omega)]
        go_wp2
        go_ret
        exact ⟨gr2 Hg.out Hg2.out, rfl, Hrd.out.grown Hg2.out (by simp)⟩
set_option maxRecDepth 100000 in
theorem num_u8 (k : Nat) (g : Nat) (l : List UInt8) (w : World) (h : Rd w g l) (hk : k ≤ 8) :
    Calls Tryz.prog 110 #[.pointer (some ⟨g, 0, none⟩), .int .i64 k] w (RP (Value.int .u8) g w (numM .u8 k l)) := by
  go_enter Tryz.func110, Tryz.ntmps110
  have H := Lib.hid h; clear h
  have Ht := Lib.hid (take_any k g l w H.out (by omega))
  cases ht : takeM k l with
  | none =>
    rw [ht] at Ht
    have hm : numM .u8 k l = none := by rw [numM, ht]; rfl
    rw [hm]
    clear hm ht
    go_wp2_with (go_at_call 103; refine Ht.out.mono ?_; rintro e w1 hr; obtain ⟨rfl, hg⟩ := hr.bad; have Hg := Lib.hid hg; clear hr hg)
    exact ⟨rfl, Hg.out, rfl⟩
  | some x =>
    obtain ⟨bs, rest⟩ := x
    rw [ht] at Ht
    have hm : numM .u8 k l = some (IntKind.u8.wrap (numU bs), rest) := by rw [numM, ht]; rfl
    rw [hm]
    have hbl : bs.length = k := by
      unfold takeM at ht
      split at ht
      · injection ht with ht; injection ht with h1 h2; rw [← h1, List.length_take]; omega
      · cases ht
    clear hm ht
    go_wp2_with (go_at_call 103; refine Ht.out.mono ?_; rintro e w1 hr; obtain ⟨rfl, hrd, hg⟩ := hr.ok; obtain ⟨cap, w2, hconv, hg2, hc2⟩ := bytes_of w1 bs; have Hrd := Lib.hid hrd; have Hg := Lib.hid hg; have Hg2 := Lib.hid hg2; have Hc2 := Lib.hid hc2; clear hr hg hrd hg2 hc2)
    go_loopw [5, 13] (fun n i wr => ∃ j : Nat, j ≤ k ∧ i = .int .i64 j ∧ n = .int .u8 (IntKind.u8.wrap (numU (bs.take j))) ∧ wr = w2) (fun _ i _ => k - (intOf i).toNat)
    case atStart => exact ⟨0, Nat.zero_le _, rfl, rfl, rfl⟩
    case round =>
      obtain ⟨j, hj, rfl, rfl, rfl⟩ := hrel
      by_cases hjk : j < k
      · have hcc := Hc2.out j (by omega)
        have ad : Addr.add ⟨w1.heap.size, 0, none⟩ j = ⟨w1.heap.size, j, none⟩ := by unfold Addr.add; split <;> simp_all
        generalize hb : bs[j]'(by omega) = b at *
        have Hb := Lib.hid hb; clear hb
        go_wp2
        refine ⟨⟨j + 1, by omega, by go_num, ?_, trivial⟩, by simp [intOf]; omega⟩
        rw [List.take_succ_eq_append_getElem (by omega), numU_snoc, Hb.out]
        congr 1
        generalize numU (bs.take j) = M
        have hb2 : b.toNat < 256 := b.toNat_lt
        exact step_u8 M b.toNat (by omega)
      · obtain rfl : j = k := by omega
        rw [List.take_of_length_le (by omega)]
        go_wp2
        go_ret
        exact ⟨gr2 Hg.out Hg2.out, rfl, Hrd.out.grown Hg2.out (by simp)⟩
set_option maxRecDepth 100000 in
theorem num_i64 (k : Nat) (g : Nat) (l : List UInt8) (w : World) (h : Rd w g l) (hk : k ≤ 8) :
    Calls Tryz.prog 106 #[.pointer (some ⟨g, 0, none⟩), .int .i64 k] w (RP (Value.int .i64) g w (numM .i64 k l)) := by
  go_enter Tryz.func106, Tryz.ntmps106
  have H := Lib.hid h; clear h
  have Ht := Lib.hid (take_any k g l w H.out (by omega))
  cases ht : takeM k l with
  | none =>
    rw [ht] at Ht
    have hm : numM .i64 k l = none := by rw [numM, ht]; rfl
    rw [hm]
    clear hm ht
    go_wp2_with (go_at_call 103; refine Ht.out.mono ?_; rintro e w1 hr; obtain ⟨rfl, hg⟩ := hr.bad; have Hg := Lib.hid hg; clear hr hg)
    exact ⟨rfl, Hg.out, rfl⟩
  | some x =>
    obtain ⟨bs, rest⟩ := x
    rw [ht] at Ht
    have hm : numM .i64 k l = some (IntKind.i64.wrap (numU bs), rest) := by rw [numM, ht]; rfl
    rw [hm]
    have hbl : bs.length = k := by
      unfold takeM at ht
      split at ht
      · injection ht with ht; injection ht with h1 h2; rw [← h1, List.length_take]; omega
      · cases ht
    clear hm ht
    go_wp2_with (go_at_call 103; refine Ht.out.mono ?_; rintro e w1 hr; obtain ⟨rfl, hrd, hg⟩ := hr.ok; obtain ⟨cap, w2, hconv, hg2, hc2⟩ := bytes_of w1 bs; have Hrd := Lib.hid hrd; have Hg := Lib.hid hg; have Hg2 := Lib.hid hg2; have Hc2 := Lib.hid hc2; clear hr hg hrd hg2 hc2)
    go_loopw [5, 13] (fun n i wr => ∃ j : Nat, j ≤ k ∧ i = .int .i64 j ∧ n = .int .i64 (IntKind.i64.wrap (numU (bs.take j))) ∧ wr = w2) (fun _ i _ => k - (intOf i).toNat)
    case atStart => exact ⟨0, Nat.zero_le _, rfl, rfl, rfl⟩
    case round =>
      obtain ⟨j, hj, rfl, rfl, rfl⟩ := hrel
      by_cases hjk : j < k
      · have hcc := Hc2.out j (by omega)
        have ad : Addr.add ⟨w1.heap.size, 0, none⟩ j = ⟨w1.heap.size, j, none⟩ := by unfold Addr.add; split <;> simp_all
        generalize hb : bs[j]'(by omega) = b at *
        have Hb := Lib.hid hb; clear hb
        go_wp2
        refine ⟨⟨j + 1, by omega, by go_num, ?_, trivial⟩, by simp [intOf]; omega⟩
        rw [List.take_succ_eq_append_getElem (by omega), numU_snoc, Hb.out]
        congr 1
        generalize numU (bs.take j) = M
        have hb2 : b.toNat < 256 := b.toNat_lt
        exact step_i64 M b.toNat (by omega)
      · obtain rfl : j = k := by omega
        rw [List.take_of_length_le (by omega)]
        go_wp2
        go_ret
        exact ⟨gr2 Hg.out Hg2.out, rfl, Hrd.out.grown Hg2.out (by simp)⟩
set_option maxRecDepth 100000 in
theorem num_i32 (k : Nat) (g : Nat) (l : List UInt8) (w : World) (h : Rd w g l) (hk : k ≤ 8) :
    Calls Tryz.prog 108 #[.pointer (some ⟨g, 0, none⟩), .int .i64 k] w (RP (Value.int .i32) g w (numM .i32 k l)) := by
  go_enter Tryz.func108, Tryz.ntmps108
  have H := Lib.hid h; clear h
  have Ht := Lib.hid (take_any k g l w H.out (by omega))
  cases ht : takeM k l with
  | none =>
    rw [ht] at Ht
    have hm : numM .i32 k l = none := by rw [numM, ht]; rfl
    rw [hm]
    clear hm ht
    go_wp2_with (go_at_call 103; refine Ht.out.mono ?_; rintro e w1 hr; obtain ⟨rfl, hg⟩ := hr.bad; have Hg := Lib.hid hg; clear hr hg)
    exact ⟨rfl, Hg.out, rfl⟩
  | some x =>
    obtain ⟨bs, rest⟩ := x
    rw [ht] at Ht
    have hm : numM .i32 k l = some (IntKind.i32.wrap (numU bs), rest) := by rw [numM, ht]; rfl
    rw [hm]
    have hbl : bs.length = k := by
      unfold takeM at ht
      split at ht
      · injection ht with ht; injection ht with h1 h2; rw [← h1, List.length_take]; omega
      · cases ht
    clear hm ht
    go_wp2_with (go_at_call 103; refine Ht.out.mono ?_; rintro e w1 hr; obtain ⟨rfl, hrd, hg⟩ := hr.ok; obtain ⟨cap, w2, hconv, hg2, hc2⟩ := bytes_of w1 bs; have Hrd := Lib.hid hrd; have Hg := Lib.hid hg; have Hg2 := Lib.hid hg2; have Hc2 := Lib.hid hc2; clear hr hg hrd hg2 hc2)
    go_loopw [5, 13] (fun n i wr => ∃ j : Nat, j ≤ k ∧ i = .int .i64 j ∧ n = .int .i32 (IntKind.i32.wrap (numU (bs.take j))) ∧ wr = w2) (fun _ i _ => k - (intOf i).toNat)
    case atStart => exact ⟨0, Nat.zero_le _, rfl, rfl, rfl⟩
    case round =>
      obtain ⟨j, hj, rfl, rfl, rfl⟩ := hrel
      by_cases hjk : j < k
      · have hcc := Hc2.out j (by omega)
        have ad : Addr.add ⟨w1.heap.size, 0, none⟩ j = ⟨w1.heap.size, j, none⟩ := by unfold Addr.add; split <;> simp_all
        generalize hb : bs[j]'(by omega) = b at *
        have Hb := Lib.hid hb; clear hb
        go_wp2
        refine ⟨⟨j + 1, by omega, by go_num, ?_, trivial⟩, by simp [intOf]; omega⟩
        rw [List.take_succ_eq_append_getElem (by omega), numU_snoc, Hb.out]
        congr 1
        generalize numU (bs.take j) = M
        have hb2 : b.toNat < 256 := b.toNat_lt
        exact step_i32 M b.toNat (by omega)
      · obtain rfl : j = k := by omega
        rw [List.take_of_length_le (by omega)]
        go_wp2
        go_ret
        exact ⟨gr2 Hg.out Hg2.out, rfl, Hrd.out.grown Hg2.out (by simp)⟩
set_option maxRecDepth 100000 in
theorem num_u16 (k : Nat) (g : Nat) (l : List UInt8) (w : World) (h : Rd w g l) (hk : k ≤ 8) :
    Calls Tryz.prog 172 #[.pointer (some ⟨g, 0, none⟩), .int .i64 k] w (RP (Value.int .u16) g w (numM .u16 k l)) := by
  go_enter Tryz.func172, Tryz.ntmps172
  have H := Lib.hid h; clear h
  have Ht := Lib.hid (take_any k g l w H.out (by omega))
  cases ht : takeM k l with
  | none =>
    rw [ht] at Ht
    have hm : numM .u16 k l = none := by rw [numM, ht]; rfl
    rw [hm]
    clear hm ht
    go_wp2_with (go_at_call 103; refine Ht.out.mono ?_; rintro e w1 hr; obtain ⟨rfl, hg⟩ := hr.bad; have Hg := Lib.hid hg; clear hr hg)
    exact ⟨rfl, Hg.out, rfl⟩
  | some x =>
    obtain ⟨bs, rest⟩ := x
    rw [ht] at Ht
    have hm : numM .u16 k l = some (IntKind.u16.wrap (numU bs), rest) := by rw [numM, ht]; rfl
    rw [hm]
    have hbl : bs.length = k := by
      unfold takeM at ht
      split at ht
      · injection ht with ht; injection ht with h1 h2; rw [← h1, List.length_take]; omega
      · cases ht
    clear hm ht
    go_wp2_with (go_at_call 103; refine Ht.out.mono ?_; rintro e w1 hr; obtain ⟨rfl, hrd, hg⟩ := hr.ok; obtain ⟨cap, w2, hconv, hg2, hc2⟩ := bytes_of w1 bs; have Hrd := Lib.hid hrd; have Hg := Lib.hid hg; have Hg2 := Lib.hid hg2; have Hc2 := Lib.hid hc2; clear hr hg hrd hg2 hc2)
    go_loopw [5, 13] (fun n i wr => ∃ j : Nat, j ≤ k ∧ i = .int .i64 j ∧ n = .int .u16 (IntKind.u16.wrap (numU (bs.take j))) ∧ wr = w2) (fun _ i _ => k - (intOf i).toNat)
    case atStart => exact ⟨0, Nat.zero_le _, rfl, rfl, rfl⟩
    case round =>
      obtain ⟨j, hj, rfl, rfl, rfl⟩ := hrel
      by_cases hjk : j < k
      · have hcc := Hc2.out j (by omega)
        have ad : Addr.add ⟨w1.heap.size, 0, none⟩ j = ⟨w1.heap.size, j, none⟩ := by unfold Addr.add; split <;> simp_all
        generalize hb : bs[j]'(by omega) = b at *
        have Hb := Lib.hid hb; clear hb
        go_wp2
        refine ⟨⟨j + 1, by omega, by go_num, ?_, trivial⟩, by simp [intOf]; omega⟩
        rw [List.take_succ_eq_append_getElem (by omega), numU_snoc, Hb.out]
        congr 1
        generalize numU (bs.take j) = M
        have hb2 : b.toNat < 256 := b.toNat_lt
        exact step_u16 M b.toNat (by omega)
      · obtain rfl : j = k := by omega
        rw [List.take_of_length_le (by omega)]
        go_wp2
        go_ret
        exact ⟨gr2 Hg.out Hg2.out, rfl, Hrd.out.grown Hg2.out (by simp)⟩
end Go.Proofs.YtpbojebnghcndaaGreatDoor.Rd
namespace Go.Proofs.YtpbojebnghcndaaGreatDoor.Rd
open Go.RowKit Mem Img

def shortM (l : List UInt8) : Option (List UInt8 × List UInt8) := (numM .u8 1 l).bind fun x => takeM x.1.toNat x.2
def manyM (b : Nat) (l : List UInt8) : Option (Int × List UInt8) := (numM .u32 4 l).bind fun x => if (x.2.length : Int) < x.1 * b then none else some x
theorem numM_u8 {k : Nat} {l rest : List UInt8} {n : Int} (h : numM .u8 k l = some (n, rest)) : 0 ≤ n ∧ n < 256 ∧ rest.length ≤ l.length := by
  unfold numM takeM at h
  split at h
  · simp only [Option.map_some, Option.some.injEq, Prod.mk.injEq] at h
    rw [IntKind.wrap_u8] at h
    refine ⟨by omega, by omega, ?_⟩
    rw [← h.2, List.length_drop]
    omega
  · cases h
theorem numM_u32 {k : Nat} {l rest : List UInt8} {n : Int} (h : numM .u32 k l = some (n, rest)) : 0 ≤ n ∧ n < 4294967296 ∧ rest.length ≤ l.length := by
  unfold numM takeM at h
  split at h
  · simp only [Option.map_some, Option.some.injEq, Prod.mk.injEq] at h
    rw [IntKind.wrap_u32] at h
    refine ⟨by omega, by omega, ?_⟩
    rw [← h.2, List.length_drop]
    omega
  · cases h

set_option maxRecDepth 100000 in
theorem short_any (g : Nat) (l : List UInt8) (w : World) (h : Rd w g l) :
    Calls Tryz.prog 104 #[.pointer (some ⟨g, 0, none⟩)] w (RP strV g w (shortM l)) := by
  go_enter Tryz.func104, Tryz.ntmps104
  have Hn := Lib.hid (num_u8 1 g l w h (by omega)); clear h
  cases hm : numM .u8 1 l with
  | none =>
    rw [hm] at Hn
    have : shortM l = none := by rw [shortM, hm]; rfl
    rw [this]
    clear this hm
    go_wp2_with (go_at_call 110; refine Hn.out.mono ?_; rintro e w1 hr; obtain ⟨rfl, hg⟩ := hr.bad; have Hg := Lib.hid hg; clear hr hg)
    exact ⟨rfl, Hg.out, rfl⟩
  | some x =>
    obtain ⟨n, rest⟩ := x
    rw [hm] at Hn
    obtain ⟨h0, h1, _⟩ := numM_u8 hm
    have hs : shortM l = takeM n.toNat rest := by rw [shortM, hm]; rfl
    rw [hs]
    clear hs hm
    obtain ⟨k, rfl⟩ : ∃ k : Nat, n = k := ⟨n.toNat, by omega⟩
    have hk : k < 256 := by omega
    simp only [Int.toNat_natCast]
    cases ht : takeM k rest with
    | none =>
      go_wp2_with (first
        | (go_at_call 110; refine Hn.out.mono ?_; rintro e w1 hr; obtain ⟨rfl, hrd, hg⟩ := hr.ok; have Hg := Lib.hid hg; have Hrd := Lib.hid hrd; clear hr hg hrd)
        | (go_at_call 103; refine (take_any k g rest w1 Hrd.out (by omega)).mono ?_; rintro e w2 hr; rw [ht] at hr; obtain ⟨rfl, hg⟩ := hr.bad; have Hg2 := Lib.hid hg; clear hr hg))
      exact ⟨rfl, gr3 Hg.out Hg2.out, rfl⟩
    | some y =>
      obtain ⟨s, r2⟩ := y
      go_wp2_with (first
        | (go_at_call 110; refine Hn.out.mono ?_; rintro e w1 hr; obtain ⟨rfl, hrd, hg⟩ := hr.ok; have Hg := Lib.hid hg; have Hrd := Lib.hid hrd; clear hr hg hrd)
        | (go_at_call 103; refine (take_any k g rest w1 Hrd.out (by omega)).mono ?_; rintro e w2 hr; rw [ht] at hr; obtain ⟨rfl, hrd2, hg⟩ := hr.ok; have Hg2 := Lib.hid hg; have Hrd2 := Lib.hid hrd2; clear hr hg hrd2))
      go_ret
      exact ⟨gr3 Hg.out Hg2.out, rfl, Hrd2.out⟩

set_option maxRecDepth 100000 in
theorem many_any (b : Nat) (g : Nat) (l : List UInt8) (w : World) (h : Rd w g l) (hb : b ≤ 100) :
    Calls Tryz.prog 105 #[.pointer (some ⟨g, 0, none⟩), .int .i64 b] w (RP (Value.int .i64) g w (manyM b l)) := by
  go_enter Tryz.func105, Tryz.ntmps105
  have Hn := Lib.hid (num_u32 4 g l w h (by omega)); clear h
  cases hm : numM .u32 4 l with
  | none =>
    rw [hm] at Hn
    have : manyM b l = none := by rw [manyM, hm]; rfl
    rw [this]
    clear this hm
    go_wp2_with (go_at_call 107; refine Hn.out.mono ?_; rintro e w1 hr; obtain ⟨rfl, hg⟩ := hr.bad; have Hg := Lib.hid hg; clear hr hg)
    exact ⟨rfl, Hg.out, rfl⟩
  | some x =>
    obtain ⟨n, rest⟩ := x
    rw [hm] at Hn
    obtain ⟨h0, h1, h2⟩ := numM_u32 hm
    have hs : manyM b l = if (rest.length : Int) < n * b then none else some (n, rest) := by rw [manyM, hm]; rfl
    rw [hs]
    clear hs hm
    have hnb : n * b ≤ 429496729600 := by
      have : n * b ≤ 4294967296 * 100 := Int.mul_le_mul (by omega) (by omega) (by omega) (by omega)
      omega
    have hnb0 : 0 ≤ n * b := Int.mul_nonneg h0 (by omega)
    by_cases hc : (rest.length : Int) < n * b
    · rw [if_pos hc]
      go_wp2_with (go_at_call 107; refine Hn.out.mono ?_; rintro e w1 hr; obtain ⟨rfl, hrd, hg⟩ := hr.ok; have Hg := Lib.hid hg; have Hrd := Lib.hid hrd; have c0 := hrd.cell 0; clear hr hg hrd)
      exact ⟨rfl, Hg.out, rfl⟩
    · rw [if_neg hc]
      go_wp2_with (go_at_call 107; refine Hn.out.mono ?_; rintro e w1 hr; obtain ⟨rfl, hrd, hg⟩ := hr.ok; have Hg := Lib.hid hg; have Hrd := Lib.hid hrd; have c0 := hrd.cell 0; clear hr hg hrd)
      go_ret
      exact ⟨Hg.out, rfl, Hrd.out⟩

/-- A text of a pool: from a place on, up to the next byte 0. -/
def abbrM (pool : List UInt8) (at_ : Nat) : Option (List UInt8) :=
  if pool.length ≤ at_ then none else if (Lib.cut (pool.drop at_) [0]).2.2 = true then some (Lib.cut (pool.drop at_) [0]).1 else none

set_option maxRecDepth 100000 in
theorem abbr_any (pool : List UInt8) (at_ : Nat) (m : Int) (w : World) (hp : pool.length < 4294967281) (ha : at_ < 4294967296) (hm : w.cell? ⟨0, 0, none⟩ = some (.int .i64 m)) :
    Calls Tryz.prog 109 #[.string ⟨pool.toArray⟩, .int .u32 at_] w fun e w' => (match abbrM pool at_ with | some s => e = .returned (strV s) | none => e = badE) ∧ ∃ n, w' = w.drewN n := by
  go_enter Tryz.func109, Tryz.ntmps109
  by_cases hle : pool.length ≤ at_
  · have : abbrM pool at_ = none := if_pos hle
    rw [this]
    clear this
    go_wp2
    exact ⟨rfl, rfl, 0, rfl⟩
  · have hd : (⟨pool.toArray⟩ : ByteArray).extract at_ pool.length = ⟨(pool.drop at_).toArray⟩ := ext_drop pool at_
    have Hc := Lib.hid (Tryz.strings_Cut ⟨(pool.drop at_).toArray⟩ ⟨#[0]⟩ m w (by show (pool.drop at_).length < _; rw [List.length_drop]; omega) hm)
    have hA : abbrM pool at_ = if (Lib.cut (pool.drop at_) [0]).2.2 = true then some (Lib.cut (pool.drop at_) [0]).1 else none := if_neg hle
    rw [hA]
    clear hA hm
    have hc2 : (Lib.cut (⟨(pool.drop at_).toArray⟩ : ByteArray).data.toList (⟨#[0]⟩ : ByteArray).data.toList) = Lib.cut (pool.drop at_) [0] := rfl
    rw [hc2] at Hc
    clear hc2
    generalize Lib.cut (pool.drop at_) [0] = q at *
    obtain ⟨q1, q2, q3⟩ := q
    simp only at Hc
    cases q3
    all_goals go_wp2_with (go_at_call 121; refine Hc.out.mono ?_; rintro e w1 ⟨rfl, hw⟩; have Hw := Lib.hid hw; clear hw)
    · exact ⟨rfl, rfl, Hw.out⟩
    · go_ret
      exact ⟨rfl, Hw.out⟩
end Go.Proofs.YtpbojebnghcndaaGreatDoor.Rd
namespace Go.Proofs.YtpbojebnghcndaaGreatDoor.Rd
open Go.RowKit Mem Img

/-- A reader, and objects of the walk's own beside it. -/
def RS (w0 : World) (g : Nat) (os : List (Nat × TypeId × Array Value)) (l : List UInt8) (w : World) : Prop :=
  Rd w g l ∧ w0.grownBy w (some g) ∧ (∀ x ∈ os, Blk w x.1 x.2.1 x.2.2 ∧ x.1 ≠ g ∧ w0.heap.size ≤ x.1) ∧ (os.map (·.1)).Nodup
section
variable {w0 w w' : World} {g : Nat} {os : List (Nat × TypeId × Array Value)} {l l' : List UInt8}
theorem RS.start (h : Rd w g l) : RS w g [] l w := ⟨h, World.grownBy.refl w _, by simp, by simp⟩
theorem RS.rd (h : RS w0 g os l w) : Rd w g l := h.1
theorem RS.out (h : RS w0 g os l w) : w0.grownBy w (some g) := h.2.1
theorem RS.step (h : RS w0 g os l w) (hr : Rd w' g l') (hg : w.grownBy w' (some g)) : RS w0 g os l' w' :=
  ⟨hr, gr3 h.2.1 hg, fun x hx => ⟨(h.2.2.1 x hx).1.grown hg (by simpa using (h.2.2.1 x hx).2.1), (h.2.2.1 x hx).2⟩, h.2.2.2⟩
theorem grown_alloc (w : World) (o : Obj) : w.grownBy (w.alloc o) none := ⟨rfl, rfl, rfl, by simp, fun k hk _ => Below.heap_alloc w o k hk⟩
theorem RS.new {t : TypeId} {cs : Array Value} (h : RS w0 g os l w) : RS w0 g ((w.heap.size, t, cs) :: os) l (w.alloc (.cells cs t)) := by
  have hn : ∀ x ∈ os, x.1 < w.heap.size := fun x hx => (h.2.2.1 x hx).1.lt
  have hg : g < w.heap.size := Blk.lt h.1
  refine ⟨Blk.alloc h.1 _, gr2 h.2.1 (grown_alloc w _), ?_, ?_⟩
  · intro x hx
    rcases List.mem_cons.1 hx with rfl | hx
    · exact ⟨Blk.new w t cs, by simp; omega, h.2.1.size⟩
    · exact ⟨(h.2.2.1 x hx).1.alloc _, (h.2.2.1 x hx).2⟩
  · simp only [List.map_cons, List.nodup_cons]
    refine ⟨fun hm => ?_, h.2.2.2⟩
    obtain ⟨x, hx, e⟩ := List.mem_map.1 hm
    have := hn x hx
    omega
theorem RS.blk (h : RS w0 g os l w) {b : Nat} {t : TypeId} {cs : Array Value} (hx : (b, t, cs) ∈ os) : Blk w b t cs := (h.2.2.1 _ hx).1
theorem RS.old (h : RS w0 g os l w) {b : Nat} {t : TypeId} {cs : Array Value} (hx : (b, t, cs) ∈ os) : b ≠ g ∧ w0.heap.size ≤ b := (h.2.2.1 _ hx).2
theorem grown_set {r : Option Nat} (h : w0.grownBy w r) {p : Addr} (v : Value) (hp : w0.heap.size ≤ p.block) : w0.grownBy (w.setCell p v) r :=
  ⟨h.os, h.tape, h.output, by simpa [World.setCell] using h.size, fun k hk hne => (Below.heap_setCell _ _ _ _ (by omega)).trans (h.block k hk hne)⟩
theorem RS.front {x y z : Nat × TypeId × Array Value} (h : RS w0 g (x :: y :: z :: os) l w) : RS w0 g (z :: x :: y :: os) l w := by
  obtain ⟨h1, h2, h3, h4⟩ := h
  refine ⟨h1, h2, fun u hu => h3 u ?_, ?_⟩
  · simp only [List.mem_cons] at hu ⊢
    rcases hu with h | h | h | h
    · exact .inr (.inr (.inl h))
    · exact .inl h
    · exact .inr (.inl h)
    · exact .inr (.inr (.inr h))
  · simp only [List.map_cons, List.nodup_cons, List.mem_cons] at h4 ⊢
    obtain ⟨h5, h6, h7, h8⟩ := h4
    exact ⟨fun e => e.elim (fun e => h5 (.inr (.inl e.symm))) fun e => e.elim (fun e => h6 (.inl e.symm)) h7, fun e => e.elim (fun e => h5 (.inl e)) fun e => h5 (.inr (.inr e)), fun e => h6 (.inr e), h8⟩
theorem RS.swap {x y : Nat × TypeId × Array Value} (h : RS w0 g (x :: y :: os) l w) : RS w0 g (y :: x :: os) l w := by
  obtain ⟨h1, h2, h3, h4⟩ := h
  refine ⟨h1, h2, fun z hz => h3 z ?_, ?_⟩
  · simp only [List.mem_cons] at hz ⊢
    rcases hz with h | h | h
    · exact .inr (.inl h)
    · exact .inl h
    · exact .inr (.inr h)
  · simp only [List.map_cons, List.nodup_cons, List.mem_cons] at h4 ⊢
    obtain ⟨h5, h6, h7⟩ := h4
    exact ⟨fun e => e.elim (fun e => h5 (.inl e.symm)) h6, fun e => h5 (.inr e), h7⟩
/-- A store into the object at hand. -/
theorem RS.set_ {b : Nat} {t : TypeId} {cs : Array Value} (h : RS w0 g ((b, t, cs) :: os) l w) (i : Nat) (u : Value) : RS w0 g ((b, t, cs.setIfInBounds i u) :: os) l (w.setCell ⟨b, i, none⟩ u) := by
  obtain ⟨hr, hg, ho, hn⟩ := h
  obtain ⟨h1, h2, h3⟩ := ho _ (.head _)
  refine ⟨Blk.far hr (by simp; exact fun e => h2 e.symm) _, grown_set hg _ h3, ?_, by simpa using hn⟩
  intro x hx
  rcases List.mem_cons.1 hx with rfl | hx
  · exact ⟨h1.set_ i u, h2, h3⟩
  · obtain ⟨k1, k2, k3⟩ := ho x (.tail _ hx)
    refine ⟨k1.far ?_ _, k2, k3⟩
    simp only [List.map_cons, List.nodup_cons] at hn
    intro e
    exact hn.1 (List.mem_map.2 ⟨x, hx, e⟩)
end

def rM4 (v : List UInt8) (lo a b c d : Int) (r : List UInt8) : Option (Rule × List UInt8) :=
  (numM .i32 4 r).bind fun g => (numM .u8 1 g.2).bind fun h => (numM .i32 4 h.2).bind fun i => (shortM i.2).map fun j => (⟨⟨v.toArray⟩, lo, 1000000, a, b, c, d, g.1, h.1, i.1, ⟨j.1.toArray⟩⟩, j.2)
def rM (v : List UInt8) (lo : Int) (k : Nat) (a b c d : Int) (r : List UInt8) : Option (Rule × List UInt8) :=
  match k with
  | 0 => (numM .u8 1 r).bind fun e => (numM .u8 1 e.2).bind fun f => (numM .u8 1 f.2).bind fun g => (numM .u8 1 g.2).bind fun h => rM4 v lo e.1 f.1 g.1 h.1 h.2
  | 1 => (numM .u8 1 r).bind fun f => (numM .u8 1 f.2).bind fun g => (numM .u8 1 g.2).bind fun h => rM4 v lo a f.1 g.1 h.1 h.2
  | 2 => (numM .u8 1 r).bind fun g => (numM .u8 1 g.2).bind fun h => rM4 v lo a b g.1 h.1 h.2
  | 3 => (numM .u8 1 r).bind fun h => rM4 v lo a b c h.1 h.2
  | _ => rM4 v lo a b c d r
def ruleM (l : List UInt8) : Option (Rule × List UInt8) := (shortM l).bind fun a => (numM .u16 2 a.2).bind fun b => rM a.1 b.1 0 0 0 0 0 b.2

theorem RP.cases {α : Type} {enc : α → Value} {g : Nat} {w : World} {r : Option (α × List UInt8)} {e : Ending} {w' : World} (h : RP enc g w r e w') :
    (r = none ∧ e = badE ∧ w.grownBy w' (some g)) ∨ ∃ v rest, r = some (v, rest) ∧ e = .returned (enc v) ∧ Rd w' g rest ∧ w.grownBy w' (some g) := by
  obtain ⟨hg, h⟩ := h
  rcases r with _ | ⟨v, rest⟩
  · exact .inl ⟨rfl, h, hg⟩
  · exact .inr ⟨v, rest, rfl, h.1, h.2, hg⟩
theorem RP.fail {α : Type} {enc : α → Value} {g : Nat} {w : World} {r : Option (α × List UInt8)} {w' : World} (h : r = none) (hg : w.grownBy w' (some g)) : RP enc g w r badE w' := by
  subst h
  exact ⟨hg, rfl⟩

theorem numM_u16 {k : Nat} {l rest : List UInt8} {n : Int} (h : numM .u16 k l = some (n, rest)) : 0 ≤ n ∧ n < 65536 := by
  unfold numM takeM at h
  split at h
  · simp only [Option.map_some, Option.some.injEq, Prod.mk.injEq] at h
    rw [IntKind.wrap_u16] at h
    exact ⟨by omega, by omega⟩
  · cases h
theorem numM_i32 {k : Nat} {l rest : List UInt8} {n : Int} (h : numM .i32 k l = some (n, rest)) : -2147483648 ≤ n ∧ n < 2147483648 := by
  unfold numM takeM at h
  split at h
  · simp only [Option.map_some, Option.some.injEq, Prod.mk.injEq] at h
    rw [IntKind.wrap_i32] at h
    exact ⟨by omega, by omega⟩
  · cases h
def zRule : Array Value := #[.string ⟨#[]⟩, .int .i64 0, .int .i64 0, .int .i64 0, .int .i64 0, .int .i64 0, .int .i64 0, .int .i64 0, .int .i64 0, .int .i64 0, .string ⟨#[]⟩]
set_option maxRecDepth 100000 in
theorem rrule_any (g : Nat) (l : List UInt8) (w : World) (h : Rd w g l) :
    Calls Tryz.prog 111 #[.pointer (some ⟨g, 0, none⟩)] w (RP (fun r : Rule => .agg r.cells.toArray) g w (ruleM l)) := by
  go_enter Tryz.func111, Tryz.ntmps111
  have HS := Lib.hid ((RS.start h).new (t := 63) (cs := zRule)); clear h
  simp only [zRule] at HS
  obtain ⟨R, hR⟩ : ∃ R, ruleM l = R := ⟨_, rfl⟩
  have HM := Lib.hid hR
  rw [hR]
  unfold ruleM at hR
  have Hm := Lib.hid hR; clear hR
  go_wp2_with (first
    | (go_at_call 104; refine (short_any g _ _ HS.out.rd).mono ?_; rintro e w1 hr; rcases hr.cases with ⟨hm, rfl, hg⟩ | ⟨v, rest, hm, rfl, hrd, hg⟩; (exact ⟨rfl, RP.fail (by rw [← Hm.out, hm]; rfl) (gr3 HS.out.out hg)⟩); (have hs := HS.out.step hrd hg; have ho := Hm.out; simp only [hm, Option.bind_some] at ho; have HS := Lib.hid hs; have Hm := Lib.hid ho; clear hm hr hrd hg hs ho))
    | (go_at_call 172; refine (num_u16 2 g _ _ HS.out.rd (by omega)).mono ?_; rintro e w2 hr; rcases hr.cases with ⟨hm, rfl, hg⟩ | ⟨v2, rest2, hm, rfl, hrd, hg⟩; (exact ⟨rfl, RP.fail (by rw [← Hm.out, hm]; rfl) (gr3 HS.out.out hg)⟩); (obtain ⟨hv0, hv1⟩ := numM_u16 hm; have hs := HS.out.step hrd hg; have ho := Hm.out; simp only [hm, Option.bind_some] at ho; have HS := Lib.hid hs; have Hm := Lib.hid ho; clear hm hr hrd hg hs ho)))
  have hs := (HS.out.new (t := 63) (cs := #[.string ⟨v.toArray⟩, .int .i64 v2, .int .i64 1000000, .int .i64 0, .int .i64 0, .int .i64 0, .int .i64 0, .int .i64 0, .int .i64 0, .int .i64 0, .string ⟨#[]⟩]))
  have hs2 := hs.new (t := 220) (cs := #[.pointer (some ⟨w2.heap.size, 3, none⟩), .pointer (some ⟨w2.heap.size, 4, none⟩), .pointer (some ⟨w2.heap.size, 5, none⟩), .pointer (some ⟨w2.heap.size, 6, none⟩)])
  have HS := Lib.hid hs2
  clear hs hs2
  go_loopw [5, 22] (fun _ i wr => ∃ (k : Nat) (a b c d : Int) (r : List UInt8), k ≤ 4 ∧ i = .int .i64 k ∧ (k ≤ 3 → d = 0) ∧ (k ≤ 2 → c = 0) ∧ (k ≤ 1 → b = 0) ∧ (k = 0 → a = 0) ∧ rM v v2 k a b c d r = R ∧
      RS w g [(w2.heap.size, 63, #[.string ⟨v.toArray⟩, .int .i64 v2, .int .i64 1000000, .int .i64 a, .int .i64 b, .int .i64 c, .int .i64 d, .int .i64 0, .int .i64 0, .int .i64 0, .string ⟨#[]⟩]),
        (w2.heap.size + 1, 220, #[.pointer (some ⟨w2.heap.size, 3, none⟩), .pointer (some ⟨w2.heap.size, 4, none⟩), .pointer (some ⟨w2.heap.size, 5, none⟩), .pointer (some ⟨w2.heap.size, 6, none⟩)]),
        (w.heap.size, 63, #[.string ⟨#[]⟩, .int .i64 0, .int .i64 0, .int .i64 0, .int .i64 0, .int .i64 0, .int .i64 0, .int .i64 0, .int .i64 0, .int .i64 0, .string ⟨#[]⟩])] r wr) (fun _ i _ => 4 - (intOf i).toNat)
  case atStart => exact ⟨0, 0, 0, 0, 0, _, by omega, rfl, fun _ => rfl, fun _ => rfl, fun _ => rfl, fun _ => rfl, Hm.out, by simpa using HS.out.swap⟩
  case round =>
    clear HS Hm
    obtain ⟨k, a, b, c, d, r, hk, rfl, hd, hc, hb, ha, hm, hs⟩ := hrel
    have HS := Lib.hid hs
    have Hm := Lib.hid hm
    clear hs hm
    by_cases hk4 : k < 4
    · have cc := fun i => (HS.out.blk (.tail _ (.head _))).cell i
      have hk' : k = 0 ∨ k = 1 ∨ k = 2 ∨ k = 3 := by omega
      rcases hk' with rfl | rfl | rfl | rfl
      · obtain rfl := hd (by omega)
        obtain rfl := hc (by omega)
        obtain rfl := hb (by omega)
        obtain rfl := ha (by omega)
        go_wp2_with (go_at_call 110; refine (num_u8 1 g _ _ HS.out.rd (by omega)).mono ?_; rintro e w3 hr; rcases hr.cases with ⟨hm, rfl, hg⟩ | ⟨x, rest3, hm, rfl, hrd, hg⟩; (exact ⟨rfl, RP.fail (by rw [← Hm.out, rM, hm]; rfl) (gr3 HS.out.out hg)⟩); (obtain ⟨hv0, hv1, _⟩ := numM_u8 hm; have hs := HS.out.step hrd hg; have ho := Hm.out; simp only [rM, hm, Option.bind_some] at ho; have HS := Lib.hid hs; have Hm := Lib.hid ho; have ff := fun i => (hs.blk (.head _)).frozen i; have fc := fun i => (hs.blk (.head _)).cell i; clear hm hr hrd hg hs ho))
        exact ⟨⟨1, x, 0, 0, 0, rest3, by omega, by go_num, (fun _ => rfl), (fun _ => rfl), (fun _ => rfl), (by omega), Hm.out, by simpa using HS.out.set_ 3 (.int .i64 x)⟩, by simp [intOf]⟩
      · obtain rfl := hd (by omega)
        obtain rfl := hc (by omega)
        obtain rfl := hb (by omega)
        go_wp2_with (go_at_call 110; refine (num_u8 1 g _ _ HS.out.rd (by omega)).mono ?_; rintro e w3 hr; rcases hr.cases with ⟨hm, rfl, hg⟩ | ⟨x, rest3, hm, rfl, hrd, hg⟩; (exact ⟨rfl, RP.fail (by rw [← Hm.out, rM, hm]; rfl) (gr3 HS.out.out hg)⟩); (obtain ⟨hv0, hv1, _⟩ := numM_u8 hm; have hs := HS.out.step hrd hg; have ho := Hm.out; simp only [rM, hm, Option.bind_some] at ho; have HS := Lib.hid hs; have Hm := Lib.hid ho; have ff := fun i => (hs.blk (.head _)).frozen i; have fc := fun i => (hs.blk (.head _)).cell i; clear hm hr hrd hg hs ho))
        exact ⟨⟨2, a, x, 0, 0, rest3, by omega, by go_num, (fun _ => rfl), (fun _ => rfl), (by omega), (by omega), Hm.out, by simpa using HS.out.set_ 4 (.int .i64 x)⟩, by simp [intOf]⟩
      · obtain rfl := hd (by omega)
        obtain rfl := hc (by omega)
        go_wp2_with (go_at_call 110; refine (num_u8 1 g _ _ HS.out.rd (by omega)).mono ?_; rintro e w3 hr; rcases hr.cases with ⟨hm, rfl, hg⟩ | ⟨x, rest3, hm, rfl, hrd, hg⟩; (exact ⟨rfl, RP.fail (by rw [← Hm.out, rM, hm]; rfl) (gr3 HS.out.out hg)⟩); (obtain ⟨hv0, hv1, _⟩ := numM_u8 hm; have hs := HS.out.step hrd hg; have ho := Hm.out; simp only [rM, hm, Option.bind_some] at ho; have HS := Lib.hid hs; have Hm := Lib.hid ho; have ff := fun i => (hs.blk (.head _)).frozen i; have fc := fun i => (hs.blk (.head _)).cell i; clear hm hr hrd hg hs ho))
        exact ⟨⟨3, a, b, x, 0, rest3, by omega, by go_num, (fun _ => rfl), (by omega), (by omega), (by omega), Hm.out, by simpa using HS.out.set_ 5 (.int .i64 x)⟩, by simp [intOf]⟩
      · obtain rfl := hd (by omega)
        go_wp2_with (go_at_call 110; refine (num_u8 1 g _ _ HS.out.rd (by omega)).mono ?_; rintro e w3 hr; rcases hr.cases with ⟨hm, rfl, hg⟩ | ⟨x, rest3, hm, rfl, hrd, hg⟩; (exact ⟨rfl, RP.fail (by rw [← Hm.out, rM, hm]; rfl) (gr3 HS.out.out hg)⟩); (obtain ⟨hv0, hv1, _⟩ := numM_u8 hm; have hs := HS.out.step hrd hg; have ho := Hm.out; simp only [rM, hm, Option.bind_some] at ho; have HS := Lib.hid hs; have Hm := Lib.hid ho; have ff := fun i => (hs.blk (.head _)).frozen i; have fc := fun i => (hs.blk (.head _)).cell i; clear hm hr hrd hg hs ho))
        exact ⟨⟨4, a, b, c, x, rest3, by omega, by go_num, (by omega), (by omega), (by omega), (by omega), Hm.out, by simpa using HS.out.set_ 6 (.int .i64 x)⟩, by simp [intOf]⟩
    · obtain rfl : k = 4 := by omega
      clear hd hc hb ha
      have hm := Hm.out
      simp only [rM, rM4] at hm
      have Hm := Lib.hid hm
      clear hm
      go_wp2_with (first
        | (go_at_call 108; have tk := tok; refine (num_i32 4 g _ _ HS.out.rd (by omega)).mono ?_; rintro e w3 hr; rcases hr.cases with ⟨hm, rfl, hg⟩ | ⟨y, r2, hm, rfl, hrd, hg⟩; (exact ⟨rfl, RP.fail (by rw [← Hm.out, hm]; rfl) (gr3 HS.out.out hg)⟩); (obtain ⟨hy0, hy1⟩ := numM_i32 hm; have hs := HS.out.step hrd hg; have ho := Hm.out; simp only [hm, Option.bind_some] at ho; have ff := fun i => (hs.blk (.head _)).frozen i; have fc := fun i => (hs.blk (.head _)).cell i; have hs := hs.set_ 9 (.int .i64 y); simp only [List.setIfInBounds_toArray, List.set_cons_succ, List.set_cons_zero] at hs; have HS := Lib.hid hs; have Hm := Lib.hid ho; clear hm hr hrd hg hs ho))
        | (go_at_call 108; refine (num_i32 4 g _ _ HS.out.rd (by omega)).mono ?_; rintro e w3 hr; rcases hr.cases with ⟨hm, rfl, hg⟩ | ⟨x, r1, hm, rfl, hrd, hg⟩; (exact ⟨rfl, RP.fail (by rw [← Hm.out, hm]; rfl) (gr3 HS.out.out hg)⟩); (obtain ⟨hx0, hx1⟩ := numM_i32 hm; have hs := HS.out.step hrd hg; have ho := Hm.out; simp only [hm, Option.bind_some] at ho; have ff := fun i => (hs.blk (.head _)).frozen i; have fc := fun i => (hs.blk (.head _)).cell i; have hs := hs.set_ 7 (.int .i64 x); simp only [List.setIfInBounds_toArray, List.set_cons_succ, List.set_cons_zero] at hs; have HS := Lib.hid hs; have Hm := Lib.hid ho; clear hm hr hrd hg hs ho; have tok : True := trivial))
        | (go_at_call 110; refine (num_u8 1 g _ _ HS.out.rd (by omega)).mono ?_; rintro e w3 hr; rcases hr.cases with ⟨hm, rfl, hg⟩ | ⟨z, r3, hm, rfl, hrd, hg⟩; (exact ⟨rfl, RP.fail (by rw [← Hm.out, hm]; rfl) (gr3 HS.out.out hg)⟩); (obtain ⟨hz0, hz1, _⟩ := numM_u8 hm; have hs := HS.out.step hrd hg; have ho := Hm.out; simp only [hm, Option.bind_some] at ho; have ff := fun i => (hs.blk (.head _)).frozen i; have fc := fun i => (hs.blk (.head _)).cell i; have hs := hs.set_ 8 (.int .i64 z); simp only [List.setIfInBounds_toArray, List.set_cons_succ, List.set_cons_zero] at hs; have HS := Lib.hid hs; have Hm := Lib.hid ho; clear hm hr hrd hg hs ho))
        | (go_at_call 104; refine (short_any g _ _ HS.out.rd).mono ?_; rintro e w3 hr; rcases hr.cases with ⟨hm, rfl, hg⟩ | ⟨t, r4, hm, rfl, hrd, hg⟩; (exact ⟨rfl, RP.fail (by rw [← Hm.out, hm]; rfl) (gr3 HS.out.out hg)⟩); (have hs := HS.out.step hrd hg; have ho := Hm.out; simp only [hm, Option.map_some] at ho; have ff := fun i => (hs.blk (.head _)).frozen i; have fc := fun i => (hs.blk (.head _)).cell i; have hs := hs.set_ 10 (.string ⟨t.toArray⟩); simp only [List.setIfInBounds_toArray, List.set_cons_succ, List.set_cons_zero] at hs; have fR := fun i => (hs.blk (.tail _ (.tail _ (.head _)))).frozen i; have cR := fun i => (hs.blk (.tail _ (.tail _ (.head _)))).cell i; have cX := fun i => (hs.blk (.head _)).cell i; have HS := Lib.hid hs; have Hm := Lib.hid ho; clear hm hr hrd hg hs ho)))
      have hs := ((((((((((HS.out.front.set_ 0 (.string ⟨v.toArray⟩)).set_ 1 (.int .i64 v2)).set_ 2 (.int .i64 1000000)).set_ 3 (.int .i64 a)).set_ 4 (.int .i64 b)).set_ 5 (.int .i64 c)).set_ 6 (.int .i64 d)).set_ 7 (.int .i64 x)).set_ 8 (.int .i64 z)).set_ 9 (.int .i64 y)).set_ 10 (.string ⟨t.toArray⟩)
      simp only [List.setIfInBounds_toArray, List.set_cons_succ, List.set_cons_zero] at hs
      rw [← Hm.out]
      generalize World.setCell _ ⟨w.heap.size, 10, none⟩ _ = W at *
      have hc := fun i => (hs.blk (.head _)).cell i
      refine bodyPost_ret (v := .agg (#[.string ⟨v.toArray⟩, .int .i64 v2, .int .i64 1000000, .int .i64 a, .int .i64 b, .int .i64 c, .int .i64 d, .int .i64 x, .int .i64 z, .int .i64 y, .string ⟨t.toArray⟩])) (by simp [results, Tryz.results111, go_sem, hc]) rfl ?_
      exact ⟨hs.out, rfl, hs.rd⟩
end Go.Proofs.YtpbojebnghcndaaGreatDoor.Rd
