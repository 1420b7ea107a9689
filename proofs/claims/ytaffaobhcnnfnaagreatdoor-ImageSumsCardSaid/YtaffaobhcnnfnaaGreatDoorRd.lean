/-
  Images read: the contracts of (*reader).take and num, and what they compute in plain words. Conditions: the lengths are bounded.
-/
import Derived.Test.YtaffaobhcnnfnaaGreatDoorImg
import Derived.Laws.IdiomStrings
import Derived.Laws.BitsAllLaws
namespace Go.Proofs.YtaffaobhcnnfnaaGreatDoor.Rd
open Go.RowKit Mem Img

/-- The panic of a reader. -/
abbrev badE : Ending := .panicked [{ v := .iface 30 (.int .i64 18), recovered := false }]
def Rd (w : World) (g : Nat) (l : List UInt8) : Prop := Blk w g 76 #[.string ⟨l.toArray⟩]
/-- What a reader's function leaves: its answer and what is left to be read, or the panic; nothing but the reader has turned. -/
def RP {α : Type} (enc : α → Value) (g : Nat) (w : World) (r : Option (α × List UInt8)) (e : Ending) (w' : World) : Prop :=
  w.grownBy w' (some g) ∧ match r with
    | some (v, rest) => e = .returned (enc v) ∧ Rd w' g rest
    | none => e = badE
theorem RP.ok {α : Type} {enc : α → Value} {g : Nat} {w : World} {v : α} {rest : List UInt8} {e : Ending} {w' : World} (h : RP enc g w (some (v, rest)) e w') : e = .returned (enc v) ∧ Rd w' g rest ∧ w.grownBy w' (some g) := ⟨h.2.1, h.2.2, h.1⟩
theorem RP.bad {α : Type} {enc : α → Value} {g : Nat} {w : World} {e : Ending} {w' : World} (h : RP enc g w none e w') : e = badE ∧ w.grownBy w' (some g) := ⟨h.2, h.1⟩

theorem World.grownBy_setCell (w : World) (p : Addr) (v : Value) {g : Nat} (hp : p.block = g) : w.grownBy (w.setCell p v) (some g) :=
  ⟨rfl, rfl, rfl, by simp [World.setCell], fun k _ hk => Below.heap_setCell _ _ _ _ (fun e => hk (by rw [e, hp]))⟩
def takeM (n : Nat) (l : List UInt8) : Option (List UInt8 × List UInt8) := if n ≤ l.length then some (l.take n, l.drop n) else none
abbrev strV (l : List UInt8) : Value := .string ⟨l.toArray⟩
theorem ext_take (l : List UInt8) (n : Nat) : (⟨l.toArray⟩ : ByteArray).extract 0 n = ⟨(l.take n).toArray⟩ := by
  apply ByteArray.ext
  simp [ByteArray.extract, ByteArray.copySlice]
theorem ext_drop (l : List UInt8) (n : Nat) : (⟨l.toArray⟩ : ByteArray).extract n l.length = ⟨(l.drop n).toArray⟩ := by
  apply ByteArray.ext
  simp [ByteArray.extract, ByteArray.copySlice]
  exact List.take_of_length_le (by simp)

set_option maxRecDepth 100000 in
theorem take_any (n : Nat) (g : Nat) (l : List UInt8) (w : World) (h : Rd w g l) (hn : n ≤ 140737488355328) :
    Calls Tryz.prog 55 #[.pointer (some ⟨g, 0, none⟩), .int .i64 n] w (RP strV g w (takeM n l)) := by
  go_enter Tryz.func55, Tryz.ntmps55
  have H := Lib.hid h; clear h
  have c0 := H.out.cell 0
  have f0 := H.out.frozen 0
  by_cases hle : n ≤ l.length
  · have hm : takeM n l = some (l.take n, l.drop n) := if_pos hle
    have Hm := Lib.hid hm; clear hm
    go_wp2
    go_ret
    rw [Hm.out]
    refine ⟨World.grownBy_setCell _ _ _ rfl, ?_, ?_⟩
    · rw [strV, ← ext_take]; rfl
    · have := H.out.set_ 0 (.string ((⟨l.toArray⟩ : ByteArray).extract n l.length))
      rw [ext_drop] at this
      simpa [Rd, ext_drop] using this
  · have hm : takeM n l = none := if_neg hle
    have Hm := Lib.hid hm; clear hm
    go_wp2
    refine ⟨rfl, ?_⟩
    show RP strV g w (takeM n l) badE w
    rw [Hm.out]
    exact ⟨World.grownBy.refl w _, rfl⟩

/-- The number of bytes, the highest first. -/
def numU (l : List UInt8) : Nat := l.foldl (fun n c => n * 256 + c.toNat) 0
theorem numU_snoc (l : List UInt8) (c : UInt8) : numU (l ++ [c]) = numU l * 256 + c.toNat := by simp [numU, List.foldl_append]
def numM (q : IntKind) (k : Nat) (l : List UInt8) : Option (Int × List UInt8) := (takeM k l).map fun x => (q.wrap (numU x.1), x.2)

theorem gr2 {w w1 w2 : World} {g : Nat} (h : w.grownBy w1 (some g)) (k : w1.grownBy w2 none) : w.grownBy w2 (some g) :=
  ⟨k.os.trans h.os, k.tape.trans h.tape, k.output.trans h.output, Nat.le_trans h.size k.size, fun j hj hne => (k.block j (Nat.lt_of_lt_of_le hj h.size) (by simp)).trans (h.block j hj hne)⟩
theorem gr3 {w w1 w2 : World} {r : Option Nat} (h : w.grownBy w1 r) (k : w1.grownBy w2 r) : w.grownBy w2 r :=
  ⟨k.os.trans h.os, k.tape.trans h.tape, k.output.trans h.output, Nat.le_trans h.size k.size, fun j hj hne => (k.block j (Nat.lt_of_lt_of_le hj h.size) hne).trans (h.block j hj hne)⟩
theorem or_i64 (y b : Int) (hy : y % 256 = 0) (hb : 0 ≤ b ∧ b < 256) : bits .or .i64 y b = IntKind.i64.wrap (y + b) := by
  show IntKind.i64.wrap ((BitVec.ofInt 64 y ||| BitVec.ofInt 64 b).toNat : Int) = _
  rw [BitVec.toNat_or, BitVec.toNat_ofInt, BitVec.toNat_ofInt]
  have h1 : (b % ((2 ^ 64 : Nat) : Int)).toNat = b.toNat := by congr 1; omega
  rw [h1]
  obtain ⟨Y, hY⟩ : ∃ Y : Nat, (y % ((2 ^ 64 : Nat) : Int)).toNat = Y <<< 8 := ⟨(y % ((2 ^ 64 : Nat) : Int)).toNat / 256, by rw [Nat.shiftLeft_eq]; omega⟩
  rw [hY, ← Nat.shiftLeft_add_eq_or_of_lt (by omega : b.toNat < 2 ^ 8), ← hY, IntKind.wrap_i64, IntKind.wrap_i64]
  omega
theorem w64 (x : Int) : ∃ t, wrap64 x = x + 18446744073709551616 * t := ⟨-((x + 9223372036854775808) / 18446744073709551616), by unfold wrap64; omega⟩
theorem i64w (x : Int) : ∃ t, IntKind.i64.wrap x = x + 18446744073709551616 * t := ⟨-((x + 9223372036854775808) / 18446744073709551616), by rw [IntKind.wrap_i64]; omega⟩
theorem i64_small (b : Nat) (hb : b < 256) : wrap64 b = b := by unfold wrap64; omega
theorem or_step (n : Int) (b : Nat) (hb : b < 256) : ∃ t, bits .or .i64 (wrap64 (wrap64 n * 256)) (wrap64 b) = n * 256 + b + 18446744073709551616 * t := by
  obtain ⟨t1, h1⟩ := w64 n
  obtain ⟨t2, h2⟩ := w64 (wrap64 n * 256)
  rw [i64_small b hb, or_i64 _ _ (by rw [h2]; omega) (by omega)]
  obtain ⟨t3, h3⟩ := i64w (wrap64 (wrap64 n * 256) + b)
  rw [h3, h2, h1]
  exact ⟨256 * t1 + t2 + t3, by omega⟩
theorem step_u32 (M b : Nat) (hb : b < 256) : bits .or .i64 (wrap64 (wrap64 ((M : Int) % 4294967296) * 256)) (wrap64 b) % 4294967296 = IntKind.u32.wrap ((M * 256 + b : Nat) : Int) := by
  obtain ⟨t, h⟩ := or_step ((M : Int) % 4294967296) b hb
  rw [h, IntKind.wrap_u32]
  omega
theorem step_u8 (M b : Nat) (hb : b < 256) : bits .or .i64 (wrap64 (wrap64 ((M : Int) % 256) * 256)) (wrap64 b) % 256 = IntKind.u8.wrap ((M * 256 + b : Nat) : Int) := by
  obtain ⟨t, h⟩ := or_step ((M : Int) % 256) b hb
  rw [h, IntKind.wrap_u8]
  omega
theorem step_i64 (M b : Nat) (hb : b < 256) : bits .or .i64 (wrap64 (wrap64 (M : Int) * 256)) (wrap64 b) = IntKind.i64.wrap ((M * 256 + b : Nat) : Int) := by
  obtain ⟨t1, h1⟩ := w64 M
  obtain ⟨t2, h2⟩ := w64 (wrap64 M * 256)
  rw [i64_small b hb, or_i64 _ _ (by rw [h2]; omega) (by omega), h2, h1, IntKind.wrap_i64, IntKind.wrap_i64]
  omega
theorem step_i32 (M b : Nat) (hb : b < 256) : wrap32 (bits .or .i64 (wrap64 (wrap64 (wrap32 M) * 256)) (wrap64 b)) = IntKind.i32.wrap ((M * 256 + b : Nat) : Int) := by
  obtain ⟨t, h⟩ := or_step (wrap32 M) b hb
  obtain ⟨s, hs⟩ : ∃ s, wrap32 (M : Int) = M + 4294967296 * s := ⟨-((M + 2147483648) / 4294967296), by unfold wrap32; omega⟩
  rw [h, hs, IntKind.wrap_i32]
  unfold wrap32
  omega
theorem step_u16 (M b : Nat) (hb : b < 256) : IntKind.u16.wrap (bits .or .i64 (wrap64 (wrap64 (IntKind.u16.wrap M) * 256)) (wrap64 b)) = IntKind.u16.wrap ((M * 256 + b : Nat) : Int) := by
  obtain ⟨t, h⟩ := or_step (IntKind.u16.wrap M) b hb
  rw [h, IntKind.wrap_u16, IntKind.wrap_u16, IntKind.wrap_u16]
  omega
theorem bytes_of (w : World) (bs : List UInt8) : ∃ cap w2, (convert 9 43 (.string ⟨bs.toArray⟩)).run Tryz.prog w = .ok (.slice (some ⟨w.heap.size, 0, none⟩) bs.length cap) w2 ∧ w.grownBy w2 none ∧
    ∀ j (hj : j < bs.length), w2.cell? ⟨w.heap.size, j, none⟩ = some (.int .u8 (bs[j].toNat : Int)) := by
  refine ⟨_, _, run_bytes_of_string w _ _ _ ⟨bs.toArray⟩ Tryz.underlying9 Tryz.underlying43 Tryz.underlying5, ⟨rfl, rfl, rfl, by simp, fun _ hk _ => heap_alloc_old w.drew _ hk⟩, fun j hj => ?_⟩
  rw [show w.heap.size = w.drew.heap.size from rfl, World.cell?_alloc_mark]
  simp [bytesRow]
  rw [Array.getElem?_append_left (by simp; exact hj)]
  simp [hj]

set_option maxRecDepth 100000 in
theorem num_u32 (k : Nat) (g : Nat) (l : List UInt8) (w : World) (h : Rd w g l) (hk : k ≤ 8) :
    Calls Tryz.prog 59 #[.pointer (some ⟨g, 0, none⟩), .int .i64 k] w (RP (Value.int .u32) g w (numM .u32 k l)) := by
  go_enter Tryz.func59, Tryz.ntmps59
  have H := Lib.hid h; clear h
  have Ht := Lib.hid (take_any k g l w H.out (by omega))
  cases ht : takeM k l with
  | none =>
    rw [ht] at Ht
    have hm : numM .u32 k l = none := by rw [numM, ht]; rfl
    rw [hm]
    clear hm ht
    go_wp2_with (go_at_call 55; refine Ht.out.mono ?_; rintro e w1 hr; obtain ⟨rfl, hg⟩ := hr.bad; have Hg := Lib.hid hg; clear hr hg)
    exact ⟨rfl, Hg.out, rfl⟩
  | some x =>
    obtain ⟨bs, rest⟩ := x
    rw [ht] at Ht
    have hm : numM .u32 k l = some (IntKind.u32.wrap (numU bs), rest) := by rw [numM, ht]; rfl
    rw [hm]
    have hbl : bs.length = k := by
      unfold takeM at ht
      split at ht
      · injection ht with ht; injection ht with h1 h2; rw [← h1, List.length_take]; omega
      · cases ht
    clear hm ht
    go_wp2_with (go_at_call 55; refine Ht.out.mono ?_; rintro e w1 hr; obtain ⟨rfl, hrd, hg⟩ := hr.ok; obtain ⟨cap, w2, hconv, hg2, hc2⟩ := bytes_of w1 bs; have Hrd := Lib.hid hrd; have Hg := Lib.hid hg; have Hg2 := Lib.hid hg2; have Hc2 := Lib.hid hc2; clear hr hg hrd hg2 hc2)
    go_loopw [5, 13] (fun n i wr => ∃ j : Nat, j ≤ k ∧ i = .int .i64 j ∧ n = .int .u32 (IntKind.u32.wrap (numU (bs.take j))) ∧ wr = w2) (fun _ i _ => k - (intOf i).toNat)
    case atStart => exact ⟨0, Nat.zero_le _, rfl, rfl, rfl⟩
    case round =>
      obtain ⟨j, hj, rfl, rfl, rfl⟩ := hrel
      by_cases hjk : j < k
      · have hcc := Hc2.out j (by omega)
        have ad : Addr.add ⟨w1.heap.size, 0, none⟩ j = ⟨w1.heap.size, j, none⟩ := by unfold Addr.add; split <;> simp_all
        generalize hb : bs[j]'(by omega) = b at *
        have Hb := Lib.hid hb; clear hb
        go_wp2
        refine ⟨⟨j + 1, by omega, by go_num, ?_, trivial⟩, by simp [intOf]; omega⟩
        rw [List.take_succ_eq_append_getElem (by omega), numU_snoc, Hb.out]
        congr 1
        generalize numU (bs.take j) = M
        have hb2 : b.toNat < 256 := b.toNat_lt
        exact step_u32 M b.toNat (by omega)
      · obtain rfl : j = k := by omega
        rw [List.take_of_length_le (by omega)]
        go_wp2
        go_ret
        exact ⟨gr2 Hg.out Hg2.out, rfl, Hrd.out.grown Hg2.out (by simp)⟩
set_option maxRecDepth 100000 in
theorem num_u8 (k : Nat) (g : Nat) (l : List UInt8) (w : World) (h : Rd w g l) (hk : k ≤ 8) :
    Calls Tryz.prog 62 #[.pointer (some ⟨g, 0, none⟩), .int .i64 k] w (RP (Value.int .u8) g w (numM .u8 k l)) := by
  go_enter Tryz.func62, Tryz.ntmps62
  have H := Lib.hid h; clear h
  have Ht := Lib.hid (take_any k g l w H.out (by omega))
  cases ht : takeM k l with
  | none =>
    rw [ht] at Ht
    have hm : numM .u8 k l = none := by rw [numM, ht]; rfl
    rw [hm]
    clear hm ht
    go_wp2_with (go_at_call 55; refine Ht.out.mono ?_; rintro e w1 hr; obtain ⟨rfl, hg⟩ := hr.bad; have Hg := Lib.hid hg; clear hr hg)
    exact ⟨rfl, Hg.out, rfl⟩
  | some x =>
    obtain ⟨bs, rest⟩ := x
    rw [ht] at Ht
    have hm : numM .u8 k l = some (IntKind.u8.wrap (numU bs), rest) := by rw [numM, ht]; rfl
    rw [hm]
    have hbl : bs.length = k := by
      unfold takeM at ht
      split at ht
      · injection ht with ht; injection ht with h1 h2; rw [← h1, List.length_take]; omega
      · cases ht
    clear hm ht
    go_wp2_with (go_at_call 55; refine Ht.out.mono ?_; rintro e w1 hr; obtain ⟨rfl, hrd, hg⟩ := hr.ok; obtain ⟨cap, w2, hconv, hg2, hc2⟩ := bytes_of w1 bs; have Hrd := Lib.hid hrd; have Hg := Lib.hid hg; have Hg2 := Lib.hid hg2; have Hc2 := Lib.hid hc2; clear hr hg hrd hg2 hc2)
    go_loopw [5, 13] (fun n i wr => ∃ j : Nat, j ≤ k ∧ i = .int .i64 j ∧ n = .int .u8 (IntKind.u8.wrap (numU (bs.take j))) ∧ wr = w2) (fun _ i _ => k - (intOf i).toNat)
    case atStart => exact ⟨0, Nat.zero_le _, rfl, rfl, rfl⟩
    case round =>
      obtain ⟨j, hj, rfl, rfl, rfl⟩ := hrel
      by_cases hjk : j < k
      · have hcc := Hc2.out j (by omega)
        have ad : Addr.add ⟨w1.heap.size, 0, none⟩ j = ⟨w1.heap.size, j, none⟩ := by unfold Addr.add; split <;> simp_all
        generalize hb : bs[j]'(by omega) = b at *
        have Hb := Lib.hid hb; clear hb
        go_wp2
        refine ⟨⟨j + 1, by omega, by go_num, ?_, trivial⟩, by simp [intOf]; omega⟩
        rw [List.take_succ_eq_append_getElem (by omega), numU_snoc, Hb.out]
        congr 1
        generalize numU (bs.take j) = M
        have hb2 : b.toNat < 256 := b.toNat_lt
        exact step_u8 M b.toNat (by omega)
      · obtain rfl : j = k := by omega
        rw [List.take_of_length_le (by omega)]
        go_wp2
        go_ret
        exact ⟨gr2 Hg.out Hg2.out, rfl, Hrd.out.grown Hg2.out (by simp)⟩
set_option maxRecDepth 100000 in
theorem num_i64 (k : Nat) (g : Nat) (l : List UInt8) (w : World) (h : Rd w g l) (hk : k ≤ 8) :
    Calls Tryz.prog 58 #[.pointer (some ⟨g, 0, none⟩), .int .i64 k] w (RP (Value.int .i64) g w (numM .i64 k l)) := by
  go_enter Tryz.func58, Tryz.ntmps58
  have H := Lib.hid h; clear h
  have Ht := Lib.hid (take_any k g l w H.out (by omega))
  cases ht : takeM k l with
  | none =>
    rw [ht] at Ht
    have hm : numM .i64 k l = none := by rw [numM, ht]; rfl
    rw [hm]
    clear hm ht
    go_wp2_with (go_at_call 55; refine Ht.out.mono ?_; rintro e w1 hr; obtain ⟨rfl, hg⟩ := hr.bad; have Hg := Lib.hid hg; clear hr hg)
    exact ⟨rfl, Hg.out, rfl⟩
  | some x =>
    obtain ⟨bs, rest⟩ := x
    rw [ht] at Ht
    have hm : numM .i64 k l = some (IntKind.i64.wrap (numU bs), rest) := by rw [numM, ht]; rfl
    rw [hm]
    have hbl : bs.length = k := by
      unfold takeM at ht
      split at ht
      · injection ht with ht; injection ht with h1 h2; rw [← h1, List.length_take]; omega
      · cases ht
    clear hm ht
    go_wp2_with (go_at_call 55; refine Ht.out.mono ?_; rintro e w1 hr; obtain ⟨rfl, hrd, hg⟩ := hr.ok; obtain ⟨cap, w2, hconv, hg2, hc2⟩ := bytes_of w1 bs; have Hrd := Lib.hid hrd; have Hg := Lib.hid hg; have Hg2 := Lib.hid hg2; have Hc2 := Lib.hid hc2; clear hr hg hrd hg2 hc2)
    go_loopw [5, 13] (fun n i wr => ∃ j : Nat, j ≤ k ∧ i = .int .i64 j ∧ n = .int .i64 (IntKind.i64.wrap (numU (bs.take j))) ∧ wr = w2) (fun _ i _ => k - (intOf i).toNat)
    case atStart => exact ⟨0, Nat.zero_le _, rfl, rfl, rfl⟩
    case round =>
      obtain ⟨j, hj, rfl, rfl, rfl⟩ := hrel
      by_cases hjk : j < k
      · have hcc := Hc2.out j (by omega)
        have ad : Addr.add ⟨w1.heap.size, 0, none⟩ j = ⟨w1.heap.size, j, none⟩ := by unfold Addr.add; split <;> simp_all
        generalize hb : bs[j]'(by omega) = b at *
        have Hb := Lib.hid hb; clear hb
        go_wp2
        refine ⟨⟨j + 1, by omega, by go_num, ?_, trivial⟩, by simp [intOf]; omega⟩
        rw [List.take_succ_eq_append_getElem (by omega), numU_snoc, Hb.out]
        congr 1
        generalize numU (bs.take j) = M
        have hb2 : b.toNat < 256 := b.toNat_lt
        exact step_i64 M b.toNat (by omega)
      · obtain rfl : j = k := by omega
        rw [List.take_of_length_le (by omega)]
        go_wp2
        go_ret
        exact ⟨gr2 Hg.out Hg2.out, rfl, Hrd.out.grown Hg2.out (by simp)⟩
set_option maxRecDepth 100000 in
theorem num_i32 (k : Nat) (g : Nat) (l : List UInt8) (w : World) (h : Rd w g l) (hk : k ≤ 8) :
    Calls Tryz.prog 60 #[.pointer (some ⟨g, 0, none⟩), .int .i64 k] w (RP (Value.int .i32) g w (numM .i32 k l)) := by
  go_enter Tryz.func60, Tryz.ntmps60
  have H := Lib.hid h; clear h
  have Ht := Lib.hid (take_any k g l w H.out (by omega))
  cases ht : takeM k l with
  | none =>
    rw [ht] at Ht
    have hm : numM .i32 k l = none := by rw [numM, ht]; rfl
    rw [hm]
    clear hm ht
    go_wp2_with (go_at_call 55; refine Ht.out.mono ?_; rintro e w1 hr; obtain ⟨rfl, hg⟩ := hr.bad; have Hg := Lib.hid hg; clear hr hg)
    exact ⟨rfl, Hg.out, rfl⟩
  | some x =>
    obtain ⟨bs, rest⟩ := x
    rw [ht] at Ht
    have hm : numM .i32 k l = some (IntKind.i32.wrap (numU bs), rest) := by rw [numM, ht]; rfl
    rw [hm]
    have hbl : bs.length = k := by
      unfold takeM at ht
      split at ht
      · injection ht with ht; injection ht with h1 h2; rw [← h1, List.length_take]; omega
      · cases ht
    clear hm ht
    go_wp2_with (go_at_call 55; refine Ht.out.mono ?_; rintro e w1 hr; obtain ⟨rfl, hrd, hg⟩ := hr.ok; obtain ⟨cap, w2, hconv, hg2, hc2⟩ := bytes_of w1 bs; have Hrd := Lib.hid hrd; have Hg := Lib.hid hg; have Hg2 := Lib.hid hg2; have Hc2 := Lib.hid hc2; clear hr hg hrd hg2 hc2)
    go_loopw [5, 13] (fun n i wr => ∃ j : Nat, j ≤ k ∧ i = .int .i64 j ∧ n = .int .i32 (IntKind.i32.wrap (numU (bs.take j))) ∧ wr = w2) (fun _ i _ => k - (intOf i).toNat)
    case atStart => exact ⟨0, Nat.zero_le _, rfl, rfl, rfl⟩
    case round =>
      obtain ⟨j, hj, rfl, rfl, rfl⟩ := hrel
      by_cases hjk : j < k
      · have hcc := Hc2.out j (by omega)
        have ad : Addr.add ⟨w1.heap.size, 0, none⟩ j = ⟨w1.heap.size, j, none⟩ := by unfold Addr.add; split <;> simp_all
        generalize hb : bs[j]'(by omega) = b at *
        have Hb := Lib.hid hb; clear hb
        go_wp2
        refine ⟨⟨j + 1, by omega, by go_num, ?_, trivial⟩, by simp [intOf]; omega⟩
        rw [List.take_succ_eq_append_getElem (by omega), numU_snoc, Hb.out]
        congr 1
        generalize numU (bs.take j) = M
        have hb2 : b.toNat < 256 := b.toNat_lt
        exact step_i32 M b.toNat (by omega)
      · obtain rfl : j = k := by omega
        rw [List.take_of_length_le (by omega)]
        go_wp2
        go_ret
        exact ⟨gr2 Hg.out Hg2.out, rfl, Hrd.out.grown Hg2.out (by simp)⟩
set_option maxRecDepth 100000 in
theorem num_u16 (k : Nat) (g : Nat) (l : List UInt8) (w : World) (h : Rd w g l) (hk : k ≤ 8) :
    Calls Tryz.prog 84 #[.pointer (some ⟨g, 0, none⟩), .int .i64 k] w (RP (Value.int .u16) g w (numM .u16 k l)) := by
  go_enter Tryz.func84, Tryz.ntmps84
  have H := Lib.hid h; clear h
  have Ht := Lib.hid (take_any k g l w H.out (by omega))
  cases ht : takeM k l with
  | none =>
    rw [ht] at Ht
    have hm : numM .u16 k l = none := by rw [numM, ht]; rfl
    rw [hm]
    clear hm ht
    go_wp2_with (go_at_call 55; refine Ht.out.mono ?_; rintro e w1 hr; obtain ⟨rfl, hg⟩ := hr.bad; have Hg := Lib.hid hg; clear hr hg)
    exact ⟨rfl, Hg.out, rfl⟩
  | some x =>
    obtain ⟨bs, rest⟩ := x
    rw [ht] at Ht
    have hm : numM .u16 k l = some (IntKind.u16.wrap (numU bs), rest) := by rw [numM, ht]; rfl
    rw [hm]
    have hbl : bs.length = k := by
      unfold takeM at ht
      split at ht
      · injection ht with ht; injection ht with h1 h2; rw [← h1, List.length_take]; omega
      · cases ht
    clear hm ht
    go_wp2_with (go_at_call 55; refine Ht.out.mono ?_; rintro e w1 hr; obtain ⟨rfl, hrd, hg⟩ := hr.ok; obtain ⟨cap, w2, hconv, hg2, hc2⟩ := bytes_of w1 bs; have Hrd := Lib.hid hrd; have Hg := Lib.hid hg; have Hg2 := Lib.hid hg2; have Hc2 := Lib.hid hc2; clear hr hg hrd hg2 hc2)
    go_loopw [5, 13] (fun n i wr => ∃ j : Nat, j ≤ k ∧ i = .int .i64 j ∧ n = .int .u16 (IntKind.u16.wrap (numU (bs.take j))) ∧ wr = w2) (fun _ i _ => k - (intOf i).toNat)
    case atStart => exact ⟨0, Nat.zero_le _, rfl, rfl, rfl⟩
    case round =>
      obtain ⟨j, hj, rfl, rfl, rfl⟩ := hrel
      by_cases hjk : j < k
      · have hcc := Hc2.out j (by omega)
        have ad : Addr.add ⟨w1.heap.size, 0, none⟩ j = ⟨w1.heap.size, j, none⟩ := by unfold Addr.add; split <;> simp_all
        generalize hb : bs[j]'(by omega) = b at *
        have Hb := Lib.hid hb; clear hb
        go_wp2
        refine ⟨⟨j + 1, by omega, by go_num, ?_, trivial⟩, by simp [intOf]; omega⟩
        rw [List.take_succ_eq_append_getElem (by omega), numU_snoc, Hb.out]
        congr 1
        generalize numU (bs.take j) = M
        have hb2 : b.toNat < 256 := b.toNat_lt
        exact step_u16 M b.toNat (by omega)
      · obtain rfl : j = k := by omega
        rw [List.take_of_length_le (by omega)]
        go_wp2
        go_ret
        exact ⟨gr2 Hg.out Hg2.out, rfl, Hrd.out.grown Hg2.out (by simp)⟩
end Go.Proofs.YtaffaobhcnnfnaaGreatDoor.Rd
