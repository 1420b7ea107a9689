/-
  The document's bytes (analemmaref15.Bytes, short, place): the contracts. Conditions: at most eight bytes; the lengths are bounded.
-/
import Derived.Test.YtaffaobhcnnfnaaGreatDoorSame
import Derived.Test.YtaffaobhcnnfnaaGreatDoorPool
import Derived.Test.YtaffaobhcnnfnaaGreatDoorCiv
import Derived.Laws.Bits64
namespace Go.Proofs.YtaffaobhcnnfnaaGreatDoor.R15
open Go.RowKit Mem Img

/-- A list's text. -/
def bs (l : List UInt8) : ByteArray := ⟨l.toArray⟩
theorem bs_size (l : List UInt8) : (bs l).size = l.length := List.size_toArray
theorem bs_append (a b : List UInt8) : bs a ++ bs b = bs (a ++ b) := by
  unfold bs
  exact ByteArray.mk_append_mk a b
theorem bs_of (s : ByteArray) : s = bs s.data.toList := by
  obtain ⟨⟨l⟩⟩ := s
  rfl

def ud (n : Int) (i : Nat) : Int := n % 18446744073709551616 / 256 ^ i
theorem ud_zero (n : Int) : ud n 0 = IntKind.u64.wrap n := by
  rw [IntKind.wrap_u64]
  unfold ud
  rw [Int.pow_zero, Int.ediv_one]
theorem ud_bd (n : Int) (i : Nat) : 0 ≤ ud n i ∧ ud n i ≤ 18446744073709551615 := by
  unfold ud
  have h : (0 : Int) < 256 ^ i := Int.pow_pos (by decide)
  have h0 : 0 ≤ n % 18446744073709551616 := by omega
  refine ⟨Int.ediv_nonneg h0 (Int.le_of_lt h), ?_⟩
  have := Int.ediv_le_self (256 ^ i) h0
  omega
theorem ud_succ (n : Int) (i : Nat) : ud n (i + 1) = ud n i / 256 := by
  unfold ud
  rw [Int.pow_succ, Int.ediv_ediv_of_nonneg (Int.pow_nonneg (by decide))]
theorem ud_byte (n : Int) (i : Nat) (hi : i < 8) : byteI n i = UInt8.ofNat (ud n i % 256).toNat := by
  unfold byteI ud
  congr 2
  match i, hi with
  | 0, _ => omega
  | 1, _ => omega
  | 2, _ => omega
  | 3, _ => omega
  | 4, _ => omega
  | 5, _ => omega
  | 6, _ => omega
  | 7, _ => omega
set_option maxRecDepth 100000 in
theorem bytes_any (n : Int) (k : Nat) (w : World) (hk : k ≤ 8) :
    Calls Tryz.prog 28 #[.int .i64 n, .int .i64 k] w fun e w' => e = .returned (.string (bs (num n k))) ∧ Below w.heap.size w w' := by
  have h0 := ud_zero n
  have HU := Lib.hid h0
  clear h0
  go_enter Tryz.func28, Tryz.ntmps28
  go_wp2_with fail
  rw [← HU.out]
  go_loopw [5, 6, 7] (fun u s i wr => ∃ j : Nat, j ≤ k ∧ i = .int .i64 j ∧ u = .int .u64 (ud n j) ∧ s = .string (bs (num n j)) ∧ Below w.heap.size w wr) (fun _ _ i _ => k - (intOf i).toNat)
  case atStart => exact ⟨0, Nat.zero_le _, rfl, rfl, rfl, Below.refl _ _⟩
  case round =>
    obtain ⟨j, hj, rfl, rfl, rfl, hb⟩ := hrel
    have HB := Lib.hid hb
    clear hb HU
    by_cases hjk : j < k
    · have hbd := ud_bd n j
      have hsc := ud_succ n j
      have hby := ud_byte n j (by omega)
      have hnm : num n (j + 1) = byteI n j :: num n j := rfl
      have hln := num_length n j
      have HX := Lib.hid hsc; have HY := Lib.hid hby; have HM := Lib.hid hnm; have HL := Lib.hid hln
      clear hsc hby hnm hln
      generalize ud n j = u at *
      have hcv : (convert 43 9 (.slice (some ⟨wr.heap.size, 0, none⟩) 1 1)).run Tryz.prog (wr.alloc (.cells #[.int .u8 (u % 256)] 5)) = .ok (.string (bs [UInt8.ofNat (u % 256).toNat])) (wr.alloc (.cells #[.int .u8 (u % 256)] 5)) := by
        refine run_convert_bytes_back _ _ _ _ _ 1 [UInt8.ofNat (u % 256).toNat] Tryz.underlying43 Tryz.underlying5 Tryz.underlying9 fun i hi => ?_
        obtain rfl : i = 0 := by simpa using hi
        rw [show (⟨wr.heap.size, 0, none⟩ : Addr).add 0 = ⟨wr.heap.size, 0, none⟩ from rfl, (Blk.new wr 5 #[.int .u8 (u % 256)]).cell 0]
        show some (Value.int .u8 (u % 256)) = some (.int .u8 ((UInt8.ofNat (u % 256).toNat).toNat : Nat))
        rw [UInt8.toNat_ofNat']
        congr 2
        omega
      have hap := bs_append
      have hsz := bs_size
      have hle : (num n j).length ≤ 8 := by rw [HL.out]; omega
      go_wp2_with fail
      refine ⟨⟨j + 1, by omega, by go_num, by rw [HX.out], ?_, HB.out.alloc HB.out.size _⟩, by simp [intOf]; omega⟩
      rw [HM.out, HY.out]
    · obtain rfl : j = k := by omega
      go_wp2_with fail
      go_ret
      exact ⟨rfl, HB.out⟩
set_option maxRecDepth 100000 in
theorem short_any (s : ByteArray) (w : World) (hs : s.size ≤ 140737488355328) :
    Calls Tryz.prog 27 #[.string s] w fun e w' => e = .returned (.string (bs (short s.data.toList))) ∧ Below w.heap.size w w' := by
  have hsh : bs (num s.size 1) ++ s = bs (short s.data.toList) := by
    conv => lhs; rhs; rw [bs_of s]
    rw [bs_append, short, len_toList]
  have hsz := bs_size
  have hln := num_length
  go_enter Tryz.func27, Tryz.ntmps27
  go_wp2_with (go_at_call 28; refine (bytes_any s.size 1 _ (by omega)).mono ?_; rintro e w1 ⟨rfl, hb⟩; have HB := Lib.hid hb; clear hb)
  go_ret
  exact ⟨rfl, HB.out⟩
def plc (l : List Phase) (p : Phase) : Int := if p ∈ l then (l.idxOf p : Int) else -1
theorem plc_at {l : List Phase} {p : Phase} {k : Nat} (hk : k < l.length) (h : p ∉ l.take k) (he : l[k] = p) : plc l p = k := by
  unfold plc
  have hm : p ∈ l := he ▸ List.getElem_mem hk
  rw [if_pos hm]
  congr 1
  have h2 : l = l.take k ++ l.drop k := (List.take_append_drop k l).symm
  rw [h2, List.idxOf_append, if_neg h, List.drop_eq_getElem_cons hk, he, List.idxOf_cons_self, List.length_take]
  omega
theorem plc_out {l : List Phase} {p : Phase} (h : p ∉ l) : plc l p = -1 := if_neg h
theorem out_succ {l : List Phase} {p : Phase} {k : Nat} (hk : k < l.length) (h : p ∉ l.take k) (he : l[k] ≠ p) : p ∉ l.take (k + 1) := by
  rw [List.take_succ_eq_append_getElem hk]
  intro hm
  rcases List.mem_append.1 hm with h1 | h1
  · exact h h1
  · exact he (by simpa [eq_comm] using h1)
set_option maxRecDepth 100000 in
theorem place_any (l : List Phase) (p : Phase) (A : Option Addr) (c : Nat) (w : World) (h : Reads w w.heap.size 3 A l.length (l.flatMap Phase.cells)) (hn : l.length ≤ 1000001) :
    Calls Tryz.prog 26 #[.slice A l.length c, .agg p.cells.toArray] w fun e w' => e = .returned (.int .i64 (plc l p)) ∧ Below w.heap.size w w' := by
  have H := Lib.hid h
  clear h
  obtain ⟨q, hq⟩ : ∃ q, plc l p = q := ⟨_, rfl⟩
  rw [hq]
  have HQ := Lib.hid hq
  clear hq
  simp only [Phase.cells]
  have hone := Civ.One.new w 23 #[.int .i64 p.off, .int .i64 p.save, .string p.abbr]
  obtain ⟨W, hW⟩ : ∃ W, w.alloc (.cells #[.int .i64 p.off, .int .i64 p.save, .string p.abbr] 23) = W := ⟨_, rfl⟩
  rw [hW] at hone
  have HO := Lib.hid hone
  have cc := fun i => hone.1.cell i
  clear hone
  go_enter Tryz.func26, Tryz.ntmps26
  go_wp2_with fail
  go_loopw [5] (fun i wr => ∃ k n : Nat, k ≤ l.length ∧ i = .int .i64 k ∧ p ∉ l.take k ∧ wr = W.drewN n) (fun i _ => l.length - (intOf i).toNat)
  case atStart => exact ⟨0, 0, Nat.zero_le _, rfl, by simp, rfl⟩
  case round =>
    obtain ⟨k, n, hk, rfl, hno, rfl⟩ := hrel
    have Hno := Lib.hid hno
    clear hno hW
    by_cases hkn : k < l.length
    · obtain ⟨ad, hA, hadb, a0, a1, a2⟩ := phase_at (H.out.below HO.out.2) hkn
      subst hA
      cases hd : decide (l[k] = p)
      · have Hn2 := Lib.hid (out_succ hkn Hno.out (by simpa using hd))
        have heq := Sam.eq_phase l[k] p
        rw [hd] at heq
        clear hd
        simp only [Phase.cells] at heq
        generalize l[k] = s at *
        go_wp2_with fail
        go_quiet (fail)
        go_wp2_with fail
        exact ⟨⟨k + 1, n + nq, by omega, by go_num, Hn2.out, rfl⟩, by simp [intOf]; omega⟩
      · have Hq2 := Lib.hid (plc_at hkn Hno.out (by simpa using hd))
        have heq := Sam.eq_phase l[k] p
        rw [hd] at heq
        clear hd
        simp only [Phase.cells] at heq
        generalize l[k] = s at *
        go_wp2_with fail
        go_quiet (fail)
        go_wp2_with fail
        go_ret
        exact ⟨by rw [← HQ.out, Hq2.out]; rfl, Sam.below_dr (Sam.below_dr HO.out.2)⟩
    · obtain rfl : k = l.length := by omega
      rw [List.take_length] at Hno
      have Hq2 := Lib.hid (plc_out Hno.out)
      go_wp2_with fail
      go_ret
      exact ⟨by rw [← HQ.out, Hq2.out]; rfl, Sam.below_dr HO.out.2⟩
end Go.Proofs.YtaffaobhcnnfnaaGreatDoor.R15
