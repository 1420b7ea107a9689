/-
  The contracts of source.letter, made, Place. Conditions: the texts are of less than 2^32 - 15 bytes; the cell of bytealg.MaxLen holds a number.
-/
import Derived.Test.YtdicedpklpadgaaGreatDoorY04
import Derived.Test.YtdicedpklpadgaaGreatDoorShelf
import Derived.BigQuiet
import Derived.Deep.QuietTactic
set_option linter.all false
namespace Go.Proofs.YtdicedpklpadgaaGreatDoor.Plc
open Go.RowKit Mem

def letterI (n : Int) : Bool := (decide (97 ≤ n) && decide (n ≤ 122)) || (decide (65 ≤ n) && decide (n ≤ 90))

set_option maxRecDepth 100000 in
theorem letter_any (n : Int) (w : World) : Calls Tryz.prog 146 #[.int .u8 n] w fun e w' => e = .returned (.bool (letterI n)) ∧ w' = w := by
  go_enter Tryz.func146, Tryz.ntmps146
  unfold letterI
  cases h1 : decide (97 ≤ n) <;> cases h2 : decide (n ≤ 122) <;> cases h3 : decide (65 ≤ n) <;> cases h4 : decide (n ≤ 90)
  all_goals go_wp2
  all_goals go_ret
  all_goals simp

def okB (others : List UInt8) (c : UInt8) : Bool := letterI c.toNat || (!(decide ((c.toNat : Int) < 48)) && !(decide ((57 : Int) < c.toNat))) || !(decide (Lib.indexByte others c < 0))
def madeB (s : List UInt8) (most : Int) (others : List UInt8) : Bool := s.all (okB others) && (!s.isEmpty && decide ((s.length : Int) ≤ most))

theorem all_succ {l : List UInt8} {f : UInt8 → Bool} {k : Nat} (hk : k < l.length) (h : (l.take k).all f = true) (hf : f l[k] = true) : (l.take (k + 1)).all f = true := by
  rw [List.take_succ_eq_append_getElem hk, List.all_append, h]
  simp [hf]
theorem made_no {l others : List UInt8} {k : Nat} (hk : k < l.length) {most : Int} (hf : okB others l[k] = false) : madeB l most others = false := by
  have : l.all (okB others) = false := by
    rw [List.all_eq_false]
    exact ⟨l[k], List.getElem_mem hk, by rw [hf]; decide⟩
  simp [madeB, this]
theorem len_eq (s : ByteArray) : s.data.toList.length = s.size := by simp

set_option maxRecDepth 100000 in
theorem made_any (s others : ByteArray) (most : Int) (w : World) (hs : s.size ≤ 140737488355328) :
    Calls Tryz.prog 98 #[.string s, .int .i64 most, .string others] w fun e w' => e = .returned (.bool (madeB s.data.toList most others.data.toList)) ∧ w' = w := by
  go_enter Tryz.func98, Tryz.ntmps98
  go_wp2_with fail
  go_loopw [11] (fun i wr => ∃ k : Nat, k ≤ s.size ∧ i = .int .i64 k ∧ (s.data.toList.take k).all (okB others.data.toList) = true ∧ wr = w) (fun i _ => s.size - (intOf i).toNat)
  case atStart => exact ⟨0, Nat.zero_le _, rfl, rfl, rfl⟩
  case round =>
    obtain ⟨k, hk, rfl, hall, rfl⟩ := hrel
    have Hall := Lib.hid hall; clear hall
    by_cases hkn : k < s.size
    · have hc : (((s[k]'hkn).toNat : Int).toNat).toUInt8 = s[k]'hkn := by simp
      obtain ⟨ok, hok⟩ : ∃ ok, okB others.data.toList (s[k]'hkn) = ok := ⟨_, rfl⟩
      have Hok := Lib.hid hok
      simp only [okB] at hok
      cases h1 : letterI ((s[k]'hkn).toNat : Int) <;> cases h2 : decide (((s[k]'hkn).toNat : Int) < 48) <;> cases h3 : decide ((57 : Int) < (s[k]'hkn).toNat) <;> cases h4 : decide (Lib.indexByte others.data.toList (s[k]'hkn) < 0)
      all_goals rw [h1, h2, h3, h4] at hok
      all_goals simp at hok
      all_goals subst hok
      all_goals go_wp2_with (first
        | (go_at_call 146; refine (letter_any _ _).mono ?_; rintro e w1 ⟨rfl, rfl⟩; rw [h1])
        | (go_at_call 147; refine (Tryz.strings_IndexByte _ _ _).mono ?_; rintro e w1 ⟨rfl, rfl⟩; rw [hc]))
      all_goals first
        | (refine ⟨⟨k + 1, by omega, by go_num, all_succ (by simpa using hkn) Hall.out Hok.out, trivial⟩, by simp [intOf]; omega⟩; done)
        | (go_ret; exact ⟨by rw [made_no (k := k) (by simpa using hkn) Hok.out]; rfl, rfl⟩)
    · obtain rfl : k = s.size := by omega
      rw [show s.data.toList.take s.size = s.data.toList from List.take_of_length_le (by simp)] at Hall
      have hemp : s.data.toList.isEmpty = s.toList.isEmpty := by rw [ByteArray.toList_eq]
      have Hemp := Lib.hid hemp; clear hemp
      cases h1 : s.toList.isEmpty <;> cases h2 : decide ((s.size : Int) ≤ most)
      all_goals go_wp2
      all_goals go_ret
      all_goals
        refine ⟨?_, rfl⟩
        simp only [madeB, Hall.out, Hemp.out, h1, Bool.true_and, len_eq, h2]
        rfl

theorem slash_pos : 1 ≤ (⟨#[47]⟩ : ByteArray).size := by decide
def parts (name : ByteArray) : List ByteArray := Lib.splitB ⟨#[47]⟩ 0 (Lib.countB name ⟨#[47]⟩) name
def placeB (name : ByteArray) : Bool := (parts name).all (fun p => madeB p.data.toList 40 [95, 43, 45]) && decide ((name.size : Int) ≤ 40)

theorem parts_le (sep : ByteArray) (k : Nat) (s : ByteArray) : ∀ p ∈ Lib.splitB sep 0 k s, p.size ≤ s.size := by
  induction k generalizing s with
  | zero => intro p hp; simp [Lib.splitB] at hp; subst hp; exact Nat.le_refl _
  | succ k ih =>
    intro p hp
    unfold Lib.splitB at hp
    split at hp
    · simp at hp; subst hp; exact Nat.le_refl _
    · rcases List.mem_cons.1 hp with rfl | hp
      · rw [ByteArray.size_extract]; omega
      · have := ih _ p hp
        rw [ByteArray.size_extract] at this
        omega

set_option maxRecDepth 100000 in
theorem place_any (name : ByteArray) (m : Int) (w : World) (hs : name.size ≤ 2097152) (hm : w.cell? ⟨0, 0, none⟩ = some (.int .i64 m)) :
    Calls Tryz.prog 47 #[.string name] w fun e w' => e = .returned (.bool (placeB name)) ∧ Below w.heap.size w w' := by
  go_enter Tryz.func47, Tryz.ntmps47
  have hL : (parts name).length = Lib.countB name ⟨#[47]⟩ + 1 := Lib.splitB_all _ slash_pos 0 _ name rfl
  have hcnt := Lib.countB_le ⟨#[47]⟩ slash_pos name.size name (Nat.le_refl _)
  have hsz : ∀ p ∈ parts name, p.size ≤ name.size := parts_le _ _ _
  go_wp2_with (go_at_call 97; refine (Tryz.strings_Split name ⟨#[47]⟩ m w (by omega) hm slash_pos).mono ?_; rintro e w1 ⟨rfl, hw1⟩; have Hblk : Hid (Blk w1 w.heap.size 9 ((parts name).map Value.string).toArray) := (by rw [hw1]; exact Blk.new w _ _); have Hbel : Hid (Below w.heap.size w w1) := (by rw [hw1]; exact (Below.refl _ _).alloc (Nat.le_refl _) _); clear hw1)
  have HL := Lib.hid hL; clear hL
  generalize hc : Lib.countB name ⟨#[47]⟩ = c at *
  go_loopw [8] (fun i wr => ∃ k : Nat, k ≤ c + 1 ∧ i = .int .i64 k ∧ ((parts name).take k).all (fun p => madeB p.data.toList 40 [95, 43, 45]) = true ∧ wr = w1) (fun i _ => c + 1 - (intOf i).toNat)
  case atStart => exact ⟨0, Nat.zero_le _, rfl, rfl, rfl⟩
  case round =>
    obtain ⟨k, hk, rfl, hall, rfl⟩ := hrel
    have Hall := Lib.hid hall; clear hall
    by_cases hkn : k < c + 1
    · have hkl : k < (parts name).length := by rw [HL.out]; exact hkn
      have hps := hsz (parts name)[k] (List.getElem_mem hkl)
      have hcell : wr.cell? (Addr.add ⟨w.heap.size, 0, none⟩ k) = some (.string (parts name)[k]) := by
        rw [show Addr.add ⟨w.heap.size, 0, none⟩ k = ⟨w.heap.size, k, none⟩ from by unfold Addr.add; split <;> simp_all, Hblk.out.cell k]
        simp [List.getElem?_eq_getElem hkl]
      have ad : Addr.add ⟨w.heap.size, 0, none⟩ k = ⟨w.heap.size, k, none⟩ := by unfold Addr.add; split <;> simp_all
      rw [ad] at hcell
      generalize hp : (parts name)[k] = p at *
      have Hp := Lib.hid hp; clear hp
      have hmd : Hid (madeB p.data.toList 40 (⟨#[95, 43, 45]⟩ : ByteArray).data.toList = madeB p.data.toList 40 [95, 43, 45]) := rfl
      cases hm1 : madeB p.data.toList 40 [95, 43, 45]
      all_goals go_wp2_with (go_at_call 98; refine (made_any _ _ _ _ (by omega)).mono ?_; rintro e w1 ⟨rfl, rfl⟩; rw [hmd.out, hm1])
      · go_ret
        refine ⟨?_, Hbel.out⟩
        have : (parts name).all (fun p => madeB p.data.toList 40 [95, 43, 45]) = false := by
          rw [List.all_eq_false]
          exact ⟨(parts name)[k], List.getElem_mem hkl, by rw [Hp.out, hm1]; decide⟩
        simp [placeB, this]
      · refine ⟨⟨k + 1, by omega, by go_num, ?_, trivial⟩, by simp [intOf]; omega⟩
        rw [List.take_succ_eq_append_getElem hkl, List.all_append, Hall.out, Hp.out]
        simp [hm1]
    · obtain rfl : k = c + 1 := by omega
      rw [List.take_of_length_le (by rw [HL.out]; exact Nat.le_refl _)] at Hall
      go_wp2
      go_ret
      refine ⟨?_, Hbel.out⟩
      simp only [placeB, Hall.out, Bool.true_and]
      rfl
end Go.Proofs.YtdicedpklpadgaaGreatDoor.Plc
