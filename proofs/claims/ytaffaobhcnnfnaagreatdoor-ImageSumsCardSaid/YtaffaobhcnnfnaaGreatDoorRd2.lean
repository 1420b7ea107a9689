/-
  Images read: the contracts of (*reader).short, many, and of abbr. Conditions: the lengths are bounded; for abbr the cell of bytealg.MaxLen holds a number.
-/
import Derived.Test.YtaffaobhcnnfnaaGreatDoorRd
import Derived.Test.YtaffaobhcnnfnaaGreatDoorShelf
namespace Go.Proofs.YtaffaobhcnnfnaaGreatDoor.Rd
open Go.RowKit Mem Img

def shortM (l : List UInt8) : Option (List UInt8 × List UInt8) := (numM .u8 1 l).bind fun x => takeM x.1.toNat x.2
def manyM (b : Nat) (l : List UInt8) : Option (Int × List UInt8) := (numM .u32 4 l).bind fun x => if (x.2.length : Int) < x.1 * b then none else some x
theorem numM_u8 {k : Nat} {l rest : List UInt8} {n : Int} (h : numM .u8 k l = some (n, rest)) : 0 ≤ n ∧ n < 256 ∧ rest.length ≤ l.length := by
  unfold numM takeM at h
  split at h
  · simp only [Option.map_some, Option.some.injEq, Prod.mk.injEq] at h
    rw [IntKind.wrap_u8] at h
    refine ⟨by omega, by omega, ?_⟩
    rw [← h.2, List.length_drop]
    omega
  · cases h
theorem numM_u32 {k : Nat} {l rest : List UInt8} {n : Int} (h : numM .u32 k l = some (n, rest)) : 0 ≤ n ∧ n < 4294967296 ∧ rest.length ≤ l.length := by
  unfold numM takeM at h
  split at h
  · simp only [Option.map_some, Option.some.injEq, Prod.mk.injEq] at h
    rw [IntKind.wrap_u32] at h
    refine ⟨by omega, by omega, ?_⟩
    rw [← h.2, List.length_drop]
    omega
  · cases h

set_option maxRecDepth 100000 in
theorem short_any (g : Nat) (l : List UInt8) (w : World) (h : Rd w g l) :
    Calls Tryz.prog 56 #[.pointer (some ⟨g, 0, none⟩)] w (RP strV g w (shortM l)) := by
  go_enter Tryz.func56, Tryz.ntmps56
  have Hn := Lib.hid (num_u8 1 g l w h (by omega)); clear h
  cases hm : numM .u8 1 l with
  | none =>
    rw [hm] at Hn
    have : shortM l = none := by rw [shortM, hm]; rfl
    rw [this]
    clear this hm
    go_wp2_with (go_at_call 62; refine Hn.out.mono ?_; rintro e w1 hr; obtain ⟨rfl, hg⟩ := hr.bad; have Hg := Lib.hid hg; clear hr hg)
    exact ⟨rfl, Hg.out, rfl⟩
  | some x =>
    obtain ⟨n, rest⟩ := x
    rw [hm] at Hn
    obtain ⟨h0, h1, _⟩ := numM_u8 hm
    have hs : shortM l = takeM n.toNat rest := by rw [shortM, hm]; rfl
    rw [hs]
    clear hs hm
    obtain ⟨k, rfl⟩ : ∃ k : Nat, n = k := ⟨n.toNat, by omega⟩
    have hk : k < 256 := by omega
    simp only [Int.toNat_natCast]
    cases ht : takeM k rest with
    | none =>
      go_wp2_with (first
        | (go_at_call 62; refine Hn.out.mono ?_; rintro e w1 hr; obtain ⟨rfl, hrd, hg⟩ := hr.ok; have Hg := Lib.hid hg; have Hrd := Lib.hid hrd; clear hr hg hrd)
        | (go_at_call 55; refine (take_any k g rest w1 Hrd.out (by omega)).mono ?_; rintro e w2 hr; rw [ht] at hr; obtain ⟨rfl, hg⟩ := hr.bad; have Hg2 := Lib.hid hg; clear hr hg))
      exact ⟨rfl, gr3 Hg.out Hg2.out, rfl⟩
    | some y =>
      obtain ⟨s, r2⟩ := y
      go_wp2_with (first
        | (go_at_call 62; refine Hn.out.mono ?_; rintro e w1 hr; obtain ⟨rfl, hrd, hg⟩ := hr.ok; have Hg := Lib.hid hg; have Hrd := Lib.hid hrd; clear hr hg hrd)
        | (go_at_call 55; refine (take_any k g rest w1 Hrd.out (by omega)).mono ?_; rintro e w2 hr; rw [ht] at hr; obtain ⟨rfl, hrd2, hg⟩ := hr.ok; have Hg2 := Lib.hid hg; have Hrd2 := Lib.hid hrd2; clear hr hg hrd2))
      go_ret
      exact ⟨gr3 Hg.out Hg2.out, rfl, Hrd2.out⟩

set_option maxRecDepth 100000 in
theorem many_any (b : Nat) (g : Nat) (l : List UInt8) (w : World) (h : Rd w g l) (hb : b ≤ 100) :
    Calls Tryz.prog 57 #[.pointer (some ⟨g, 0, none⟩), .int .i64 b] w (RP (Value.int .i64) g w (manyM b l)) := by
  go_enter Tryz.func57, Tryz.ntmps57
  have Hn := Lib.hid (num_u32 4 g l w h (by omega)); clear h
  cases hm : numM .u32 4 l with
  | none =>
    rw [hm] at Hn
    have : manyM b l = none := by rw [manyM, hm]; rfl
    rw [this]
    clear this hm
    go_wp2_with (go_at_call 59; refine Hn.out.mono ?_; rintro e w1 hr; obtain ⟨rfl, hg⟩ := hr.bad; have Hg := Lib.hid hg; clear hr hg)
    exact ⟨rfl, Hg.out, rfl⟩
  | some x =>
    obtain ⟨n, rest⟩ := x
    rw [hm] at Hn
    obtain ⟨h0, h1, h2⟩ := numM_u32 hm
    have hs : manyM b l = if (rest.length : Int) < n * b then none else some (n, rest) := by rw [manyM, hm]; rfl
    rw [hs]
    clear hs hm
    have hnb : n * b ≤ 429496729600 := by
      have : n * b ≤ 4294967296 * 100 := Int.mul_le_mul (by omega) (by omega) (by omega) (by omega)
      omega
    have hnb0 : 0 ≤ n * b := Int.mul_nonneg h0 (by omega)
    by_cases hc : (rest.length : Int) < n * b
    · rw [if_pos hc]
      go_wp2_with (go_at_call 59; refine Hn.out.mono ?_; rintro e w1 hr; obtain ⟨rfl, hrd, hg⟩ := hr.ok; have Hg := Lib.hid hg; have Hrd := Lib.hid hrd; have c0 := hrd.cell 0; clear hr hg hrd)
      exact ⟨rfl, Hg.out, rfl⟩
    · rw [if_neg hc]
      go_wp2_with (go_at_call 59; refine Hn.out.mono ?_; rintro e w1 hr; obtain ⟨rfl, hrd, hg⟩ := hr.ok; have Hg := Lib.hid hg; have Hrd := Lib.hid hrd; have c0 := hrd.cell 0; clear hr hg hrd)
      go_ret
      exact ⟨Hg.out, rfl, Hrd.out⟩

/-- A text of a pool: from a place on, up to the next byte 0. -/
def abbrM (pool : List UInt8) (at_ : Nat) : Option (List UInt8) :=
  if pool.length ≤ at_ then none else if (Lib.cut (pool.drop at_) [0]).2.2 = true then some (Lib.cut (pool.drop at_) [0]).1 else none

set_option maxRecDepth 100000 in
theorem abbr_any (pool : List UInt8) (at_ : Nat) (m : Int) (w : World) (hp : pool.length < 4294967281) (ha : at_ < 4294967296) (hm : w.cell? ⟨0, 0, none⟩ = some (.int .i64 m)) :
    Calls Tryz.prog 61 #[.string ⟨pool.toArray⟩, .int .u32 at_] w fun e w' => (match abbrM pool at_ with | some s => e = .returned (strV s) | none => e = badE) ∧ ∃ n, w' = w.drewN n := by
  go_enter Tryz.func61, Tryz.ntmps61
  by_cases hle : pool.length ≤ at_
  · have : abbrM pool at_ = none := if_pos hle
    rw [this]
    clear this
    go_wp2
    exact ⟨rfl, rfl, 0, rfl⟩
  · have hd : (⟨pool.toArray⟩ : ByteArray).extract at_ pool.length = ⟨(pool.drop at_).toArray⟩ := ext_drop pool at_
    have Hc := Lib.hid (Tryz.strings_Cut ⟨(pool.drop at_).toArray⟩ ⟨#[0]⟩ m w (by show (pool.drop at_).length < _; rw [List.length_drop]; omega) hm)
    have hA : abbrM pool at_ = if (Lib.cut (pool.drop at_) [0]).2.2 = true then some (Lib.cut (pool.drop at_) [0]).1 else none := if_neg hle
    rw [hA]
    clear hA hm
    have hc2 : (Lib.cut (⟨(pool.drop at_).toArray⟩ : ByteArray).data.toList (⟨#[0]⟩ : ByteArray).data.toList) = Lib.cut (pool.drop at_) [0] := rfl
    rw [hc2] at Hc
    clear hc2
    generalize Lib.cut (pool.drop at_) [0] = q at *
    obtain ⟨q1, q2, q3⟩ := q
    simp only at Hc
    cases q3
    all_goals go_wp2_with (go_at_call 73; refine Hc.out.mono ?_; rintro e w1 ⟨rfl, hw⟩; have Hw := Lib.hid hw; clear hw)
    · exact ⟨rfl, rfl, Hw.out⟩
    · go_ret
      exact ⟨rfl, Hw.out⟩
end Go.Proofs.YtaffaobhcnnfnaaGreatDoor.Rd
