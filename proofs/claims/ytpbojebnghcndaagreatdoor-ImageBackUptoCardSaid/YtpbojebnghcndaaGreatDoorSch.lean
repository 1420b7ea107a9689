/-
  Searching by halves (plain): what sort.Search finds. Conditions: none.
-/
import Derived.Test.YtpbojebnghcndaaGreatDoorPln
namespace Go.Proofs.YtpbojebnghcndaaGreatDoor.Sch
open Go.RowKit Mem Img

/-- The place that halving finds, between two places, in so many steps. -/
def searchF (f : Nat → Bool) : Nat → Nat → Nat → Nat
  | 0, i, _ => i
  | k + 1, i, j => if i < j then (if f ((i + j) / 2) = true then searchF f k i ((i + j) / 2) else searchF f k ((i + j) / 2 + 1) j) else i
theorem search_more (f : Nat → Bool) : ∀ (k i j : Nat), j - i ≤ k → searchF f k i j = searchF f (j - i) i j
  | 0, i, j, h => by rw [show j - i = 0 by omega]
  | k + 1, i, j, h => by
    by_cases hij : i < j
    · obtain ⟨d, hd⟩ : ∃ d, j - i = d + 1 := ⟨j - i - 1, by omega⟩
      rw [hd, searchF, searchF, if_pos hij, if_pos hij]
      have h1 := search_more f k i ((i + j) / 2) (by omega)
      have h2 := search_more f k ((i + j) / 2 + 1) j (by omega)
      have h3 := search_more f d i ((i + j) / 2) (by omega)
      have h4 := search_more f d ((i + j) / 2 + 1) j (by omega)
      rw [h1, h2, h3, h4]
    · rw [show j - i = 0 by omega, searchF, searchF, if_neg hij]
termination_by k i j _ => k
theorem search_step {f : Nat → Bool} {i j : Nat} (h : i < j) : searchF f (j - i) i j = if f ((i + j) / 2) = true then searchF f ((i + j) / 2 - i) i ((i + j) / 2) else searchF f (j - ((i + j) / 2 + 1)) ((i + j) / 2 + 1) j := by
  obtain ⟨d, hd⟩ : ∃ d, j - i = d + 1 := ⟨j - i - 1, by omega⟩
  rw [hd, searchF, if_pos h, search_more f d i ((i + j) / 2) (by omega), search_more f d ((i + j) / 2 + 1) j (by omega)]
theorem search_le (f : Nat → Bool) : ∀ (k i j : Nat), i ≤ j → searchF f k i j ≤ j
  | 0, i, j, h => h
  | k + 1, i, j, h => by
    rw [searchF]
    split
    · split
      · exact Nat.le_trans (search_le f k i _ (by omega)) (by omega)
      · exact search_le f k _ j (by omega)
    · exact h
/-- Of a test that stays true once it is, halving finds the first place where it is. -/
theorem search_first {f : Nat → Bool} {n : Nat} (hm : ∀ a b, a ≤ b → b < n → f a = true → f b = true) : ∀ (k i j : Nat), j - i ≤ k → i ≤ j → j ≤ n → (∀ t, t < i → f t = false) → (∀ t, j ≤ t → t < n → f t = true) →
    (∀ t, t < searchF f k i j → f t = false) ∧ (∀ t, searchF f k i j ≤ t → t < n → f t = true)
  | 0, i, j, h, hij, hjn, h1, h2 => ⟨h1, fun t ht => h2 t (by simp only [searchF] at ht; omega)⟩
  | k + 1, i, j, h, hij, hjn, h1, h2 => by
    rw [searchF]
    split
    · next hlt =>
      split
      · next hf => exact search_first hm k i _ (by omega) (by omega) (by omega) h1 fun t ht htn => hm _ t ht htn hf
      · next hf =>
        refine search_first hm k _ j (by omega) (by omega) hjn (fun t ht => ?_) h2
        cases ht2 : f t with
        | false => rfl
        | true => exact absurd (hm t _ (by omega) (by omega) ht2) hf
    · next hge => exact ⟨h1, fun t ht => h2 t (by omega)⟩
end Go.Proofs.YtpbojebnghcndaaGreatDoor.Sch
