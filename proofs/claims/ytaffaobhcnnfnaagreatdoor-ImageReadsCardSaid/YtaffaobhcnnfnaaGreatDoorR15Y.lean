/-
  The document's Load: what its end holds (lemmas). Conditions: none.
-/
import Derived.Test.YtaffaobhcnnfnaaGreatDoorR15Z
import Derived.Test.YtaffaobhcnnfnaaGreatDoorTail
namespace Go.Proofs.YtaffaobhcnnfnaaGreatDoor.R15
open Go.RowKit Mem Img Rgt Rd Plc Src

theorem new_own {w : World} {base size n m c : Nat} {e t : TypeId} {A : Option Addr} {xs : List Value} {cs : Array Value} (ho : w.ownsRow base e size (.slice A n c) n xs) (hb : Blk w base t cs) (he : e ≠ t) (hm : m = n) : NewAt (base + 1) A m := fun hn => by
  obtain ⟨b, h1, h2, _⟩ := Rd.own_at ho (by omega)
  subst h1
  have h := own_blk_ne ho hb he
  refine ⟨b, rfl, ?_⟩
  have h3 : b ≠ base := fun e => h (by rw [e]; rfl)
  omega
theorem len_own {α : Type} {w : World} {base size n : Nat} {e : TypeId} {v : Value} {f : α → List Value} {l : List α} (ho : w.ownsRow base e size v n (l.flatMap f)) (hf : ∀ a, (f a).length = size) (hs : 0 < size) : l.length = n := by
  have h := ho.1
  rw [Rd.flat_len (m := size) hf] at h
  exact Nat.eq_of_mul_eq_mul_right hs h
theorem tab_ok {W : World} {x : Table} {A A2 : Option Addr} {c c2 N M B1 B2 : Nat} {e1 e2 : TypeId} (hs : W.ownsRow B1 e1 4 (.slice A N c) N (x.shifts.flatMap Shift.cells)) (hr : W.ownsRow B2 e2 11 (.slice A2 M c2) M (x.tail.flatMap Rule.cells)) (hN : x.shifts.length = N) (hM : x.tail.length = M)
    (h1 : N ≤ 4000) (h2 : M ≤ 4000) (h3 : x.name.size ≤ 4000) (h4 : x.format.size ≤ 4000) (h5 : PW x.first) (h6 : ∀ s ∈ x.shifts, PW s.ph) (h7 : ∀ r ∈ x.tail, r.name.size ≤ 4000 ∧ r.letter.size ≤ 4000) : TabOk x A A2 W := by
  subst hN hM
  exact ⟨Reads.of_own hs, Reads.of_own hr, by omega, by omega, by omega, by omega, h5, h6, fun r hr => by have := h7 r hr; omega⟩
theorem save_at {x : Table} {A A2 : Option Addr} {c c2 : Nat} {w : World} {v : Value} (hv : v = .agg (tabCells x A c A2 c2)) (h : TabOk x A A2 w) :
    Calls Tryz.prog 11 #[v] w fun e w' => e = .returned (.tuple (if rightB x (tailB x) = true then #[.string (bs (img x)), .int .i64 0] else #[.string ⟨#[]⟩, .int .i64 1])) ∧ Below w.heap.size w w' := by
  subst hv
  exact save_any x A A2 c c2 (rightB x (tailB x)) w h fun w1 hb => by rw [← R14.right_is]; exact R14.right_any x A A2 c c2 w1 (h.below hb)
/-- What the document's Load answers, by what it has read. -/
theorem end_no {l : List UInt8} {x : Table} {R : Option Table} {o : Option (List UInt8)} (HNone : Hid (refM l = none → R = none)) (HNo : Hid (∀ y r, refM l = some (y, r) → ¬ (rightB y (tailB y) = true ∧ img y = l) → R = none)) (hm : (o = none ∧ refM l = none) ∨ ∃ r, o = some r ∧ refM l = some (x, r)) (hn : ¬ (rightB x (tailB x) = true ∧ img x = l)) : R = none := by
  rcases hm with ⟨_, h⟩ | ⟨r, _, h⟩
  · exact HNone.out h
  · exact HNo.out x r h hn
theorem row_back {w w' : World} {x : Table} {A A2 : Option Addr} {cy : Array Value} (h : TabOk x A A2 w') (h1 : NewAt (w.heap.size + 1) A x.shifts.length) (h2 : NewAt (w.heap.size + 1) A2 x.tail.length) (hb : Below w.heap.size w w') : TabOk x A A2 (w'.setRow w.heap.size cy) ∧ Below w.heap.size w (w'.setRow w.heap.size cy) :=
  ⟨tabOk_row h h1 h2, row_below hb hb.size (Nat.le_refl _)⟩
theorem all_snoc {α : Type} {F : α → Prop} {l : List α} {a : α} (h : ∀ r ∈ l, F r) (ha : F a) : ∀ r ∈ l ++ [a], F r := fun r hr => by
  rcases List.mem_append.1 hr with h1 | h1
  · exact h r h1
  · simp only [List.mem_singleton] at h1; rw [h1]; exact ha
theorem wrap_in (n : Int) : In64 (wrap64 n) := by
  rw [← IntWalk.i64_left]
  exact i64_in n
theorem bs_back (s : ByteArray) : bs s.data.toList = s := Bck.bytes_back s
theorem cmp_yes (s : ByteArray) : ((bs s.data.toList).toList == s.toList) = true := by rw [bs_back]; simp
theorem cmp_no {l : List UInt8} {s : ByteArray} (h : ¬ l = s.data.toList) : ((bs l).toList == s.toList) = false := by
  have h2 : (bs l).toList = l := by rw [ByteArray.toList_eq]; rfl
  rw [h2, ByteArray.toList_eq]
  simpa using h
end Go.Proofs.YtaffaobhcnnfnaaGreatDoor.R15
