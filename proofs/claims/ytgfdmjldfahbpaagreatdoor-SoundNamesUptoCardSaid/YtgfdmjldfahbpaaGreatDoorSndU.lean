/-
  Names: the program's and the document's are the same (plain), and the contract of analemmaref13.Light. Conditions: none but what the source's slices hold is read.
-/
import Derived.Test.YtgfdmjldfahbpaaGreatDoorSndT
namespace Go.Proofs.YtgfdmjldfahbpaaGreatDoor.Snd
open Go.RowKit Mem Civ Mom Img Plc Rul Src Go.Maps Go.Sort

theorem ltB_is (a b : ByteArray) : ltB a b = decide (a.data.toList < b.data.toList) := by
  unfold ltB
  rw [Go.Proofs.bytesLess_eq, ByteArray.toList_eq, ByteArray.toList_eq]
theorem keyL_put (nm : ByteArray) : ∀ (l : List ByteArray) (x : List UInt8), x ∈ keyL (putL nm l) ↔ x = nm.data.toList ∨ x ∈ keyL l
  | [], x => by simp [keyL, putL]
  | a :: t, x => by
    have ih := keyL_put nm t x
    unfold putL
    split
    · simp only [keyL, List.map_cons, List.mem_cons] at ih ⊢
      rw [ih]
      constructor
      · rintro (h | h | h)
        · exact .inr (.inl h)
        · exact .inl h
        · exact .inr (.inr h)
      · rintro (h | h | h)
        · exact .inr (.inl h)
        · exact .inl h
        · exact .inr (.inr h)
    · split
      · next h =>
        have e : a.data.toList = nm.data.toList := by
          rw [ByteArray.toList_eq, ByteArray.toList_eq] at h
          simpa using h
        simp only [keyL, List.map_cons, List.mem_cons]
        constructor
        · intro h; exact .inr h
        · rintro (h | h)
          · exact .inl (by rw [h, e])
          · exact h
      · simp [keyL]
theorem put_sorted (nm : ByteArray) : ∀ (l : List ByteArray), (keyL l).Pairwise (· < ·) → (keyL (putL nm l)).Pairwise (· < ·)
  | [], _ => by simp [keyL, putL]
  | a :: t, h => by
    have h' := h
    simp only [keyL, List.map_cons, List.pairwise_cons] at h
    obtain ⟨h1, h2⟩ := h
    have ih := put_sorted nm t h2
    unfold putL
    split
    · next hlt =>
      rw [ltB_is] at hlt
      have hlt' : a.data.toList < nm.data.toList := by simpa using hlt
      show (a.data.toList :: keyL (putL nm t)).Pairwise (· < ·)
      refine List.pairwise_cons.2 ⟨fun y hy => ?_, ih⟩
      rcases (keyL_put nm t y).1 hy with rfl | hy
      · exact hlt'
      · exact h1 y hy
    · next hlt =>
      split
      · exact h'
      · next hne =>
        have hn : ¬ a.data.toList < nm.data.toList := by
          rw [ltB_is] at hlt
          simpa using hlt
        have hne' : a.data.toList ≠ nm.data.toList := by
          rw [ByteArray.toList_eq, ByteArray.toList_eq] at hne
          simpa using hne
        have hgt : nm.data.toList < a.data.toList := by
          have hle : nm.data.toList ≤ a.data.toList := hn
          rcases Decidable.em (nm.data.toList < a.data.toList) with h | h
          · exact h
          · exact absurd (List.le_antisymm (show a.data.toList ≤ nm.data.toList from h) hle) hne'
        show (nm.data.toList :: keyL (a :: t)).Pairwise (· < ·)
        refine List.pairwise_cons.2 ⟨fun y hy => ?_, h'⟩
        simp only [keyL, List.map_cons, List.mem_cons] at hy
        rcases hy with rfl | hy
        · exact hgt
        · exact List.lt_trans hgt (h1 y hy)
theorem names_sorted (ns : List ByteArray) : (keyL (namesL ns)).Pairwise (· < ·) ∧ ∀ x, x ∈ keyL (namesL ns) ↔ x ∈ keyL ns := by
  suffices h : ∀ (ns : List ByteArray), (keyL (namesL ns.reverse)).Pairwise (· < ·) ∧ ∀ x, x ∈ keyL (namesL ns.reverse) ↔ x ∈ keyL ns by
    have := h ns.reverse
    rw [List.reverse_reverse] at this
    refine ⟨this.1, fun x => ?_⟩
    rw [this.2 x]
    simp [keyL]
  intro ns
  induction ns with
  | nil => simp [namesL, keyL]
  | cons a t ih =>
    rw [List.reverse_cons, namesL_snoc]
    refine ⟨put_sorted a _ ih.1, fun x => ?_⟩
    rw [keyL_put, ih.2 x]
    simp [keyL]
theorem names_one {ts : List (List UInt8)} {ns : List ByteArray} (h1 : ts.Pairwise (· ≤ ·)) (h2 : ts.Nodup) (h3 : ∀ x, x ∈ ts ↔ x ∈ keyL ns) : ts = keyL (namesL ns) := by
  obtain ⟨k1, k2⟩ := names_sorted ns
  have hnd : (keyL (namesL ns)).Nodup := k1.imp fun h e => by subst e; exact List.lt_irrefl _ h
  have hp : ts.Perm (keyL (namesL ns)) := (List.perm_ext_iff_of_nodup h2 hnd).2 fun x => by rw [h3 x, k2 x]
  have hm := mergeSort_of_perm hp
  have s1 : ts.mergeSort leB = ts := List.mergeSort_of_pairwise (h1.imp fun h => by simpa using h)
  have s2 : (keyL (namesL ns)).mergeSort leB = keyL (namesL ns) := List.mergeSort_of_pairwise (k1.imp fun h => by simpa using List.le_of_lt h)
  rw [s1, s2] at hm
  exact hm
theorem enc_txs (l : List ByteArray) : (keyL l).map encStr = txs l := by
  unfold keyL txs
  rw [List.map_map]
  refine List.map_congr_left fun s _ => ?_
  show Value.string ⟨s.data.toList.toArray⟩ = .string s
  cases s; simp
/-- What Names answers, in the document's words. -/
theorem namesP_is {w w' : World} {ns : List ByteArray} {e : Ending} (h : NamesP w ns e w') : ∃ v, e = .returned v ∧ w'.ownsRow w.heap.size 9 1 v (namesL ns).length (txs (namesL ns)) ∧ Below w.heap.size w w' := by
  obtain ⟨v, ts, he, hown, h1, h2, h3, hb⟩ := h
  have e := names_one h1 h2 h3
  subst e
  rw [enc_txs] at hown
  refine ⟨v, he, ?_, hb⟩
  have hl : (keyL (namesL ns)).length = (namesL ns).length := by simp [keyL]
  exact own_n hown hl.symm
end Go.Proofs.YtgfdmjldfahbpaaGreatDoor.Snd
