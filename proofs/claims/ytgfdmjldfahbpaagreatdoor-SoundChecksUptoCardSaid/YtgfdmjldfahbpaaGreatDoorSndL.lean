/-
  What a source without flaws is like (plain): its names, their zones, and a zone of it alone. Conditions: none.
-/
import Derived.Test.YtgfdmjldfahbpaaGreatDoorSndV
namespace Go.Proofs.YtgfdmjldfahbpaaGreatDoor.Snd
open Go.RowKit Mem Civ Mom Img Plc Rul Src

theorem flaw_ne {e k a r : Int} (h : ¬ e = 0 ∨ ¬ k = 0) : (⟨e, k, a, r⟩ : Flaw) ≠ noFlaw := fun he => by
  unfold noFlaw at he
  injection he
  omega
theorem flawAt_no {e k : Int} {o : Option Nat} (he : ¬ e = 0) (h : flawAt e k o = noFlaw) : o = none := by
  cases o with
  | none => rfl
  | some i => exact absurd h (flaw_ne (.inl he))
theorem firstF_no : ∀ {l : List Flaw}, firstF l = noFlaw → ∀ f ∈ l, f = noFlaw
  | [], _, f, hf => by cases hf
  | a :: t, h, f, hf => by
    unfold firstF at h
    split at h
    · next ha =>
      rcases List.mem_cons.1 hf with rfl | hf
      · exact ha
      · exact firstF_no h f hf
    · next ha => exact absurd h ha
theorem clean_parts {s : Src} (h : checkB s = noFlaw) : srcB s = true ∧ ordersB s = noFlaw ∧ setsB s = noFlaw ∧ zonesB s (svF s) = noFlaw ∧ linksB s = noFlaw ∧ targetsB s = noFlaw := by
  unfold checkB at h
  split at h
  · next hs =>
    have h2 := firstF_no h
    exact ⟨hs, h2 _ (by simp), h2 _ (by simp), h2 _ (by simp), h2 _ (by simp), h2 _ (by simp)⟩
  · exact absurd h (flaw_ne (.inl (by decide)))
theorem clean_of {s : Src} (h0 : srcB s = true) (h1 : ordersB s = noFlaw) (h2 : setsB s = noFlaw) (h3 : zonesB s (svF s) = noFlaw) (h4 : linksB s = noFlaw) (h5 : targetsB s = noFlaw) : checkB s = noFlaw := by
  unfold checkB
  rw [if_pos h0, h1, h2, h3, h4, h5]
  simp [firstF]
theorem inL_no {l : List ByteArray} {s : ByteArray} : inL l s = false ↔ ¬ s ∈ l := by
  rw [← inL_iff]
  cases inL l s <;> simp
/-! ### Names -/
theorem zonesL_no {rs : List Rule} {sv : Era → Int} : ∀ {zs : List ZoneM} {seen : List ByteArray} {i : Nat}, zonesL rs sv seen zs i = noFlaw → (∀ z ∈ zs, ¬ z.name ∈ seen) ∧ (zs.map (·.name)).Nodup ∧ ∀ z ∈ zs, zErr rs sv z.eras = none
  | [], _, _, _ => ⟨by simp, by simp, by simp⟩
  | z :: t, seen, i, h => by
    unfold zonesL at h
    split at h
    · exact absurd h (flaw_ne (.inl (by decide)))
    · next hin =>
      split at h
      · exact absurd h (flaw_ne (.inr (by decide)))
      · next hz =>
        obtain ⟨h1, h2, h3⟩ := zonesL_no h
        have hz' : ¬ z.name ∈ seen := inL_no.1 (by simpa using hin)
        refine ⟨fun y hy => ?_, ?_, fun y hy => ?_⟩
        · rcases List.mem_cons.1 hy with rfl | hy
          · exact hz'
          · exact fun hm => h1 y hy (List.mem_append_left _ hm)
        · rw [List.map_cons, List.nodup_cons]
          refine ⟨fun hm => ?_, h2⟩
          obtain ⟨y, hy, e⟩ := List.mem_map.1 hm
          exact h1 y hy (by rw [e]; simp)
        · rcases List.mem_cons.1 hy with rfl | hy
          · exact hz
          · exact h3 y hy
theorem zonesL_yes {rs : List Rule} {sv : Era → Int} : ∀ {zs : List ZoneM} {seen : List ByteArray} {i : Nat}, (∀ z ∈ zs, ¬ z.name ∈ seen) → (zs.map (·.name)).Nodup → (∀ z ∈ zs, zErr rs sv z.eras = none) → zonesL rs sv seen zs i = noFlaw
  | [], _, _, _, _, _ => rfl
  | z :: t, seen, i, h1, h2, h3 => by
    unfold zonesL
    rw [List.map_cons, List.nodup_cons] at h2
    have hz := inL_no.2 (h1 z (by simp))
    rw [if_neg (by simp [hz]), h3 z (by simp)]
    refine zonesL_yes (fun y hy hm => ?_) h2.2 (fun y hy => h3 y (by simp [hy]))
    rcases List.mem_append.1 hm with hm | hm
    · exact h1 y (by simp [hy]) hm
    · exact h2.1 (List.mem_map.2 ⟨y, hy, by simpa using hm⟩)
theorem dupL_no : ∀ {ls : List Link} {seen : List ByteArray} {i : Nat}, dupL seen ls i = none → (∀ l ∈ ls, ¬ l.name ∈ seen) ∧ (ls.map (·.name)).Nodup
  | [], _, _, _ => ⟨by simp, by simp⟩
  | z :: t, seen, i, h => by
    unfold dupL at h
    split at h
    · cases h
    · next hin =>
      obtain ⟨h1, h2⟩ := dupL_no h
      have hz' : ¬ z.name ∈ seen := inL_no.1 (by simpa using hin)
      refine ⟨fun y hy => ?_, ?_⟩
      · rcases List.mem_cons.1 hy with rfl | hy
        · exact hz'
        · exact fun hm => h1 y hy (List.mem_append_left _ hm)
      · rw [List.map_cons, List.nodup_cons]
        refine ⟨fun hm => ?_, h2⟩
        obtain ⟨y, hy, e⟩ := List.mem_map.1 hm
        exact h1 y hy (by rw [e]; simp)
theorem names_nodup {s : Src} (h : checkB s = noFlaw) : (allNames s).Nodup := by
  obtain ⟨_, _, _, h3, h4, _⟩ := clean_parts h
  obtain ⟨_, z2, _⟩ := zonesL_no h3
  obtain ⟨l1, l2⟩ := dupL_no (flawAt_no (by decide) h4)
  unfold allNames
  rw [List.nodup_append]
  refine ⟨z2, l2, fun a ha b hb e => ?_⟩
  obtain ⟨y, hy, e2⟩ := List.mem_map.1 hb
  exact l1 y hy (by rw [e2, ← e]; exact ha)
theorem putL_mem {nm x : ByteArray} {l : List ByteArray} : x ∈ putL nm l ↔ x = nm ∨ x ∈ l := by
  have h := keyL_put nm l x.data.toList
  rw [keyL_mem, keyL_mem] at h
  rw [h]
  constructor
  · rintro (h | h)
    · left
      cases x; cases nm
      simp only [ByteArray.mk.injEq] at h ⊢
      exact Array.toList_inj.1 h
    · exact .inr h
  · rintro (h | h)
    · left; rw [h]
    · exact .inr h
theorem putL_new {nm : ByteArray} : ∀ {l : List ByteArray}, ¬ nm ∈ l → (putL nm l).length = l.length + 1
  | [], _ => rfl
  | x :: t, h => by
    unfold putL
    split
    · rw [List.length_cons, putL_new fun hm => h (by simp [hm]), List.length_cons]
    · split
      · next he =>
        exfalso
        rw [tl_beq, decide_eq_true_eq] at he
        exact h (by simp [he])
      · rfl
theorem namesL_mem {ns : List ByteArray} {x : ByteArray} : x ∈ namesL ns ↔ x ∈ ns := by
  suffices h : ∀ (ns : List ByteArray), x ∈ namesL ns.reverse ↔ x ∈ ns by have := h ns.reverse; simpa using this
  intro ns
  induction ns with
  | nil => simp [namesL]
  | cons a t ih => rw [List.reverse_cons, namesL_snoc, putL_mem, ih, List.mem_cons]
theorem namesL_nodup {ns : List ByteArray} (h : ns.Nodup) : (namesL ns).length = ns.length := by
  suffices h : ∀ (ns : List ByteArray), ns.Nodup → (namesL ns.reverse).length = ns.length by
    have := h ns.reverse ((List.reverse_perm ns).nodup_iff.2 ‹_›); simpa using this
  intro ns
  induction ns with
  | nil => simp [namesL]
  | cons a t ih =>
    intro h
    rw [List.nodup_cons] at h
    rw [List.reverse_cons, namesL_snoc, putL_new, ih h.2, List.length_cons]
    rw [namesL_mem, List.mem_reverse]
    exact h.1
theorem stepR_lt {zs : List ZoneM} {ls : List Link} : ∀ {n : Nat} {nm : ByteArray} {i : Nat}, stepR zs ls n nm = some i → i < zs.length
  | 0, _, _, h => by cases h
  | n + 1, nm, i, h => by
    unfold stepR at h
    split at h
    · next j hj => injection h with h; subst h; exact zoneAt_lt hj
    · split at h
      · cases h
      · exact stepR_lt h
theorem zoneAt_mem {zs : List ZoneM} {nm : ByteArray} : (zoneAt zs nm).isSome = true ↔ nm ∈ zs.map (·.name) := by
  unfold zoneAt
  rw [List.findIdx?_isSome, List.any_eq_true]
  simp
theorem linkAt_mem {zs : List Link} {nm : ByteArray} : (linkAt zs nm).isSome = true ↔ nm ∈ zs.map (·.name) := by
  unfold linkAt
  rw [List.findIdx?_isSome, List.any_eq_true]
  simp
/-- Of a source without flaws all names resolve, and no others. -/
theorem resolves_iff {s : Src} (h : checkB s = noFlaw) (nm : ByteArray) : (resolveB s nm).isSome = true ↔ nm ∈ allNames s := by
  obtain ⟨_, _, _, _, _, h5⟩ := clean_parts h
  unfold targetsB at h5
  split at h5
  · exact absurd h5 (flaw_ne (.inl (by decide)))
  · have h6 := flawAt_no (by decide) h5
    rw [List.findIdx?_eq_none_iff] at h6
    constructor
    · intro hr
      unfold resolveB stepR at hr
      unfold allNames
      rw [List.mem_append, ← zoneAt_mem, ← linkAt_mem]
      cases hz : zoneAt s.zones nm with
      | some i => exact .inl rfl
      | none =>
        cases hl : linkAt s.links nm with
        | some i => exact .inr rfl
        | none => rw [hz, hl] at hr; cases hr
    · intro hm
      unfold allNames at hm
      rcases List.mem_append.1 hm with hm | hm
      · obtain ⟨i, hi⟩ := Option.isSome_iff_exists.1 (zoneAt_mem.2 hm)
        unfold resolveB stepR
        rw [hi]; rfl
      · obtain ⟨l, hl, e⟩ := List.mem_map.1 hm
        have := h6 l hl
        rw [← e]
        simpa using this

/-! ### A zone alone -/
def usedB (z : ZoneM) (r : Rule) : Bool := z.eras.any fun x => decide (x.rules = r.name)
/-- A zone alone with the sets that it names, its slice of eras told anew. -/
def partS (s : Src) (z : ZoneM) : Src := ⟨s.rules.filter (usedB z), [z], []⟩
theorem part_set {s : Src} {z : ZoneM} {nm : ByteArray} (h : ∃ x ∈ z.eras, x.rules = nm) : setL (partS s z).rules nm = setL s.rules nm := by
  unfold setL partS
  simp only
  rw [List.filter_filter]
  refine List.filter_congr fun r _ => ?_
  by_cases e : r.name = nm
  · obtain ⟨x, hx, hn⟩ := h
    have : usedB z r = true := List.any_eq_true.2 ⟨x, hx, by simp [hn, e]⟩
    simp [e, this]
  · simp [e]
theorem part_setOf {s : Src} {z : ZoneM} {x : Era} (h : x ∈ z.eras) : setOf (partS s z).rules x = setOf s.rules x := by
  unfold setOf
  split
  · exact part_set ⟨x, h, rfl⟩
  · rfl
theorem part_sv {s : Src} {z : ZoneM} {x : Era} (h : x ∈ z.eras) : svF (partS s z) x = svF s x := by
  unfold svF
  rw [part_setOf h]
theorem part_endP {s : Src} {z : ZoneM} {x : Era} (h : x ∈ z.eras) : endP (svF (partS s z)) x = endP (svF s) x := by
  unfold endP
  rw [part_sv h]
theorem part_era {s : Src} {z : ZoneM} (k : Nat) : eraAt (partS s z).rules (svF (partS s z)) z.eras k = eraAt s.rules (svF s) z.eras k := by
  unfold eraAt
  cases hk : z.eras[k]? with
  | none => rfl
  | some x =>
    have hx := List.mem_of_getElem? hk
    have hp : prevP (svF (partS s z)) z.eras k = prevP (svF s) z.eras k := by
      cases k with
      | zero => rfl
      | succ k =>
        simp only [prevP]
        cases hk2 : z.eras[k]? with
        | none => rfl
        | some y => exact congrArg (·, y.till) (part_endP (List.mem_of_getElem? hk2))
    simp only [hp, part_endP hx]
    unfold eraE
    rw [part_set ⟨x, hx, rfl⟩]
theorem setsL_no {all : List Rule} : ∀ {l : List Rule} {seen : List ByteArray} {i : Nat}, setsL all seen l i = noFlaw → ∀ r ∈ l, ¬ r.name ∈ seen → setErr (setL all r.name) = 0
  | [], _, _, _, r, hr, _ => by cases hr
  | x :: t, seen, i, h, r, hr, hn => by
    unfold setsL at h
    split at h
    · next hin =>
      rcases List.mem_cons.1 hr with rfl | hr
      · exact absurd (inL_iff.1 hin) hn
      · exact setsL_no h r hr hn
    · split at h
      · next h0 =>
        by_cases e : r.name = x.name
        · rw [e]; exact h0
        · rcases List.mem_cons.1 hr with rfl | hr
          · exact h0
          · refine setsL_no h r hr fun hm => ?_
            rcases List.mem_append.1 hm with hm | hm
            · exact hn hm
            · exact e (by simpa using hm)
      · exact absurd h (flaw_ne (.inr (by decide)))
theorem setsL_yes {all : List Rule} : ∀ {l : List Rule} {seen : List ByteArray} {i : Nat}, (∀ r ∈ l, setErr (setL all r.name) = 0) → setsL all seen l i = noFlaw
  | [], _, _, _ => rfl
  | x :: t, seen, i, h => by
    unfold setsL
    split
    · exact setsL_yes fun r hr => h r (by simp [hr])
    · rw [if_pos (h x (by simp))]
      exact setsL_yes fun r hr => h r (by simp [hr])
theorem part_right {s : Src} {z : ZoneM} (h : srcB s = true) (hz : z ∈ s.zones) : srcB (partS s z) = true := by
  unfold srcB at h ⊢
  simp only [Bool.and_eq_true, Bool.not_eq_true', decide_eq_false_iff_not] at h ⊢
  obtain ⟨⟨h1, h2, h3⟩, h4, h5, h6⟩ := h
  have hl : (partS s z).rules.length ≤ s.rules.length := List.length_filter_le _ _
  refine ⟨⟨by omega, by simp [partS], by simp [partS]⟩, ?_, ?_, rfl⟩
  · rw [List.all_eq_true] at h4 ⊢
    exact fun r hr => h4 r (List.mem_filter.1 hr).1
  · rw [List.all_eq_true] at h5
    show (zoneB z && true) = true
    rw [h5 z hz]; rfl
theorem part_clean {s : Src} {z : ZoneM} (h : checkB s = noFlaw) (hz : z ∈ s.zones) : checkB (partS s z) = noFlaw := by
  obtain ⟨h0, h1, h2, h3, h4, h5⟩ := clean_parts h
  refine clean_of (part_right h0 hz) ?_ ?_ ?_ rfl rfl
  · have := flawAt_no (by decide) h1
    rw [List.findIdx?_eq_none_iff] at this
    unfold ordersB
    have h8 : (partS s z).rules.findIdx? (fun r => decide (r.hi < r.lo)) = none := List.findIdx?_eq_none_iff.2 fun r hr => this r (List.mem_filter.1 hr).1
    rw [h8]
    rfl
  · refine setsL_yes fun r hr => ?_
    obtain ⟨hr1, hr2⟩ := List.mem_filter.1 hr
    obtain ⟨x, hx, hn⟩ := List.any_eq_true.1 hr2
    rw [part_set ⟨x, hx, by simpa using hn⟩]
    exact setsL_no h2 r hr1 (by simp)
  · obtain ⟨_, _, hz3⟩ := zonesL_no h3
    refine zonesL_yes (by simp) (by simp [partS]) fun y hy => ?_
    obtain rfl : y = z := by simpa [partS] using hy
    have := hz3 y hz
    unfold zErr at this ⊢
    rw [List.find?_eq_none] at this ⊢
    intro k hk
    rw [part_era]
    exact this k hk
end Go.Proofs.YtgfdmjldfahbpaaGreatDoor.Snd
