/-
  Package sound: sets of names as maps; the contracts of named. Conditions: what the source's slices hold is read, the names' lengths are bounded.
-/
import Derived.Test.YtgfdmjldfahbpaaGreatDoorSndO
import Derived.Maps.RangeWalk
import Derived.StringKeys
import Derived.Sort.KeysCollected
import Derived.Sort.OwnSorted
namespace Go.Proofs.YtgfdmjldfahbpaaGreatDoor.Snd
open Go.RowKit Mem Civ Mom Img Plc Rul Src Go.Maps Go.Sort

/-- A map reads as a set of names. -/
def SM (ks : List (List UInt8)) (D : DataW Unit) : Prop := IsMap D ∧ ∀ x, has D (.string x) = decide (x ∈ ks) ∧ ∀ zd, D.atKey (.string x) zd = if x ∈ ks then .lit (.bool true) else zd
theorem SM.empty : SM [] (.map []) := ⟨isMap_empty, fun x => ⟨by simp [has], fun zd => by simp [DataW.atKey]⟩⟩
theorem SM.put {ks : List (List UInt8)} {D : DataW Unit} (h : SM ks D) (x : List UInt8) : SM (ks ++ [x]) (D.put (.string x) (.lit (.bool true))) := by
  refine ⟨h.1.put _ _, fun y => ?_⟩
  by_cases e : y = x
  · subst e
    refine ⟨?_, fun zd => ?_⟩
    · rw [has_put_same h.1 (show WideAt.IsKeyLit (.string y) from trivial)]
      simp
    · rw [atKey_put_same h.1 (show WideAt.IsKeyLit (.string y) from trivial)]
      simp
  · have hne : (Lit.string y) ≠ .string x := fun e2 => e (by injection e2)
    refine ⟨?_, fun zd => ?_⟩
    · rw [has_put_other hne, (h.2 y).1]
      simp [e]
    · rw [atKey_put_other hne, (h.2 y).2]
      simp [e]
theorem setLaw : Keyed Tryz.prog 9 := string_keyed Tryz.underlying9
theorem nm_key {s : ByteArray} (h : s.size ≤ 2097152) : keyOf Tryz.prog 9 (.string s) = some (.string s.data.toList) := WideMaps.keyOf_string_mk Tryz.underlying9 (by unfold maxLen; omega)
def keyL (l : List ByteArray) : List (List UInt8) := l.map fun s => s.data.toList
/-- A map of names, of no more than n stores. -/
def MapOf (w : World) (b n : Nat) (l : List ByteArray) : Prop := ∃ D : DataW Unit, w.ownsMap Tryz.prog 9 (plainElem Tryz.prog 4) b n D ∧ SM (keyL l) D
theorem MapOf.lt {w : World} {b n : Nat} {l : List ByteArray} (h : MapOf w b n l) : b < w.heap.size := by
  obtain ⟨D, h1, _⟩ := h
  exact h1.lt
theorem MapOf.kept {w w' : World} {b n : Nat} {l : List ByteArray} {r : Option Nat} (h : MapOf w b n l) (hg : w.grownBy w' r) (hr : some b ≠ r) : MapOf w' b n l := by
  obtain ⟨D, h1, h2⟩ := h
  exact ⟨D, h1.kept hg hr, h2⟩
theorem MapOf.alloc {w : World} {b n : Nat} {l : List ByteArray} (h : MapOf w b n l) (o : Obj) : MapOf (w.alloc o) b n l := h.kept (World.grownBy_alloc w o none) (by simp)

theorem keyL_mem {l : List ByteArray} {s : ByteArray} : s.data.toList ∈ keyL l ↔ s ∈ l := by
  unfold keyL
  rw [List.mem_map]
  constructor
  · rintro ⟨a, ha, e⟩
    obtain ⟨⟨x⟩⟩ := a
    obtain ⟨⟨y⟩⟩ := s
    simp only at e
    subst e
    exact ha
  · intro h; exact ⟨s, h, rfl⟩
theorem zero_bool (w : World) : (zeroValue 4).run Tryz.prog w = .ok (.bool false) w := by kernel_rfl
def inL (l : List ByteArray) (s : ByteArray) : Bool := l.any fun a => decide (a = s)
theorem inL_iff {l : List ByteArray} {s : ByteArray} : inL l s = true ↔ s ∈ l := by
  unfold inL
  rw [List.any_eq_true]
  constructor
  · rintro ⟨a, ha, e⟩
    have : a = s := by simpa using e
    subst this
    exact ha
  · intro h; exact ⟨s, h, by simp⟩
theorem bool_inv {P : Program} {e : TypeId} (he : P.underlying e = some .bool) {v : Value} {y : DataW Unit × List MemPlace} (h : plainElem (H := Unit) P e v = some y) : ∃ q, v = .bool q ∧ y = (.lit (.bool q), []) := by
  unfold plainElem at h
  rw [he] at h
  cases v with
  | bool q =>
    injection h with h
    exact ⟨q, rfl, h.symm⟩
  | _ => cases h
set_option maxRecDepth 100000 in
/-- 'seen[name]'. -/
theorem MapOf.look {w : World} {b n : Nat} {l : List ByteArray} (h : MapOf w b n l) {s : ByteArray} (hs : s.size ≤ 2097152) :
    (Instr.lookup 61 (.map (some b)) (.string s) false).run Tryz.prog w = .ok (.bool (inL l s)) w := by
  obtain ⟨D, h1, h2⟩ := h
  obtain ⟨v, ps, hrun, hv⟩ := h1.lookup setLaw Tryz.underlying61 (zero_bool w) (plainElem_bool Tryz.underlying4 false) (nm_key hs)
  rw [(h2.2 _).2] at hv
  obtain ⟨q, rfl, hq⟩ := bool_inv Tryz.underlying4 hv
  rw [hrun]
  have e : q = inL l s := by
    injection hq with hq _
    cases hm : inL l s
    · rw [if_neg (fun h => by rw [inL_iff.2 (keyL_mem.1 h)] at hm; cases hm)] at hq
      injection hq with hq
      injection hq with hq
      exact hq.symm
    · rw [if_pos (keyL_mem.2 (inL_iff.1 hm))] at hq
      injection hq with hq
      injection hq with hq
      exact hq.symm
  rw [e]
set_option maxHeartbeats 1000000 in
set_option maxRecDepth 100000 in
theorem named_any (s : Src) (A A2 A3 : Option Addr) (c c2 c3 : Nat) (w : World) (h : SrcOk s A A2 A3 w) :
    Calls Tryz.prog 35 #[.agg #[.slice A s.rules.length c, .slice A2 s.zones.length c2, .slice A3 s.links.length c3]] w fun e w' => ∃ b, e = .returned (.map (some b)) ∧ w.heap.size ≤ b ∧ MapOf w' b s.zones.length (s.zones.map (·.name)) ∧ Below w.heap.size w w' := by
  have hrz := h.rz; have nz := h.nz; have tz := h.tz
  clear h
  obtain ⟨rs, zs, ls⟩ := s
  simp only at hrz nz tz ⊢
  have hmm := @run_makeMap Tryz.prog
  have hone := One.new w 26 #[.slice A rs.length c, .slice A2 zs.length c2, .slice A3 ls.length c3]
  obtain ⟨W, hW⟩ : ∃ W, w.alloc (.cells #[.slice A rs.length c, .slice A2 zs.length c2, .slice A3 ls.length c3] 26) = W := ⟨_, rfl⟩
  have hsz : w.heap.size < W.heap.size := by rw [← hW]; simp
  rw [hW] at hone
  have HO := Lib.hid hone; have HZ := Lib.hid hrz; have HT := Lib.hid tz; have Hsz := Lib.hid hsz
  have HM0 := Lib.hid (World.ownsMap_made W Tryz.prog 9 (plainElem (H := Unit) Tryz.prog 4))
  have ca := fun o i => (hone.1.alloc o).cell i
  clear hone hrz tz hsz
  go_enter Tryz.func35, Tryz.ntmps35
  go_wp2_with fail
  clear ca
  go_loopw [10] (fun i wr => ∃ k : Nat, k ≤ zs.length ∧ i = .int .i64 k ∧ MapOf wr W.heap.size k ((zs.take k).map (·.name)) ∧ One w w.heap.size 26 #[.slice A rs.length c, .slice A2 zs.length c2, .slice A3 ls.length c3] wr) (fun i _ => zs.length - (intOf i).toNat)
  case atStart => exact ⟨0, Nat.zero_le _, rfl, ⟨_, HM0.out, SM.empty⟩, HO.out.1.alloc _, HO.out.2.alloc HO.out.2.size _⟩
  case round =>
    clear HM0
    obtain ⟨k, hk, rfl, hm, ho⟩ := hrel
    have HO1 := Lib.hid ho
    clear ho HO
    by_cases hkn : k < zs.length
    · obtain ⟨ad, rfl, hadb, a0, a1⟩ := zone_cells (HZ.out.below HO1.out.2) hkn rfl
      have hkey := nm_key (HT.out zs[k] (List.getElem_mem hkn))
      have hst : (zs.take (k + 1)).map (·.name) = (zs.take k).map (·.name) ++ [zs[k].name] := by rw [List.take_succ_eq_append_getElem hkn, List.map_append]; rfl
      have HSt := Lib.hid hst
      obtain ⟨D, hown, hsm⟩ := hm
      have Hown := Lib.hid hown; have Hsm := Lib.hid hsm
      clear hown hsm hst
      generalize zs[k] = z at *
      go_wp2_with (at_mapUpdate; refine wpList_mapUpdate_own (H := Unit) _ rfl _ _ _ 61 rfl 9 4 setLaw Tryz.underlying61 (plainElem Tryz.prog 4) W.heap.size k D rfl (Hown.out.alloc _) (by unfold maxLen; omega) _ _ _ rfl rfl hkey (.lit (.bool true)) [] (plainElem_bool Tryz.underlying4 true) ?_; intro w1 hmap1 hg1; have Hmap1 := Lib.hid hmap1; have Hg1 := Lib.hid hg1; clear hmap1 hg1)
      refine ⟨⟨k + 1, by omega, by go_num, ⟨_, Hmap1.out, ?_⟩, ?_, ?_⟩, by simp [intOf]; omega⟩
      · rw [HSt.out, keyL, List.map_append]
        exact Hsm.out.put _
      · exact (HO1.out.1.alloc _).grown Hg1.out (by have := Hsz.out; intro e; injection e with e; omega)
      · exact (HO1.out.2.alloc HO1.out.2.size _).grown Hg1.out (by have := HO1.out.2.size; simp; omega) (fun j hj => by have := Hsz.out; injection hj with hj; omega)
    · obtain rfl : k = zs.length := by omega
      rw [List.take_length] at hm
      have HM := Lib.hid hm
      clear hm
      go_wp2_with fail
      go_ret
      exact ⟨_, rfl, by have := Hsz.out; omega, HM.out, HO1.out.2⟩
end Go.Proofs.YtgfdmjldfahbpaaGreatDoor.Snd
