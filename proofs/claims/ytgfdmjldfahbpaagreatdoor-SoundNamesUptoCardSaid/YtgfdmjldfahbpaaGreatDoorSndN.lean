/-
  The document's names in order (analemmaref13.put, Names), and analemmaref08.SameTexts: the contracts. Conditions: what the slices hold is read, the lengths are bounded.
-/
import Derived.Test.YtgfdmjldfahbpaaGreatDoorSndR
import Derived.Sort.Walk0
namespace Go.Proofs.YtgfdmjldfahbpaaGreatDoor.Snd
open Go.RowKit Mem Civ Mom Img Plc Rul Src

theorem one_str {s : ByteArray} : ∀ u ∈ (#[Value.string s] : Array Value).toList, u.oneCell' = true := by intro u hu; simp at hu; subst hu; rfl
theorem info_str : (Tryz.prog.info? 9).map (fun i => (i.zero, i.size, i.bytes)) = some (some (.string ⟨#[]⟩), 1, 16) := by kernel_rfl
def ltB (a b : ByteArray) : Bool := Op.bytesLess a.toList b.toList
/-- A name in its place, if it isn't there. -/
def putL (nm : ByteArray) : List ByteArray → List ByteArray
  | [] => [nm]
  | x :: t => if ltB x nm = true then x :: putL nm t else if x.toList == nm.toList then x :: t else nm :: x :: t
theorem putL_len (nm : ByteArray) : ∀ l : List ByteArray, l.length ≤ (putL nm l).length ∧ (putL nm l).length ≤ l.length + 1
  | [] => by simp [putL]
  | x :: t => by
    have ih := putL_len nm t
    unfold putL
    split
    · simp only [List.length_cons]; omega
    · split <;> simp
def txs (l : List ByteArray) : List Value := l.map Value.string
theorem txs_len (l : List ByteArray) : (txs l).length = l.length := by simp [txs]
theorem txt_at {w : World} {B : Nat} {A : Option Addr} {l : List ByteArray} (h : Reads w B 1 A l.length (txs l)) {k : Nat} (hk : k < l.length) :
    ∃ ad, A = some ad ∧ ad.block < B ∧ w.cell? (ad.add k) = some (.string l[k]) := by
  obtain ⟨ad, e, hb, hc⟩ := h.2 (by omega)
  refine ⟨ad, e, hb, hc k _ ?_⟩
  unfold txs
  rw [List.getElem?_map, List.getElem?_eq_getElem hk]; rfl

set_option maxHeartbeats 1000000 in
set_option maxRecDepth 100000 in
theorem put_any (l : List ByteArray) (nm : ByteArray) (A : Option Addr) (c : Nat) (w : World) (h : Reads w w.heap.size 1 A l.length (txs l)) (hn : l.length ≤ 1000000) :
    Calls Tryz.prog 37 #[.slice A l.length c, .string nm] w fun e w' => ∃ v, e = .returned v ∧ w'.ownsRow w.heap.size 9 1 v (putL nm l).length (txs (putL nm l)) ∧ Below w.heap.size w w' := by
  obtain ⟨i1, hi1, hy0, hy1, hy2⟩ := info_parts info_str
  have H := Lib.hid h; clear h
  obtain ⟨P, hP⟩ : ∃ P, putL nm l = P := ⟨_, rfl⟩
  rw [hP]
  have HP := Lib.hid hP
  have hpl := putL_len nm l
  rw [hP] at hpl
  have HPl := Lib.hid hpl
  clear hP hpl
  go_enter Tryz.func37, Tryz.ntmps37
  go_wp2_with fail
  go_loopw [5, 6, 7] (fun v d i wr => ∃ (k : Nat) (out : List ByteArray) (done : Bool), k ≤ l.length ∧ i = .int .i64 k ∧ d = .bool done ∧ (if done = true then P = out ++ l.drop k else out = l.take k ∧ P = l.take k ++ putL nm (l.drop k)) ∧
    wr.ownsRow w.heap.size 9 1 v out.length (txs out) ∧ Below w.heap.size w wr) (fun _ _ i _ => l.length - (intOf i).toNat)
  case atStart => exact ⟨0, [], false, Nat.zero_le _, rfl, rfl, ⟨rfl, HP.out.symm⟩, World.ownsRow_nil _ _ _ _, Below.refl _ _⟩
  case round =>
    obtain ⟨k, out, done, hk, rfl, rfl, hst, hown, hb⟩ := hrel
    have HO := Lib.hid hown; have HB := Lib.hid hb; have HSt := Lib.hid hst
    have hsz := hb.size
    have Hsz := Lib.hid hsz
    clear hown hb hst hsz
    by_cases hkn : k < l.length
    · obtain ⟨ad, rfl, hadb, a0⟩ := txt_at (H.out.below HB.out) hkn
      have hdr : l.drop k = l[k] :: l.drop (k + 1) := List.drop_eq_getElem_cons hkn
      have htk : l.take (k + 1) = l.take k ++ [l[k]] := by rw [List.take_succ_eq_append_getElem hkn]
      have HDr := Lib.hid hdr; have HTk := Lib.hid htk
      clear hdr htk
      obtain ⟨x, hx⟩ : ∃ x, x = l[k] := ⟨_, rfl⟩
      rw [← hx] at a0 HDr HTk
      have HX := Lib.hid hx
      clear hx
      have hol : out.length ≤ l.length + 1 := by
        have hs := HSt.out
        cases done with
        | true =>
          simp only [if_true] at hs
          have := congrArg List.length hs
          rw [List.length_append] at this
          have := HPl.out
          omega
        | false =>
          simp only [Bool.false_eq_true, if_false] at hs
          rw [hs.1, List.length_take]
          omega
      have m1 : out.length + 1 ≤ maxLen := by unfold maxLen; omega
      have m2 : (out.length + 1) * 16 ≤ 140737488355328 := by omega
      have m3 : out.length + 1 + 1 ≤ maxLen := by unfold maxLen; omega
      have m4 : (out.length + 1 + 1) * 16 ≤ 140737488355328 := by omega
      have M1 := Lib.hid m1; have M2 := Lib.hid m2; have M3 := Lib.hid m3; have M4 := Lib.hid m4
      clear m1 m2 m3 m4 hol
      have hadw : ad.block < w.heap.size := hadb
      have hcase : (done = true) ∨ (done = false ∧ ltB x nm = true) ∨ (done = false ∧ ltB x nm = false ∧ (x.toList == nm.toList) = true) ∨ (done = false ∧ ltB x nm = false ∧ (x.toList == nm.toList) = false) := by
        cases done <;> cases ltB x nm <;> cases (x.toList == nm.toList) <;> simp
      rcases hcase with rfl | ⟨rfl, h1⟩ | ⟨rfl, h1, h2⟩ | ⟨rfl, h1, h2⟩
      · go_wp2_with ((at_builtin; refine wpList_append1g wr rfl (.tmp 34) (.tmp 39) 36 rfl w.heap.size 9 i1 _ 1 16 Tryz.underlying36 hi1 hy0 hy1 hy2 rfl (by decide) _ out.length (txs out) rfl HO.out rfl rfl one_str M1.out M2.out Hsz.out ?_; intro v' wB hown8 hg8; have HO2 := Lib.hid hown8; have HB2 := Lib.hid ((HB.out.alloc Hsz.out _).grown hg8 (by simp; have := Hsz.out; omega) (fun j hj => (HO.out.lt j hj).1)); clear hown8 hg8))
        refine ⟨⟨k + 1, out ++ [x], true, by omega, by go_num, rfl, ?_, ?_, HB2.out⟩, by simp [intOf]; omega⟩
        · simp only [if_true]
          have hs := HSt.out
          simp only [if_true] at hs
          rw [hs, HDr.out, List.append_assoc]; rfl
        · simpa [txs] using HO2.out
      · have h1' : Op.bytesLess x.toList nm.toList = true := h1
        go_wp2_with ((at_builtin; refine wpList_append1g wr rfl (.tmp 34) (.tmp 39) 36 rfl w.heap.size 9 i1 _ 1 16 Tryz.underlying36 hi1 hy0 hy1 hy2 rfl (by decide) _ out.length (txs out) rfl HO.out rfl rfl one_str M1.out M2.out Hsz.out ?_; intro v' wB hown8 hg8; have HO2 := Lib.hid hown8; have HB2 := Lib.hid ((HB.out.alloc Hsz.out _).grown hg8 (by simp; have := Hsz.out; omega) (fun j hj => (HO.out.lt j hj).1)); clear hown8 hg8))
        refine ⟨⟨k + 1, out ++ [x], false, by omega, by go_num, rfl, ?_, ?_, HB2.out⟩, by simp [intOf]; omega⟩
        · simp only [Bool.false_eq_true, if_false]
          have hs := HSt.out
          simp only [Bool.false_eq_true, if_false] at hs
          refine ⟨by rw [hs.1, HTk.out], ?_⟩
          rw [hs.2, HDr.out, putL, if_pos h1, HTk.out, List.append_assoc]; rfl
        · simpa [txs] using HO2.out
      · have h1' : Op.bytesLess x.toList nm.toList = false := h1
        go_wp2_with ((at_builtin; refine wpList_append1g wr rfl (.tmp 34) (.tmp 39) 36 rfl w.heap.size 9 i1 _ 1 16 Tryz.underlying36 hi1 hy0 hy1 hy2 rfl (by decide) _ out.length (txs out) rfl HO.out rfl rfl one_str M1.out M2.out Hsz.out ?_; intro v' wB hown8 hg8; have HO2 := Lib.hid hown8; have HB2 := Lib.hid ((HB.out.alloc Hsz.out _).grown hg8 (by simp; have := Hsz.out; omega) (fun j hj => (HO.out.lt j hj).1)); clear hown8 hg8))
        refine ⟨⟨k + 1, out ++ [x], true, by omega, by go_num, rfl, ?_, ?_, HB2.out⟩, by simp [intOf]; omega⟩
        · simp only [if_true]
          have hs := HSt.out
          simp only [Bool.false_eq_true, if_false] at hs
          rw [hs.2, HDr.out, putL, if_neg (by rw [h1]; decide), if_pos h2, ← hs.1, List.append_assoc]; rfl
        · simpa [txs] using HO2.out
      · have h1' : Op.bytesLess x.toList nm.toList = false := h1
        have B0 := Lib.hid (fun wB (hb2 : Below w.heap.size w wB) => show wB.cell? (ad.add k) = some (.string x) by
          obtain ⟨ad2, hA2, _, b0⟩ := txt_at (H.out.below hb2) hkn
          injection hA2 with hA2
          subst hA2
          rw [HX.out]
          exact b0)
        have tok : True := trivial
        go_wp2_with (first
          | (at_builtin; have tk := tok; refine wpList_append1g wr rfl (.tmp 30) (.tmp 32) 36 rfl w.heap.size 9 i1 _ 1 16 Tryz.underlying36 hi1 hy0 hy1 hy2 rfl (by decide) _ out.length (txs out) rfl HO.out rfl rfl one_str M1.out M2.out Hsz.out ?_; intro v' wB hown8 hg8; have HO2 := Lib.hid hown8; have hb2 := (HB.out.alloc Hsz.out _).grown hg8 (by simp; have := Hsz.out; omega) (fun j hj => (HO.out.lt j hj).1); have HB2 := Lib.hid hb2; have Hsz2 := Lib.hid hb2.size; have b0 := B0.out _ hb2; clear hown8 hg8 hb2 tok tk)
          | (at_builtin; refine wpList_append1g wB rfl (.tmp 34) (.tmp 39) 36 rfl w.heap.size 9 i1 _ 1 16 Tryz.underlying36 hi1 hy0 hy1 hy2 rfl (by decide) _ (out.length + 1) _ rfl HO2.out rfl rfl one_str M3.out M4.out Hsz2.out ?_; intro v'' wC hown8 hg8; have HO3 := Lib.hid hown8; have HB3 := Lib.hid ((HB2.out.alloc Hsz2.out _).grown hg8 (by simp; have := Hsz2.out; omega) (fun j hj => (HO2.out.lt j hj).1)); clear hown8 hg8))
        refine ⟨⟨k + 1, out ++ [nm] ++ [x], true, by omega, by go_num, rfl, ?_, ?_, HB3.out⟩, by simp [intOf]; omega⟩
        · simp only [if_true]
          have hs := HSt.out
          simp only [Bool.false_eq_true, if_false] at hs
          rw [hs.2, HDr.out, putL, if_neg (by rw [h1]; decide), if_neg (by rw [h2]; decide), ← hs.1]
          simp
        · simpa [txs] using HO3.out
    · obtain rfl : k = l.length := by omega
      have hol : out.length ≤ l.length + 1 := by
        have hs := HSt.out
        cases done with
        | true =>
          simp only [if_true] at hs
          have := congrArg List.length hs
          rw [List.length_append] at this
          have := HPl.out
          omega
        | false =>
          simp only [Bool.false_eq_true, if_false] at hs
          rw [hs.1, List.length_take]
          omega
      have m1 : out.length + 1 ≤ maxLen := by unfold maxLen; omega
      have m2 : (out.length + 1) * 16 ≤ 140737488355328 := by omega
      have M1 := Lib.hid m1; have M2 := Lib.hid m2
      clear m1 m2 hol
      cases done with
      | true =>
        go_wp2_with fail
        go_ret
        have hs := HSt.out
        simp only [if_true, List.drop_length, List.append_nil] at hs
        subst hs
        exact ⟨_, rfl, HO.out, HB.out⟩
      | false =>
        go_wp2_with ((at_builtin; refine wpList_append1g wr rfl (.tmp 43) (.tmp 45) 36 rfl w.heap.size 9 i1 _ 1 16 Tryz.underlying36 hi1 hy0 hy1 hy2 rfl (by decide) _ out.length (txs out) rfl HO.out rfl rfl one_str M1.out M2.out Hsz.out ?_; intro v' wB hown8 hg8; have HO2 := Lib.hid hown8; have HB2 := Lib.hid ((HB.out.alloc Hsz.out _).grown hg8 (by simp; have := Hsz.out; omega) (fun j hj => (HO.out.lt j hj).1)); clear hown8 hg8))
        go_ret
        have hs := HSt.out
        simp only [Bool.false_eq_true, if_false, List.drop_length, List.take_length, putL] at hs
        obtain ⟨h1, h2⟩ := hs
        subst h1
        refine ⟨_, rfl, ?_, HB2.out⟩
        rw [h2]
        simpa [txs] using HO2.out
end Go.Proofs.YtgfdmjldfahbpaaGreatDoor.Snd
