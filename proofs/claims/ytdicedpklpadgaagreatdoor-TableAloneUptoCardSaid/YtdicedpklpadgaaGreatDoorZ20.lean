/-
  Package sound: the contract of Names. Conditions: what the source's slices hold is read, the names' lengths are bounded.
  Names: the program's and the document's are the same (plain), and the contract of analemmaref13.Light. Conditions: none but what the source's slices hold is read.
  The contract of analemmaref13.Light: what it holds back. Conditions: what the source's slices hold is read.
  Package sound: flaws; the contracts of orders and links. Conditions: what the source's slices hold is read, the names' lengths are bounded.
  Package sound: the contract of links. Conditions: what the source's slices hold is read, the names' lengths are bounded.
  Package sound: the contract of targets. Conditions: what the source's slices hold is read, the names' lengths are bounded.
-/
import Derived.Test.YtdicedpklpadgaaGreatDoorZ19
import Derived.Shelf.Slices.In.SortNone
namespace Go.Proofs.YtdicedpklpadgaaGreatDoor.Snd
open Go.RowKit Mem Civ Mom Img Plc Rul Src Go.Maps Go.Sort

theorem one_enc {x : List UInt8} : ∀ u ∈ (#[encStr x] : Array Value).toList, u.oneCell' = true := by intro u hu; simp at hu; subst hu; rfl
theorem bool_any (v : Value) (y : DataW Unit × List MemPlace) (_ : plainElem (H := Unit) Tryz.prog 4 v = some y) : ∃ c : Value, v = id c := ⟨v, rfl⟩
theorem str_inv (key : Value) (kl : Lit) (h : keyOf Tryz.prog 9 key = some kl) : ∃ x, key = encStr x := by
  obtain ⟨x, hx, _⟩ := Maps.keyOf_str Tryz.underlying9 h
  exact ⟨x, hx⟩
theorem own_n {w : World} {base size n n' : Nat} {e : TypeId} {v : Value} {xs : List Value} (h : w.ownsRow base e size v n xs) (he : n' = n) : w.ownsRow base e size v n' xs := by subst he; exact h
/-- Names in order, each once: what Names answers. -/
def NamesP (w : World) (l : List ByteArray) (e : Ending) (w' : World) : Prop :=
  ∃ (v : Value) (ts : List (List UInt8)), e = .returned v ∧ w'.ownsRow w.heap.size 9 1 v ts.length (ts.map encStr) ∧ ts.Pairwise (· ≤ ·) ∧ ts.Nodup ∧ (∀ x, x ∈ ts ↔ x ∈ keyL l) ∧ Below w.heap.size w w'
theorem sorted_of {D : DataW Unit} {left : Lit → Bool} {ss ks : List (List UInt8)} (hc : Collected D left ss) (hl : ∀ kl, left kl = false) (hs : SM ks D) :
    (ss.mergeSort fun x y => decide (x ≤ y)).Pairwise (· ≤ ·) ∧ (ss.mergeSort fun x y => decide (x ≤ y)).Nodup ∧ ∀ x, x ∈ (ss.mergeSort fun x y => decide (x ≤ y)) ↔ x ∈ ks := by
  have hp := List.mergeSort_perm ss fun x y => decide (x ≤ y)
  refine ⟨?_, hp.nodup_iff.2 hc.1, fun x => ?_⟩
  · have h := List.pairwise_mergeSort (le := fun x y : List UInt8 => decide (x ≤ y)) (fun a b c h1 h2 => by simp only [decide_eq_true_eq] at *; exact List.le_trans h1 h2) (fun a b => by simp only [Bool.or_eq_true, decide_eq_true_eq]; exact List.le_total a b) ss
    exact h.imp fun h => by simpa using h
  · rw [hp.mem_iff, hc.2 x, hl, (hs.2 x).1]
    simp
end Go.Proofs.YtdicedpklpadgaaGreatDoor.Snd
namespace Go.Proofs.YtdicedpklpadgaaGreatDoor.Snd
open Go.RowKit Mem Civ Mom Img Plc Rul Src Go.Maps Go.Sort

theorem ltB_is (a b : ByteArray) : ltB a b = decide (a.data.toList < b.data.toList) := by
  unfold ltB
  rw [Go.Proofs.bytesLess_eq, ByteArray.toList_eq, ByteArray.toList_eq]
theorem keyL_put (nm : ByteArray) : ∀ (l : List ByteArray) (x : List UInt8), x ∈ keyL (putL nm l) ↔ x = nm.data.toList ∨ x ∈ keyL l
  | [], x => by simp [keyL, putL]
  | a :: t, x => by
    have ih := keyL_put nm t x
    unfold putL
    split
    · simp only [keyL, List.map_cons, List.mem_cons] at ih ⊢
      rw [ih]
      constructor
      · rintro (h | h | h)
        · exact .inr (.inl h)
        · exact .inl h
        · exact .inr (.inr h)
      · rintro (h | h | h)
        · exact .inr (.inl h)
        · exact .inl h
        · exact .inr (.inr h)
    · split
      · next h =>
        have e : a.data.toList = nm.data.toList := by
          rw [ByteArray.toList_eq, ByteArray.toList_eq] at h
          simpa using h
        simp only [keyL, List.map_cons, List.mem_cons]
        constructor
        · intro h; exact .inr h
        · rintro (h | h)
          · exact .inl (by rw [h, e])
          · exact h
      · simp [keyL]
theorem put_sorted (nm : ByteArray) : ∀ (l : List ByteArray), (keyL l).Pairwise (· < ·) → (keyL (putL nm l)).Pairwise (· < ·)
  | [], _ => by simp [keyL, putL]
  | a :: t, h => by
    have h' := h
    simp only [keyL, List.map_cons, List.pairwise_cons] at h
    obtain ⟨h1, h2⟩ := h
    have ih := put_sorted nm t h2
    unfold putL
    split
    · next hlt =>
      rw [ltB_is] at hlt
      have hlt' : a.data.toList < nm.data.toList := by simpa using hlt
      show (a.data.toList :: keyL (putL nm t)).Pairwise (· < ·)
      refine List.pairwise_cons.2 ⟨fun y hy => ?_, ih⟩
      rcases (keyL_put nm t y).1 hy with rfl | hy
      · exact hlt'
      · exact h1 y hy
    · next hlt =>
      split
      · exact h'
      · next hne =>
        have hn : ¬ a.data.toList < nm.data.toList := by
          rw [ltB_is] at hlt
          simpa using hlt
        have hne' : a.data.toList ≠ nm.data.toList := by
          rw [ByteArray.toList_eq, ByteArray.toList_eq] at hne
          simpa using hne
        have hgt : nm.data.toList < a.data.toList := by
          have hle : nm.data.toList ≤ a.data.toList := hn
          rcases Decidable.em (nm.data.toList < a.data.toList) with h | h
          · exact h
          · exact absurd (List.le_antisymm (show a.data.toList ≤ nm.data.toList from h) hle) hne'
        show (nm.data.toList :: keyL (a :: t)).Pairwise (· < ·)
        refine List.pairwise_cons.2 ⟨fun y hy => ?_, h'⟩
        simp only [keyL, List.map_cons, List.mem_cons] at hy
        rcases hy with rfl | hy
        · exact hgt
        · exact List.lt_trans hgt (h1 y hy)
theorem names_sorted (ns : List ByteArray) : (keyL (namesL ns)).Pairwise (· < ·) ∧ ∀ x, x ∈ keyL (namesL ns) ↔ x ∈ keyL ns := by
  suffices h : ∀ (ns : List ByteArray), (keyL (namesL ns.reverse)).Pairwise (· < ·) ∧ ∀ x, x ∈ keyL (namesL ns.reverse) ↔ x ∈ keyL ns by
    have := h ns.reverse
    rw [List.reverse_reverse] at this
    refine ⟨this.1, fun x => ?_⟩
    rw [this.2 x]
    simp [keyL]
  intro ns
  induction ns with
  | nil => simp [namesL, keyL]
  | cons a t ih =>
    rw [List.reverse_cons, namesL_snoc]
    refine ⟨put_sorted a _ ih.1, fun x => ?_⟩
    rw [keyL_put, ih.2 x]
    simp [keyL]
theorem names_one {ts : List (List UInt8)} {ns : List ByteArray} (h1 : ts.Pairwise (· ≤ ·)) (h2 : ts.Nodup) (h3 : ∀ x, x ∈ ts ↔ x ∈ keyL ns) : ts = keyL (namesL ns) := by
  obtain ⟨k1, k2⟩ := names_sorted ns
  have hnd : (keyL (namesL ns)).Nodup := k1.imp fun h e => by subst e; exact List.lt_irrefl _ h
  have hp : ts.Perm (keyL (namesL ns)) := (List.perm_ext_iff_of_nodup h2 hnd).2 fun x => by rw [h3 x, k2 x]
  have hm := mergeSort_of_perm hp
  have s1 : ts.mergeSort leB = ts := List.mergeSort_of_pairwise (h1.imp fun h => by simpa using h)
  have s2 : (keyL (namesL ns)).mergeSort leB = keyL (namesL ns) := List.mergeSort_of_pairwise (k1.imp fun h => by simpa using List.le_of_lt h)
  rw [s1, s2] at hm
  exact hm
theorem enc_txs (l : List ByteArray) : (keyL l).map encStr = txs l := by
  unfold keyL txs
  rw [List.map_map]
  refine List.map_congr_left fun s _ => ?_
  show Value.string ⟨s.data.toList.toArray⟩ = .string s
  cases s; simp
/-- What Names answers, in the document's words. -/
theorem namesP_is {w w' : World} {ns : List ByteArray} {e : Ending} (h : NamesP w ns e w') : ∃ v, e = .returned v ∧ w'.ownsRow w.heap.size 9 1 v (namesL ns).length (txs (namesL ns)) ∧ Below w.heap.size w w' := by
  obtain ⟨v, ts, he, hown, h1, h2, h3, hb⟩ := h
  have e := names_one h1 h2 h3
  subst e
  rw [enc_txs] at hown
  refine ⟨v, he, ?_, hb⟩
  have hl : (keyL (namesL ns)).length = (namesL ns).length := by simp [keyL]
  exact own_n hown hl.symm
end Go.Proofs.YtdicedpklpadgaaGreatDoor.Snd
namespace Go.Proofs.YtdicedpklpadgaaGreatDoor.Snd
open Go.RowKit Mem Civ Mom Img Plc Rul Src

def LightP (s : Src) : Prop := s.rules.length ≤ 60 ∧ s.zones.length ≤ 60 ∧ s.links.length ≤ 200
set_option maxHeartbeats 2000000 in
set_option maxRecDepth 100000 in
theorem light_any (s : Src) (A A2 A3 : Option Addr) (c c2 c3 : Nat) (w : World) (h : SrcOk s A A2 A3 w) :
    Calls Tryz.prog 20 #[.agg #[.slice A s.rules.length c, .slice A2 s.zones.length c2, .slice A3 s.links.length c3]] w fun e w' => ∃ b, e = .returned (.bool b) ∧ (b = true → LightP s) ∧ Below w.heap.size w w' := by
  have hrr := h.rr; have hrz := h.rz; have nr := h.nr; have nz := h.nz; have nl := h.nl; have ne := h.ne
  clear h
  unfold LightP
  obtain ⟨rs, zs, ls⟩ := s
  simp only at hrr hrz nr nz nl ne ⊢
  have hone := One.new w 26 #[.slice A rs.length c, .slice A2 zs.length c2, .slice A3 ls.length c3]
  obtain ⟨W, hW⟩ : ∃ W, w.alloc (.cells #[.slice A rs.length c, .slice A2 zs.length c2, .slice A3 ls.length c3] 26) = W := ⟨_, rfl⟩
  rw [hW] at hone
  have HO := Lib.hid hone; have HR := Lib.hid (hrr.below hone.2); have HZ := Lib.hid (hrz.below hone.2); have HE := Lib.hid ne
  have c0 := fun i => hone.1.cell i
  clear hone hrr hrz ne
  go_enter Tryz.func20, Tryz.ntmps20
  by_cases h1 : rs.length ≤ 60
  rotate_left
  · have h1b : decide ((60 : Int) < (rs.length : Nat)) = true := decide_eq_true (by omega)
    go_wp2_with fail
    go_ret
    exact ⟨false, rfl, by simp, HO.out.2⟩
  have h1b : decide ((60 : Int) < (rs.length : Nat)) = false := decide_eq_false (by omega)
  by_cases h2 : zs.length ≤ 60
  rotate_left
  · have h2b : decide ((60 : Int) < (zs.length : Nat)) = true := decide_eq_true (by omega)
    go_wp2_with fail
    go_ret
    exact ⟨false, rfl, by simp, HO.out.2⟩
  have h2b : decide ((60 : Int) < (zs.length : Nat)) = false := decide_eq_false (by omega)
  by_cases h3 : ls.length ≤ 200
  rotate_left
  · have h3b : decide ((200 : Int) < (ls.length : Nat)) = true := decide_eq_true (by omega)
    go_wp2_with fail
    go_ret
    exact ⟨false, rfl, by simp, HO.out.2⟩
  have h3b : decide ((200 : Int) < (ls.length : Nat)) = false := decide_eq_false (by omega)
  go_wp2_with fail
  go_loopw [3, 4, 5] (fun l g i wr => ∃ (k : Nat) (lo hi : Int), k ≤ rs.length ∧ l = .int .i64 lo ∧ g = .int .i64 hi ∧ i = .int .i64 k ∧ wr = W) (fun _ _ i _ => rs.length - (intOf i).toNat)
  case atStart => exact ⟨0, 10000, 0, Nat.zero_le _, rfl, rfl, rfl, rfl⟩
  case round =>
    obtain ⟨k, lo, hi, hk, rfl, rfl, rfl, rfl⟩ := hrel
    by_cases hkn : k < rs.length
    · obtain ⟨ad, hA, hadb, a0, a1, a2, a3, a4, a5, a6, a7, a8, a9, a10⟩ := rule_cells HR.out hkn
      subst hA
      cases hd : decide ((rs[k]'hkn).hi < 10000)
      all_goals go_wp2_with fail
      all_goals exact ⟨⟨k + 1, _, _, by omega, rfl, rfl, by go_num, trivial⟩, by simp [intOf]; omega⟩
    · obtain rfl : k = rs.length := by omega
      go_wp2_with fail
      go_loopw [6, 7] (fun n i wz => ∃ (k m : Nat), k ≤ zs.length ∧ m ≤ k * 60 ∧ n = .int .i64 m ∧ i = .int .i64 k ∧ wz = wr) (fun _ i _ => zs.length - (intOf i).toNat)
      case atStart => exact ⟨0, 0, Nat.zero_le _, Nat.zero_le _, rfl, rfl, rfl⟩
      case round =>
        obtain ⟨j, m, hj, hm, rfl, rfl, rfl⟩ := hrel
        by_cases hjn : j < zs.length
        · obtain ⟨ad, hA, hadb, a0, a1⟩ := zone_cells HZ.out hjn rfl
          subst hA
          obtain ⟨z, hz⟩ : ∃ z, z = zs[j] := ⟨_, rfl⟩
          rw [← hz] at a0 a1
          clear hz
          by_cases h4 : z.eras.length ≤ 60
          · have h4b : decide ((60 : Int) < (z.eras.length : Nat)) = false := decide_eq_false (by omega)
            go_wp2_with fail
            exact ⟨⟨j + 1, m + z.eras.length, by omega, by omega, by go_num, by go_num, trivial⟩, by simp [intOf]; omega⟩
          · have h4b : decide ((60 : Int) < (z.eras.length : Nat)) = true := decide_eq_true (by omega)
            go_wp2_with fail
            go_ret
            exact ⟨false, rfl, by simp, HO.out.2⟩
        · obtain rfl : j = zs.length := by omega
          cases h5 : decide (((m : Nat) : Int) ≤ 300) <;> cases h6 : decide (hi < lo) <;> cases h7 : decide (1 ≤ lo)
          all_goals go_wp2_with fail
          all_goals go_ret
          all_goals exact ⟨_, rfl, fun _ => ⟨h1, h2, h3⟩, HO.out.2⟩
end Go.Proofs.YtdicedpklpadgaaGreatDoor.Snd
namespace Go.Proofs.YtdicedpklpadgaaGreatDoor.Snd
open Go.RowKit Mem Civ Mom Img Plc Rul Src Go.Maps

structure Flaw where
  err : Int
  kind : Int
  at_ : Int
  era : Int
  deriving DecidableEq
def Flaw.cells (f : Flaw) : List Value := [.int .i64 f.err, .int .i64 f.kind, .int .i64 f.at_, .int .i64 f.era]
def noFlaw : Flaw := ⟨0, 0, 0, 0⟩
def flawAt (e k : Int) (o : Option Nat) : Flaw := match o with
  | some i => ⟨e, k, i, 0⟩
  | none => noFlaw
def ordersB (s : Src) : Flaw := flawAt 16 1 (s.rules.findIdx? fun r => decide (r.hi < r.lo))
theorem orders_results {w : World} {R0 : Nat} {a0 a1 a2 a3 : Value} (h : Blk w R0 52 #[a0, a1, a2, a3]) (tmps : Array Value) (ht : tmps[2]? = some (.pointer (some ⟨R0, 0, none⟩))) : (results Tryz.f56 tmps).run Tryz.prog w = .ok (.agg #[a0, a1, a2, a3]) w := by
  have hc := fun i => h.cell i
  simp [results, Tryz.results56, go_sem, hc, ht]
theorem links_results {w : World} {R0 : Nat} {a0 a1 a2 a3 : Value} (h : Blk w R0 52 #[a0, a1, a2, a3]) (tmps : Array Value) (ht : tmps[2]? = some (.pointer (some ⟨R0, 0, none⟩))) : (results Tryz.f59 tmps).run Tryz.prog w = .ok (.agg #[a0, a1, a2, a3]) w := by
  have hc := fun i => h.cell i
  simp [results, Tryz.results59, go_sem, hc, ht]
/-- The source's box and the result's. -/
structure Two (w : World) (cs ds : Array Value) (wr : World) : Prop where
  src : Blk wr w.heap.size 26 cs
  res : Blk wr (w.heap.size + 1) 52 ds
  bel : Below w.heap.size w wr
theorem Two.step {w wr w' : World} {cs ds : Array Value} (h : Two w cs ds wr) (hb : Below wr.heap.size wr w') : Two w cs ds w' := ⟨h.src.below hb h.src.lt, h.res.below hb h.res.lt, h.bel.trans (hb.mono h.bel.size)⟩
theorem Two.alloc {w wr : World} {cs ds : Array Value} (h : Two w cs ds wr) (o : Obj) : Two w cs ds (wr.alloc o) := ⟨h.src.alloc o, h.res.alloc o, h.bel.alloc h.bel.size o⟩
theorem Two.set {w wr : World} {cs ds : Array Value} (h : Two w cs ds wr) (i : Nat) (u : Value) : Two w cs (ds.setIfInBounds i u) (wr.setCell ⟨w.heap.size + 1, i, none⟩ u) :=
  ⟨h.src.far (by simp) u, h.res.set_ i u, h.bel.setCell (by simp) u⟩
theorem Two.fill {w wr : World} {cs : Array Value} {b0 b1 b2 b3 : Value} (h : Two w cs #[b0, b1, b2, b3] wr) (a0 a1 a2 a3 : Value) :
    Two w cs #[a0, a1, a2, a3] ((((wr.setCell ⟨w.heap.size + 1, 0, none⟩ a0).setCell ⟨w.heap.size + 1, 1, none⟩ a1).setCell ⟨w.heap.size + 1, 2, none⟩ a2).setCell ⟨w.heap.size + 1, 3, none⟩ a3) := by
  have h := (((h.set 0 a0).set 1 a1).set 2 a2).set 3 a3
  simpa using h
theorem Two.start (w : World) (cs : Array Value) : Two w cs #[.int .i64 0, .int .i64 0, .int .i64 0, .int .i64 0] ((w.alloc (.cells cs 26)).alloc (.cells #[.int .i64 0, .int .i64 0, .int .i64 0, .int .i64 0] 52)) := by
  obtain ⟨h1, h2, h3, _⟩ := box2 w 26 52 cs #[.int .i64 0, .int .i64 0, .int .i64 0, .int .i64 0]
  exact ⟨h1, h2, h3⟩
set_option maxHeartbeats 1000000 in
set_option maxRecDepth 100000 in
theorem orders_any (s : Src) (A A2 A3 : Option Addr) (c c2 c3 : Nat) (w : World) (h : SrcOk s A A2 A3 w) :
    Calls Tryz.prog 56 #[.agg #[.slice A s.rules.length c, .slice A2 s.zones.length c2, .slice A3 s.links.length c3]] w fun e w' => e = .returned (.agg (ordersB s).cells.toArray) ∧ Below w.heap.size w w' := by
  have hrr := h.rr; have nr := h.nr
  clear h
  obtain ⟨Q, hQ⟩ : ∃ Q, ordersB s = Q := ⟨_, rfl⟩
  rw [hQ]
  unfold ordersB at hQ
  obtain ⟨rs, zs, ls⟩ := s
  simp only at hrr nr hQ ⊢
  have hst := Two.start w #[.slice A rs.length c, .slice A2 zs.length c2, .slice A3 ls.length c3]
  obtain ⟨W, hW⟩ : ∃ W, (w.alloc (.cells #[.slice A rs.length c, .slice A2 zs.length c2, .slice A3 ls.length c3] 26)).alloc (.cells #[.int .i64 0, .int .i64 0, .int .i64 0, .int .i64 0] 52) = W := ⟨_, rfl⟩
  rw [hW] at hst
  have HT := Lib.hid hst; have HR := Lib.hid hrr; have HQ := Lib.hid hQ
  have c0 := fun i => hst.src.cell i
  clear hst hrr hQ
  go_enter Tryz.func56, Tryz.ntmps56
  go_wp2_with fail
  clear c0
  go_loopw [8] (fun i wr => ∃ k : Nat, k ≤ rs.length ∧ i = .int .i64 k ∧ (rs.take k).all (fun r => !decide (r.hi < r.lo)) = true ∧ Two w #[.slice A rs.length c, .slice A2 zs.length c2, .slice A3 ls.length c3] #[.int .i64 0, .int .i64 0, .int .i64 0, .int .i64 0] wr) (fun i _ => rs.length - (intOf i).toNat)
  case atStart => exact ⟨0, Nat.zero_le _, rfl, rfl, HT.out⟩
  case round =>
    clear HT
    obtain ⟨k, hk, rfl, hall, ht⟩ := hrel
    have HT := Lib.hid ht; have Hall := Lib.hid hall
    clear ht hall
    by_cases hkn : k < rs.length
    · obtain ⟨ad, hA, hadb, a0, a1, a2, a3, a4, a5, a6, a7, a8, a9, a10⟩ := rule_cells (HR.out.below HT.out.bel) hkn
      subst hA
      have hstep : decide (rs[k].hi < rs[k].lo) = false → (rs.take (k + 1)).all (fun r => !decide (r.hi < r.lo)) = true := no_step hkn Hall.out
      have hhit : decide (rs[k].hi < rs[k].lo) = true → (rs.findIdx? fun r => decide (r.hi < r.lo)) = some k := find_hit hkn Hall.out
      have HS := Lib.hid hstep; have HH := Lib.hid hhit
      clear hstep hhit Hall
      generalize rs[k] = x at *
      obtain ⟨x0, x1, x2, x3, x4, x5, x6, x7, x8, x9, x10⟩ := x
      simp only at a0 a1 a2 a3 a4 a5 a6 a7 a8 a9 a10 HS HH
      cases hd : decide (x2 < x1)
      · rw [hd] at HS
        clear HH
        go_wp2_with fail
        exact ⟨⟨k + 1, by omega, by go_num, HS.out (by trivial), HT.out.alloc _⟩, by simp [intOf]; omega⟩
      · rw [hd] at HH
        have hq : Q = ⟨16, 1, k, 0⟩ := by rw [← HQ.out, HH.out (by trivial)]; rfl
        subst hq
        have ht := HT.out.alloc (.cells #[.string x0, .int .i64 x1, .int .i64 x2, .int .i64 x3, .int .i64 x4, .int .i64 x5, .int .i64 x6, .int .i64 x7, .int .i64 x8, .int .i64 x9, .string x10] 59)
        have fR := fun i => ht.res.frozen i
        have cR := fun i => ht.res.cell i
        have HF := Lib.hid (ht.fill (.int .i64 16) (.int .i64 1) (.int .i64 k) (.int .i64 0))
        clear HS HH ht
        go_wp2_with fail
        refine bodyPost_ret (orders_results HF.out.res _ rfl) rfl ?_
        exact ⟨rfl, HF.out.bel⟩
    · obtain rfl : k = rs.length := by omega
      have hall := Hall.out
      rw [List.take_length] at hall
      have hq : Q = noFlaw := by rw [← HQ.out, find_miss hall]; rfl
      subst hq
      have fR := fun i => HT.out.res.frozen i
      have cR := fun i => HT.out.res.cell i
      have HF := Lib.hid (HT.out.fill (.int .i64 0) (.int .i64 0) (.int .i64 0) (.int .i64 0))
      clear hall Hall
      go_wp2_with fail
      refine bodyPost_ret (orders_results HF.out.res _ rfl) rfl ?_
      exact ⟨rfl, HF.out.bel⟩
end Go.Proofs.YtdicedpklpadgaaGreatDoor.Snd
namespace Go.Proofs.YtdicedpklpadgaaGreatDoor.Snd
open Go.RowKit Mem Civ Mom Img Plc Rul Src Go.Maps

def dupL (seen : List ByteArray) : List Link → Nat → Option Nat
  | [], _ => none
  | x :: t, i => if inL seen x.name = true then some i else dupL (seen ++ [x.name]) t (i + 1)
def linksB (s : Src) : Flaw := flawAt 10 3 (dupL (s.zones.map (·.name)) s.links 0)
set_option maxHeartbeats 1000000 in
set_option maxRecDepth 100000 in
theorem links_any (s : Src) (A A2 A3 : Option Addr) (c c2 c3 : Nat) (w : World) (h : SrcOk s A A2 A3 w) :
    Calls Tryz.prog 59 #[.agg #[.slice A s.rules.length c, .slice A2 s.zones.length c2, .slice A3 s.links.length c3]] w fun e w' => e = .returned (.agg (linksB s).cells.toArray) ∧ Below w.heap.size w w' := by
  have hN := fun z (hb : Below w.heap.size w z) => named_any s A A2 A3 c c2 c3 z (h.below hb)
  have hrl := h.rl; have nz := h.nz; have nl := h.nl; have tl := h.tl
  clear h
  obtain ⟨Q, hQ⟩ : ∃ Q, linksB s = Q := ⟨_, rfl⟩
  rw [hQ]
  unfold linksB at hQ
  obtain ⟨rs, zs, ls⟩ := s
  simp only at hN hrl nz nl tl hQ ⊢
  have hst := Two.start w #[.slice A rs.length c, .slice A2 zs.length c2, .slice A3 ls.length c3]
  obtain ⟨W, hW⟩ : ∃ W, (w.alloc (.cells #[.slice A rs.length c, .slice A2 zs.length c2, .slice A3 ls.length c3] 26)).alloc (.cells #[.int .i64 0, .int .i64 0, .int .i64 0, .int .i64 0] 52) = W := ⟨_, rfl⟩
  rw [hW] at hst
  have hsz : w.heap.size + 1 < W.heap.size := hst.res.lt
  have HT := Lib.hid hst; have HL := Lib.hid hrl; have HQ := Lib.hid hQ; have HN := Lib.hid hN; have Htl := Lib.hid tl
  have c0 := fun i => hst.src.cell i
  clear hst hrl hQ hN tl
  go_enter Tryz.func59, Tryz.ntmps59
  go_wp2_with fail
  go_at_call 109
  refine (HN.out W HT.out.bel).mono ?_
  rintro e w1 ⟨b, rfl, hbz, hm, hb1⟩
  have HM := Lib.hid hm; have HT1 := Lib.hid (HT.out.step hb1)
  have hbw : w.heap.size + 1 < b := by omega
  have c1 := fun i => HT1.out.src.cell i
  clear c0 hm hb1 HT hbz hW hsz
  go_wp2_with fail
  clear c1
  go_loopw [11] (fun i wr => ∃ k : Nat, k ≤ ls.length ∧ i = .int .i64 k ∧ MapOf wr b (zs.length + k) (zs.map (·.name) ++ (ls.take k).map (·.name)) ∧ flawAt 10 3 (dupL (zs.map (·.name) ++ (ls.take k).map (·.name)) (ls.drop k) k) = Q ∧ Two w #[.slice A rs.length c, .slice A2 zs.length c2, .slice A3 ls.length c3] #[.int .i64 0, .int .i64 0, .int .i64 0, .int .i64 0] wr) (fun i _ => ls.length - (intOf i).toNat)
  case atStart =>
    refine ⟨0, Nat.zero_le _, rfl, ?_, ?_, HT1.out⟩
    · rw [List.take_zero, List.map_nil, List.append_nil]; exact HM.out
    · rw [List.take_zero, List.map_nil, List.append_nil, List.drop_zero]; exact HQ.out
  case round =>
    clear HM HT1 HQ
    obtain ⟨k, hk, rfl, hm, hq, ht⟩ := hrel
    have HT := Lib.hid ht; have Hq := Lib.hid hq
    clear ht hq
    by_cases hkn : k < ls.length
    · obtain ⟨ad, hA, hadb, a0, a1⟩ := link_cells (HL.out.below HT.out.bel) hkn rfl
      subst hA
      have hsz := (Htl.out ls[k] (List.getElem_mem hkn)).2
      have hkey := nm_key hsz
      have hst : zs.map (·.name) ++ (ls.take (k + 1)).map (·.name) = (zs.map (·.name) ++ (ls.take k).map (·.name)) ++ [ls[k].name] := by rw [List.take_succ_eq_append_getElem hkn, List.map_append, List.append_assoc]; rfl
      have hdr : ls.drop k = ls[k] :: ls.drop (k + 1) := List.drop_eq_getElem_cons hkn
      have hq := Hq.out
      rw [hdr, dupL, ← hst] at hq
      have hlook := fun o => (hm.alloc o).look hsz
      obtain ⟨D, hown, hsm⟩ := hm
      have Hown := Lib.hid hown; have Hsm := Lib.hid hsm; have HSt := Lib.hid hst; have Hq2 := Lib.hid hq; have Hbw := Lib.hid hbw
      clear hown hsm hst hdr hq Hq hsz
      obtain ⟨x, hx⟩ : ∃ x, x = ls[k] := ⟨_, rfl⟩
      rw [← hx] at a0 a1 hkey hlook HSt Hq2
      clear hx
      obtain ⟨q, hqq⟩ : ∃ q, inL (zs.map (·.name) ++ (ls.take k).map (·.name)) x.name = q := ⟨_, rfl⟩
      simp only [hqq] at hlook Hq2
      clear hqq
      cases q
      · go_wp2_with (at_mapUpdate; refine wpList_mapUpdate_own (H := Unit) _ rfl _ _ _ 143 rfl 9 4 setLaw Tryz.underlying143 (plainElem Tryz.prog 4) b (zs.length + k) D rfl (Hown.out.alloc _) (by unfold maxLen; omega) _ _ _ rfl rfl hkey (.lit (.bool true)) [] (plainElem_bool Tryz.underlying4 true) ?_; intro w1 hmap1 hg1; have Hmap1 := Lib.hid hmap1; have Hg1 := Lib.hid hg1; clear hmap1 hg1)
        have ht := HT.out.alloc (.cells #[.string x.target, .string x.name] 142)
        refine ⟨⟨k + 1, by omega, by go_num, ⟨_, Hmap1.out, ?_⟩, ?_, ?_, ?_, ?_⟩, by simp [intOf]; omega⟩
        · rw [HSt.out, keyL, List.map_append]
          exact Hsm.out.put _
        · have hq := Hq2.out
          simp only [Bool.false_eq_true, if_false] at hq
          exact hq
        · exact ht.src.grown Hg1.out (by have := Hbw.out; intro e; injection e with e; omega)
        · exact ht.res.grown Hg1.out (by have := Hbw.out; intro e; injection e with e; omega)
        · exact ht.bel.grown Hg1.out ht.bel.size (fun j hj => by have := Hbw.out; injection hj with hj; omega)
      · have hq := Hq2.out
        simp only [if_true] at hq
        subst hq
        have ht := HT.out.alloc (.cells #[.string x.target, .string x.name] 142)
        have fR := fun i => ht.res.frozen i
        have cR := fun i => ht.res.cell i
        have HF := Lib.hid (ht.fill (.int .i64 10) (.int .i64 3) (.int .i64 k) (.int .i64 0))
        clear ht Hq2 HSt Hown Hsm
        go_wp2_with fail
        refine bodyPost_ret (links_results HF.out.res _ rfl) rfl ?_
        exact ⟨rfl, HF.out.bel⟩
    · obtain rfl : k = ls.length := by omega
      have hq := Hq.out
      rw [List.drop_length, dupL] at hq
      subst hq
      have fR := fun i => HT.out.res.frozen i
      have cR := fun i => HT.out.res.cell i
      have HF := Lib.hid (HT.out.fill (.int .i64 0) (.int .i64 0) (.int .i64 0) (.int .i64 0))
      clear Hq hm
      go_wp2_with fail
      refine bodyPost_ret (links_results HF.out.res _ rfl) rfl ?_
      exact ⟨rfl, HF.out.bel⟩
end Go.Proofs.YtdicedpklpadgaaGreatDoor.Snd
namespace Go.Proofs.YtdicedpklpadgaaGreatDoor.Snd
open Go.RowKit Mem Civ Mom Img Plc Rul Src Go.Maps

def targetsB (s : Src) : Flaw := match s.links.findIdx? fun l => !inL (allNames s) l.target with
  | some i => ⟨8, 3, i, 0⟩
  | none => flawAt 16 3 (s.links.findIdx? fun l => !(resolveB s l.name).isSome)
theorem targets_results {w : World} {R0 : Nat} {a0 a1 a2 a3 : Value} (h : Blk w R0 52 #[a0, a1, a2, a3]) (tmps : Array Value) (ht : tmps[2]? = some (.pointer (some ⟨R0, 0, none⟩))) : (results Tryz.f60 tmps).run Tryz.prog w = .ok (.agg #[a0, a1, a2, a3]) w := by
  have hc := fun i => h.cell i
  simp [results, Tryz.results60, go_sem, hc, ht]
set_option maxHeartbeats 2000000 in
set_option maxRecDepth 100000 in
theorem targets_any (s : Src) (A A2 A3 : Option Addr) (c c2 c3 : Nat) (w : World) (h : SrcOk s A A2 A3 w) :
    Calls Tryz.prog 60 #[.agg #[.slice A s.rules.length c, .slice A2 s.zones.length c2, .slice A3 s.links.length c3]] w fun e w' => e = .returned (.agg (targetsB s).cells.toArray) ∧ Below w.heap.size w w' := by
  have hN := fun z (hb : Below w.heap.size w z) => named_any s A A2 A3 c c2 c3 z (h.below hb)
  have hR := fun nm z (hb : Below w.heap.size w z) => resolve_any s A A2 A3 c c2 c3 nm z (h.below hb)
  have hrl := h.rl; have nz := h.nz; have nl := h.nl; have tl := h.tl
  clear h
  obtain ⟨Q, hQ⟩ : ∃ Q, targetsB s = Q := ⟨_, rfl⟩
  rw [hQ]
  unfold targetsB allNames at hQ
  generalize hrv : resolveB s = rv at *
  clear hrv
  obtain ⟨rs, zs, ls⟩ := s
  simp only at hN hR hrl nz nl tl hQ ⊢
  have hst := Two.start w #[.slice A rs.length c, .slice A2 zs.length c2, .slice A3 ls.length c3]
  obtain ⟨W, hW⟩ : ∃ W, (w.alloc (.cells #[.slice A rs.length c, .slice A2 zs.length c2, .slice A3 ls.length c3] 26)).alloc (.cells #[.int .i64 0, .int .i64 0, .int .i64 0, .int .i64 0] 52) = W := ⟨_, rfl⟩
  rw [hW] at hst
  have hsz : w.heap.size + 1 < W.heap.size := hst.res.lt
  have HT := Lib.hid hst; have HL := Lib.hid hrl; have HQ := Lib.hid hQ; have HN := Lib.hid hN; have HRv := Lib.hid hR; have Htl := Lib.hid tl
  have c0 := fun i => hst.src.cell i
  clear hst hrl hQ hN hR tl
  go_enter Tryz.func60, Tryz.ntmps60
  go_wp2_with fail
  go_at_call 109
  refine (HN.out W HT.out.bel).mono ?_
  rintro e w1 ⟨b, rfl, hbz, hm, hb1⟩
  have HM := Lib.hid hm; have HT1 := Lib.hid (HT.out.step hb1)
  have hbw : w.heap.size + 1 < b := by omega
  have c1 := fun i => HT1.out.src.cell i
  clear c0 hm hb1 HT hbz hW hsz
  go_wp2_with fail
  clear c1
  go_loopw [17] (fun i wr => ∃ k : Nat, k ≤ ls.length ∧ i = .int .i64 k ∧ MapOf wr b (zs.length + k) (zs.map (·.name) ++ (ls.take k).map (·.name)) ∧ Two w #[.slice A rs.length c, .slice A2 zs.length c2, .slice A3 ls.length c3] #[.int .i64 0, .int .i64 0, .int .i64 0, .int .i64 0] wr) (fun i _ => ls.length - (intOf i).toNat)
  case atStart =>
    refine ⟨0, Nat.zero_le _, rfl, ?_, HT1.out⟩
    rw [List.take_zero, List.map_nil, List.append_nil]; exact HM.out
  case round =>
    clear HM HT1
    obtain ⟨k, hk, rfl, hm, ht⟩ := hrel
    have HT := Lib.hid ht
    clear ht
    by_cases hkn : k < ls.length
    · obtain ⟨ad, hA, hadb, a0, a1⟩ := link_cells (HL.out.below HT.out.bel) hkn rfl
      subst hA
      have hkey := nm_key (Htl.out ls[k] (List.getElem_mem hkn)).2
      have hst : zs.map (·.name) ++ (ls.take (k + 1)).map (·.name) = (zs.map (·.name) ++ (ls.take k).map (·.name)) ++ [ls[k].name] := by rw [List.take_succ_eq_append_getElem hkn, List.map_append, List.append_assoc]; rfl
      obtain ⟨D, hown, hsm⟩ := hm
      have Hown := Lib.hid hown; have Hsm := Lib.hid hsm; have HSt := Lib.hid hst; have Hbw := Lib.hid hbw
      clear hown hsm hst
      generalize ls[k] = x at *
      go_wp2_with (at_mapUpdate; refine wpList_mapUpdate_own (H := Unit) _ rfl _ _ _ 143 rfl 9 4 setLaw Tryz.underlying143 (plainElem Tryz.prog 4) b (zs.length + k) D rfl (Hown.out.alloc _) (by unfold maxLen; omega) _ _ _ rfl rfl hkey (.lit (.bool true)) [] (plainElem_bool Tryz.underlying4 true) ?_; intro w1 hmap1 hg1; have Hmap1 := Lib.hid hmap1; have Hg1 := Lib.hid hg1; clear hmap1 hg1)
      have ht := HT.out.alloc (.cells #[.string x.target, .string x.name] 142)
      refine ⟨⟨k + 1, by omega, by go_num, ⟨_, Hmap1.out, ?_⟩, ?_, ?_, ?_⟩, by simp [intOf]; omega⟩
      · rw [HSt.out, keyL, List.map_append]
        exact Hsm.out.put _
      · exact ht.src.grown Hg1.out (by have := Hbw.out; intro e; injection e with e; omega)
      · exact ht.res.grown Hg1.out (by have := Hbw.out; intro e; injection e with e; omega)
      · exact ht.bel.grown Hg1.out ht.bel.size (fun j hj => by have := Hbw.out; injection hj with hj; omega)
    · obtain rfl : k = ls.length := by omega
      rw [List.take_length] at hm
      obtain ⟨ns, hns⟩ : ∃ ns, zs.map (·.name) ++ ls.map (·.name) = ns := ⟨_, rfl⟩
      have hq := HQ.out
      rw [hns] at hm hq
      have HM := Lib.hid hm; have HQ2 := Lib.hid hq
      clear hm hq hns HQ HN
      have cS := fun i => HT.out.src.cell i
      go_wp2_with fail
      clear cS
      go_loopw [28] (fun i wz => ∃ k : Nat, k ≤ ls.length ∧ i = .int .i64 k ∧ (ls.take k).all (fun l => !!inL ns l.target) = true ∧ MapOf wz b (zs.length + ls.length) ns ∧ Two w #[.slice A rs.length c, .slice A2 zs.length c2, .slice A3 ls.length c3] #[.int .i64 0, .int .i64 0, .int .i64 0, .int .i64 0] wz) (fun i _ => ls.length - (intOf i).toNat)
      case atStart => exact ⟨0, Nat.zero_le _, rfl, rfl, HM.out, HT.out⟩
      case round =>
        clear HM HT
        obtain ⟨k, hk, rfl, hall, hm, ht⟩ := hrel
        have HT := Lib.hid ht; have Hall := Lib.hid hall; have HM := Lib.hid hm
        clear ht hall hm
        by_cases hkn : k < ls.length
        · obtain ⟨ad, hA, hadb, a0, a1⟩ := link_cells (HL.out.below HT.out.bel) hkn rfl
          subst hA
          have hlook := fun o => (HM.out.alloc o).look (Htl.out ls[k] (List.getElem_mem hkn)).1
          have hstep : (!inL ns ls[k].target) = false → (ls.take (k + 1)).all (fun l => !!inL ns l.target) = true := no_step (p := fun l : Link => !inL ns l.target) hkn Hall.out
          have hhit : (!inL ns ls[k].target) = true → (ls.findIdx? fun l => !inL ns l.target) = some k := find_hit (p := fun l : Link => !inL ns l.target) hkn Hall.out
          have HS := Lib.hid hstep; have HH := Lib.hid hhit
          clear hstep hhit Hall
          obtain ⟨x, hx⟩ : ∃ x, x = ls[k] := ⟨_, rfl⟩
          rw [← hx] at a0 a1 hlook HS HH
          clear hx
          obtain ⟨q, hqq⟩ : ∃ q, inL ns x.target = q := ⟨_, rfl⟩
          simp only [hqq] at hlook HS HH
          clear hqq
          have ht := HT.out.alloc (.cells #[.string x.target, .string x.name] 142)
          cases q
          · have hq := HQ2.out
            rw [HH.out (by rfl)] at hq
            subst hq
            have fR := fun i => ht.res.frozen i
            have cR := fun i => ht.res.cell i
            have HF := Lib.hid (ht.fill (.int .i64 8) (.int .i64 3) (.int .i64 k) (.int .i64 0))
            clear ht HS HH HQ2
            go_wp2_with fail
            refine bodyPost_ret (targets_results HF.out.res _ rfl) rfl ?_
            exact ⟨rfl, HF.out.bel⟩
          · have HT2 := Lib.hid ht
            clear ht HH
            go_wp2_with fail
            exact ⟨⟨k + 1, by omega, by go_num, HS.out (by rfl), HM.out.alloc _, HT2.out⟩, by simp [intOf]; omega⟩
        · obtain rfl : k = ls.length := by omega
          have hall := Hall.out
          rw [List.take_length] at hall
          have hq := HQ2.out
          rw [find_miss (p := fun l : Link => !inL ns l.target) hall] at hq
          have HQ3 := Lib.hid hq
          clear hq hall Hall HQ2 HM
          have cS := fun i => HT.out.src.cell i
          go_wp2_with fail
          clear cS
          go_loopw [44] (fun i wz => ∃ k : Nat, k ≤ ls.length ∧ i = .int .i64 k ∧ (ls.take k).all (fun l => !!(rv l.name).isSome) = true ∧ Two w #[.slice A rs.length c, .slice A2 zs.length c2, .slice A3 ls.length c3] #[.int .i64 0, .int .i64 0, .int .i64 0, .int .i64 0] wz) (fun i _ => ls.length - (intOf i).toNat)
          case atStart => exact ⟨0, Nat.zero_le _, rfl, rfl, HT.out⟩
          case round =>
            clear HT
            obtain ⟨k, hk, rfl, hall, ht⟩ := hrel
            have HT := Lib.hid ht; have Hall := Lib.hid hall
            clear ht hall
            by_cases hkn : k < ls.length
            · obtain ⟨ad, hA, hadb, a0, a1⟩ := link_cells (HL.out.below HT.out.bel) hkn rfl
              subst hA
              have hstep : (!(rv ls[k].name).isSome) = false → (ls.take (k + 1)).all (fun l => !!(rv l.name).isSome) = true := no_step (p := fun l : Link => !(rv l.name).isSome) hkn Hall.out
              have hhit : (!(rv ls[k].name).isSome) = true → (ls.findIdx? fun l => !(rv l.name).isSome) = some k := find_hit (p := fun l : Link => !(rv l.name).isSome) hkn Hall.out
              have HS := Lib.hid hstep; have HH := Lib.hid hhit
              clear hstep hhit Hall
              obtain ⟨x, hx⟩ : ∃ x, x = ls[k] := ⟨_, rfl⟩
              rw [← hx] at a0 a1 HS HH
              clear hx
              have ht := HT.out.alloc (.cells #[.string x.target, .string x.name] 142)
              have HRz := Lib.hid (HRv.out x.name _ ht.bel)
              have HT2 := Lib.hid ht
              have cS := fun i => ht.src.cell i
              clear ht
              generalize rv x.name = r at *
              cases r with
              | none =>
                have hq := HQ3.out
                rw [HH.out (by rfl)] at hq
                subst hq
                go_wp2_with (go_at_call 110; refine HRz.out.mono ?_; rintro e w2 ⟨rfl, hb⟩; have ht3 := HT2.out.step hb; have fR := fun i => ht3.res.frozen i; have cR := fun i => ht3.res.cell i; have HF := Lib.hid (ht3.fill (.int .i64 16) (.int .i64 3) (.int .i64 k) (.int .i64 0)); clear hb ht3)
                refine bodyPost_ret (targets_results HF.out.res _ rfl) rfl ?_
                exact ⟨rfl, HF.out.bel⟩
              | some i =>
                go_wp2_with (go_at_call 110; refine HRz.out.mono ?_; rintro e w2 ⟨rfl, hb⟩; have HT3 := Lib.hid (HT2.out.step hb); clear hb)
                exact ⟨⟨k + 1, by omega, by go_num, HS.out (by rfl), HT3.out⟩, by simp [intOf]; omega⟩
            · obtain rfl : k = ls.length := by omega
              have hall := Hall.out
              rw [List.take_length] at hall
              have hq := HQ3.out
              rw [find_miss (p := fun l : Link => !(rv l.name).isSome) hall] at hq
              subst hq
              have fR := fun i => HT.out.res.frozen i
              have cR := fun i => HT.out.res.cell i
              have HF := Lib.hid (HT.out.fill (.int .i64 0) (.int .i64 0) (.int .i64 0) (.int .i64 0))
              clear Hall hall HQ3
              go_wp2_with fail
              refine bodyPost_ret (targets_results HF.out.res _ rfl) rfl ?_
              exact ⟨rfl, HF.out.bel⟩
end Go.Proofs.YtdicedpklpadgaaGreatDoor.Snd
