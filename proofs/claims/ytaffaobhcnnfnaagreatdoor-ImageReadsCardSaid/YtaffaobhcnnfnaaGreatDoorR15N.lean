/-
  The document's reader (analemmaref15.Reader: Num, Four, Text, Short; rule): the contracts. Conditions: the text's length is bounded.
-/
import Derived.Test.YtaffaobhcnnfnaaGreatDoorR15L
namespace Go.Proofs.YtaffaobhcnnfnaaGreatDoor.R15
open Go.RowKit Mem Img Rgt Rd

/-- The reader's block: what is left, or nothing, if there weren't enough. -/
def RdQ (w : World) (g : Nat) (s : ByteArray) (o : Option (List UInt8)) : Prop :=
  ∃ p : Nat, p ≤ s.size ∧ (∀ r, o = some r → s.data.toList.drop p = r) ∧ Blk w g 80 #[.string s, .int .i64 p, .bool o.isNone]
/-- What was read, or that there weren't enough bytes. -/
def QR {α : Type} (p : List UInt8 → Option (α × List UInt8)) (o : Option (List UInt8)) (v : α) (o' : Option (List UInt8)) : Prop :=
  (o' = none ∧ o.bind p = none) ∨ ∃ r, o' = some r ∧ o.bind p = some (v, r)
def QP {α : Type} (enc : α → Value) (F : α → Prop) (p : List UInt8 → Option (α × List UInt8)) (g : Nat) (w : World) (s : ByteArray) (o : Option (List UInt8)) (e : Ending) (w' : World) : Prop :=
  w.grownBy w' (some g) ∧ ∃ v o', e = .returned (enc v) ∧ F v ∧ QR p o v o' ∧ RdQ w' g s o'
theorem QR.bind {α β : Type} {p : List UInt8 → Option (α × List UInt8)} {q : α → List UInt8 → Option (β × List UInt8)} {o o1 o2 : Option (List UInt8)} {v : α} {t : β} (h : QR p o v o1) (k : QR (q v) o1 t o2) :
    QR (fun l => (p l).bind fun x => q x.1 x.2) o t o2 := by
  rcases h with ⟨rfl, h⟩ | ⟨r, rfl, h⟩
  · rcases k with ⟨rfl, _⟩ | ⟨r, rfl, k⟩
    · refine .inl ⟨rfl, ?_⟩
      cases o with
      | none => rfl
      | some l => rw [Option.bind_some] at h ⊢; rw [h]; rfl
    · cases k
  · cases o with
    | none => cases h
    | some l =>
      rw [Option.bind_some] at h
      rcases k with ⟨rfl, k⟩ | ⟨r2, rfl, k⟩
      · exact .inl ⟨rfl, by rw [Option.bind_some, h, Option.bind_some]; exact k⟩
      · exact .inr ⟨r2, rfl, by rw [Option.bind_some, h, Option.bind_some]; exact k⟩
theorem QR.map {α β : Type} {p : List UInt8 → Option (α × List UInt8)} (f : α → β) {o o1 : Option (List UInt8)} {v : α} (h : QR p o v o1) :
    QR (fun l => (p l).map fun x => (f x.1, x.2)) o (f v) o1 := by
  rcases h with ⟨rfl, h⟩ | ⟨r, rfl, h⟩
  · refine .inl ⟨rfl, ?_⟩
    cases o with
    | none => rfl
    | some l => rw [Option.bind_some] at h ⊢; rw [h]; rfl
  · refine .inr ⟨r, rfl, ?_⟩
    cases o with
    | none => cases h
    | some l => rw [Option.bind_some] at h ⊢; rw [h]; rfl
theorem QR.next {α β : Type} {p : List UInt8 → Option (α × List UInt8)} {o o1 : Option (List UInt8)} {v : α} {G : α × List UInt8 → Option β} {R : Option β} (h : QR p o v o1) (hm : R = o.bind fun y => (p y).bind G) : R = o1.bind fun y => G (v, y) := by
  rw [hm]
  rcases h with ⟨rfl, h⟩ | ⟨r, rfl, h⟩
  · cases o with
    | none => rfl
    | some l => rw [Option.bind_some] at h ⊢; rw [h]; rfl
  · cases o with
    | none => cases h
    | some l => rw [Option.bind_some] at h ⊢; rw [h]; rfl
theorem QR.fin {α β : Type} {p : List UInt8 → Option (α × List UInt8)} {o o1 : Option (List UInt8)} {v : α} {F : α × List UInt8 → β} {R : Option β} (h : QR p o v o1) (hm : R = o.bind fun y => (p y).map F) : (o1 = none ∧ R = none) ∨ ∃ r, o1 = some r ∧ R = some (F (v, r)) := by
  rw [hm]
  rcases h with ⟨rfl, h⟩ | ⟨r, rfl, h⟩
  · cases o with
    | none => exact .inl ⟨rfl, rfl⟩
    | some l => rw [Option.bind_some] at h ⊢; rw [h]; exact .inl ⟨rfl, rfl⟩
  · cases o with
    | none => cases h
    | some l => rw [Option.bind_some] at h ⊢; rw [h]; exact .inr ⟨r, rfl, rfl⟩
theorem RdQ.lt {w : World} {g : Nat} {s : ByteArray} {o : Option (List UInt8)} (h : RdQ w g s o) : g < w.heap.size := by
  obtain ⟨p, _, _, hb⟩ := h
  exact hb.lt
theorem RdQ.grown {w w' : World} {g : Nat} {r : Option Nat} {s : ByteArray} {o : Option (List UInt8)} (h : RdQ w g s o) (hg : w.grownBy w' r) (hr : r ≠ some g) : RdQ w' g s o := by
  obtain ⟨p, h1, h2, hb⟩ := h
  exact ⟨p, h1, h2, hb.grown hg (fun e => hr e.symm)⟩
theorem RdQ.drewN {w : World} {g : Nat} {s : ByteArray} {o : Option (List UInt8)} (h : RdQ w g s o) (n : Nat) : RdQ (w.drewN n) g s o := by
  obtain ⟨p, h1, h2, hb⟩ := h
  exact ⟨p, h1, h2, hb⟩
theorem take_some {s : ByteArray} {p k : Nat} {o : Option (List UInt8)} (h2 : ∀ r, o = some r → s.data.toList.drop p = r) (hk : p + k ≤ s.size) :
    o.bind (takeM k) = o.map fun _ => ((s.data.toList.drop p).take k, s.data.toList.drop (p + k)) := by
  cases o with
  | none => rfl
  | some r =>
    rw [← h2 r rfl, Option.bind_some, takeM, if_pos (by rw [List.length_drop, len_toList]; omega), List.drop_drop]
    rfl
theorem take_none {s : ByteArray} {p k : Nat} {o : Option (List UInt8)} (hp : p ≤ s.size) (h2 : ∀ r, o = some r → s.data.toList.drop p = r) (hk : s.size < p + k) : o.bind (takeM k) = none := by
  cases o with
  | none => rfl
  | some r =>
    rw [← h2 r rfl, Option.bind_some, takeM, if_neg (by rw [List.length_drop, len_toList]; omega)]
theorem qr_take {s : ByteArray} {p k : Nat} {o : Option (List UInt8)} (h2 : ∀ r, o = some r → s.data.toList.drop p = r) (hk : p + k ≤ s.size) :
    QR (takeM k) o ((s.data.toList.drop p).take k) (o.map fun _ => s.data.toList.drop (p + k)) := by
  have h := take_some h2 hk
  cases o with
  | none => exact .inl ⟨rfl, h⟩
  | some r => exact .inr ⟨_, rfl, h⟩
theorem qr_num {s : ByteArray} {p k : Nat} {o : Option (List UInt8)} (h2 : ∀ r, o = some r → s.data.toList.drop p = r) (hk : p + k ≤ s.size) :
    QR (nU k) o (numU ((s.data.toList.drop p).take k)) (o.map fun _ => s.data.toList.drop (p + k)) := (qr_take h2 hk).map numU
theorem qr_num_none {s : ByteArray} {p k v : Nat} {o : Option (List UInt8)} (hp : p ≤ s.size) (h2 : ∀ r, o = some r → s.data.toList.drop p = r) (hk : s.size < p + k) : QR (nU k) o v none := by
  refine .inl ⟨rfl, ?_⟩
  have h := take_none hp h2 hk
  cases o with
  | none => rfl
  | some r => rw [Option.bind_some] at h ⊢; rw [nU, h]; rfl
theorem rdq_map {w : World} {g p : Nat} {s : ByteArray} {o : Option (List UInt8)} (hp : p ≤ s.size) (h : Blk w g 80 #[.string s, .int .i64 p, .bool o.isNone]) : RdQ w g s (o.map fun _ => s.data.toList.drop p) := by
  refine ⟨p, hp, fun r hr => ?_, ?_⟩
  · cases o with
    | none => cases hr
    | some l => simpa using hr
  · cases o <;> exact h
theorem blk_at1 {w : World} {g : Nat} {t : TypeId} {a b c : Value} (h : Blk w g t #[a, b, c]) (n : Nat) (u : Value) : Blk ((w.drewN n).setCell ⟨g, 1, none⟩ u) g t #[a, u, c] := by simpa using (h.drewN n).set_ 1 u
theorem blk_at1' {w : World} {g : Nat} {t : TypeId} {a b c : Value} (h : Blk w g t #[a, b, c]) (u : Value) : Blk (w.setCell ⟨g, 1, none⟩ u) g t #[a, u, c] := by simpa using h.set_ 1 u
theorem blk_at2 {w : World} {g : Nat} {t : TypeId} {a b c : Value} (h : Blk w g t #[a, b, c]) (n : Nat) (u : Value) : Blk ((w.drewN n).setCell ⟨g, 2, none⟩ u) g t #[a, b, u] := by simpa using (h.drewN n).set_ 2 u
theorem gr_set {w wr : World} {g i : Nat} (h : w.grownBy wr (some g)) (n : Nat) (u : Value) : w.grownBy ((wr.drewN n).setCell ⟨g, i, none⟩ u) (some g) := gr3 (grown_drewN h n) (World.grownBy_setCell _ _ _ rfl)
theorem ext_text (s : ByteArray) (p n : Nat) (h : p + n ≤ s.size) : s.extract p (p + n) = ⟨((s.data.toList.drop p).take n).toArray⟩ := by
  obtain ⟨⟨l⟩⟩ := s
  apply ByteArray.ext
  apply Array.toList_inj.1
  simp [ByteArray.data_extract]
theorem numU_bd (l : List UInt8) (h : l.length ≤ 7) : 0 ≤ (numU l : Int) ∧ (numU l : Int) ≤ 72057594037927935 := by
  have h1 := numU_lt l
  have h2 : 256 ^ l.length ≤ 256 ^ 7 := Nat.pow_le_pow_right (by decide) h
  have h3 : (256 : Nat) ^ 7 = 72057594037927936 := by decide
  omega
theorem numU_bd8 (l : List UInt8) {k : Nat} (h : l.length ≤ k) : numU l < 256 ^ k := Nat.lt_of_lt_of_le (numU_lt l) (Nat.pow_le_pow_right (by decide) h)

set_option maxRecDepth 100000 in
theorem num_q (k g : Nat) (s : ByteArray) (o : Option (List UInt8)) (w : World) (h : RdQ w g s o) (hk : k ≤ 8) (hs : s.size ≤ 140737488355328) :
    Calls Tryz.prog 33 #[.pointer (some ⟨g, 0, none⟩), .int .i64 k] w (QP (fun n : Nat => .int .u64 n) (· < 256 ^ k) (nU k) g w s o) := by
  obtain ⟨p, hp, hd, hb⟩ := h
  have HB := Lib.hid hb; have HD := Lib.hid hd
  clear hb hd
  go_enter Tryz.func33, Tryz.ntmps33
  go_wp2_with fail
  go_loopw [5, 6] (fun n i wr => ∃ j e : Nat, j ≤ k ∧ e = p + j ∧ e ≤ s.size ∧ i = .int .i64 j ∧ n = .int .u64 (numU ((s.data.toList.drop p).take j)) ∧ Blk wr g 80 #[.string s, .int .i64 e, .bool o.isNone] ∧ w.grownBy wr (some g)) (fun _ i _ => k - (intOf i).toNat)
  case atStart => exact ⟨0, p, Nat.zero_le _, rfl, hp, rfl, rfl, HB.out, World.grownBy.refl w _⟩
  case round =>
    obtain ⟨j, q, hj, hqe, hpj, rfl, rfl, hb, hg⟩ := hrel
    have HE := Lib.hid hqe
    clear hqe
    have c0 := hb.cell 0
    have c1 := hb.cell 1
    have c2 := hb.cell 2
    have f1 := hb.frozen 1
    have f2 := hb.frozen 2
    have HB := Lib.hid hb; have HG := Lib.hid hg
    clear hb hg
    by_cases hjk : j < k
    · by_cases hps : q < s.size
      · have hbd := numU_bd ((s.data.toList.drop p).take j) (by have := List.length_take_le j (s.data.toList.drop p); omega)
        have hsn : numU ((s.data.toList.drop p).take (j + 1)) = numU ((s.data.toList.drop p).take j) * 256 + (s[q]'hps).toNat := by
          have he := HE.out
          subst he
          rw [List.take_succ_eq_append_getElem (by rw [List.length_drop, len_toList]; omega), numU_snoc, List.getElem_drop]
          rfl
        have hbb := (s[q]'hps).toNat_lt
        have HN := Lib.hid hsn; clear hsn
        generalize numU ((s.data.toList.drop p).take j) = v at *
        go_wp2_with fail
        go_quiet (fail)
        go_wp2_with fail
        go_quiet (fail)
        go_wp2_with fail
        refine ⟨⟨j + 1, q + 1, by omega, by have := HE.out; omega, by omega, by go_num, by rw [HN.out]; simp, blk_at1 HB.out _ _, gr_set HG.out _ _⟩, by simp [intOf]; omega⟩
      · have HQ := Lib.hid (qr_num_none (v := 0) hp HD.out (show s.size < p + k by have := HE.out; omega))
        go_wp2_with fail
        go_quiet (fail)
        go_wp2_with fail
        go_ret
        exact ⟨gr_set HG.out _ _, 0, none, rfl, Nat.pow_pos (by decide), HQ.out, q, hpj, fun r e => (by cases e), blk_at2 HB.out _ _⟩
    · obtain rfl : j = k := by omega
      obtain rfl := HE.out
      have HQ := Lib.hid (qr_num HD.out hpj)
      have hb8 := numU_bd8 ((s.data.toList.drop p).take j) (List.length_take_le j (s.data.toList.drop p))
      have HB8 := Lib.hid hb8
      have HR := Lib.hid (rdq_map hpj HB.out)
      clear hb8
      generalize numU ((s.data.toList.drop p).take j) = q at *
      go_wp2_with fail
      go_ret
      exact ⟨HG.out, q, _, rfl, HB8.out, HQ.out, HR.out⟩
theorem i32_u32 (n : Nat) : IntKind.i32.wrap ((n : Int) % 4294967296) = IntKind.i32.wrap n := by
  rw [IntKind.wrap_i32, IntKind.wrap_i32]
  omega
theorem i32_bd (n : Int) : -2147483648 ≤ IntKind.i32.wrap n ∧ IntKind.i32.wrap n < 2147483648 := by
  rw [IntKind.wrap_i32]
  omega
set_option maxRecDepth 100000 in
theorem four_q (g : Nat) (s : ByteArray) (o : Option (List UInt8)) (w : World) (h : RdQ w g s o) (hs : s.size ≤ 140737488355328) :
    Calls Tryz.prog 34 #[.pointer (some ⟨g, 0, none⟩)] w (QP (fun n : Int => .int .i64 n) (fun n => -2147483648 ≤ n ∧ n < 2147483648) fQ g w s o) := by
  have HN := Lib.hid (num_q 4 g s o w h (by omega) hs)
  clear h
  go_enter Tryz.func34, Tryz.ntmps34
  go_wp2_with (go_at_call 33; refine HN.out.mono ?_; rintro e w1 ⟨hg, v, o', rfl, hv, hq, hr⟩; have HG := Lib.hid hg; have HQ := Lib.hid hq; have HR := Lib.hid hr; have HV := Lib.hid hv; clear hg hq hr hv)
  go_ret
  refine ⟨HG.out, IntKind.i32.wrap v, o', ?_, i32_bd _, HQ.out.map (fun n : Nat => IntKind.i32.wrap n), HR.out⟩
  show Ending.returned (.int .i64 (wrap64 (wrap32 ((v : Int) % 4294967296)))) = _
  congr 2
  rw [IntKind.wrap_i32]
  unfold wrap64 wrap32
  omega
set_option maxRecDepth 100000 in
theorem text_q (n g : Nat) (s : ByteArray) (o : Option (List UInt8)) (w : World) (h : RdQ w g s o) (hn : n < 18446744073709551616) (hs : s.size ≤ 140737488355328) :
    Calls Tryz.prog 31 #[.pointer (some ⟨g, 0, none⟩), .int .u64 n] w (QP strV (fun l => l.length ≤ s.size) (takeM n) g w s o) := by
  obtain ⟨p, hp, hd, hb⟩ := h
  have c0 := hb.cell 0
  have c1 := hb.cell 1
  have c2 := hb.cell 2
  have f1 := hb.frozen 1
  have f2 := hb.frozen 2
  have HB := Lib.hid hb; have HD := Lib.hid hd
  clear hb hd
  go_enter Tryz.func31, Tryz.ntmps31
  go_wp2_with fail
  by_cases hc : p + n ≤ s.size
  · have HQ := Lib.hid (qr_take HD.out hc)
    go_quiet (fail)
    go_wp2_with fail
    go_quiet (fail)
    go_wp2_with fail
    go_ret
    refine ⟨gr_set (World.grownBy.refl w _) _ _, _, _, congrArg (fun z => Ending.returned (.string z)) (ext_text s p n hc), ?_, HQ.out, rdq_map hc (blk_at1 HB.out _ _)⟩
    show (List.take n (List.drop p s.data.toList)).length ≤ s.size
    rw [List.length_take, List.length_drop, len_toList]
    omega
  · have HQ := Lib.hid (take_none hp HD.out (show s.size < p + n by omega))
    go_quiet (fail)
    go_wp2_with fail
    go_ret
    exact ⟨gr_set (World.grownBy.refl w _) _ _, [], none, rfl, Nat.zero_le _, .inl ⟨rfl, HQ.out⟩, p, hp, fun r e => (by cases e), blk_at2 HB.out _ _⟩
set_option maxRecDepth 100000 in
theorem short_q (g : Nat) (s : ByteArray) (o : Option (List UInt8)) (w : World) (h : RdQ w g s o) (hs : s.size ≤ 140737488355328) :
    Calls Tryz.prog 32 #[.pointer (some ⟨g, 0, none⟩)] w (QP strV (fun l => l.length ≤ s.size) shQ g w s o) := by
  have HN := Lib.hid (num_q 1 g s o w h (by omega) hs)
  clear h
  go_enter Tryz.func32, Tryz.ntmps32
  go_wp2_with (first
    | (go_at_call 33; refine HN.out.mono ?_; rintro e w1 ⟨hg, v, o', rfl, hv, hq, hr⟩; have HG := Lib.hid hg; have HQ := Lib.hid hq; have HT := Lib.hid (text_q v g s o' w1 hr (Nat.lt_trans hv (by decide)) hs); clear hg hq hr hv)
    | (go_at_call 31; refine HT.out.mono ?_; rintro e w2 ⟨hg, t, o2, rfl, ht, hq, hr⟩; have HG2 := Lib.hid (gr3 HG.out hg); have HQ2 := Lib.hid (HQ.out.bind (q := fun n l => takeM n l) hq); have HR2 := Lib.hid hr; have HL := Lib.hid ht; clear hg hq hr ht))
  go_ret
  exact ⟨HG2.out, t, o2, rfl, HL.out, HQ2.out, HR2.out⟩
/-- What rule holds: the reader, its rule, its result's place. -/
structure RX (w : World) (g : Nat) (s : ByteArray) (o : Option (List UInt8)) (X R0 : Nat) (cx cr : Array Value) (wr : World) : Prop where
  rd : RdQ wr g s o
  gr : w.grownBy wr (some g)
  bx : Blk wr X 52 cx
  br : Blk wr R0 52 cr
  hx : X ≠ g
  hr : R0 ≠ g
  hn : X ≠ R0
  lx : w.heap.size ≤ X
  lr : w.heap.size ≤ R0
theorem RX.step {w wr w' : World} {g X R0 : Nat} {s : ByteArray} {o o' : Option (List UInt8)} {cx cr : Array Value} (h : RX w g s o X R0 cx cr wr) (hr : RdQ w' g s o') (hg : wr.grownBy w' (some g)) : RX w g s o' X R0 cx cr w' :=
  ⟨hr, gr3 h.gr hg, h.bx.grown hg (by simpa using h.hx), h.br.grown hg (by simpa using h.hr), h.hx, h.hr, h.hn, h.lx, h.lr⟩
theorem RX.set_ {w wr : World} {g X R0 : Nat} {s : ByteArray} {o : Option (List UInt8)} {cx cr : Array Value} (h : RX w g s o X R0 cx cr wr) (i : Nat) (u : Value) : RX w g s o X R0 (cx.setIfInBounds i u) cr (wr.setCell ⟨X, i, none⟩ u) :=
  ⟨by obtain ⟨p, h1, h2, hb⟩ := h.rd; exact ⟨p, h1, h2, hb.far (Ne.symm h.hx) u⟩, grown_set h.gr u h.lx, h.bx.set_ i u, h.br.far (Ne.symm h.hn) u, h.hx, h.hr, h.hn, h.lx, h.lr⟩
theorem RX.setR {w wr : World} {g X R0 : Nat} {s : ByteArray} {o : Option (List UInt8)} {cx cr : Array Value} (h : RX w g s o X R0 cx cr wr) (i : Nat) (u : Value) : RX w g s o X R0 cx (cr.setIfInBounds i u) (wr.setCell ⟨R0, i, none⟩ u) :=
  ⟨by obtain ⟨p, h1, h2, hb⟩ := h.rd; exact ⟨p, h1, h2, hb.far (Ne.symm h.hr) u⟩, grown_set h.gr u h.lr, h.bx.far h.hn u, h.br.set_ i u, h.hx, h.hr, h.hn, h.lx, h.lr⟩
theorem rule_results {w : World} {R0 : Nat} {a0 a1 a2 a3 a4 a5 a6 a7 a8 a9 a10 : Value} (h : Blk w R0 52 #[a0, a1, a2, a3, a4, a5, a6, a7, a8, a9, a10]) (tmps : Array Value) (ht : tmps[2]? = some (.pointer (some ⟨R0, 0, none⟩))) :
    (results Tryz.f35 tmps).run Tryz.prog w = .ok (.agg #[a0, a1, a2, a3, a4, a5, a6, a7, a8, a9, a10]) w := by
  have hc := fun i => h.cell i
  simp [results, Tryz.results35, go_sem, hc, ht]
set_option maxHeartbeats 2000000 in
set_option maxRecDepth 100000 in
theorem rule_q (g : Nat) (s : ByteArray) (o : Option (List UInt8)) (w : World) (h : RdQ w g s o) (hs : s.size ≤ 140737488355328) :
    Calls Tryz.prog 35 #[.pointer (some ⟨g, 0, none⟩)] w (QP (fun r : Rule => .agg r.cells.toArray) (fun r => r.name.size ≤ s.size ∧ r.letter.size ≤ s.size) ruleQ g w s o) := by
  have hgl := h.lt
  have hz : RdQ (w.alloc (.cells zRule 52)) g s o := h.grown (grown_alloc w _) (by simp)
  have hb0 := Blk.new w 52 zRule
  have HZ := Lib.hid hz
  have HB0 := Lib.hid hb0
  clear h hz hb0
  unfold zRule at HZ HB0
  go_enter Tryz.func35, Tryz.ntmps35
  go_wp2_with fail
  go_at_call 32
  refine (short_q g s o _ HZ.out hs).mono ?_
  rintro e w1 ⟨hg1, v1, o1, rfl, hl1, hq1, hr1⟩
  have HQ1 := Lib.hid hq1; have HG1 := Lib.hid hg1; have HR1 := Lib.hid hr1
  clear hq1 hg1 hr1
  go_wp2_with fail
  go_at_call 33
  refine (num_q 2 g s o1 _ HR1.out (by omega) hs).mono ?_
  rintro e w2 ⟨hg2, v2, o2, rfl, hv2, hq2, hr2⟩
  have hv2' : v2 < 65536 := hv2
  have hgr : w.grownBy w2 (some g) := gr3 (gr2 (World.grownBy.refl w _) (grown_alloc w _)) (gr3 HG1.out hg2)
  have hrx : RX w g s o2 w2.heap.size w.heap.size #[.string ⟨v1.toArray⟩, .int .i64 v2, .int .i64 1000000, .int .i64 0, .int .i64 0, .int .i64 0, .int .i64 0, .int .i64 0, .int .i64 0, .int .i64 0, .string ⟨#[]⟩] zRule (w2.alloc (.cells #[.string ⟨v1.toArray⟩, .int .i64 v2, .int .i64 1000000, .int .i64 0, .int .i64 0, .int .i64 0, .int .i64 0, .int .i64 0, .int .i64 0, .int .i64 0, .string ⟨#[]⟩] 52)) := by
    have hsz := (gr3 HG1.out hg2).size
    simp at hsz
    refine ⟨hr2.grown (grown_alloc w2 _) (by simp), gr2 hgr (grown_alloc w2 _), Blk.new w2 _ _, ((HB0.out.grown HG1.out (by simp; omega)).grown hg2 (by simp; omega)).alloc _, by omega, by omega, by omega, by omega, Nat.le_refl _⟩
  have HX := Lib.hid hrx
  have HQ2 := Lib.hid hq2
  clear hg2 hgr hrx hq2 hr2 hv2 HZ HB0 HG1 HR1
  unfold zRule at HX
  go_wp2_with fail
  go_at_call 33
  refine (num_q 1 g s o2 _ HX.out.rd (by omega) hs).mono ?_
  rintro e w3 ⟨hg, v3, o3, rfl, hv3, hq, hr⟩
  have hv3' : v3 < 256 := hv3
  have hx := HX.out.step hr hg
  have fX := fun i => hx.bx.frozen i
  have cX := fun i => hx.bx.cell i
  have hx2 := hx.set_ 3 (.int .i64 v3)
  simp only [List.setIfInBounds_toArray, List.set_cons_succ, List.set_cons_zero] at hx2
  have HX := Lib.hid hx2
  have HQ3 := Lib.hid hq
  clear hg hq hr hx hx2
  go_wp2_with fail
  go_at_call 33
  refine (num_q 1 g s o3 _ HX.out.rd (by omega) hs).mono ?_
  rintro e w4 ⟨hg, v4, o4, rfl, hv4, hq, hr⟩
  have hv4' : v4 < 256 := hv4
  have hx := HX.out.step hr hg
  have fX := fun i => hx.bx.frozen i
  have cX := fun i => hx.bx.cell i
  have hx2 := hx.set_ 4 (.int .i64 v4)
  simp only [List.setIfInBounds_toArray, List.set_cons_succ, List.set_cons_zero] at hx2
  have HX := Lib.hid hx2
  have HQ4 := Lib.hid hq
  clear hg hq hr hx hx2
  go_wp2_with fail
  go_at_call 33
  refine (num_q 1 g s o4 _ HX.out.rd (by omega) hs).mono ?_
  rintro e w5 ⟨hg, v5, o5, rfl, hv5, hq, hr⟩
  have hv5' : v5 < 256 := hv5
  have hx := HX.out.step hr hg
  have fX := fun i => hx.bx.frozen i
  have cX := fun i => hx.bx.cell i
  have hx2 := hx.set_ 5 (.int .i64 v5)
  simp only [List.setIfInBounds_toArray, List.set_cons_succ, List.set_cons_zero] at hx2
  have HX := Lib.hid hx2
  have HQ5 := Lib.hid hq
  clear hg hq hr hx hx2
  go_wp2_with fail
  go_at_call 33
  refine (num_q 1 g s o5 _ HX.out.rd (by omega) hs).mono ?_
  rintro e w6 ⟨hg, v6, o6, rfl, hv6, hq, hr⟩
  have hv6' : v6 < 256 := hv6
  have hx := HX.out.step hr hg
  have fX := fun i => hx.bx.frozen i
  have cX := fun i => hx.bx.cell i
  have hx2 := hx.set_ 6 (.int .i64 v6)
  simp only [List.setIfInBounds_toArray, List.set_cons_succ, List.set_cons_zero] at hx2
  have HX := Lib.hid hx2
  have HQ6 := Lib.hid hq
  clear hg hq hr hx hx2
  go_wp2_with fail
  go_at_call 34
  refine (four_q g s o6 _ HX.out.rd hs).mono ?_
  rintro e w7 ⟨hg, v7, o7, rfl, hv7, hq, hr⟩
  obtain ⟨hv7a, hv7b⟩ := hv7
  have hx := HX.out.step hr hg
  have fX := fun i => hx.bx.frozen i
  have cX := fun i => hx.bx.cell i
  have hx2 := hx.set_ 7 (.int .i64 v7)
  simp only [List.setIfInBounds_toArray, List.set_cons_succ, List.set_cons_zero] at hx2
  have HX := Lib.hid hx2
  have HQ7 := Lib.hid hq
  clear hg hq hr hx hx2
  go_wp2_with fail
  go_at_call 33
  refine (num_q 1 g s o7 _ HX.out.rd (by omega) hs).mono ?_
  rintro e w8 ⟨hg, v8, o8, rfl, hv8, hq, hr⟩
  have hv8' : v8 < 256 := hv8
  have hx := HX.out.step hr hg
  have fX := fun i => hx.bx.frozen i
  have cX := fun i => hx.bx.cell i
  have hx2 := hx.set_ 8 (.int .i64 v8)
  simp only [List.setIfInBounds_toArray, List.set_cons_succ, List.set_cons_zero] at hx2
  have HX := Lib.hid hx2
  have HQ8 := Lib.hid hq
  clear hg hq hr hx hx2
  go_wp2_with fail
  go_at_call 34
  refine (four_q g s o8 _ HX.out.rd hs).mono ?_
  rintro e w9 ⟨hg, v9, o9, rfl, hv9, hq, hr⟩
  obtain ⟨hv9a, hv9b⟩ := hv9
  have hx := HX.out.step hr hg
  have fX := fun i => hx.bx.frozen i
  have cX := fun i => hx.bx.cell i
  have hx2 := hx.set_ 9 (.int .i64 v9)
  simp only [List.setIfInBounds_toArray, List.set_cons_succ, List.set_cons_zero] at hx2
  have HX := Lib.hid hx2
  have HQ9 := Lib.hid hq
  clear hg hq hr hx hx2
  go_wp2_with fail
  go_at_call 32
  refine (short_q g s o9 _ HX.out.rd hs).mono ?_
  rintro e w10 ⟨hg, v10, o10, rfl, hv10, hq, hr⟩
  have hl10 := hv10
  have hx := HX.out.step hr hg
  have fX := fun i => hx.bx.frozen i
  have cX := fun i => hx.bx.cell i
  have hx2 := hx.set_ 10 (.string ⟨v10.toArray⟩)
  simp only [List.setIfInBounds_toArray, List.set_cons_succ, List.set_cons_zero] at hx2
  have HX := Lib.hid hx2
  have HQ10 := Lib.hid hq
  clear hg hq hr hx hx2
  have cY := fun i => HX.out.bx.cell i
  have fR := fun i => HX.out.br.frozen i
  have cR := fun i => HX.out.br.cell i
  go_wp2_with fail
  have hx := (((((((((((HX.out.setR 0 (.string ⟨v1.toArray⟩)).setR 1 (.int .i64 v2)).setR 2 (.int .i64 1000000)).setR 3 (.int .i64 v3)).setR 4 (.int .i64 v4)).setR 5 (.int .i64 v5)).setR 6 (.int .i64 v6)).setR 7 (.int .i64 v7)).setR 8 (.int .i64 v8)).setR 9 (.int .i64 v9)).setR 10 (.string ⟨v10.toArray⟩))
  simp only [List.setIfInBounds_toArray, List.set_cons_succ, List.set_cons_zero] at hx
  have hfin : QR ruleQ o ⟨⟨v1.toArray⟩, v2, 1000000, v3, v4, v5, v6, v7, v8, v9, ⟨v10.toArray⟩⟩ o10 := by
    have h1 := HQ1.out.next (R := o.bind ruleQ) rfl
    dsimp only at h1
    have h2 := HQ2.out.next h1
    dsimp only at h2
    have h3 := HQ3.out.next h2
    dsimp only at h3
    have h4 := HQ4.out.next h3
    dsimp only at h4
    have h5 := HQ5.out.next h4
    dsimp only at h5
    have h6 := HQ6.out.next h5
    dsimp only at h6
    have h7 := HQ7.out.next h6
    dsimp only at h7
    have h8 := HQ8.out.next h7
    dsimp only at h8
    have h9 := HQ9.out.next h8
    dsimp only at h9
    exact HQ10.out.fin h9
  refine bodyPost_ret (rule_results hx.br _ rfl) rfl ?_
  refine ⟨hx.gr, ⟨⟨v1.toArray⟩, v2, 1000000, v3, v4, v5, v6, v7, v8, v9, ⟨v10.toArray⟩⟩, o10, rfl, ⟨?_, ?_⟩, hfin, hx.rd⟩
  · exact hl1
  · exact hv10
end Go.Proofs.YtaffaobhcnnfnaaGreatDoor.R15
