/-
  Phases as a map's keys, and the contract of image.kinds. Conditions: the numbers are of 64 bits, the lengths bounded.
-/
import Derived.Test.YtaffaobhcnnfnaaGreatDoorTab
import Derived.Maps.Own
import Derived.Maps.OwnOps
import Derived.Maps.OwnSet
import Derived.Maps.Views
import Derived.DeepKeys4
import Derived.MapViews
import Derived.Deep.DeepCutAuto
import Derived.Deep.RegionWith
namespace Go.Proofs.YtaffaobhcnnfnaaGreatDoor.Img
open Go.RowKit Mem Go.Maps

def PW (p : Phase) : Prop := In64 p.off ∧ In64 p.save ∧ p.abbr.size ≤ 8388608
def kl (p : Phase) : Lit := .string (keyBytes [.int .i64 p.off, .int .i64 p.save, .string p.abbr.data.toList])
theorem phLaidOut : laidOutB Tryz.prog = true := by kernel_rfl
theorem phRow : (23 : TypeId) < Tryz.prog.types.size := of_decide_eq_true (by kernel_rfl)
theorem phWide : (match Tryz.prog.underlying 23 with | some (.array _ _) | some (.struct _) => true | _ => false) = true := by rw [Tryz.underlying23]
set_option maxRecDepth 1000000 in
theorem phLaw : Keyed Tryz.prog 23 := Keyed.of_law (deep_law_laid phLaidOut (m := 3) (by omega) phRow (by kernel_rfl) phWide)
theorem phType : Tryz.prog.keyType 23 = true := by kernel_rfl
theorem phCells : Tryz.prog.cellsOf 23 = 3 := by kernel_rfl
theorem cells3 : Tryz.prog.cellsOf 3 = 1 := by kernel_rfl
theorem cells9 : Tryz.prog.cellsOf 9 = 1 := by kernel_rfl
theorem phKey (p : Phase) (h : PW p) : keyOf Tryz.prog 23 (.agg p.cells.toArray) = some (kl p) := by
  obtain ⟨h1, h2, h3⟩ := h
  have i64 : ∀ n : Int, In64 n → (Lit.int .i64 n).wf = true := by
    intro n hn
    unfold In64 at hn
    simp [Lit.wf, IntKind.min, IntKind.max, IntKind.signed, IntKind.bits]
    omega
  have w1 := i64 _ h1
  have w2 := i64 _ h2
  have w3 : p.abbr.size ≤ maxLen := by simp only [maxLen]; omega
  simp only [keyOf, Tryz.underlying23, phType]
  have hf : (Value.agg p.cells.toArray).formed Tryz.prog 23 = true := by
    simp [Value.formed, Tryz.underlying23, phCells, Phase.cells]
  rw [hf]
  have : Tryz.prog.keyLits (Tryz.prog.types.size + 1) 23 (Value.agg p.cells.toArray).cells.toList = some [.int .i64 p.off, .int .i64 p.save, .string p.abbr.data.toList] := by
    have hsz : ∃ m, Tryz.prog.types.size = m + 1 := ⟨Tryz.prog.types.size - 1, by have : (23 : Nat) < Tryz.prog.types.size := phRow; omega⟩
    obtain ⟨m, hm⟩ := hsz
    rw [hm]
    simp [Program.keyLits, Value.cells, Phase.cells, Tryz.underlying23, Tryz.underlying3, Tryz.underlying9, phCells, cells3, cells9, w1, w2, w3]
  rw [this]
  rfl
theorem kl_inj {p q : Phase} (hp : PW p) (hq : PW q) (h : kl p = kl q) : p = q := by
  have h1 := phKey p hp
  have h2 := phKey q hq
  rw [← h] at h2
  have := phLaw.inj h1 h2
  obtain ⟨a, b, c⟩ := p
  obtain ⟨d, e, f⟩ := q
  simpa [Phase.cells] using this
theorem kl_key (p : Phase) : WideAt.IsKeyLit (kl p) := trivial

/-- A table's value. -/
def tabCells (x : Table) (A : Option Addr) (c : Nat) (A2 : Option Addr) (c2 : Nat) : Array Value :=
  #[.string x.name, .int .i64 x.first.off, .int .i64 x.first.save, .string x.first.abbr, .slice A x.shifts.length c, .int .i64 x.till, .slice A2 x.tail.length c2, .int .i64 x.off, .string x.format]
def kindsL (first : Phase) (ss : List Shift) : List Phase := ss.foldl (fun l s => if s.ph ∈ l then l else l ++ [s.ph]) [first]
/-- A map reads as the places of a list's phases. -/
def PM (l : List Phase) (D : DataW Unit) : Prop :=
  IsMap D ∧ ∀ p, PW p → has D (kl p) = decide (p ∈ l) ∧ (p ∈ l → ∀ z, D.atKey (kl p) z = .lit (.int .i64 (l.idxOf p)))
theorem PM.snoc {l : List Phase} {D : DataW Unit} {q : Phase} (h : PM l D) (hq : PW q) (hn : q ∉ l) : PM (l ++ [q]) (D.put (kl q) (.lit (.int .i64 l.length))) := by
  refine ⟨h.1.put _ _, fun p hp => ?_⟩
  by_cases e : p = q
  · subst e
    refine ⟨by rw [has_put_same h.1 (kl_key p)]; simp, fun _ z => ?_⟩
    rw [atKey_put_same h.1 (kl_key p)]
    rw [List.idxOf_append, if_neg hn]
    simp
  · have hne : kl p ≠ kl q := fun e2 => e (kl_inj hp hq e2)
    obtain ⟨h1, h2⟩ := h.2 p hp
    refine ⟨by rw [has_put_other hne, h1]; simp [e], fun hm z => ?_⟩
    have hm' : p ∈ l := by simpa [e] using hm
    rw [atKey_put_other hne, h2 hm' z, List.idxOf_append, if_pos hm']
theorem PM.one {q : Phase} (hq : PW q) : PM [q] ((DataW.map []).put (kl q) (.lit (.int .i64 0))) := by
  have h : PM [] (.map []) := ⟨isMap_empty, fun p _ => ⟨by simp [has], fun hm => by simp at hm⟩⟩
  exact h.snoc hq (by simp)

theorem zero3 (w : World) : (zeroValue 3).run Tryz.prog w = .ok (.int .i64 0) w := by kernel_rfl
theorem info23 : (Tryz.prog.info? 23).map (fun i => (i.zero, i.size, i.bytes)) = some (some (.agg #[.int .i64 0, .int .i64 0, .string ⟨#[]⟩]), 3, 32) := by kernel_rfl

theorem insert_first (W : World) (r : Nat) (p : Phase) (h : W.ownsMap Tryz.prog 23 (plainElem (H := Unit) Tryz.prog 3) r 0 (.map [])) (hp : PW p) :
    ∃ w', (Instr.mapUpdate 58 (.map (some r)) (.agg #[.int .i64 p.off, .int .i64 p.save, .string p.abbr]) (.int .i64 0)).run Tryz.prog W = .ok () w' ∧
      w'.ownsMap Tryz.prog 23 (plainElem (H := Unit) Tryz.prog 3) r 1 ((DataW.map []).put (kl p) (.lit (.int .i64 0))) ∧ W.grownBy w' (some r) :=
  h.update phLaw Tryz.underlying58 (by decide) (phKey p hp) (plainElem_int Tryz.underlying3 (by decide))

theorem kindsL_succ (first : Phase) (ss : List Shift) (k : Nat) (hk : k < ss.length) : kindsL first (ss.take (k + 1)) = if ss[k].ph ∈ kindsL first (ss.take k) then kindsL first (ss.take k) else kindsL first (ss.take k) ++ [ss[k].ph] := by
  rw [List.take_succ_eq_append_getElem hk, kindsL, kindsL, List.foldl_append]
  rfl
theorem kindsL_length (first : Phase) (ss : List Shift) (k : Nat) : (kindsL first (ss.take k)).length ≤ k + 1 := by
  induction k with
  | zero => simp [kindsL]
  | succ k ih =>
    by_cases hk : k < ss.length
    · rw [kindsL_succ _ _ _ hk]
      split
      · omega
      · simp; omega
    · rw [List.take_of_length_le (by omega)] at ih ⊢
      omega
theorem own_of_blk {w : World} {base g : Nat} {e : TypeId} {cs : Array Value} {n size : Nat} (h : Blk w g e cs) (hb : base ≤ g) (hs : cs.size = n * size) (hn : n ≤ maxLen) : w.ownsRow base e size (.slice (some ⟨g, 0, none⟩) n n) n cs.toList := by
  refine ⟨by simpa using hs, .inr ⟨g, n, cs, rfl, hb, h, Nat.le_refl _, hn, hs, ?_⟩⟩
  rw [← hs]
  exact List.take_of_length_le (by simp)
theorem own_base {w : World} {base base' : Nat} {e : TypeId} {v : Value} {n size : Nat} {xs : List Value} (h : w.ownsRow base e size v n xs) (hb : base' ≤ base) : w.ownsRow base' e size v n xs := by
  refine ⟨h.1, ?_⟩
  rcases h.2 with h0 | ⟨g, cap, cur, e1, e2, r⟩
  · exact .inl h0
  · exact .inr ⟨g, cap, cur, e1, by omega, r⟩
theorem own_map_ne {H : Type} {w : World} {base r n m : Nat} {e k : TypeId} {size : Nat} {v : Value} {xs : List Value} {P : Program} {R : Value → Option (DataW H × List MemPlace)} {D : DataW H} (h : w.ownsRow base e size v n xs) (hm : w.ownsMap P k R r m D) : v.ownBlock ≠ some r := by
  obtain ⟨es, clock, hb, _⟩ := hm
  rcases h.2 with ⟨rfl, _⟩ | ⟨g', cap, cur, rfl, _, hh, _⟩
  · simp [Value.ownBlock]
  · intro he
    have : g' = r := by simpa [Value.ownBlock] using he
    subst this
    rw [hb] at hh
    cases hh
theorem flat_get {α : Type} (f : α → List Value) (m : Nat) (hf : ∀ x, (f x).length = m) (l : List α) (k j : Nat) (hj : j < m) : (l.flatMap f)[k * m + j]? = (l[k]?).bind fun x => (f x)[j]? := by
  induction l generalizing k with
  | nil => simp
  | cons a t ih =>
    rw [List.flatMap_cons]
    cases k with
    | zero => rw [List.getElem?_append_left (by rw [hf]; omega)]; simp
    | succ k =>
      rw [List.getElem?_append_right (by rw [hf, Nat.succ_mul]; omega), hf]
      have : (k + 1) * m + j - m = k * m + j := by rw [Nat.succ_mul]; omega
      rw [this, ih]
      simp
theorem Shift.cells_length (s : Shift) : s.cells.length = 4 := rfl
theorem add_pos (a : Addr) {j : Nat} (hj : 0 < j) : a.add j = ⟨a.block, a.off + j, none⟩ := by
  unfold Addr.add
  rw [if_neg (by omega)]
theorem kindsL_pos (first : Phase) (ss : List Shift) : 0 < (kindsL first ss).length := by
  unfold kindsL
  generalize hl : [first] = l
  have h0 : 0 < l.length := by subst hl; simp
  clear hl
  induction ss generalizing l with
  | nil => exact h0
  | cons a t ih =>
    rw [List.foldl_cons]
    split
    · exact ih _ h0
    · exact ih _ (by simp)
theorem phases_oneCell {a b : Int} {s : ByteArray} : ∀ u ∈ (#[Value.int .i64 a, .int .i64 b, .string s] : Array Value).toList, u.oneCell' = true := by
  intro u hu
  simp at hu
  rcases hu with rfl | rfl | rfl <;> rfl
theorem shift_at {w : World} {B : Nat} {A : Option Addr} {ss : List Shift} (h : Reads w B 4 A ss.length (ss.flatMap Shift.cells)) {k : Nat} (hk : k < ss.length) :
    ∃ ad, A = some ad ∧ ad.block < B ∧ w.cell? (ad.add (k * 4)) = some (.int .i64 ss[k].sec) ∧ w.cell? ⟨(ad.add (k * 4)).block, (ad.add (k * 4)).off + 1, none⟩ = some (.int .i64 ss[k].ph.off) ∧ w.cell? ⟨(ad.add (k * 4)).block, (ad.add (k * 4)).off + 2, none⟩ = some (.int .i64 ss[k].ph.save) ∧ w.cell? ⟨(ad.add (k * 4)).block, (ad.add (k * 4)).off + 3, none⟩ = some (.string ss[k].ph.abbr) := by
  obtain ⟨ad, e, hb, hc⟩ := h.2 (by omega)
  have g : ∀ j, j < 4 → (ss.flatMap Shift.cells)[k * 4 + j]? = ss[k].cells[j]? := fun j hj => by
    rw [flat_get Shift.cells 4 Shift.cells_length ss k j hj, List.getElem?_eq_getElem hk]; rfl
  have ee : ∀ j, 0 < j → (⟨(ad.add (k * 4)).block, (ad.add (k * 4)).off + j, none⟩ : Addr) = ad.add (k * 4 + j) := fun j hj => by
    rw [← add_of_add, add_pos _ hj]
  refine ⟨ad, e, hb, ?_⟩
  rw [ee 1 (by omega), ee 2 (by omega), ee 3 (by omega)]
  exact ⟨ hc (k * 4) _ (g 0 (by omega)), hc _ _ (g 1 (by omega)), hc _ _ (g 2 (by omega)), hc _ _ (g 3 (by omega))⟩

set_option maxRecDepth 100000 in
theorem kinds_any (x : Table) (A A2 : Option Addr) (c c2 : Nat) (w : World) (hA : Reads w w.heap.size 4 A x.shifts.length (x.shifts.flatMap Shift.cells)) (hn : x.shifts.length ≤ 1000000) (hf : PW x.first) (hp : ∀ s ∈ x.shifts, PW s.ph) :
    Calls Tryz.prog 21 #[.agg (tabCells x A c A2 c2)] w fun e w' => ∃ (v : Value) (r : Nat) (D : DataW Unit), e = .returned (.tuple #[v, .map (some r)]) ∧
      w'.ownsRow w.heap.size 23 3 v (kindsL x.first x.shifts).length ((kindsL x.first x.shifts).flatMap Phase.cells) ∧ w'.ownsMap Tryz.prog 23 (plainElem Tryz.prog 3) r (kindsL x.first x.shifts).length D ∧
      PM (kindsL x.first x.shifts) D ∧ Below w.heap.size w w' ∧ w.heap.size ≤ r := by
  obtain ⟨i0, hi0, hz0, hz1, hz2⟩ := info_parts info23
  obtain ⟨name, ⟨fo, fs, fa⟩, ss, till, tail, off, format⟩ := x
  simp only [tabCells] at *
  have hkey := phKey ⟨fo, fs, fa⟩ hf
  simp only [Phase.cells] at hkey
  have hmm := @run_makeMap Tryz.prog
  have HA := Lib.hid hA; clear hA
  go_enter Tryz.func21, Tryz.ntmps21
  go_upto_region 1 with fail
  obtain ⟨W0, hW0⟩ : ∃ W0, (w.alloc (Obj.cells #[Value.string name, Value.int IntKind.i64 fo, Value.int IntKind.i64 fs, Value.string fa, Value.slice A ss.length c, Value.int IntKind.i64 till, Value.slice A2 tail.length c2, Value.int IntKind.i64 off, Value.string format] 27)) = W0 := ⟨_, rfl⟩
  have hbx := box1 w 27 #[Value.string name, Value.int IntKind.i64 fo, Value.int IntKind.i64 fs, Value.string fa, Value.slice A ss.length c, Value.int IntKind.i64 till, Value.slice A2 tail.length c2, Value.int IntKind.i64 off, Value.string format]
  rw [hW0] at hbx ⊢
  clear hW0
  obtain ⟨hb0, hbel, hsz⟩ := hbx
  have HB0 := Lib.hid hb0; have HBel := Lib.hid hbel; clear hb0 hbel
  go_cut [4, 5] (fun s4 s5 wx => ∃ (r : Nat) (D : DataW Unit), s5 = .map (some r) ∧ wx.ownsRow (w.heap.size + 1) 23 3 s4 1 (Phase.cells ⟨fo, fs, fa⟩) ∧ wx.ownsMap Tryz.prog 23 (plainElem Tryz.prog 3) r 1 D ∧ PM [⟨fo, fs, fa⟩] D ∧ Below W0.heap.size W0 wx ∧ w.heap.size < r)
  case first =>
    have cc := fun i => HB0.out.cell i
    have cx1 : ∀ o i, (W0.alloc o).cell? ⟨w.heap.size, i, none⟩ = #[Value.string name, Value.int IntKind.i64 fo, Value.int IntKind.i64 fs, Value.string fa, Value.slice A ss.length c, Value.int IntKind.i64 till, Value.slice A2 tail.length c2, Value.int IntKind.i64 off, Value.string format][i]? := fun o i => (HB0.out.alloc o).cell i
    have cx2 : ∀ o o' i, ((W0.alloc o').alloc o).cell? ⟨w.heap.size, i, none⟩ = #[Value.string name, Value.int IntKind.i64 fo, Value.int IntKind.i64 fs, Value.string fa, Value.slice A ss.length c, Value.int IntKind.i64 till, Value.slice A2 tail.length c2, Value.int IntKind.i64 off, Value.string format][i]? := fun o o' i => ((HB0.out.alloc o').alloc o).cell i
    obtain ⟨wa, ea, oa, ga⟩ := insert_first ((W0.alloc (.cells #[.int .i64 fo, .int .i64 fs, .string fa] 23)).alloc (.map #[] 0)).drew (W0.heap.size + 1) ⟨fo, fs, fa⟩ (by
      have := World.ownsMap_made (W0.alloc (.cells #[.int .i64 fo, .int .i64 fs, .string fa] 23)) Tryz.prog 23 (plainElem (H := Unit) Tryz.prog 3)
      exact World.ownsMap.drew (by simpa using this)) hf
    obtain ⟨wb, eb, ob, gb⟩ := insert_first ((W0.alloc (.map #[] 0)).alloc (.cells #[.int .i64 fo, .int .i64 fs, .string fa] 23)).drew W0.heap.size ⟨fo, fs, fa⟩ ((World.ownsMap_made W0 Tryz.prog 23 (plainElem (H := Unit) Tryz.prog 3)).alloc _) hf
    obtain ⟨wc, ec, oc, gc⟩ := insert_first (W0.alloc (.map #[] 0)).drew W0.heap.size ⟨fo, fs, fa⟩ (World.ownsMap_made W0 Tryz.prog 23 (plainElem (H := Unit) Tryz.prog 3)) hf
    simp only at ea eb ec
    have Oa := Lib.hid oa; have Ga := Lib.hid ga; have Ob := Lib.hid ob; have Gb := Lib.hid gb; have Oc := Lib.hid oc; have Gc := Lib.hid gc; clear oa ga ob gb oc gc
    have hbc : Blk wc w.heap.size 27 _ := Blk.grown (HB0.out.alloc _).drew Gc.out (by simp; exact Nat.ne_of_lt hsz)
    have hba : Blk wa w.heap.size 27 _ := Blk.grown ((HB0.out.alloc _).alloc _).drew Ga.out (by simp; omega)
    have hbb : Blk wb w.heap.size 27 _ := Blk.grown ((HB0.out.alloc _).alloc _).drew Gb.out (by simp; exact Nat.ne_of_lt hsz)
    have cca := fun i => hba.cell i
    have ccb := fun i => hbb.cell i
    have ccc := fun i => hbc.cell i
    clear hba hbb hbc
    have ra : wa.ownsRow (w.heap.size + 1) 23 3 (.slice (some ⟨W0.heap.size, 0, none⟩) 1 1) 1 (Phase.cells ⟨fo, fs, fa⟩) ∧ Below W0.heap.size W0 wa :=
      ⟨own_of_blk (Blk.grown ((Blk.new W0 _ _).alloc _).drew Ga.out (by simp)) hsz rfl (by decide), (((Below.refl _ _).alloc (Nat.le_refl _) _).alloc (by simp) _).drew.grown Ga.out (by simp; omega) (fun j hj => by simp at hj; omega)⟩
    have rb : wb.ownsRow (w.heap.size + 1) 23 3 (.slice (some ⟨W0.heap.size + 1, 0, none⟩) 1 1) 1 (Phase.cells ⟨fo, fs, fa⟩) ∧ Below W0.heap.size W0 wb := by
      have := Blk.new (W0.alloc (.map #[] 0)) 23 #[.int .i64 fo, .int .i64 fs, .string fa]
      rw [show (W0.alloc (Obj.map #[] 0)).heap.size = W0.heap.size + 1 from by simp] at this
      exact ⟨own_of_blk (Blk.grown (g := W0.heap.size + 1) this.drew Gb.out (by simp)) (by omega) rfl (by decide), (((Below.refl _ _).alloc (Nat.le_refl _) _).alloc (by simp) _).drew.grown Gb.out (by simp; omega) (fun j hj => by simp at hj; omega)⟩
    have rc : (wc.alloc (.cells #[.int .i64 fo, .int .i64 fs, .string fa] 23)).ownsRow (w.heap.size + 1) 23 3 (.slice (some ⟨wc.heap.size, 0, none⟩) 1 1) 1 (Phase.cells ⟨fo, fs, fa⟩) ∧ Below W0.heap.size W0 (wc.alloc (.cells #[.int .i64 fo, .int .i64 fs, .string fa] 23)) := by
      have hz : W0.heap.size + 1 ≤ wc.heap.size := by have := Gc.out.size; simpa using this
      exact ⟨own_of_blk (Blk.new wc _ _) (by omega) rfl (by decide), (((Below.refl _ _).alloc (Nat.le_refl _) _).drew.grown Gc.out (by simp) (fun j hj => by simp at hj; omega)).alloc (by omega) _⟩
    have Fa := Lib.hid ra; have Fb := Lib.hid rb; have Fc := Lib.hid rc; clear ra rb rc
    go_region
    all_goals go_wp2_with fail
    all_goals go_meet
    · exact ⟨_, _, rfl, Fa.out.1, Oa.out, PM.one hf, Fa.out.2, by omega⟩
    · exact ⟨_, _, rfl, Fb.out.1, Ob.out, PM.one hf, Fb.out.2, by omega⟩
    · exact ⟨_, _, rfl, Fc.out.1, Oc.out.alloc _, PM.one hf, Fc.out.2, by omega⟩
  case rest =>
    obtain ⟨r, D, rfl, hown, hmap, hPM, hbel, hr⟩ := hcut
    have hbw : Blk wc w.heap.size 27 _ := HB0.out.below hbel hsz
    have cc := fun i => hbw.cell i
    clear hbw
    have Hown := Lib.hid hown; have Hmap := Lib.hid hmap; have HPM := Lib.hid hPM; have Hbel := Lib.hid hbel; clear hown hmap hPM hbel
    go_wp2_with fail
    go_loopw [4, 20] (fun v i wr => ∃ (k : Nat) (D : DataW Unit), k ≤ ss.length ∧ i = .int .i64 k ∧ wr.ownsRow (w.heap.size + 1) 23 3 v (kindsL ⟨fo, fs, fa⟩ (ss.take k)).length ((kindsL ⟨fo, fs, fa⟩ (ss.take k)).flatMap Phase.cells) ∧ wr.ownsMap Tryz.prog 23 (plainElem Tryz.prog 3) r (kindsL ⟨fo, fs, fa⟩ (ss.take k)).length D ∧ PM (kindsL ⟨fo, fs, fa⟩ (ss.take k)) D ∧ Below (w.heap.size + 1) W0 wr) (fun _ i _ => ss.length - (intOf i).toNat)
    case atStart => exact ⟨0, D, Nat.zero_le _, rfl, Hown.out, Hmap.out, HPM.out, Hbel.out.mono hsz⟩
    case round =>
      clear cc Hown Hmap HPM Hbel D
      obtain ⟨k, D, hk, rfl, hown, hmap, hPM, hbel⟩ := hrel
      have hsz2 := hbel.size
      have Hown := Lib.hid hown; have Hmap := Lib.hid hmap; have HPM := Lib.hid hPM; have Hbel := Lib.hid hbel; clear hown hmap hPM hbel
      by_cases hkn : k < ss.length
      · have hst := kindsL_succ ⟨fo, fs, fa⟩ ss k hkn
        have hpw := hp ss[k] (List.getElem_mem hkn)
        obtain ⟨ad, rfl, hadb, c0, c1, c2, c3⟩ := shift_at ((HA.out.below HBel.out).below (Hbel.out.mono (by omega))) hkn
        generalize hse : ss[k] = s at *
        obtain ⟨sec, ⟨po, ps, pa⟩⟩ := s
        have Hse := Lib.hid hse; have Hst := Lib.hid hst; clear hse hst
        have hkl : (kindsL ⟨fo, fs, fa⟩ (ss.take k)).length ≤ k + 1 := kindsL_length _ _ k
        have hkpos := kindsL_pos ⟨fo, fs, fa⟩ (ss.take k)
        generalize kindsL ⟨fo, fs, fa⟩ (ss.take k) = K at *
        have hkey2 := phKey ⟨po, ps, pa⟩ hpw
        simp only [Phase.cells] at hkey2
        have hwr : w.heap.size < wr.heap.size := by omega
        obtain ⟨hhas, hat⟩ := HPM.out.2 ⟨po, ps, pa⟩ hpw
        have Hat := Lib.hid hat; clear hat
        by_cases hmem : (⟨po, ps, pa⟩ : Phase) ∈ K
        · rw [decide_eq_true hmem] at hhas
          have Hhas := Lib.hid hhas; clear hhas
          go_wp2_with (at_lookup; refine wpList_lookup_own_ok_int (H := Unit) _ rfl _ _ 58 rfl 23 3 .i64 phLaw Tryz.underlying58 Tryz.underlying3 (zero3 _) r _ _ rfl (Hmap.out.alloc _) _ _ rfl hkey2 ?_; intro cv hcv _; rw [Hhas.out])
          have hcond := Hst.out
          rw [if_pos hmem] at hcond
          refine ⟨⟨k + 1, D, by omega, by go_num, ?_⟩, by simp [intOf]; omega⟩
          rw [hcond]
          exact ⟨Hown.out.alloc _, Hmap.out.alloc _, HPM.out, Hbel.out.alloc (by omega) _⟩
        · rw [decide_eq_false hmem] at hhas
          have Hhas := Lib.hid hhas; clear hhas
          obtain ⟨g4, cap4, rfl, _, _⟩ := Hown.out.form hkpos
          have hwf : (Lit.int .i64 (K.length : Int)).wf = true := WalkArith.wf_i64 (by omega)
          go_wp2_with (first
            | (at_lookup; refine wpList_lookup_own_ok_int (H := Unit) _ rfl _ _ 58 rfl 23 3 .i64 phLaw Tryz.underlying58 Tryz.underlying3 (zero3 _) r _ _ rfl (Hmap.out.alloc _) _ _ rfl hkey2 ?_; intro cv hcv _; rw [Hhas.out])
            | (at_mapUpdate; refine wpList_mapUpdate_own (H := Unit) _ rfl _ _ _ 58 rfl 23 3 phLaw Tryz.underlying58 (plainElem Tryz.prog 3) r K.length D rfl (Hmap.out.alloc _) (by unfold maxLen; omega) _ _ _ rfl rfl hkey2 (.lit (.int .i64 K.length)) [] (plainElem_int Tryz.underlying3 hwf) ?_; intro w1 hmap1 hg1; have Hmap1 := Lib.hid hmap1; have Hg1 := Lib.hid hg1; have cs := fun i => (Blk.grown (Blk.new wr _ _) hg1 (by intro e; have := Hmap.out.lt; simp at e; omega)).cell i; clear hmap1 hg1)
            | (at_builtin; refine wpList_append1g w1 rfl (.tmp 38) (.tmp 41) 57 rfl (w.heap.size + 1) 23 i0 _ 3 32 Tryz.underlying57 hi0 hz0 hz1 hz2 rfl (by decide) _ K.length _ rfl ((Hown.out.alloc _).kept Hg1.out (.inr (own_map_ne Hown.out Hmap.out))) rfl rfl phases_oneCell ?m1 ?m2 ?m3 ?_))
          case m1 => unfold maxLen; omega
          case m2 => omega
          case m3 => have := Hg1.out.size; simp at this; omega
          intro v' w2 hown2 hg2
          have hne4 : some r ≠ Value.ownBlock (.slice (some ⟨g4, 0, none⟩) K.length cap4) := fun e => own_map_ne Hown.out Hmap.out e.symm
          have hlt4 := (Hown.out.lt g4 rfl).1
          have hz1 : wr.heap.size + 1 ≤ w1.heap.size := by have := Hg1.out.size; simpa using this
          have R : Hid (w2.ownsRow (w.heap.size + 1) 23 3 v' (K ++ [(⟨po, ps, pa⟩ : Phase)]).length ((K ++ [(⟨po, ps, pa⟩ : Phase)]).flatMap Phase.cells) ∧ w2.ownsMap Tryz.prog 23 (plainElem Tryz.prog 3) r (K ++ [(⟨po, ps, pa⟩ : Phase)]).length (D.put (kl ⟨po, ps, pa⟩) (.lit (.int .i64 K.length))) ∧ PM (K ++ [(⟨po, ps, pa⟩ : Phase)]) (D.put (kl ⟨po, ps, pa⟩) (.lit (.int .i64 K.length))) ∧ Below (w.heap.size + 1) W0 w2) := by
            refine ⟨?_, ?_, HPM.out.snoc hpw hmem, ?_⟩
            · simpa [Phase.cells] using hown2
            · have := (Hmap1.out.alloc (.cells #[.int .i64 po, .int .i64 ps, .string pa] 23)).kept hg2 hne4
              simpa using this
            · exact (((Hbel.out.alloc (by omega) _).grown Hg1.out (by simp; omega) (fun j hj => by simp at hj; omega)).alloc (by omega) _).grown hg2 (by simp; omega) (fun j hj => by simp [Value.ownBlock] at hj; omega)
          clear hown2 hg2
          go_wp2
          have hcond := Hst.out
          rw [if_neg hmem] at hcond
          refine ⟨⟨k + 1, D.put (kl ⟨po, ps, pa⟩) (.lit (.int .i64 K.length)), by omega, by go_num, ?_⟩, by simp [intOf]; omega⟩
          rw [hcond]
          exact R.out
      · obtain rfl : k = ss.length := by omega
        rw [List.take_length] at *
        go_wp2
        go_ret2
        exact ⟨_, _, _, rfl, own_base Hown.out (by omega), Hmap.out, HPM.out, HBel.out.trans (Hbel.out.mono (by omega)), by omega⟩
end Go.Proofs.YtaffaobhcnnfnaaGreatDoor.Img
