/-
  strings.Builder's copyCheck and WriteString over this program (whose copyCheck ends, where a builder was copied, in a panic that the loader refuses: the shelf's contract is laid over another text). The proofs are the shelf's own, turned. Conditions: the bytes have room.
  The contract of image.pool: phases' abbreviations, each once, and where each begins. Conditions: the lengths are bounded.
-/
import Derived.Test.YtpbojebnghcndaaGreatDoorChecked
import Derived.WalkKit
import Derived.Lib.Builder
import Derived.Lib.FrozenHead2
import Derived.Lib.OthersKept
import Derived.Lib.UnsafeStr
import Derived.Laws.Externs
import Derived.Shelf.Strings.BuilderK
import Derived.Test.YtpbojebnghcndaaGreatDoorImg
import Derived.Test.YtpbojebnghcndaaGreatDoorShelf
namespace Go.Proofs.YtpbojebnghcndaaGreatDoor.Bld
open Go.RowKit

theorem sizeBuilder : (Tryz.prog.info? 147).map (·.size) = some 2 := by kernel_rfl
theorem liesBuilder : liesAt Tryz.prog Tryz.prog.depth 147 (2 / Tryz.prog.cellsOf 147) 0 147 1 = true := by kernel_rfl
theorem infoByte : (Tryz.prog.info? 5).map (fun i => (i.zero, i.size, i.bytes)) = some (some (.int .u8 0), 1, 1) := by kernel_rfl

set_option maxHeartbeats 1000000 in
set_option maxRecDepth 100000 in
theorem check_used (b : Nat) (w : World) (h0 : w.cell? ⟨b, 0, none⟩ = some (.pointer (some ⟨b, 0, none⟩))) :
    Calls Tryz.prog 171 #[.pointer (some ⟨b, 0, none⟩)] w fun e w' => e = .returned (.tuple #[]) ∧ w' = w := by
  obtain ⟨j, hj, _⟩ := Option.map_eq_some_iff.1 sizeBuilder
  go_enter Tryz.func171, Tryz.ntmps171
  go_wp2
  rw [Lib.run_neq_ptr_same w _ Tryz.underlying145 hj]
  go_wp2
  go_end0
  exact ⟨rfl, rfl⟩

set_option maxHeartbeats 1000000 in
set_option maxRecDepth 100000 in
theorem check_fresh (b : Nat) (w : World) (h0 : w.cell? ⟨b, 0, none⟩ = some (.pointer none)) (hsh : w.shape? b = some (147, 2)) (hfz : w.frozen? ⟨b, 0, none⟩ = false) :
    Calls Tryz.prog 171 #[.pointer (some ⟨b, 0, none⟩)] w fun e w' => e = .returned (.tuple #[]) ∧ w' = w.setCell ⟨b, 0, none⟩ (.pointer (some ⟨b, 0, none⟩)) := by
  obtain ⟨j, hj, hjs⟩ := Option.map_eq_some_iff.1 sizeBuilder
  go_enter Tryz.func171, Tryz.ntmps171
  go_wp2
  rw [Lib.run_to_unsafe w ⟨b, 0, none⟩ Tryz.underlying145 Tryz.underlying257 hj (by rw [hjs]; decide) hsh (Nat.zero_lt_succ 1)]
  simp only [Result.andThen]
  rw [Oper.upon_value]
  go_wp2
  rw [run_callFunc_extern Tryz.func231 (by kernel_rfl) (by kernel_rfl) (by kernel_rfl) (e := Extern.AbiNoEscape.same) (by kernel_rfl)]
  rw [Lib.run_noEscape]
  simp only [Result.andThen]
  rw [Oper.upon_value]
  go_wp2
  rw [Lib.run_from_unsafe w ⟨b, 0, none⟩ Tryz.underlying257 Tryz.underlying145 hj hsh liesBuilder]
  simp only [Result.andThen]
  rw [Oper.upon_value]
  go_wp2
  go_end0
  exact ⟨rfl, rfl⟩

theorem check_any (B b : Nat) (bs : List Value) (w : World) (h : Lib.IsBuilderF 147 5 B b bs w) :
    Calls Tryz.prog 171 #[.pointer (some ⟨b, 0, none⟩)] w fun e w' => e = .returned (.tuple #[]) ∧ (Lib.BuilderAtF 147 5 B b (.pointer (some ⟨b, 0, none⟩)) bs w' ∧ Below B w w' ∧ Lib.OthersKept 5 (some b) w w') := by
  rcases h with h | h
  · refine (check_fresh b w h.cell0 h.shape h.frozen0).mono ?_
    rintro e w' ⟨rfl, rfl⟩
    exact ⟨rfl, h.used _, (Below.refl B w).setCell (p := ⟨b, 0, none⟩) h.1 _, (Lib.OthersKept.refl _ _ w).setCell ⟨b, 0, none⟩ rfl _⟩
  · refine (check_used b w h.cell0).mono ?_
    rintro e w' ⟨rfl, rfl⟩
    exact ⟨rfl, h, Below.refl B _, Lib.OthersKept.refl _ _ _⟩

set_option maxHeartbeats 2000000 in
set_option maxRecDepth 100000 in
theorem write_any (B b : Nat) (bs : List Value) (s : ByteArray) (w : World) (h : Lib.IsBuilderF 147 5 B b bs w) (hlen : bs.length + s.size ≤ 140737488355328) (hBw : B ≤ w.heap.size) :
    Calls Tryz.prog 101 #[.pointer (some ⟨b, 0, none⟩), .string s] w fun e w' => e = .returned (.tuple #[.int .i64 s.size, .nilIface]) ∧ (Lib.BuilderAtF 147 5 B b (.pointer (some ⟨b, 0, none⟩)) (bs ++ Lib.strCells s) w' ∧ Below B w w' ∧ Lib.OthersKept 5 (some b) w w') := by
  obtain ⟨i0, hi, hz0, hz1, hz2⟩ := info_parts infoByte
  go_enter Tryz.func101, Tryz.ntmps101
  go_wp2_with (go_at_call 171; refine (check_any B b bs _ h).mono ?_)
  rintro e w1 ⟨rfl, h1, hb1, hk1⟩
  obtain ⟨hB, v, hbk, hown, hne⟩ := h1
  have c0 : w1.cell? ⟨b, 0, none⟩ = some (.pointer (some ⟨b, 0, none⟩)) := by rw [Lib.cell_of_heap hbk]; rfl
  have c1 : w1.cell? ⟨b, 1, none⟩ = some v := by rw [Lib.cell_of_heap hbk]; rfl
  go_wp2_with (at_builtin; refine Lib.wpList_append_own_stringF _ rfl _ _ 84 9 rfl B 5 i0 Tryz.underlying84 Tryz.underlying9 hi hz0 hz1 hz2 _ _ _ rfl hown s rfl ?c3 ?c4 ?c5 ?_)
  case c3 => unfold maxLen; omega
  case c4 => omega
  case c5 => have := hb1.size; omega
  intro v' w2 hown' hgrow _
  have hlt : b < w1.heap.size := by
    rcases Nat.lt_or_ge b w1.heap.size with h' | h'
    · exact h'
    · simp [Array.getElem?_eq_none h'] at hbk
  have hb2 : w2.heap[b]? = some (.cells #[.pointer (some ⟨b, 0, none⟩), v] 147 (0, 0)) := by
    rw [hgrow.block b hlt (fun e => hne e.symm)]
    exact hbk
  have d0 : w2.cell? ⟨b, 0, none⟩ = some (.pointer (some ⟨b, 0, none⟩)) := by rw [Lib.cell_of_heap hb2]; rfl
  have d1 : w2.cell? ⟨b, 1, none⟩ = some v := by rw [Lib.cell_of_heap hb2]; rfl
  have f1 : w2.frozen? ⟨b, 1, none⟩ = false := Lib.frozen_of_heap hb2 1
  obtain ⟨ao, n', cap, rfl⟩ : ∃ ao n' cap, v' = .slice ao n' cap := by
    rcases hown'.2 with ⟨hv, _⟩ | ⟨g, cap, cur, fz, hv, _⟩
    · exact ⟨_, _, _, hv⟩
    · exact ⟨_, _, _, hv⟩
  go_wp2
  go_ret2
  refine ⟨rfl, ?_, ?_, (hk1.grown hgrow (Lib.ownsRowF_kind hown)).setCell ⟨b, 1, none⟩ rfl _⟩
  · exact Lib.BuilderAtF.put (T := 147) (e := 5) hB hb2 (bs' := bs ++ Lib.strCells s) (by simpa [Lib.strCells_length] using hown') (by decide)
  · exact (hb1.grown hgrow (by have := hb1.size; omega) (fun k hk => (hown.lt k hk).1)).setCell (p := ⟨b, 1, none⟩) hB _
end Go.Proofs.YtpbojebnghcndaaGreatDoor.Bld
namespace Go.Proofs.YtpbojebnghcndaaGreatDoor.Img
open Go.RowKit Mem Go.Maps

def look : List (ByteArray × Nat) → ByteArray → Option Nat
  | [], _ => none
  | (s, k) :: t, x => if s = x then some k else look t x
theorem look_snoc (a : List (ByteArray × Nat)) (q : ByteArray) (n : Nat) (x : ByteArray) : look (a ++ [(q, n)]) x = (look a x).or (if q = x then some n else none) := by
  induction a with
  | nil => rfl
  | cons p t ih =>
    obtain ⟨s, k⟩ := p
    simp only [List.cons_append, look]
    split
    · rfl
    · exact ih
def poolStep (a : List UInt8 × List (ByteArray × Nat)) (p : Phase) : List UInt8 × List (ByteArray × Nat) :=
  if (look a.2 p.abbr).isSome then a else (a.1 ++ (p.abbr.data.toList ++ [0]), a.2 ++ [(p.abbr, a.1.length)])
def poolL (l : List Phase) : List UInt8 × List (ByteArray × Nat) := l.foldl poolStep ([], [])
theorem poolL_succ (l : List Phase) (k : Nat) (hk : k < l.length) : poolL (l.take (k + 1)) = poolStep (poolL (l.take k)) l[k] := by
  rw [List.take_succ_eq_append_getElem hk, poolL, poolL, List.foldl_append]
  rfl
theorem poolL_le (M : Nat) (l : List Phase) (hl : ∀ p ∈ l, p.abbr.size ≤ M) (k : Nat) : (poolL (l.take k)).1.length ≤ k * (M + 1) := by
  induction k with
  | zero => simp [poolL]
  | succ k ih =>
    by_cases hk : k < l.length
    · rw [poolL_succ _ _ hk, poolStep]
      have := hl l[k] (List.getElem_mem hk)
      rw [Nat.succ_mul]
      split
      · omega
      · simp only [List.length_append, len_toList, List.length_cons, List.length_nil]
        omega
    · rw [List.take_of_length_le (by omega)] at ih ⊢
      rw [Nat.succ_mul]
      omega

/-- A map reads as where a list's texts begin. -/
def SM (a : List (ByteArray × Nat)) (D : DataW Unit) : Prop :=
  IsMap D ∧ ∀ s, has D (.string s.data.toList) = (look a s).isSome ∧ ∀ k, look a s = some k → ∀ z, D.atKey (.string s.data.toList) z = .lit (.int .i64 k)
theorem toList_inj {a b : ByteArray} (h : (Lit.string a.data.toList) = .string b.data.toList) : a = b := by
  injection h with h
  obtain ⟨⟨a⟩⟩ := a
  obtain ⟨⟨b⟩⟩ := b
  simpa using h
theorem SM.nil_ : SM [] (.map []) := ⟨isMap_empty, fun s => ⟨by simp [has, look], fun k h => by simp [look] at h⟩⟩
theorem SM.snoc {a : List (ByteArray × Nat)} {D : DataW Unit} {q : ByteArray} (h : SM a D) (n : Nat) (hn : (look a q).isSome = false) : SM (a ++ [(q, n)]) (D.put (.string q.data.toList) (.lit (.int .i64 n))) := by
  refine ⟨h.1.put _ _, fun s => ?_⟩
  rw [look_snoc]
  by_cases e : q = s
  · subst e
    have h0 : look a q = none := by simpa using hn
    rw [h0]
    refine ⟨by rw [has_put_same h.1 (show WideAt.IsKeyLit (.string _) from trivial)]; simp, fun k hk z => ?_⟩
    simp at hk
    rw [atKey_put_same h.1 (show WideAt.IsKeyLit (.string _) from trivial), hk]
  · have hne : (Lit.string s.data.toList) ≠ .string q.data.toList := fun e2 => e (toList_inj e2).symm
    obtain ⟨h1, h2⟩ := h.2 s
    rw [if_neg e, has_put_other hne]
    refine ⟨by simpa using h1, fun k hk z => ?_⟩
    rw [atKey_put_other hne]
    exact h2 k (by simpa using hk) z
theorem strLaw : Keyed Tryz.prog 9 := string_keyed Tryz.underlying9

theorem Phase.cells_length (s : Phase) : s.cells.length = 3 := rfl
theorem phase_at {w : World} {B : Nat} {A : Option Addr} {ss : List Phase} (h : Reads w B 3 A ss.length (ss.flatMap Phase.cells)) {k : Nat} (hk : k < ss.length) :
    ∃ ad, A = some ad ∧ ad.block < B ∧ w.cell? (ad.add (k * 3)) = some (.int .i64 ss[k].off) ∧ w.cell? ⟨(ad.add (k * 3)).block, (ad.add (k * 3)).off + 1, none⟩ = some (.int .i64 ss[k].save) ∧ w.cell? ⟨(ad.add (k * 3)).block, (ad.add (k * 3)).off + 2, none⟩ = some (.string ss[k].abbr) := by
  obtain ⟨ad, e, hb, hc⟩ := h.2 (by omega)
  have g : ∀ j, j < 3 → (ss.flatMap Phase.cells)[k * 3 + j]? = ss[k].cells[j]? := fun j hj => by
    rw [flat_get Phase.cells 3 Phase.cells_length ss k j hj, List.getElem?_eq_getElem hk]; rfl
  have ee : ∀ j, 0 < j → (⟨(ad.add (k * 3)).block, (ad.add (k * 3)).off + j, none⟩ : Addr) = ad.add (k * 3 + j) := fun j hj => by
    rw [← add_of_add, add_pos _ hj]
  refine ⟨ad, e, hb, ?_⟩
  rw [ee 1 (by omega), ee 2 (by omega)]
  exact ⟨hc (k * 3) _ (g 0 (by omega)), hc _ _ (g 1 (by omega)), hc _ _ (g 2 (by omega))⟩

theorem bld_alloc {T e : TypeId} {B b : Nat} {bs : List Value} {w : World} (h : Lib.IsBuilderF T e B b bs w) (o : Obj) : Lib.IsBuilderF T e B b bs (w.alloc o) := by
  have key : ∀ p, Lib.BuilderAtF T e B b p bs w → Lib.BuilderAtF T e B b p bs (w.alloc o) := by
    rintro p ⟨hB, v, hb, hown, hne⟩
    have hlt : b < w.heap.size := (Array.getElem?_eq_some_iff.1 hb).1
    exact ⟨hB, v, (Below.heap_alloc w o b hlt).trans hb, hown.alloc o, hne⟩
  exact h.elim (fun x => .inl (key _ x)) (fun x => .inr (key _ x))

theorem bld_grown {H : Type} {T e : TypeId} {B b : Nat} {bs : List Value} {w w' : World} {r n : Nat} {P : Program} {k : TypeId} {R : Value → Option (DataW H × List MemPlace)} {D : DataW H} (h : Lib.IsBuilderF T e B b bs w) (hg : w.grownBy w' (some r)) (hb : b ≠ r) (hm : w.ownsMap P k R r n D) : Lib.IsBuilderF T e B b bs w' := by
  have key : ∀ p, Lib.BuilderAtF T e B b p bs w → Lib.BuilderAtF T e B b p bs w' := by
    rintro p ⟨hB, v, hb', hown, hne⟩
    have hlt : b < w.heap.size := (Array.getElem?_eq_some_iff.1 hb').1
    refine ⟨hB, v, (hg.block b hlt (by simpa using hb)).trans hb', hown.kept hg (.inr ?_), hne⟩
    intro he
    obtain ⟨c, fz, hc⟩ := Lib.ownsRowF_kind hown r he
    obtain ⟨es, clock, hb2, _⟩ := hm
    rw [hb2] at hc
    cases hc
  exact h.elim (fun x => .inl (key _ x)) (fun x => .inr (key _ x))

theorem map_kept {H : Type} {w w' : World} {r n b : Nat} {P : Program} {k e : TypeId} {R : Value → Option (DataW H × List MemPlace)} {D : DataW H} (hm : w.ownsMap P k R r n D) (ho : Lib.OthersKept e (some b) w w') (hb : r ≠ b) : w'.ownsMap P k R r n D := by
  obtain ⟨es, clock, hb2, F, hs, rfl⟩ := hm
  exact ⟨es, clock, ho r _ hb2 (by simpa using hb) (fun _ _ e => by cases e), F, hs, rfl⟩

set_option maxRecDepth 100000 in
theorem pool_any (l : List Phase) (A : Option Addr) (c : Nat) (w : World) (hA : Reads w w.heap.size 3 A l.length (l.flatMap Phase.cells)) (hn : l.length ≤ 1000001) (hp : ∀ p ∈ l, p.abbr.size ≤ 8388608) :
    Calls Tryz.prog 50 #[.slice A l.length c] w fun e w' => ∃ (r : Nat) (D : DataW Unit), e = .returned (.tuple #[.string ⟨(poolL l).1.toArray⟩, .map (some r)]) ∧
      w'.ownsMap Tryz.prog 9 (plainElem Tryz.prog 3) r l.length D ∧ SM (poolL l).2 D ∧ Below w.heap.size w w' ∧ w.heap.size ≤ r := by
  have hmm := @run_makeMap Tryz.prog
  have HA := Lib.hid hA; clear hA
  go_enter Tryz.func50, Tryz.ntmps50
  go_wp2_with fail
  go_loopw [13] (fun i wr => ∃ (k : Nat) (D : DataW Unit), k ≤ l.length ∧ i = .int .i64 k ∧ Lib.IsBuilderF 147 5 w.heap.size w.heap.size (Lib.byteCells (poolL (l.take k)).1) wr ∧ wr.ownsMap Tryz.prog 9 (plainElem Tryz.prog 3) (w.heap.size + 1) k D ∧ SM (poolL (l.take k)).2 D ∧ Below w.heap.size w wr) (fun i _ => l.length - (intOf i).toNat)
  case atStart =>
    have hb := Blk.new w 147 #[.pointer none, .slice none 0 0]
    have hm := World.ownsMap_made (w.alloc (.cells #[.pointer none, .slice none 0 0] 147)) Tryz.prog 9 (plainElem (H := Unit) Tryz.prog 3)
    exact ⟨0, .map [], Nat.zero_le _, rfl, .inl ⟨Nat.le_refl _, _, hb.alloc _, ⟨rfl, .inl ⟨rfl, rfl⟩⟩, by simp [Value.ownBlock]⟩, by simpa using hm, SM.nil_, ((Below.refl _ _).alloc (Nat.le_refl _) _).alloc (by simp) _⟩
  case round =>
    obtain ⟨k, D, hk, rfl, hbld, hmap, hSM, hbel⟩ := hrel
    have hsz := hbel.size
    have Hbld := Lib.hid hbld; have Hmap := Lib.hid hmap; have HSM := Lib.hid hSM; have Hbel := Lib.hid hbel; clear hbld hmap hSM hbel
    have hmlt := Hmap.out.lt
    by_cases hkn : k < l.length
    · have hst := poolL_succ l k hkn
      have hpw := hp l[k] (List.getElem_mem hkn)
      have hle := poolL_le 8388608 l hp k
      obtain ⟨ad, rfl, hadb, c0, c1, c2⟩ := phase_at (HA.out.below Hbel.out) hkn
      generalize hse : l[k] = s at *
      obtain ⟨po, ps, pa⟩ := s
      have Hse := Lib.hid hse; have Hst := Lib.hid hst; clear hse hst
      generalize poolL (l.take k) = K at *
      obtain ⟨T, a⟩ := K
      simp only at *
      have hkey2 : keyOf Tryz.prog 9 (.string pa) = some (.string pa.data.toList) := Go.WideMaps.keyOf_string_mk Tryz.underlying9 (by unfold maxLen; omega)
      obtain ⟨hhas, hat⟩ := HSM.out.2 pa
      have Hat := Lib.hid hat; clear hat
      cases hmem : (look a pa).isSome; rotate_left
      · rw [hmem] at hhas
        have Hhas := Lib.hid hhas; have Hmem := Lib.hid hmem; clear hhas hmem
        go_wp2_with (at_lookup; refine wpList_lookup_own_ok_int (H := Unit) _ rfl _ _ 92 rfl 9 3 .i64 strLaw Tryz.underlying92 Tryz.underlying3 (zero3 _) (w.heap.size + 1) _ _ rfl (Hmap.out.alloc _) _ _ rfl hkey2 ?_; intro cv hcv _; rw [Hhas.out])
        have hcond := Hst.out
        rw [poolStep, if_pos Hmem.out] at hcond
        refine ⟨⟨k + 1, D, by omega, by go_num, ?_⟩, by simp [intOf]; omega⟩
        rw [hcond]
        exact ⟨bld_alloc Hbld.out _, (Hmap.out.alloc _).mono (Nat.le_succ _), HSM.out, Hbel.out.alloc hsz _⟩
      · rw [hmem] at hhas
        have Hhas := Lib.hid hhas; have Hmem := Lib.hid hmem; clear hhas hmem
        go_wp2_with (at_lookup; refine wpList_lookup_own_ok_int (H := Unit) _ rfl _ _ 92 rfl 9 3 .i64 strLaw Tryz.underlying92 Tryz.underlying3 (zero3 _) (w.heap.size + 1) _ _ rfl (Hmap.out.alloc _) _ _ rfl hkey2 ?_; intro cv hcv _; rw [Hhas.out])
        have hb1 : Hid (Lib.IsBuilderF 147 5 w.heap.size w.heap.size (Lib.byteCells T) (wr.alloc (Obj.cells #[Value.int IntKind.i64 po, Value.int IntKind.i64 ps, Value.string pa] 23)).drew) := bld_alloc Hbld.out _
        have hT : T.length ≤ 9223372036854775807 := by omega
        have hwf : (Lit.int .i64 (T.length : Int)).wf = true := WalkArith.wf_i64 (by omega)
        obtain ⟨w2, e2, o2, g2⟩ := World.ownsMap.update ((Hmap.out.alloc (Obj.cells #[Value.int IntKind.i64 po, Value.int IntKind.i64 ps, Value.string pa] 23)).drew) strLaw Tryz.underlying92 (by unfold maxLen; omega) hkey2 (plainElem_int Tryz.underlying3 hwf)
        have hb2 : Hid (Lib.IsBuilderF 147 5 w.heap.size w.heap.size (Lib.byteCells T) w2) := bld_grown hb1.out g2 (by simp) (Hmap.out.alloc _).drew
        have hp2 : Hid (Blk w2 wr.heap.size 23 #[Value.int IntKind.i64 po, Value.int IntKind.i64 ps, Value.string pa]) := Blk.grown (Blk.new wr _ _).drew g2 (by simp; omega)
        have cs := fun i => hp2.out.cell i
        have O2 := Lib.hid o2; have G2 := Lib.hid g2; clear o2 g2
        go_region_with (go_at_call 100; refine (Tryz.Builder_Len_f w.heap.size w.heap.size (Lib.byteCells T) _ hb1.out).mono ?_; rintro e w1 ⟨rfl, rfl⟩; rw [Lib.byteCells_length])
        all_goals
          go_wp2_with (go_at_call 101; refine (Bld.write_any w.heap.size w.heap.size (Lib.byteCells T) _ w2 hb2.out (by rw [Lib.byteCells_length, ByteArray.size_append]; show _ + (_ + 1) ≤ _; omega) (by have := G2.out.size; simp at this; omega)).mono ?_; rintro e w3 ⟨rfl, hb3, hbel3, ho3⟩; have Hb3 := Lib.hid hb3; have Hbel3 := Lib.hid hbel3; have Ho3 := Lib.hid ho3; clear hb3 hbel3 ho3)
          have hcond := Hst.out
          rw [poolStep, if_neg (by rw [Hmem.out]; decide)] at hcond
          refine ⟨⟨k + 1, D.put (.string pa.data.toList) (.lit (.int .i64 T.length)), by omega, by go_num, ?_⟩, by simp [intOf]; omega⟩
          rw [hcond]
          refine ⟨.inr ?_, map_kept O2.out Ho3.out (by simp), HSM.out.snoc T.length Hmem.out, ((((Hbel.out.alloc hsz _).drew).grown G2.out (by simp; omega) (fun j hj => by simp at hj; omega))).trans Hbel3.out⟩
          have h3 := Hb3.out
          rw [Lib.strCells_eq, ByteArray.data_append, Array.toList_append, ← Lib.byteCells_append] at h3
          exact h3
    · obtain rfl : k = l.length := by omega
      rw [List.take_length] at *
      have hsz1 : w.heap.size ≤ wr.heap.size := hsz
      go_wp2_with (go_at_call 102; refine (Tryz.Builder_String_any_k w.heap.size w.heap.size _ _ Hbld.out hsz1).mono ?_; rintro e w3 ⟨rfl, _, hbel3, ho3⟩; have Hbel3 := Lib.hid hbel3; have Ho3 := Lib.hid ho3; clear hbel3 ho3)
      go_ret2
      exact ⟨_, _, rfl, map_kept Hmap.out Ho3.out (by simp), HSM.out, Hbel.out.trans Hbel3.out, by omega⟩
end Go.Proofs.YtpbojebnghcndaaGreatDoor.Img
