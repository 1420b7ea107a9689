/-
  Package sound: flaws; the contracts of orders and links. Conditions: what the source's slices hold is read, the names' lengths are bounded.
-/
import Derived.Test.YtgfdmjldfahbpaaGreatDoorSndG
namespace Go.Proofs.YtgfdmjldfahbpaaGreatDoor.Snd
open Go.RowKit Mem Civ Mom Img Plc Rul Src Go.Maps

structure Flaw where
  err : Int
  kind : Int
  at_ : Int
  era : Int
  deriving DecidableEq
def Flaw.cells (f : Flaw) : List Value := [.int .i64 f.err, .int .i64 f.kind, .int .i64 f.at_, .int .i64 f.era]
def noFlaw : Flaw := ⟨0, 0, 0, 0⟩
def flawAt (e k : Int) (o : Option Nat) : Flaw := match o with
  | some i => ⟨e, k, i, 0⟩
  | none => noFlaw
def ordersB (s : Src) : Flaw := flawAt 16 1 (s.rules.findIdx? fun r => decide (r.hi < r.lo))
theorem orders_results {w : World} {R0 : Nat} {a0 a1 a2 a3 : Value} (h : Blk w R0 31 #[a0, a1, a2, a3]) (tmps : Array Value) (ht : tmps[2]? = some (.pointer (some ⟨R0, 0, none⟩))) : (results Tryz.f18 tmps).run Tryz.prog w = .ok (.agg #[a0, a1, a2, a3]) w := by
  have hc := fun i => h.cell i
  simp [results, Tryz.results18, go_sem, hc, ht]
theorem links_results {w : World} {R0 : Nat} {a0 a1 a2 a3 : Value} (h : Blk w R0 31 #[a0, a1, a2, a3]) (tmps : Array Value) (ht : tmps[2]? = some (.pointer (some ⟨R0, 0, none⟩))) : (results Tryz.f21 tmps).run Tryz.prog w = .ok (.agg #[a0, a1, a2, a3]) w := by
  have hc := fun i => h.cell i
  simp [results, Tryz.results21, go_sem, hc, ht]
/-- The source's box and the result's. -/
structure Two (w : World) (cs ds : Array Value) (wr : World) : Prop where
  src : Blk wr w.heap.size 26 cs
  res : Blk wr (w.heap.size + 1) 31 ds
  bel : Below w.heap.size w wr
theorem Two.step {w wr w' : World} {cs ds : Array Value} (h : Two w cs ds wr) (hb : Below wr.heap.size wr w') : Two w cs ds w' := ⟨h.src.below hb h.src.lt, h.res.below hb h.res.lt, h.bel.trans (hb.mono h.bel.size)⟩
theorem Two.alloc {w wr : World} {cs ds : Array Value} (h : Two w cs ds wr) (o : Obj) : Two w cs ds (wr.alloc o) := ⟨h.src.alloc o, h.res.alloc o, h.bel.alloc h.bel.size o⟩
theorem Two.set {w wr : World} {cs ds : Array Value} (h : Two w cs ds wr) (i : Nat) (u : Value) : Two w cs (ds.setIfInBounds i u) (wr.setCell ⟨w.heap.size + 1, i, none⟩ u) :=
  ⟨h.src.far (by simp) u, h.res.set_ i u, h.bel.setCell (by simp) u⟩
theorem Two.fill {w wr : World} {cs : Array Value} {b0 b1 b2 b3 : Value} (h : Two w cs #[b0, b1, b2, b3] wr) (a0 a1 a2 a3 : Value) :
    Two w cs #[a0, a1, a2, a3] ((((wr.setCell ⟨w.heap.size + 1, 0, none⟩ a0).setCell ⟨w.heap.size + 1, 1, none⟩ a1).setCell ⟨w.heap.size + 1, 2, none⟩ a2).setCell ⟨w.heap.size + 1, 3, none⟩ a3) := by
  have h := (((h.set 0 a0).set 1 a1).set 2 a2).set 3 a3
  simpa using h
theorem Two.start (w : World) (cs : Array Value) : Two w cs #[.int .i64 0, .int .i64 0, .int .i64 0, .int .i64 0] ((w.alloc (.cells cs 26)).alloc (.cells #[.int .i64 0, .int .i64 0, .int .i64 0, .int .i64 0] 31)) := by
  obtain ⟨h1, h2, h3, _⟩ := box2 w 26 31 cs #[.int .i64 0, .int .i64 0, .int .i64 0, .int .i64 0]
  exact ⟨h1, h2, h3⟩
set_option maxHeartbeats 1000000 in
set_option maxRecDepth 100000 in
theorem orders_any (s : Src) (A A2 A3 : Option Addr) (c c2 c3 : Nat) (w : World) (h : SrcOk s A A2 A3 w) :
    Calls Tryz.prog 18 #[.agg #[.slice A s.rules.length c, .slice A2 s.zones.length c2, .slice A3 s.links.length c3]] w fun e w' => e = .returned (.agg (ordersB s).cells.toArray) ∧ Below w.heap.size w w' := by
  have hrr := h.rr; have nr := h.nr
  clear h
  obtain ⟨Q, hQ⟩ : ∃ Q, ordersB s = Q := ⟨_, rfl⟩
  rw [hQ]
  unfold ordersB at hQ
  obtain ⟨rs, zs, ls⟩ := s
  simp only at hrr nr hQ ⊢
  have hst := Two.start w #[.slice A rs.length c, .slice A2 zs.length c2, .slice A3 ls.length c3]
  obtain ⟨W, hW⟩ : ∃ W, (w.alloc (.cells #[.slice A rs.length c, .slice A2 zs.length c2, .slice A3 ls.length c3] 26)).alloc (.cells #[.int .i64 0, .int .i64 0, .int .i64 0, .int .i64 0] 31) = W := ⟨_, rfl⟩
  rw [hW] at hst
  have HT := Lib.hid hst; have HR := Lib.hid hrr; have HQ := Lib.hid hQ
  have c0 := fun i => hst.src.cell i
  clear hst hrr hQ
  go_enter Tryz.func18, Tryz.ntmps18
  go_wp2_with fail
  clear c0
  go_loopw [8] (fun i wr => ∃ k : Nat, k ≤ rs.length ∧ i = .int .i64 k ∧ (rs.take k).all (fun r => !decide (r.hi < r.lo)) = true ∧ Two w #[.slice A rs.length c, .slice A2 zs.length c2, .slice A3 ls.length c3] #[.int .i64 0, .int .i64 0, .int .i64 0, .int .i64 0] wr) (fun i _ => rs.length - (intOf i).toNat)
  case atStart => exact ⟨0, Nat.zero_le _, rfl, rfl, HT.out⟩
  case round =>
    clear HT
    obtain ⟨k, hk, rfl, hall, ht⟩ := hrel
    have HT := Lib.hid ht; have Hall := Lib.hid hall
    clear ht hall
    by_cases hkn : k < rs.length
    · obtain ⟨ad, hA, hadb, a0, a1, a2, a3, a4, a5, a6, a7, a8, a9, a10⟩ := rule_cells (HR.out.below HT.out.bel) hkn
      subst hA
      have hstep : decide (rs[k].hi < rs[k].lo) = false → (rs.take (k + 1)).all (fun r => !decide (r.hi < r.lo)) = true := no_step hkn Hall.out
      have hhit : decide (rs[k].hi < rs[k].lo) = true → (rs.findIdx? fun r => decide (r.hi < r.lo)) = some k := find_hit hkn Hall.out
      have HS := Lib.hid hstep; have HH := Lib.hid hhit
      clear hstep hhit Hall
      generalize rs[k] = x at *
      obtain ⟨x0, x1, x2, x3, x4, x5, x6, x7, x8, x9, x10⟩ := x
      simp only at a0 a1 a2 a3 a4 a5 a6 a7 a8 a9 a10 HS HH
      cases hd : decide (x2 < x1)
      · rw [hd] at HS
        clear HH
        go_wp2_with fail
        exact ⟨⟨k + 1, by omega, by go_num, HS.out (by trivial), HT.out.alloc _⟩, by simp [intOf]; omega⟩
      · rw [hd] at HH
        have hq : Q = ⟨16, 1, k, 0⟩ := by rw [← HQ.out, HH.out (by trivial)]; rfl
        subst hq
        have ht := HT.out.alloc (.cells #[.string x0, .int .i64 x1, .int .i64 x2, .int .i64 x3, .int .i64 x4, .int .i64 x5, .int .i64 x6, .int .i64 x7, .int .i64 x8, .int .i64 x9, .string x10] 47)
        have fR := fun i => ht.res.frozen i
        have cR := fun i => ht.res.cell i
        have HF := Lib.hid (ht.fill (.int .i64 16) (.int .i64 1) (.int .i64 k) (.int .i64 0))
        clear HS HH ht
        go_wp2_with fail
        refine bodyPost_ret (orders_results HF.out.res _ rfl) rfl ?_
        exact ⟨rfl, HF.out.bel⟩
    · obtain rfl : k = rs.length := by omega
      have hall := Hall.out
      rw [List.take_length] at hall
      have hq : Q = noFlaw := by rw [← HQ.out, find_miss hall]; rfl
      subst hq
      have fR := fun i => HT.out.res.frozen i
      have cR := fun i => HT.out.res.cell i
      have HF := Lib.hid (HT.out.fill (.int .i64 0) (.int .i64 0) (.int .i64 0) (.int .i64 0))
      clear hall Hall
      go_wp2_with fail
      refine bodyPost_ret (orders_results HF.out.res _ rfl) rfl ?_
      exact ⟨rfl, HF.out.bel⟩
end Go.Proofs.YtgfdmjldfahbpaaGreatDoor.Snd
