/-
  A zone's table, as the program makes it (package table), in plain words. Conditions: none.
  slices.MinFunc at rules, by their first years (package table). Conditions: what the rules' slice holds is read; the rules may be.
-/
import Derived.Test.YtdicedpklpadgaaGreatDoorY15
import Derived.Test.YtdicedpklpadgaaGreatDoorY21
import Derived.Test.YtdicedpklpadgaaGreatDoorY25
set_option linter.all false
section
namespace Go.Proofs.YtdicedpklpadgaaGreatDoor.Cmq
open Go.RowKit Mem Civ Mom Img Rul Ahd Trn Src Snd Att Rgt Abr

/-- What clocks are ahead by an era at a second, and the letter. -/
def savE (rs : List Rule) (x : Era) (t : Int) : Int × ByteArray :=
  if x.kind = 2 then forceP (setOf rs x) x.off t else if x.kind = 1 then (x.save, ⟨#[]⟩) else (0, ⟨#[]⟩)
/-- How clocks stand by an era. -/
def phaseE (rs : List Rule) (x : Era) (t : Int) : Phase :=
  ⟨x.off + (savE rs x t).1, (savE rs x t).1, abbrB x.format (savE rs x t).2 (x.off + (savE rs x t).1) (savE rs x t).1⟩
def phaseU (x : Era) (t : TurnU) : Phase := ⟨x.off + t.save, t.save, abbrB x.format t.letter (x.off + t.save) t.save⟩
/-- The greatest year that a zone names. -/
def lastE (rs : List Rule) (y : Int) (x : Era) : Int := (setL rs x.rules).foldl lastY1 (max y x.year)
def lastZ (rs : List Rule) (es : List Era) : Int := es.foldl (lastE rs) 2037
/-- The phase behind all shifts so far. -/
def lastPh (first : Phase) : List Shift → Phase
  | [] => first
  | [s] => s.ph
  | _ :: s :: ss => lastPh first (s :: ss)
/-- The shifts without a last one at that second. -/
def cutAt (at_ : Int) (ss : List Shift) : List Shift := match ss.getLast? with
  | some s => if s.sec = at_ then ss.dropLast else ss
  | none => ss
def putP (first : Phase) (till : Int) (m : List Shift × Bool) (at_ : Int) (p : Phase) : List Shift × Bool :=
  if till ≤ at_ ∨ p = lastPh first (cutAt at_ m.1) then (cutAt at_ m.1, m.2)
  else if m.2 = true ∨ (cutAt at_ m.1).length = 30000 then (cutAt at_ m.1, true)
  else (cutAt at_ m.1 ++ [⟨at_, p⟩], m.2)
/-- A turn of an era that begins and ends so. -/
def turnPut (first : Phase) (till : Int) (x : Era) (a b : Int) (m : List Shift × Bool) (t : TurnU) : List Shift × Bool :=
  if t.at_ ≤ a ∨ x.till = true ∧ b ≤ t.at_ then m else putP first till m t.at_ (phaseU x t)
def eraEnd (s : Src) (x : Era) : Int := endP (svF s) x
def turnsE (rs : List Rule) (year : Int) (x : Era) : List TurnU := turnsP (setL rs x.rules) x.off (year + 3)
/-- An era; (i: not the first one). -/
def eraPut (s : Src) (first : Phase) (till year : Int) (i : Bool) (m : (List Shift × Bool) × Int) (x : Era) : (List Shift × Bool) × Int :=
  ((turnsE s.rules year x).foldl (turnPut first till x m.2 (eraEnd s x)) (if i = true then putP first till m.1 m.2 (phaseE s.rules x m.2) else m.1), eraEnd s x)
def everT : Int := -9000000000000
def untilZ (year : Int) : Int := (daysO (year + 3) 1 1).getD 0 * 86400
def erasPut (s : Src) (first : Phase) (till year : Int) : List Era → Bool → (List Shift × Bool) × Int → (List Shift × Bool) × Int
  | [], _, m => m
  | x :: es, i, m => erasPut s first till year es true (eraPut s first till year i m x)
def tailZ (rs : List Rule) (es : List Era) : List Rule := match es.getLast? with
  | some e => (setL rs e.rules).filter fun r => decide (r.hi = 1000000)
  | none => []
def offZ (rs : List Rule) (es : List Era) : Int := match es.getLast? with
  | some e => if (tailZ rs es).length = 0 then 0 else e.off
  | none => 0
def formatZ (rs : List Rule) (es : List Era) : ByteArray := match es.getLast? with
  | some e => if (tailZ rs es).length = 0 then ⟨#[]⟩ else e.format
  | none => ⟨#[]⟩
def firstZ (rs : List Rule) (es : List Era) : Phase := match es with
  | x :: _ => phaseE rs x everT
  | [] => ⟨0, 0, ⟨#[]⟩⟩
def noTable : Table := ⟨⟨#[]⟩, ⟨0, 0, ⟨#[]⟩⟩, [], 0, [], 0, ⟨#[]⟩⟩
def madeZ (s : Src) (z : ZoneM) : (List Shift × Bool) × Int :=
  erasPut s (firstZ s.rules z.eras) (untilZ (lastZ s.rules z.eras)) (lastZ s.rules z.eras) z.eras false (([], false), everT)
def tableZ (s : Src) (z : ZoneM) : Table :=
  ⟨z.name, firstZ s.rules z.eras, (madeZ s z).1.1, untilZ (lastZ s.rules z.eras), tailZ s.rules z.eras, offZ s.rules z.eras, formatZ s.rules z.eras⟩
/-- The table, the error's number. -/
def compileP (s : Src) (zone : Int) : Table × Int :=
  if checkB s = noFlaw ∧ 0 ≤ zone then (match s.zones[zone.toNat]? with
    | some z => if (madeZ s z).1.2 = true then (noTable, 12) else (tableZ s z, 0)
    | none => (noTable, 1)) else (noTable, 1)
end Go.Proofs.YtdicedpklpadgaaGreatDoor.Cmq
end
section
namespace Go.Proofs.YtdicedpklpadgaaGreatDoor.Trn
open Go.RowKit Mem Civ Mom Img Rul Ahd Rgt

set_option maxRecDepth 100000 in
theorem minCmp_any (a b : Rule) (w : World) (ha : 1 ≤ a.lo ∧ a.lo ≤ 9999) (hb : 1 ≤ b.lo ∧ b.lo ≤ 9999) :
    Calls Tryz.prog 69 #[.agg a.cells.toArray, .agg b.cells.toArray] w fun e w' => e = .returned (.int .i64 (a.lo - b.lo)) ∧ Below w.heap.size w w' := by
  have hb2 := box2 w 59 59 a.cells.toArray b.cells.toArray
  obtain ⟨a0, a1, a2, a3, a4, a5, a6, a7, a8, a9, a10⟩ := a
  obtain ⟨b0, b1, b2, b3, b4, b5, b6, b7, b8, b9, b10⟩ := b
  simp only [Rule.cells] at hb2 ha hb ⊢
  obtain ⟨W, hW⟩ : ∃ W, (w.alloc (.cells #[.string a0, .int .i64 a1, .int .i64 a2, .int .i64 a3, .int .i64 a4, .int .i64 a5, .int .i64 a6, .int .i64 a7, .int .i64 a8, .int .i64 a9, .string a10] 59)).alloc (.cells #[.string b0, .int .i64 b1, .int .i64 b2, .int .i64 b3, .int .i64 b4, .int .i64 b5, .int .i64 b6, .int .i64 b7, .int .i64 b8, .int .i64 b9, .string b10] 59) = W := ⟨_, rfl⟩
  rw [hW] at hb2
  obtain ⟨k1, k2, hbb, hz⟩ := hb2
  have c1 := fun i => k1.cell i
  have c2 := fun i => k2.cell i
  have HB := Lib.hid hbb
  clear k1 k2 hbb
  obtain ⟨h1, h2⟩ := ha
  obtain ⟨h3, h4⟩ := hb
  go_enter Tryz.func69, Tryz.ntmps69
  go_wp2_with fail
  go_ret
  exact ⟨rfl, HB.out⟩
theorem minf_results {w : World} {R0 : Nat} {a0 a1 a2 a3 a4 a5 a6 a7 a8 a9 a10 : Value} (h : Blk w R0 59 #[a0, a1, a2, a3, a4, a5, a6, a7, a8, a9, a10]) (tmps : Array Value) (ht : tmps[4]? = some (.pointer (some ⟨R0, 0, none⟩))) : (results Tryz.f68 tmps).run Tryz.prog w = .ok (.agg #[a0, a1, a2, a3, a4, a5, a6, a7, a8, a9, a10]) w := by
  have hc := fun i => h.cell i
  simp [results, Tryz.results68, go_sem, hc, ht]
theorem firstY_one {rs : List Rule} (h : rulesB rs = true) (h0 : 0 < rs.length) : firstY (rs.take 1) = rs[0].lo := by
  have hb := ruleB_bd (List.all_eq_true.1 h _ (List.getElem_mem h0))
  rw [firstY_succ rs 0 h0]
  simp only [List.take_zero, firstY, List.foldl_nil]
  omega
/-- The rule that MinFunc hands back. -/
def MinP (rs : List Rule) (w : World) (e : Ending) (w' : World) : Prop := ∃ r : Rule, e = .returned (.agg #[.string r.name, .int .i64 r.lo, .int .i64 r.hi, .int .i64 r.month, .int .i64 r.kind, .int .i64 r.weekday, .int .i64 r.day, .int .i64 r.time, .int .i64 r.ref, .int .i64 r.save, .string r.letter]) ∧ r.lo = firstY rs ∧ Below w.heap.size w w'
theorem le1 (n : Nat) : n ≤ n + 1 := by omega
theorem below_set11 {B b : Nat} {w w' : World} (h : Below B w w') (hb : B ≤ b) (v0 v1 v2 v3 v4 v5 v6 v7 v8 v9 v10 : Value) :
    Below B w (((((((((((w'.setCell ⟨b, 0, none⟩ v0).setCell ⟨b, 1, none⟩ v1).setCell ⟨b, 2, none⟩ v2).setCell ⟨b, 3, none⟩ v3).setCell ⟨b, 4, none⟩ v4).setCell ⟨b, 5, none⟩ v5).setCell ⟨b, 6, none⟩ v6).setCell ⟨b, 7, none⟩ v7).setCell ⟨b, 8, none⟩ v8).setCell ⟨b, 9, none⟩ v9).setCell ⟨b, 10, none⟩ v10) :=
  ((((((((((h.setCell hb _).setCell hb _).setCell hb _).setCell hb _).setCell hb _).setCell hb _).setCell hb _).setCell hb _).setCell hb _).setCell hb _).setCell hb _
theorem blk_set11 {b : Nat} {t : TypeId} {w : World} {x0 x1 x2 x3 x4 x5 x6 x7 x8 x9 x10 : Value} (h : Blk w b t #[x0, x1, x2, x3, x4, x5, x6, x7, x8, x9, x10]) (v0 v1 v2 v3 v4 v5 v6 v7 v8 v9 v10 : Value) :
    Blk (((((((((((w.setCell ⟨b, 0, none⟩ v0).setCell ⟨b, 1, none⟩ v1).setCell ⟨b, 2, none⟩ v2).setCell ⟨b, 3, none⟩ v3).setCell ⟨b, 4, none⟩ v4).setCell ⟨b, 5, none⟩ v5).setCell ⟨b, 6, none⟩ v6).setCell ⟨b, 7, none⟩ v7).setCell ⟨b, 8, none⟩ v8).setCell ⟨b, 9, none⟩ v9).setCell ⟨b, 10, none⟩ v10) b t #[v0, v1, v2, v3, v4, v5, v6, v7, v8, v9, v10] := by
  have := (((((((((((h.set_ 0 v0).set_ 1 v1).set_ 2 v2).set_ 3 v3).set_ 4 v4).set_ 5 v5).set_ 6 v6).set_ 7 v7).set_ 8 v8).set_ 9 v9).set_ 10 v10)
  simpa using this
theorem blk_far11 {b g : Nat} {t : TypeId} {cs : Array Value} {w : World} (h : Blk w g t cs) (hne : g ≠ b) (v0 v1 v2 v3 v4 v5 v6 v7 v8 v9 v10 : Value) :
    Blk (((((((((((w.setCell ⟨b, 0, none⟩ v0).setCell ⟨b, 1, none⟩ v1).setCell ⟨b, 2, none⟩ v2).setCell ⟨b, 3, none⟩ v3).setCell ⟨b, 4, none⟩ v4).setCell ⟨b, 5, none⟩ v5).setCell ⟨b, 6, none⟩ v6).setCell ⟨b, 7, none⟩ v7).setCell ⟨b, 8, none⟩ v8).setCell ⟨b, 9, none⟩ v9).setCell ⟨b, 10, none⟩ v10) g t cs :=
  ((((((((((h.far hne _).far hne _).far hne _).far hne _).far hne _).far hne _).far hne _).far hne _).far hne _).far hne _).far hne _
set_option maxHeartbeats 2000000 in
set_option maxRecDepth 100000 in
theorem minFunc_any (rs : List Rule) (A : Option Addr) (c : Nat) (w : World) (h : Reads w w.heap.size 11 A rs.length (rs.flatMap Rule.cells)) (hn : rs.length ≤ 1000000) (h0 : 0 < rs.length) (hr : rulesB rs = true) :
    Calls Tryz.prog 68 #[.slice A rs.length c, .func (.func 69) #[] #[]] w (MinP rs w) := by
  have HR := Lib.hid h
  have hfo := firstY_one hr h0
  have hlo := fun k (hk : k < rs.length) => ruleB_bd (List.all_eq_true.1 hr _ (List.getElem_mem hk))
  have hfs := fun k (hk : k < rs.length) => firstY_succ rs k hk
  obtain ⟨ad, hA, hadb, a0, a1, a2, a3, a4, a5, a6, a7, a8, a9, a10⟩ := rule_cells (h.alloc (Nat.le_refl _) (.cells #[.string ⟨#[]⟩, .int .i64 0, .int .i64 0, .int .i64 0, .int .i64 0, .int .i64 0, .int .i64 0, .int .i64 0, .int .i64 0, .int .i64 0, .string ⟨#[]⟩] 59)) h0
  subst hA
  have ead : ad.add (0 * 11) = ad := by unfold Addr.add; simp
  rw [ead] at a0 a1 a2 a3 a4 a5 a6 a7 a8 a9 a10
  have HLo := Lib.hid hlo; have HFs := Lib.hid hfs
  have h1b : decide ((rs.length : Int) < 1) = false := decide_eq_false (by omega)
  have hxb := ruleB_bd (List.all_eq_true.1 hr _ (List.getElem_mem h0))
  generalize hx : rs[0] = x at *
  have Hfo := Lib.hid hfo
  clear h hfo hlo hfs hx hr ead
  obtain ⟨x0, x1, x2, x3, x4, x5, x6, x7, x8, x9, x10⟩ := x
  simp only at a0 a1 a2 a3 a4 a5 a6 a7 a8 a9 a10 Hfo hxb
  obtain ⟨hxb1, hxb2, _⟩ := hxb
  have hb2 := box2 w 59 59 #[.string ⟨#[]⟩, .int .i64 0, .int .i64 0, .int .i64 0, .int .i64 0, .int .i64 0, .int .i64 0, .int .i64 0, .int .i64 0, .int .i64 0, .string ⟨#[]⟩] #[.string x0, .int .i64 x1, .int .i64 x2, .int .i64 x3, .int .i64 x4, .int .i64 x5, .int .i64 x6, .int .i64 x7, .int .i64 x8, .int .i64 x9, .string x10]
  go_enter Tryz.func68, Tryz.ntmps68
  go_wp2_with fail
  obtain ⟨k0, k1, hbw, _⟩ := hb2
  go_loopw [6] (fun s6 wr => ∃ (k : Nat) (y : Rule), 1 ≤ k ∧ k ≤ rs.length ∧ s6 = .int .i64 k ∧ (y.lo = firstY (rs.take k) ∧ 1 ≤ y.lo ∧ y.lo ≤ 9999) ∧ Blk wr w.heap.size 59 #[.string ⟨#[]⟩, .int .i64 0, .int .i64 0, .int .i64 0, .int .i64 0, .int .i64 0, .int .i64 0, .int .i64 0, .int .i64 0, .int .i64 0, .string ⟨#[]⟩] ∧ Blk wr (w.heap.size + 1) 59 #[.string y.name, .int .i64 y.lo, .int .i64 y.hi, .int .i64 y.month, .int .i64 y.kind, .int .i64 y.weekday, .int .i64 y.day, .int .i64 y.time, .int .i64 y.ref, .int .i64 y.save, .string y.letter] ∧ Below w.heap.size w wr) (fun s6 _ => rs.length - (intOf s6).toNat)
  case atStart => exact ⟨1, ⟨x0, x1, x2, x3, x4, x5, x6, x7, x8, x9, x10⟩, Nat.le_refl _, h0, rfl, ⟨Hfo.out.symm, hxb1, hxb2⟩, k0, k1, hbw⟩
  case round =>
    clear k0 k1 hbw a0 a1 a2 a3 a4 a5 a6 a7 a8 a9 a10
    obtain ⟨k, y, hk1, hk, rfl, ⟨hy, hyb1, hyb2⟩, hb0, hb1, hbw⟩ := hrel
    have HB0 := Lib.hid hb0; have HB1 := Lib.hid hb1; have HBw := Lib.hid hbw; have Hy := Lib.hid hy
    have cy := fun i => hb1.cell i
    clear hb0 hb1 hbw hy
    by_cases hkn : k < rs.length
    · obtain ⟨ad', hA, hadb', b0, b1, b2, b3, b4, b5, b6, b7, b8, b9, b10⟩ := rule_cells ((HR.out.below HBw.out).more HBw.out.size) hkn
      obtain rfl : ad = ad' := by injection hA
      have hlt : (ad.add (k * 11)).block < wr.heap.size := by rw [block_of_add]; exact hadb'
      have hfs := HFs.out k hkn
      rw [← Hy.out] at hfs
      have hrb := HLo.out k hkn
      generalize rs[k] = r at *
      have hcmp := fun z => minCmp_any r y z ⟨hrb.1, hrb.2.1⟩ ⟨hyb1, hyb2⟩
      obtain ⟨r0, r1, r2, r3, r4, r5, r6, r7, r8, r9, r10⟩ := r
      obtain ⟨y0, y1, y2, y3, y4, y5, y6, y7, y8, y9, y10⟩ := y
      simp only [Rule.cells] at b0 b1 b2 b3 b4 b5 b6 b7 b8 b9 b10 hcmp hrb hfs cy HB1 hyb1 hyb2 Hy
      obtain ⟨hrb1, hrb2, _⟩ := hrb
      have Hfs := Lib.hid hfs
      have HC : Hid (∀ z, Below wr.heap.size wr z → Calls Tryz.prog 69 #[.agg #[.string r0, .int .i64 r1, .int .i64 r2, .int .i64 r3, .int .i64 r4, .int .i64 r5, .int .i64 r6, .int .i64 r7, .int .i64 r8, .int .i64 r9, .string r10], .agg #[.string y0, .int .i64 y1, .int .i64 y2, .int .i64 y3, .int .i64 y4, .int .i64 y5, .int .i64 y6, .int .i64 y7, .int .i64 y8, .int .i64 y9, .string y10]] z fun e z' => e = .returned (.int .i64 (r1 - y1)) ∧ Below wr.heap.size wr z') := fun z h => (hcmp z).mono fun e z' ⟨he, hb⟩ => ⟨he, h.trans (hb.mono h.size)⟩
      have inst : Nonempty (Qt.In (Below wr.heap.size wr)) := ⟨⟨_, Below.refl _ _⟩⟩
      have zr0 : ∀ z : Qt.In (Below wr.heap.size wr), z.w.cell? (ad.add (k * 11)) = some (.string r0) := fun z => (z.h.cell hlt).trans b0
      have zr1 : ∀ z : Qt.In (Below wr.heap.size wr), z.w.cell? ⟨(ad.add (k * 11)).block, (ad.add (k * 11)).off + 1, none⟩ = some (.int .i64 r1) := fun z => (z.h.cell (p := ⟨(ad.add (k * 11)).block, (ad.add (k * 11)).off + 1, none⟩) hlt).trans b1
      have zr2 : ∀ z : Qt.In (Below wr.heap.size wr), z.w.cell? ⟨(ad.add (k * 11)).block, (ad.add (k * 11)).off + 2, none⟩ = some (.int .i64 r2) := fun z => (z.h.cell (p := ⟨(ad.add (k * 11)).block, (ad.add (k * 11)).off + 2, none⟩) hlt).trans b2
      have zr3 : ∀ z : Qt.In (Below wr.heap.size wr), z.w.cell? ⟨(ad.add (k * 11)).block, (ad.add (k * 11)).off + 3, none⟩ = some (.int .i64 r3) := fun z => (z.h.cell (p := ⟨(ad.add (k * 11)).block, (ad.add (k * 11)).off + 3, none⟩) hlt).trans b3
      have zr4 : ∀ z : Qt.In (Below wr.heap.size wr), z.w.cell? ⟨(ad.add (k * 11)).block, (ad.add (k * 11)).off + 4, none⟩ = some (.int .i64 r4) := fun z => (z.h.cell (p := ⟨(ad.add (k * 11)).block, (ad.add (k * 11)).off + 4, none⟩) hlt).trans b4
      have zr5 : ∀ z : Qt.In (Below wr.heap.size wr), z.w.cell? ⟨(ad.add (k * 11)).block, (ad.add (k * 11)).off + 5, none⟩ = some (.int .i64 r5) := fun z => (z.h.cell (p := ⟨(ad.add (k * 11)).block, (ad.add (k * 11)).off + 5, none⟩) hlt).trans b5
      have zr6 : ∀ z : Qt.In (Below wr.heap.size wr), z.w.cell? ⟨(ad.add (k * 11)).block, (ad.add (k * 11)).off + 6, none⟩ = some (.int .i64 r6) := fun z => (z.h.cell (p := ⟨(ad.add (k * 11)).block, (ad.add (k * 11)).off + 6, none⟩) hlt).trans b6
      have zr7 : ∀ z : Qt.In (Below wr.heap.size wr), z.w.cell? ⟨(ad.add (k * 11)).block, (ad.add (k * 11)).off + 7, none⟩ = some (.int .i64 r7) := fun z => (z.h.cell (p := ⟨(ad.add (k * 11)).block, (ad.add (k * 11)).off + 7, none⟩) hlt).trans b7
      have zr8 : ∀ z : Qt.In (Below wr.heap.size wr), z.w.cell? ⟨(ad.add (k * 11)).block, (ad.add (k * 11)).off + 8, none⟩ = some (.int .i64 r8) := fun z => (z.h.cell (p := ⟨(ad.add (k * 11)).block, (ad.add (k * 11)).off + 8, none⟩) hlt).trans b8
      have zr9 : ∀ z : Qt.In (Below wr.heap.size wr), z.w.cell? ⟨(ad.add (k * 11)).block, (ad.add (k * 11)).off + 9, none⟩ = some (.int .i64 r9) := fun z => (z.h.cell (p := ⟨(ad.add (k * 11)).block, (ad.add (k * 11)).off + 9, none⟩) hlt).trans b9
      have zr10 : ∀ z : Qt.In (Below wr.heap.size wr), z.w.cell? ⟨(ad.add (k * 11)).block, (ad.add (k * 11)).off + 10, none⟩ = some (.string r10) := fun z => (z.h.cell (p := ⟨(ad.add (k * 11)).block, (ad.add (k * 11)).off + 10, none⟩) hlt).trans b10
      have hl1 := HB1.out.lt
      have zy : ∀ (z : Qt.In (Below wr.heap.size wr)) (i : Nat), z.w.cell? ⟨w.heap.size + 1, i, none⟩ = #[.string y0, .int .i64 y1, .int .i64 y2, .int .i64 y3, .int .i64 y4, .int .i64 y5, .int .i64 y6, .int .i64 y7, .int .i64 y8, .int .i64 y9, .string y10][i]? := fun z i => (z.h.cell (p := ⟨w.heap.size + 1, i, none⟩) hl1).trans (HB1.out.cell i)
      have hkb : decide ((k : Int) < (rs.length : Nat)) = true := decide_eq_true (by omega)
      clear hcmp hfs cy hA
      go_wp2_with fail
      refine Qt.wp_region_cls (Below wr.heap.size wr) (by kernel_rfl) (by kernel_rfl) (below_dr (n := 1) (Below.refl _ _)) ?_
      repeat (go_big_quiet_step ((go_at_call 69; exact Qt.quiet_cls (HC.out _ (Qt.In.h _)))))
      refine wpQuiet_nil ?_
      rintro wq ⟨⟨w9, hq⟩, e9⟩
      have hq2 : Below wr.heap.size wr wq := by rw [e9]; exact hq
      have HQ0 := Lib.hid (HB0.out.below hq2 HB0.out.lt); have HQ1 := Lib.hid (HB1.out.below hq2 HB1.out.lt); have HQw := Lib.hid (HBw.out.trans (hq2.mono HBw.out.size))
      have HW := Lib.hid hq2
      clear hq e9 zr0 zr1 zr2 zr3 zr4 zr5 zr6 zr7 zr8 zr9 zr10 zy inst hq2
      by_cases hl : r1 < y1
      · have hlb : r1 - y1 < 0 := by omega
        have qr0 : wq.cell? (ad.add (k * 11)) = some (.string r0) := (HW.out.cell hlt).trans b0
        have qr1 : wq.cell? ⟨(ad.add (k * 11)).block, (ad.add (k * 11)).off + 1, none⟩ = some (.int .i64 r1) := (HW.out.cell (p := ⟨(ad.add (k * 11)).block, (ad.add (k * 11)).off + 1, none⟩) hlt).trans b1
        have qr2 : wq.cell? ⟨(ad.add (k * 11)).block, (ad.add (k * 11)).off + 2, none⟩ = some (.int .i64 r2) := (HW.out.cell (p := ⟨(ad.add (k * 11)).block, (ad.add (k * 11)).off + 2, none⟩) hlt).trans b2
        have qr3 : wq.cell? ⟨(ad.add (k * 11)).block, (ad.add (k * 11)).off + 3, none⟩ = some (.int .i64 r3) := (HW.out.cell (p := ⟨(ad.add (k * 11)).block, (ad.add (k * 11)).off + 3, none⟩) hlt).trans b3
        have qr4 : wq.cell? ⟨(ad.add (k * 11)).block, (ad.add (k * 11)).off + 4, none⟩ = some (.int .i64 r4) := (HW.out.cell (p := ⟨(ad.add (k * 11)).block, (ad.add (k * 11)).off + 4, none⟩) hlt).trans b4
        have qr5 : wq.cell? ⟨(ad.add (k * 11)).block, (ad.add (k * 11)).off + 5, none⟩ = some (.int .i64 r5) := (HW.out.cell (p := ⟨(ad.add (k * 11)).block, (ad.add (k * 11)).off + 5, none⟩) hlt).trans b5
        have qr6 : wq.cell? ⟨(ad.add (k * 11)).block, (ad.add (k * 11)).off + 6, none⟩ = some (.int .i64 r6) := (HW.out.cell (p := ⟨(ad.add (k * 11)).block, (ad.add (k * 11)).off + 6, none⟩) hlt).trans b6
        have qr7 : wq.cell? ⟨(ad.add (k * 11)).block, (ad.add (k * 11)).off + 7, none⟩ = some (.int .i64 r7) := (HW.out.cell (p := ⟨(ad.add (k * 11)).block, (ad.add (k * 11)).off + 7, none⟩) hlt).trans b7
        have qr8 : wq.cell? ⟨(ad.add (k * 11)).block, (ad.add (k * 11)).off + 8, none⟩ = some (.int .i64 r8) := (HW.out.cell (p := ⟨(ad.add (k * 11)).block, (ad.add (k * 11)).off + 8, none⟩) hlt).trans b8
        have qr9 : wq.cell? ⟨(ad.add (k * 11)).block, (ad.add (k * 11)).off + 9, none⟩ = some (.int .i64 r9) := (HW.out.cell (p := ⟨(ad.add (k * 11)).block, (ad.add (k * 11)).off + 9, none⟩) hlt).trans b9
        have qr10 : wq.cell? ⟨(ad.add (k * 11)).block, (ad.add (k * 11)).off + 10, none⟩ = some (.string r10) := (HW.out.cell (p := ⟨(ad.add (k * 11)).block, (ad.add (k * 11)).off + 10, none⟩) hlt).trans b10
        have fq := fun i => HQ1.out.frozen i
        have cq := fun i => HQ1.out.cell i
        have hmin : r1 = firstY (rs.take (k + 1)) := by rw [Hfs.out]; omega
        have Hmin := Lib.hid hmin
        clear hmin b0 b1 b2 b3 b4 b5 b6 b7 b8 b9 b10 hl
        go_wp2_with fail
        exact ⟨⟨k + 1, ⟨r0, r1, r2, r3, r4, r5, r6, r7, r8, r9, r10⟩, by omega, by omega, by go_num, ⟨Hmin.out, hrb1, hrb2⟩, blk_far11 HQ0.out (by omega) _ _ _ _ _ _ _ _ _ _ _, blk_set11 HQ1.out _ _ _ _ _ _ _ _ _ _ _, below_set11 HQw.out (le1 _) _ _ _ _ _ _ _ _ _ _ _⟩, by simp [intOf]; omega⟩
      · have hlb : ¬ r1 - y1 < 0 := by omega
        have hmin : y1 = firstY (rs.take (k + 1)) := by rw [Hfs.out]; omega
        have Hmin := Lib.hid hmin
        clear hmin b0 b1 b2 b3 b4 b5 b6 b7 b8 b9 b10 hl
        go_wp2_with fail
        exact ⟨⟨k + 1, ⟨y0, y1, y2, y3, y4, y5, y6, y7, y8, y9, y10⟩, by omega, by omega, by go_num, ⟨Hmin.out, hyb1, hyb2⟩, HQ0.out, HQ1.out, HQw.out⟩, by simp [intOf]; omega⟩
    · obtain rfl : k = rs.length := by omega
      have hy := Hy.out
      rw [List.take_length] at hy
      have Hy2 := Lib.hid hy
      clear hy
      obtain ⟨y0, y1, y2, y3, y4, y5, y6, y7, y8, y9, y10⟩ := y
      simp only at cy HB1 hyb1 hyb2 Hy Hy2
      have f0 := fun i => HB0.out.frozen i
      have c0 := fun i => HB0.out.cell i
      go_wp2_with fail
      refine bodyPost_ret (minf_results (blk_set11 HB0.out (.string y0) (.int .i64 y1) (.int .i64 y2) (.int .i64 y3) (.int .i64 y4) (.int .i64 y5) (.int .i64 y6) (.int .i64 y7) (.int .i64 y8) (.int .i64 y9) (.string y10)) _ rfl) rfl ?_
      exact ⟨⟨y0, y1, y2, y3, y4, y5, y6, y7, y8, y9, y10⟩, rfl, Hy2.out, below_set11 HBw.out (Nat.le_refl _) _ _ _ _ _ _ _ _ _ _ _⟩
end Go.Proofs.YtdicedpklpadgaaGreatDoor.Trn
end
