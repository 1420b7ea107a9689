/-
  Package eras: the contracts of (era).ahead and (era).end, whatever rules.Ahead answers. Conditions: what the set's slice holds is read.
-/
import Derived.Test.YtgfdmjldfahbpaaGreatDoorSndS
namespace Go.Proofs.YtgfdmjldfahbpaaGreatDoor.Snd
open Go.RowKit Mem Civ Mom Img Plc Rul Src Go.Maps

/-- An era with its set, as a value. -/
def eraV (x : Era) (A : Option Addr) (n c : Nat) : Array Value :=
  #[.int .i64 x.off, .int .i64 x.kind, .int .i64 x.save, .string x.rules, .string x.format, .bool x.till, .int .i64 x.year, .int .i64 x.spot.month, .int .i64 x.spot.kind, .int .i64 x.spot.weekday, .int .i64 x.spot.day, .int .i64 x.spot.time, .int .i64 x.spot.ref, .slice A n c]
/-- rules.Ahead answers, whose saving is sv. -/
def AheadAt (A : Option Addr) (n c : Nat) (t sv : Int) (w : World) : Prop :=
  ∀ z, Below w.heap.size w z → Calls Tryz.prog 138 #[.slice A n c, .int .i64 t] z fun e w' => ∃ (a r : Int) (s : ByteArray) (b : Bool), e = .returned (.tuple #[.agg #[.int .i64 a, .int .i64 r, .int .i64 sv, .string s], .bool b]) ∧ Below z.heap.size z w'
def savI (x : Era) (sv : Int) : Int := if x.kind = 2 then sv else x.save
set_option maxHeartbeats 1000000 in
set_option maxRecDepth 100000 in
theorem ahead_any (x : Era) (A : Option Addr) (n c : Nat) (t sv : Int) (w : World) (hA : x.kind = 2 → AheadAt A n c t sv w) :
    Calls Tryz.prog 124 #[.agg (eraV x A n c), .int .i64 t] w fun e w' => e = .returned (.int .i64 (savI x sv)) ∧ Below w.heap.size w w' := by
  have hone := One.new w 113 (eraV x A n c)
  obtain ⟨x0, x1, x2, x3, x4, x5, x6, ⟨y0, y1, y2, y3, y4, y5⟩⟩ := x
  unfold savI
  simp only [eraV] at hone hA ⊢
  obtain ⟨W, hW⟩ : ∃ W, w.alloc (.cells #[.int .i64 x0, .int .i64 x1, .int .i64 x2, .string x3, .string x4, .bool x5, .int .i64 x6, .int .i64 y0, .int .i64 y1, .int .i64 y2, .int .i64 y3, .int .i64 y4, .int .i64 y5, .slice A n c] 113) = W := ⟨_, rfl⟩
  rw [hW] at hone
  have HO := Lib.hid hone
  have c0 := fun i => hone.1.cell i
  clear hone
  go_enter Tryz.func124, Tryz.ntmps124
  by_cases h2 : x1 = 2
  · have HA := Lib.hid (hA h2)
    rw [if_pos h2]
    subst h2
    clear hA
    go_wp2_with (go_at_call 138; refine (HA.out _ HO.out.2).mono ?_; rintro e w1 ⟨a, r, s, b, rfl, hb⟩; have HB := Lib.hid (HO.out.step hb); clear hb)
    go_ret
    exact ⟨rfl, HB.out.2.alloc HB.out.2.size _⟩
  · have h2b : (x1 == 2) = false := by simp [h2]
    rw [if_neg h2]
    clear hA h2
    go_wp2_with fail
    go_ret
    exact ⟨rfl, HO.out.2⟩
def endT (x : Era) : Int := (localO x.spot x.year).getD 0
def endA (x : Era) : Int := if x.spot.ref = 2 then endT x else wrap64 (endT x - x.off)
def endI (x : Era) (sv : Int) : Int := if x.spot.ref = 0 then wrap64 (endA x - savI x sv) else endA x
/-- When an era ends, the saving ahead of it being sv. -/
def endO (x : Era) (sv : Int) : Value := if x.till = true then .tuple #[.int .i64 (endI x sv), .bool true] else .tuple #[.int .i64 0, .bool false]
set_option maxHeartbeats 2000000 in
set_option maxRecDepth 100000 in
theorem end_any (x : Era) (A : Option Addr) (n c : Nat) (sv : Int) (w : World) (hA : x.till = true → x.kind = 2 → AheadAt A n c (endT x) sv w) :
    Calls Tryz.prog 103 #[.agg (eraV x A n c)] w fun e w' => e = .returned (endO x sv) ∧ Below w.heap.size w w' := by
  have hone := One.new w 113 (eraV x A n c)
  have HAh := Lib.hid (fun (ht : x.till = true) z (hb : Below w.heap.size w z) => ahead_any x A n c (endT x) sv z (fun hk z2 hb2 => hA ht hk z2 (hb.trans (hb2.mono hb.size))))
  have HL := Lib.hid (fun z => local_any x.spot x.year z)
  clear hA
  obtain ⟨T, hT⟩ : ∃ T, endT x = T := ⟨_, rfl⟩
  obtain ⟨S, hS⟩ : ∃ S, savI x sv = S := ⟨_, rfl⟩
  unfold endO endI endA
  rw [hT, hS] at HAh
  rw [hT, hS]
  obtain ⟨q, hq⟩ : ∃ q, (localO x.spot x.year).isSome = q := ⟨_, rfl⟩
  have hd : dayV (localO x.spot x.year) = .tuple #[.int .i64 T, .bool q] := by
    rw [← hT, ← hq]
    unfold endT
    cases localO x.spot x.year <;> rfl
  rw [hd] at HL
  clear hd hq hT hS
  obtain ⟨x0, x1, x2, x3, x4, x5, x6, ⟨y0, y1, y2, y3, y4, y5⟩⟩ := x
  simp only [eraV, Spot.cells] at hone HAh HL ⊢
  obtain ⟨W, hW⟩ : ∃ W, w.alloc (.cells #[.int .i64 x0, .int .i64 x1, .int .i64 x2, .string x3, .string x4, .bool x5, .int .i64 x6, .int .i64 y0, .int .i64 y1, .int .i64 y2, .int .i64 y3, .int .i64 y4, .int .i64 y5, .slice A n c] 113) = W := ⟨_, rfl⟩
  rw [hW] at hone
  have HO := Lib.hid hone
  have c0 := fun i => hone.1.cell i
  clear hone
  go_enter Tryz.func103, Tryz.ntmps103
  cases x5
  · go_wp2_with fail
    go_ret2
    exact ⟨rfl, HO.out.2⟩
  · have HA := Lib.hid (HAh.out rfl)
    clear HAh
    by_cases h2 : y5 = 2
    · subst h2
      go_wp2_with (go_at_call 120; refine (HL.out _).mono ?_; rintro e w1 ⟨rfl, hb⟩; have ho := HO.out.step hb; have c1 := fun i => ho.1.cell i; have HO1 := Lib.hid ho; clear hb ho)
      go_ret2
      exact ⟨rfl, HO1.out.2⟩
    · have h2b : (y5 == 2) = false := by simp [h2]
      by_cases h0 : y5 = 0
      · subst h0
        clear h2 h2b
        go_wp2_with (first
          | (go_at_call 120; refine (HL.out _).mono ?_; rintro e w1 ⟨rfl, hb⟩; have ho := HO.out.step hb; have c1 := fun i => ho.1.cell i; have HO1 := Lib.hid ho; clear hb ho)
          | (go_at_call 124; refine (HA.out _ HO1.out.2).mono ?_; rintro e w2 ⟨rfl, hb⟩; have HO2 := Lib.hid (HO1.out.step hb); clear hb))
        go_ret2
        exact ⟨rfl, HO2.out.2⟩
      · have h0b : (y5 == 0) = false := by simp [h0]
        simp only [if_neg h2, if_neg h0]
        clear h2 h0
        go_wp2_with (go_at_call 120; refine (HL.out _).mono ?_; rintro e w1 ⟨rfl, hb⟩; have ho := HO.out.step hb; have c1 := fun i => ho.1.cell i; have HO1 := Lib.hid ho; clear hb ho)
        go_ret2
        exact ⟨rfl, HO1.out.2⟩
end Go.Proofs.YtgfdmjldfahbpaaGreatDoor.Snd
