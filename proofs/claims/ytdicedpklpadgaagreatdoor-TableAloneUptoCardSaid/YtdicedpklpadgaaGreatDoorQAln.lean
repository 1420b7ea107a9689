/-
  A zone's table hangs on the zone and its sets alone (plain). Conditions: none.
-/
import Derived.Test.YtdicedpklpadgaaGreatDoorZ35
set_option linter.all false
namespace Go.Proofs.YtdicedpklpadgaaGreatDoor.Cmq
open Go.RowKit Mem Civ Mom Img Plc Rul Ahd Trn Src Snd Att Rgt Abr

theorem lastE_part {s : Src} {z : ZoneM} {x : Era} (h : x ∈ z.eras) (y : Int) : lastE (partS s z).rules y x = lastE s.rules y x := by
  unfold lastE
  rw [part_set ⟨x, h, rfl⟩]
theorem lastZ_part' {s : Src} {z : ZoneM} : ∀ (es : List Era) (y : Int), (∀ x ∈ es, x ∈ z.eras) → es.foldl (lastE (partS s z).rules) y = es.foldl (lastE s.rules) y
  | [], _, _ => rfl
  | x :: es, y, h => by
    rw [List.foldl_cons, List.foldl_cons, lastE_part (h x (by simp)), lastZ_part' es _ fun u hu => h u (by simp [hu])]
theorem lastZ_part (s : Src) (z : ZoneM) : lastZ (partS s z).rules z.eras = lastZ s.rules z.eras := lastZ_part' _ _ fun _ h => h
theorem phaseE_part {s : Src} {z : ZoneM} {x : Era} (h : x ∈ z.eras) (t : Int) : phaseE (partS s z).rules x t = phaseE s.rules x t := by
  have : savE (partS s z).rules x t = savE s.rules x t := by
    unfold savE
    rw [part_setOf h]
  unfold phaseE
  rw [this]
theorem turnsE_part {s : Src} {z : ZoneM} {x : Era} (h : x ∈ z.eras) (y : Int) : turnsE (partS s z).rules y x = turnsE s.rules y x := by
  unfold turnsE
  rw [part_set ⟨x, h, rfl⟩]
theorem eraEnd_part {s : Src} {z : ZoneM} {x : Era} (h : x ∈ z.eras) : eraEnd (partS s z) x = eraEnd s x := part_endP h
theorem eraPut_part {s : Src} {z : ZoneM} {x : Era} (h : x ∈ z.eras) (first : Phase) (till year : Int) (i : Bool) (m : (List Shift × Bool) × Int) : eraPut (partS s z) first till year i m x = eraPut s first till year i m x := by
  unfold eraPut
  rw [turnsE_part h, eraEnd_part h, phaseE_part h]
theorem erasPut_part {s : Src} {z : ZoneM} (first : Phase) (till year : Int) : ∀ (es : List Era) (i : Bool) (m : (List Shift × Bool) × Int), (∀ x ∈ es, x ∈ z.eras) → erasPut (partS s z) first till year es i m = erasPut s first till year es i m
  | [], _, _, _ => rfl
  | x :: es, i, m, h => by
    rw [erasPut, erasPut, eraPut_part (h x (by simp)), erasPut_part first till year es _ _ fun u hu => h u (by simp [hu])]
theorem firstZ_part (s : Src) (z : ZoneM) : firstZ (partS s z).rules z.eras = firstZ s.rules z.eras := by
  cases hz : z.eras with
  | nil => rfl
  | cons x es => exact phaseE_part (by rw [hz]; simp) _
theorem madeZ_part (s : Src) (z : ZoneM) : madeZ (partS s z) z = madeZ s z := by
  unfold madeZ
  rw [firstZ_part, lastZ_part, erasPut_part _ _ _ _ _ _ fun _ h => h]
theorem tailZ_part (s : Src) (z : ZoneM) : tailZ (partS s z).rules z.eras = tailZ s.rules z.eras := by
  unfold tailZ
  cases hl : z.eras.getLast? with
  | none => rfl
  | some e =>
    show (setL (partS s z).rules e.rules).filter _ = _
    rw [part_set ⟨e, List.mem_of_getLast? hl, rfl⟩]
theorem tableZ_part (s : Src) (z : ZoneM) : tableZ (partS s z) z = tableZ s z := by
  unfold tableZ
  rw [firstZ_part, lastZ_part, madeZ_part, tailZ_part]
  unfold offZ formatZ
  rw [tailZ_part]
/-- The table of a zone alone. -/
theorem compile_part {s : Src} {i : Nat} {z : ZoneM} (h : checkB s = noFlaw) (hz : s.zones[i]? = some z) : compileP (partS s z) 0 = compileP s i := by
  have hm := List.mem_of_getElem? hz
  have e1 : (partS s z).zones[(0 : Int).toNat]? = some z := rfl
  have e2 : s.zones[((i : Nat) : Int).toNat]? = some z := by simpa using hz
  unfold compileP
  rw [if_pos ⟨part_clean h hm, Int.le_refl _⟩, if_pos ⟨h, by omega⟩, e1, e2]
  simp only
  rw [madeZ_part, tableZ_part]
end Go.Proofs.YtdicedpklpadgaaGreatDoor.Cmq
