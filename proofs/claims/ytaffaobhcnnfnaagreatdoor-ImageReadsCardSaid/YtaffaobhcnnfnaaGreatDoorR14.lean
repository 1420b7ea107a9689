/-
  Whether a table may be, by the document (analemmaref14.Right), in plain words: one answer with the program's (plain).
  The contract of analemmaref14.phase. Conditions: the text's length is bounded.
-/
import Derived.Test.YtaffaobhcnnfnaaGreatDoorNrp
import Derived.Test.YtaffaobhcnnfnaaGreatDoorR10F
import Derived.Test.YtaffaobhcnnfnaaGreatDoorTail
namespace Go.Proofs.YtaffaobhcnnfnaaGreatDoor.R14
open Go.RowKit Mem Img Rgt Plc Src Civ Mom Rul

def hdB (x : Table) : Bool := placeB x.name && (phaseB x.first && (!(decide ((30000 : Int) < x.shifts.length)) && !(decide ((2 : Int) < x.tail.length))))
def lettT (s : ByteArray) : Bool := !(s.toList == [45]) && (s.toList.isEmpty || madeB s.data.toList 8 [43, 45])
def ruleT (off : Int) (r : Rule) : Bool := (r.hi == 1000000) && (setB r.name && (lettT r.letter && dayB (wrap64 (off + r.save))))
def tailT (x : Table) : Bool :=
  if x.tail.length = 0 then (x.off == 0) && x.format.toList.isEmpty
  else dayB x.off && (formatB x.format.data.toList && (rulesB x.tail && (x.tail.all (ruleT x.off) && !R11.nearR x.tail)))
/-- The document's word. -/
def rightT (x : Table) : Bool := hdB x && (shiftsB x && tailT x)

theorem lett_is (s : ByteArray) : letterB s = lettT s := by
  unfold letterB lettT
  by_cases h : s.toList = []
  · rw [decide_eq_true h, h]; rfl
  · have h2 : s.toList.isEmpty = false := by rw [List.isEmpty_eq_false_iff]; exact h
    rw [decide_eq_false h, h2, Bool.false_or, Bool.false_or]
    congr 1
    by_cases h3 : s.toList = [45]
    · rw [decide_eq_true h3, h3]; rfl
    · rw [decide_eq_false h3]
      have : (s.toList == [45]) = false := by rw [beq_eq_false_iff_ne]; exact h3
      rw [this]
theorem year_is (n : Int) : yearB n = decide (yearP n) := by
  unfold yearB yearP
  rw [← Bool.decide_and]
theorem spot_is (s : Spot) : spotB s = decide s.okP := by
  by_cases h : s.okP
  · rw [decide_eq_true h, spotB_true h]
  · rw [decide_eq_false h]
    cases hs : spotB s
    · rfl
    · exact absurd (spotB_ok hs) h
theorem rule_two (off : Int) (r : Rule) : (tailR off r && ruleR r) = (Rul.ruleB r && ruleT off r) := by
  unfold tailR ruleR ruleT Rul.ruleB
  rw [lett_is, year_is, year_is, spot_is]
  have h : decide (ruleP r) = (decide (yearP r.lo) && ((decide (yearP r.hi) || decide (r.hi = 1000000)) && (decide (spotOf r).okP && savingB r.save))) := by
    unfold ruleP savingB
    rw [← Bool.decide_and, ← Bool.decide_and, ← Bool.decide_or, ← Bool.decide_and, ← Bool.decide_and]
  rw [h]
  have h2 : decide (r.hi = 1000000) = (r.hi == 1000000) := by rw [Bool.eq_iff_iff]; simp
  rw [h2]
  generalize dayB (wrap64 (off + r.save)) = a1
  generalize (r.hi == 1000000) = a2
  generalize setB r.name = a3
  generalize decide (yearP r.lo) = a4
  generalize decide (yearP r.hi) = a5
  generalize decide (spotOf r).okP = a6
  generalize savingB r.save = a7
  generalize lettT r.letter = a8
  cases a1 <;> cases a2 <;> cases a3 <;> cases a4 <;> cases a5 <;> cases a6 <;> cases a7 <;> cases a8 <;> rfl
theorem rules_two (off : Int) (rs : List Rule) : (rs.all (tailR off) && rs.all ruleR) = (rulesB rs && rs.all (ruleT off)) := by
  unfold rulesB
  induction rs with
  | nil => rfl
  | cons a l ih =>
    rw [List.all_cons, List.all_cons, List.all_cons, List.all_cons]
    have h := rule_two off a
    generalize tailR off a = b1 at *
    generalize ruleR a = b2 at *
    generalize Rul.ruleB a = b3 at *
    generalize ruleT off a = b4 at *
    generalize l.all (tailR off) = c1 at *
    generalize l.all ruleR = c2 at *
    generalize l.all Rul.ruleB = c3 at *
    generalize l.all (ruleT off) = c4 at *
    revert h ih
    revert b1 b2 b3 b4 c1 c2 c3 c4
    decide
theorem src_try (x : Table) : srcB (tryOf x) = (!decide (200 < x.tail.length) && (x.tail.all ruleR && (placeB x.name && (dayB x.off && formatB x.format.data.toList)))) := by
  unfold srcB tryOf
  simp only [List.length_singleton, List.length_nil, List.all_cons, List.all_nil, Bool.and_true]
  have h : zoneB ⟨x.name, [eraOf x], none, 0⟩ = (placeB x.name && (dayB x.off && formatB x.format.data.toList)) := by
    unfold zoneB
    simp only [List.length_singleton, erasOk, List.getElem?_cons_zero]
    have he : eraB (eraOf x) = (dayB x.off && formatB x.format.data.toList) := by
      unfold eraB kindB tillB eraOf
      simp
    rw [he]
    have h2 : ((eraOf x).till == decide (((0 : Nat) : Int) < ((1 : Nat) : Int) - 1)) = true := rfl
    rw [h2]
    have h3 : (!(((1 : Nat) : Int) == 0)) = true := rfl
    have h4 : (!decide ((40 : Int) < ((1 : Nat) : Int))) = true := rfl
    rw [h3, h4, Bool.true_and, Bool.true_and, Bool.true_and, Bool.and_true]
  rw [h]
  have h5 : (!decide (50 < 1)) = true := rfl
  have h6 : (!decide (100 < 0)) = true := rfl
  rw [h5, h6, Bool.true_and, Bool.and_true]
theorem crowd_two {rs : List Rule} (h : rs.length ≤ 10) : crowdB rs = false := by
  unfold crowdB
  have : (rs.any fun x => decide (10 < crowdAt rs x)) = false := by
    rw [List.any_eq_false]
    intro x _
    have : crowdAt rs x ≤ rs.length := List.length_filter_le _ _
    simp only [decide_eq_true_eq]
    omega
  rw [this, Bool.and_false]
theorem tail_two (x : Table) (hp : placeB x.name = true) : (!(decide ((2 : Int) < x.tail.length)) && tailT x) = tailB x := by
  unfold tailT tailB
  by_cases h0 : x.tail.length = 0
  · rw [if_pos h0, if_pos h0, decide_eq_false (by omega)]; rfl
  · rw [if_neg h0, if_neg h0, src_try, hp, Bool.true_and]
    by_cases h2 : x.tail.length ≤ 2
    · rw [decide_eq_false (show ¬ ((2 : Int) < x.tail.length) by omega), decide_eq_true h2, decide_eq_false (show ¬ 200 < x.tail.length by omega)]
      have hr := rules_two x.off x.tail
      have hn : rulesB x.tail = true → R11.nearR x.tail = nearB x.tail := fun h => R11.near_same h (crowd_two (by omega)) (fun e => h0 (by rw [e]; rfl))
      generalize x.tail.all (tailR x.off) = c1 at *
      generalize x.tail.all ruleR = c2 at *
      generalize rulesB x.tail = c3 at *
      generalize x.tail.all (ruleT x.off) = c4 at *
      generalize R11.nearR x.tail = n1 at *
      generalize nearB x.tail = n2 at *
      generalize dayB x.off = d1 at *
      generalize formatB x.format.data.toList = d2 at *
      revert hr hn
      revert c1 c2 c3 c4 n1 n2 d1 d2
      decide
    · rw [decide_eq_true (show ((2 : Int) < x.tail.length) by omega), decide_eq_false h2]
      simp
/-- The document's word, and the program's. -/
theorem right_is (x : Table) : rightT x = rightB x (tailB x) := by
  unfold rightT rightB hdB
  cases hp : placeB x.name
  · rfl
  · rw [← tail_two x hp]
    generalize phaseB x.first = a1
    generalize decide ((30000 : Int) < x.shifts.length) = a2
    generalize decide ((2 : Int) < x.tail.length) = a3
    generalize shiftsB x = a4
    generalize tailT x = a5
    revert a1 a2 a3 a4 a5
    decide
end Go.Proofs.YtaffaobhcnnfnaaGreatDoor.R14
