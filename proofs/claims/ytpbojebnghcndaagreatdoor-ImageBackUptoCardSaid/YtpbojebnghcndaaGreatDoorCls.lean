/-
  What a claim of this seat says of the whole program: each fact by itself (together they pass the checker's memory). Conditions: none.
-/
import Derived.Test.YtpbojebnghcndaaGreatDoorRows
import Derived.JoinedCond
import Derived.ClosedOfChecked
namespace Go.Proofs.YtpbojebnghcndaaGreatDoor.Cls
open Go.ClosedOfChecked Go.ChangeShapes Go.WideShapes Go.ChangeAt

theorem and2 {a b : Bool} (ha : a = true) (hb : b = true) : (a && b) = true := by rw [ha, hb]; rfl
theorem beq2 {α : Type} [BEq α] [LawfulBEq α] {a b : α} (h : a = b) : (a == b) = true := by rw [h]; exact beq_self_eq_true b
theorem laid : laidOutB Tryz.prog = true := by kernel_rfl
theorem rowed : mapsRowed Tryz.prog = true := by kernel_rfl
theorem keys : Tryz.prog.plainKeys = false := by kernel_rfl
theorem stops : (Tryz.prog.stops == []) = true := by kernel_rfl
theorem stopKnobs : (Tryz.prog.stopKnobs == []) = true := by kernel_rfl
theorem stopsHeard : Tryz.prog.stopsHeard = true := by kernel_rfl
theorem mayEnter : Tryz.prog.mayEnter = true := by kernel_rfl
theorem joined_of {P : Program} {f : FuncId} {fn : Func} {s : ChangeSpec} {c : OpenClaim} (hk1 : (c.wf (OpenSpec.ofChange s)) = true) (hk2 : (laidOutB P) = true) (hk3 : (mapsRowed P) = true) (hk4 : (fn.params.all (P.readableRec ·)) = true) (hk5 : (namedTie P c.named s.vars) = true) (hk6 : ((c.stops == [])) = true) (hk7 : ((P.stops == [])) = true) (hk8 : ((c.knobs == [])) = true) (hk9 : ((P.stopKnobs == [])) = true) (hk10 : ((c.inPlace == P.inPlace f)) = true) (hk11 : ((c.unfollowed == P.unfollowed f)) = true) (hk12 : ((c.recurses == P.recurses f)) = true) (hk13 : ((c.named == P.varsNamed f)) = true) (hk14 : ((c.maps == (fn.params.toList ++ s.plain.varTypes P).any (P.mapsRec ·))) = true) (hk15 : ((c.ifaces == (fn.params.toList ++ s.plain.varTypes P).any (P.ifacesRec ·))) = true) (hk16 : ((c.mapsOut == P.mapsAmong fn.resultTypes.toList)) = true) (hk17 : ((c.loops == (fn.params.toList ++ s.plain.varTypes P).any (P.loopsFrom ·))) = true) (hk17b : ((c.wideKeys == (fn.params.toList ++ s.plain.varTypes P ++ fn.resultTypes.toList).any (P.wideKeysFrom ·))) = true) (hk18 : (s.vars.all (P.varReadable ·)) = true) (hk19 : (fn.resultTypes.all (fun t => P.readableRec t && decide (t < P.types.size))) = true) (hk20 : ((c.ifacesOut == fn.resultTypes.toList.any (P.ifacesRec ·))) = true) (hk21 : ((c.loopsOut == fn.resultTypes.toList.any (P.loopsFrom ·))) = true) (hk22 : ((c.plainKeys == P.plainKeys)) = true) (hk23 : (c.shortTexts.isNone) = true) (hk23b : (P.stopsHeard) = true) (hk24 : (P.mayEnter) = true) (hk24b : ((c.lifted == P.liftsFinal)) = true) (hk24c : ((P.make == some c.make)) = true) (hk25 : ((c.kinds == (if c.domain.isEmpty then [] else fn.params.toList.map fun t => match P.underlying t with | some (.int k) => some k | _ => none))) = true) (hk26 : ((c.pinned == c.pinnedBy)) = true) (hk27 : ((c.veiled == (fn.params.toList ++ s.plain.varTypes P ++ fn.resultTypes.toList).any (P.veiledRec ·))) = true) (hk28 : (c.veiledFits P fn.params.toList (fn.params.toList ++ s.plain.varTypes P ++ fn.resultTypes.toList)) = true) : joinedFacts P f fn s c = true := by
  unfold joinedFacts
  exact and2 (and2 (and2 (and2 (and2 (and2 (and2 (and2 (and2 (and2 (and2 (and2 (and2 (and2 (and2 (and2 (and2 (and2 (and2 (and2 (and2 (and2 (and2 (and2 (and2 (and2 (and2 (and2 (and2 (and2 (and2 (hk1) hk2) hk3) hk4) hk5) hk6) hk7) hk8) hk9) hk10) hk11) hk12) hk13) hk14) hk15) hk16) hk17) hk17b) hk18) hk19) hk20) hk21) hk22) hk23) hk23b) hk24) hk24b) hk24c) hk25) hk26) hk27) hk28
end Go.Proofs.YtpbojebnghcndaaGreatDoor.Cls
