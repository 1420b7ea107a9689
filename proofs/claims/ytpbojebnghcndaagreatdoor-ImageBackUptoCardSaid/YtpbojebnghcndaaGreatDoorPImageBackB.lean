/-
  The given statement Rows.ImageBackUptoCardSaid: the law returns true for every argument; the card's tie is the given one. Conditions: the second form's bound, as the row says.
  The frame follows the seat's worked toy of a law over a package-level table; wip/frame.py wrote it.
-/
import Derived.Test.YtpbojebnghcndaaGreatDoorCards
import Derived.Test.YtpbojebnghcndaaGreatDoorTie
import Derived.WalkKit
import Derived.ProofKit
import Derived.OpenShut
import Derived.Deep.DeepHandedRow
import Derived.Shelf.Vars
import Derived.Test.YtpbojebnghcndaaGreatDoorPImageBackA
import Derived.Test.YtpbojebnghcndaaGreatDoorWitB
import Derived.Test.YtpbojebnghcndaaGreatDoorOpnT
import Derived.Test.YtpbojebnghcndaaGreatDoorCls
import Derived.JoinedCond
namespace Go.Proofs.YtpbojebnghcndaaGreatDoor.imageBack
open Go.ChangeShapes Go.WideShapes Go.ChangeAt Go.ChangeMaps Go.RowKit
set_option linter.unusedVariables false

theorem k1 : (Rows.imageBackUptoRow.wf (OpenSpec.ofChange (Rows.OpenSpec.upto Rows.imageBackSpec).bare)) = true := by kernel_rfl
theorem k4 : (Tryz.f3.params.all (Tryz.prog.readableRec ·)) = true := by kernel_rfl
theorem k5 : (namedTie Tryz.prog Rows.imageBackUptoRow.named (Rows.OpenSpec.upto Rows.imageBackSpec).bare.vars) = true := by kernel_rfl
theorem k6 : ((Rows.imageBackUptoRow.stops == [])) = true := by kernel_rfl
theorem k8 : ((Rows.imageBackUptoRow.knobs == [])) = true := by kernel_rfl
theorem k10 : ((Rows.imageBackUptoRow.inPlace == Tryz.prog.inPlace 3)) = true := by kernel_rfl
theorem k11 : ((Rows.imageBackUptoRow.unfollowed == Tryz.prog.unfollowed 3)) = true := by kernel_rfl
theorem k12 : ((Rows.imageBackUptoRow.recurses == Tryz.prog.recurses 3)) = true := by kernel_rfl
theorem k13 : ((Rows.imageBackUptoRow.named == Tryz.prog.varsNamed 3)) = true := by kernel_rfl
theorem k14 : ((Rows.imageBackUptoRow.maps == (Tryz.f3.params.toList ++ (Rows.OpenSpec.upto Rows.imageBackSpec).bare.plain.varTypes Tryz.prog).any (Tryz.prog.mapsRec ·))) = true := by kernel_rfl
theorem k15 : ((Rows.imageBackUptoRow.ifaces == (Tryz.f3.params.toList ++ (Rows.OpenSpec.upto Rows.imageBackSpec).bare.plain.varTypes Tryz.prog).any (Tryz.prog.ifacesRec ·))) = true := by kernel_rfl
theorem k16 : ((Rows.imageBackUptoRow.mapsOut == Tryz.prog.mapsAmong Tryz.f3.resultTypes.toList)) = true := by kernel_rfl
theorem k17 : ((Rows.imageBackUptoRow.loops == (Tryz.f3.params.toList ++ (Rows.OpenSpec.upto Rows.imageBackSpec).bare.plain.varTypes Tryz.prog).any (Tryz.prog.loopsFrom ·))) = true := by kernel_rfl
theorem k17b : ((Rows.imageBackUptoRow.wideKeys == (Tryz.f3.params.toList ++ (Rows.OpenSpec.upto Rows.imageBackSpec).bare.plain.varTypes Tryz.prog ++ Tryz.f3.resultTypes.toList).any (Tryz.prog.wideKeysFrom ·))) = true := by kernel_rfl
theorem k18 : ((Rows.OpenSpec.upto Rows.imageBackSpec).bare.vars.all (Tryz.prog.varReadable ·)) = true := by kernel_rfl
theorem k19 : (Tryz.f3.resultTypes.all (fun t => Tryz.prog.readableRec t && decide (t < Tryz.prog.types.size))) = true := by kernel_rfl
theorem k20 : ((Rows.imageBackUptoRow.ifacesOut == Tryz.f3.resultTypes.toList.any (Tryz.prog.ifacesRec ·))) = true := by kernel_rfl
theorem k21 : ((Rows.imageBackUptoRow.loopsOut == Tryz.f3.resultTypes.toList.any (Tryz.prog.loopsFrom ·))) = true := by kernel_rfl
theorem k23 : (Rows.imageBackUptoRow.shortTexts.isNone) = true := by kernel_rfl
theorem k24b : ((Rows.imageBackUptoRow.lifted == Tryz.prog.liftsFinal)) = true := by kernel_rfl
theorem k24c : ((Tryz.prog.make == some Rows.imageBackUptoRow.make)) = true := by kernel_rfl
theorem k25 : ((Rows.imageBackUptoRow.kinds == (if Rows.imageBackUptoRow.domain.isEmpty then [] else Tryz.f3.params.toList.map fun t => match Tryz.prog.underlying t with | some (.int k) => some k | _ => none))) = true := by kernel_rfl
theorem k26 : ((Rows.imageBackUptoRow.pinned == Rows.imageBackUptoRow.pinnedBy)) = true := by kernel_rfl
theorem k27 : ((Rows.imageBackUptoRow.veiled == (Tryz.f3.params.toList ++ (Rows.OpenSpec.upto Rows.imageBackSpec).bare.plain.varTypes Tryz.prog ++ Tryz.f3.resultTypes.toList).any (Tryz.prog.veiledRec ·))) = true := by kernel_rfl
theorem k28 : (Rows.imageBackUptoRow.veiledFits Tryz.prog Tryz.f3.params.toList (Tryz.f3.params.toList ++ (Rows.OpenSpec.upto Rows.imageBackSpec).bare.plain.varTypes Tryz.prog ++ Tryz.f3.resultTypes.toList)) = true := by kernel_rfl
theorem k22 : (Rows.imageBackUptoRow.plainKeys == Tryz.prog.plainKeys) = true := by rw [Cls.keys]; rfl
set_option maxRecDepth 100000 in
theorem closed : joinedFacts Tryz.prog 3 Tryz.f3 (Rows.OpenSpec.upto Rows.imageBackSpec).bare Rows.imageBackUptoRow = true :=
  Cls.joined_of (P := Tryz.prog) (f := 3) (fn := Tryz.f3) (s := (Rows.OpenSpec.upto Rows.imageBackSpec).bare) (c := Rows.imageBackUptoRow) k1 Cls.laid Cls.rowed k4 k5 k6 Cls.stops k8 Cls.stopKnobs k10 k11 k12 k13 k14 k15 k16 k17 k17b k18 k19 k20 k21 k22 k23 Cls.stopsHeard Cls.mayEnter k24b k24c k25 k26 k27 k28
theorem said : Rows.ImageBackUptoSaid :=
  OpenClaim.holds_of_cond 3 Tryz.f3 rfl rfl rfl rfl rfl rfl rfl ⟨rfl, rfl, rfl, rfl, rfl⟩ rfl rfl rfl rfl rfl (by kernel_rfl) Tryz.func3 closed
    (of_decide_eq_true (by kernel_rfl)) (by unfold Func.isWrapper; first | (rw [if_pos (by decide +kernel)]; kernel_rfl) | (rw [if_neg (by decide +kernel)]; exact ⟨rfl, rfl⟩))
    (fun os started H enc _ F => by rw [OpenClaim.pre_eq_preRow]; exact lifted os started H enc F)
end Go.Proofs.YtpbojebnghcndaaGreatDoor.imageBack
