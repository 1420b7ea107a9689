/-
  The given statement Rows.ImageBackUptoCardSaid: the law returns true for every argument; the card's tie is the given one. Conditions: the second form's bound, as the row says.
  The frame follows the seat's worked toy of a law over a package-level table; wip/frame.py wrote it.
-/
import Derived.Test.YtpbojebnghcndaaGreatDoorCards
import Derived.Test.YtpbojebnghcndaaGreatDoorTie
import Derived.WalkKit
import Derived.ProofKit
import Derived.OpenShut
import Derived.Deep.DeepHandedRow
import Derived.Shelf.Vars
import Derived.Test.YtpbojebnghcndaaGreatDoorPImageBackB
import Derived.Test.YtpbojebnghcndaaGreatDoorCls2
import Derived.Test.YtpbojebnghcndaaGreatDoorWitB
import Derived.Test.YtpbojebnghcndaaGreatDoorOpnT
namespace Go.Proofs.YtpbojebnghcndaaGreatDoor.imageBack
open Go.ChangeShapes Go.WideShapes Go.ChangeAt Go.ChangeMaps Go.RowKit
set_option linter.unusedVariables false

theorem wfT : Rows.imageBackUptoRow.wfByText (Rows.OpenSpec.upto Rows.imageBackSpec) = true := by kernel_rfl
theorem goes : false = Rows.imageBackUptoRow.goesBy Tryz.prog := by kernel_rfl
theorem named_ : Tryz.prog.funcNamed "analemma/analemmalaw15.ImageBack" = some 3 := by kernel_rfl
theorem plain (f : FuncId) (fn : Func) (hf : Tryz.pinned.checked.prog.funcNamed "analemma/analemmalaw15.ImageBack" = some f) (hfn : Tryz.pinned.checked.prog.funcs[f]? = some fn) :
    true = Tryz.pinned.checked.prog.looks [] ∧ ∀ (j : Nat) t, fn.params[j]? = some t → Tryz.pinned.checked.prog.wantsStandIn t = false := by
  obtain rfl : f = 3 := Option.some.inj (named_.symm.trans hf) |>.symm
  obtain rfl : fn = Tryz.f3 := (Option.some.inj (Tryz.func3.symm.trans hfn)).symm
  refine ⟨Cls.looks, fun j t ht => ?_⟩
  rw [Tryz.params3] at ht
  have hm := Array.mem_of_getElem? ht
  simp only [List.mem_toArray, List.mem_cons, List.not_mem_nil, or_false] at hm
  rcases hm with rfl | rfl | rfl
  · exact Cls.inTable
  · exact Cls.inString
  · exact Cls.inInt64
/-- ████ THE CARD ████ -/
theorem proved : Rows.ImageBackUptoCardSaid :=
  Claim7.holds_tied_plain_at .later [] _ _ _ _ said (fun _ h => by cases h) wfT (fun _ h => by cases h) imageBackUpto_row_tie rfl ⟨rfl, rfl⟩ Cls.mainI rfl plain goes
#print axioms proved
end Go.Proofs.YtpbojebnghcndaaGreatDoor.imageBack
