/-
  What a claim of this seat says of the whole program, second part: the card's words. Conditions: none.
-/
import Derived.Test.YtpbojebnghcndaaGreatDoorCards
import Derived.Deep.DeepHandedRow
namespace Go.Proofs.YtpbojebnghcndaaGreatDoor.Cls
open Go.ChangeShapes Go.WideShapes Go.ChangeAt

theorem looks : true = Tryz.prog.looks [] := by kernel_rfl
theorem mainI : Tryz.prog.mainIs = some (true, "60e7d201ccd7d439c13a50c889593db6bde5cc10126984e681ac69ba9eb9a053".toList) := by kernel_rfl
theorem inTable : Tryz.prog.wantsStandIn 27 = false := by kernel_rfl
theorem inString : Tryz.prog.wantsStandIn 9 = false := by kernel_rfl
theorem inInt64 : Tryz.prog.wantsStandIn 2 = false := by kernel_rfl
theorem inInt : Tryz.prog.wantsStandIn 3 = false := by kernel_rfl
theorem inSource : Tryz.prog.wantsStandIn 42 = false := by kernel_rfl
theorem inUint32 : Tryz.prog.wantsStandIn 79 = false := by kernel_rfl
end Go.Proofs.YtpbojebnghcndaaGreatDoor.Cls
