/-
  Layer 15's rows: the two listed tables are laid in the witness' world. Conditions: none.
-/
import Derived.Test.YtpbojebnghcndaaGreatDoorWit
namespace Go.Proofs.YtpbojebnghcndaaGreatDoor.Wit
open Go.RowKit

set_option maxRecDepth 100000 in
theorem laid_met (os : Os) (args : Array Value) : laidMet Tryz.prog Rows.imageBackUptoRow.laid ((laidWorld os).forCall (fun _ _ => 0) ⟨#[], args, []⟩).memory :=
  laidMet_of_run' 8 (by kernel_rfl) (by kernel_rfl)
end Go.Proofs.YtpbojebnghcndaaGreatDoor.Wit
