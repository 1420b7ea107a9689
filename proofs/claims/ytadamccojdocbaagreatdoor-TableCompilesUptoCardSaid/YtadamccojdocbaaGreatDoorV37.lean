/-
  Contracts of the code that the law reaches, and plain laws. Conditions: as each says.
-/
import Derived.Test.YtadamccojdocbaaGreatDoorV36
set_option linter.all false
set_option maxHeartbeats 40000000
set_option maxRecDepth 100000
namespace Go.Proofs.YtadamccojdocbaaGreatDoor
open Go.Proofs.Tryz
section
namespace Wit
open Go.RowKit
theorem laid_met (os:Os) (args:Array Value):laidMet prog Rows.tableCompilesUptoRow.laid ((laidWorld os).forCall (fun _ _=>0) ⟨#[],args,[]⟩).memory:=
 laidMet_of_run' 8 (by kernel_rfl) (by kernel_rfl)
end Wit
end
end Go.Proofs.YtadamccojdocbaaGreatDoor
