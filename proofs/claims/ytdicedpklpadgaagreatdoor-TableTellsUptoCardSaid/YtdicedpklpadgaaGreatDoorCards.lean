/-
  DERIVED. GIVEN WITH THE SEED: THE CARDS: each row of YtdicedpklpadgaaGreatDoorRows.lean that lists a variable, with what it lists TIED to the program's text (the seventh form; the later family's looks); each row that meets fmt, with fmt's text TOLD by the authors' own Lean function (tested against real Go, not proved from fmt's source: count such statements apart). THE CARD IS WHAT COUNTS. Prove the row's statement (the work); the ties are given (YtdicedpklpadgaaGreatDoorTie.lean); close each card by the builder's one call (the guide's Derived/Test/ToyasCard.lean, 'card_holds'). Laid BY PROGRAM, IN A SANDBOX (cutbox-door.mjs). By AI agents, Wed Nov 11 2026. No macro, syntax, notation, axiom, sorry.
-/
import Derived.Test.YtdicedpklpadgaaGreatDoorRows
import GoSem.ClaimSeven
namespace Go.Proofs.YtdicedpklpadgaaGreatDoor
namespace Rows

/-- THE TIED CARD OF 'analemmalaw14.TableCompiles'. -/
def tableCompilesCard : Claim7 := { stood := { row := tableCompilesRow, standIns := [], harness := (true, "b3115fe9c06b2e2430a48a197ea6f03867c6b828ab99f68adb172ece7791609f"), looks := false }, kinds := [], alts := [], laidByText := true, laidKinds := [.data, .pinned], laidTests := true, laidLooks := .later }
def TableCompilesCardSaid : Prop := Claim7.holds Tryz.pinned (.plain (OpenSpec.ofChange tableCompilesSpec)) tableCompilesCard

/-- THE TIED CARD OF 'analemmalaw14.TableTells'. -/
def tableTellsCard : Claim7 := { stood := { row := tableTellsRow, standIns := [], harness := (true, "b3115fe9c06b2e2430a48a197ea6f03867c6b828ab99f68adb172ece7791609f"), looks := false }, kinds := [], alts := [], laidByText := true, laidKinds := [.data, .pinned], laidTests := true, laidLooks := .later }
def TableTellsCardSaid : Prop := Claim7.holds Tryz.pinned (.plain (OpenSpec.ofChange tableTellsSpec)) tableTellsCard

/-- THE TIED CARD OF 'analemmalaw14.TableSames'. -/
def tableSamesCard : Claim7 := { stood := { row := tableSamesRow, standIns := [], harness := (true, "b3115fe9c06b2e2430a48a197ea6f03867c6b828ab99f68adb172ece7791609f"), looks := false }, kinds := [], alts := [], laidByText := true, laidKinds := [.data, .pinned], laidTests := true, laidLooks := .later }
def TableSamesCardSaid : Prop := Claim7.holds Tryz.pinned (.plain (OpenSpec.ofChange tableSamesSpec)) tableSamesCard

/-- THE TIED CARD OF 'analemmalaw14.TableMeans'. -/
def tableMeansCard : Claim7 := { stood := { row := tableMeansRow, standIns := [], harness := (true, "b3115fe9c06b2e2430a48a197ea6f03867c6b828ab99f68adb172ece7791609f"), looks := false }, kinds := [], alts := [], laidByText := true, laidKinds := [.data, .pinned], laidTests := true, laidLooks := .later }
def TableMeansCardSaid : Prop := Claim7.holds Tryz.pinned (.plain (OpenSpec.ofChange tableMeansSpec)) tableMeansCard

/-- THE TIED CARD OF 'analemmalaw14.TableRefuses'. -/
def tableRefusesCard : Claim7 := { stood := { row := tableRefusesRow, standIns := [], harness := (true, "b3115fe9c06b2e2430a48a197ea6f03867c6b828ab99f68adb172ece7791609f"), looks := false }, kinds := [], alts := [], laidByText := true, laidKinds := [.data, .pinned], laidTests := true, laidLooks := .later }
def TableRefusesCardSaid : Prop := Claim7.holds Tryz.pinned (.plain (OpenSpec.ofChange tableRefusesSpec)) tableRefusesCard

/-- THE TIED CARD OF 'analemmalaw14.TableAlone'. -/
def tableAloneCard : Claim7 := { stood := { row := tableAloneRow, standIns := [], harness := (true, "b3115fe9c06b2e2430a48a197ea6f03867c6b828ab99f68adb172ece7791609f"), looks := false }, kinds := [], alts := [], laidByText := true, laidKinds := [.data, .pinned], laidTests := true, laidLooks := .later }
def TableAloneCardSaid : Prop := Claim7.holds Tryz.pinned (.plain (OpenSpec.ofChange tableAloneSpec)) tableAloneCard

/-- THE SECOND FORM's CARD OF 'analemmalaw14.TableCompiles'. -/
def tableCompilesUptoCard : Claim7 := { stood := { row := tableCompilesUptoRow, standIns := [], harness := (true, "b3115fe9c06b2e2430a48a197ea6f03867c6b828ab99f68adb172ece7791609f"), looks := false }, kinds := [], alts := [], laidByText := true, laidKinds := [.data, .pinned], laidTests := true, laidLooks := .later }
def TableCompilesUptoCardSaid : Prop := Claim7.holds Tryz.pinned (.plain (OpenSpec.upto tableCompilesSpec)) tableCompilesUptoCard

/-- THE SECOND FORM's CARD OF 'analemmalaw14.TableTells'. -/
def tableTellsUptoCard : Claim7 := { stood := { row := tableTellsUptoRow, standIns := [], harness := (true, "b3115fe9c06b2e2430a48a197ea6f03867c6b828ab99f68adb172ece7791609f"), looks := false }, kinds := [], alts := [], laidByText := true, laidKinds := [.data, .pinned], laidTests := true, laidLooks := .later }
def TableTellsUptoCardSaid : Prop := Claim7.holds Tryz.pinned (.plain (OpenSpec.upto tableTellsSpec)) tableTellsUptoCard

/-- THE SECOND FORM's CARD OF 'analemmalaw14.TableSames'. -/
def tableSamesUptoCard : Claim7 := { stood := { row := tableSamesUptoRow, standIns := [], harness := (true, "b3115fe9c06b2e2430a48a197ea6f03867c6b828ab99f68adb172ece7791609f"), looks := false }, kinds := [], alts := [], laidByText := true, laidKinds := [.data, .pinned], laidTests := true, laidLooks := .later }
def TableSamesUptoCardSaid : Prop := Claim7.holds Tryz.pinned (.plain (OpenSpec.upto tableSamesSpec)) tableSamesUptoCard

/-- THE SECOND FORM's CARD OF 'analemmalaw14.TableMeans'. -/
def tableMeansUptoCard : Claim7 := { stood := { row := tableMeansUptoRow, standIns := [], harness := (true, "b3115fe9c06b2e2430a48a197ea6f03867c6b828ab99f68adb172ece7791609f"), looks := false }, kinds := [], alts := [], laidByText := true, laidKinds := [.data, .pinned], laidTests := true, laidLooks := .later }
def TableMeansUptoCardSaid : Prop := Claim7.holds Tryz.pinned (.plain (OpenSpec.upto tableMeansSpec)) tableMeansUptoCard

/-- THE SECOND FORM's CARD OF 'analemmalaw14.TableRefuses'. -/
def tableRefusesUptoCard : Claim7 := { stood := { row := tableRefusesUptoRow, standIns := [], harness := (true, "b3115fe9c06b2e2430a48a197ea6f03867c6b828ab99f68adb172ece7791609f"), looks := false }, kinds := [], alts := [], laidByText := true, laidKinds := [.data, .pinned], laidTests := true, laidLooks := .later }
def TableRefusesUptoCardSaid : Prop := Claim7.holds Tryz.pinned (.plain (OpenSpec.upto tableRefusesSpec)) tableRefusesUptoCard

/-- THE SECOND FORM's CARD OF 'analemmalaw14.TableAlone'. -/
def tableAloneUptoCard : Claim7 := { stood := { row := tableAloneUptoRow, standIns := [], harness := (true, "b3115fe9c06b2e2430a48a197ea6f03867c6b828ab99f68adb172ece7791609f"), looks := false }, kinds := [], alts := [], laidByText := true, laidKinds := [.data, .pinned], laidTests := true, laidLooks := .later }
def TableAloneUptoCardSaid : Prop := Claim7.holds Tryz.pinned (.plain (OpenSpec.upto tableAloneSpec)) tableAloneUptoCard
end Rows
end Go.Proofs.YtdicedpklpadgaaGreatDoor
