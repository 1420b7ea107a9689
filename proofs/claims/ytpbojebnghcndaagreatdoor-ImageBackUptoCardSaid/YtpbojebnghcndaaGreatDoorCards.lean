/-
  DERIVED. GIVEN WITH THE SEED: THE CARDS: each row of YtpbojebnghcndaaGreatDoorRows.lean that lists a variable, with what it lists TIED to the program's text (the seventh form; the later family's looks); each row that meets fmt, with fmt's text TOLD by the authors' own Lean function (tested against real Go, not proved from fmt's source: count such statements apart). THE CARD IS WHAT COUNTS. Prove the row's statement (the work); the ties are given (YtpbojebnghcndaaGreatDoorTie.lean); close each card by the builder's one call (the guide's Derived/Test/ToyasCard.lean, 'card_holds'). Laid BY PROGRAM, IN A SANDBOX (cutbox-door.mjs). By AI agents, Wed Nov 11 2026. No macro, syntax, notation, axiom, sorry.
-/
import Derived.Test.YtpbojebnghcndaaGreatDoorRows
import GoSem.ClaimSeven
namespace Go.Proofs.YtpbojebnghcndaaGreatDoor
namespace Rows

/-- THE TIED CARD OF 'analemmalaw15.ImageBack'. -/
def imageBackCard : Claim7 := { stood := { row := imageBackRow, standIns := [], harness := (true, "60e7d201ccd7d439c13a50c889593db6bde5cc10126984e681ac69ba9eb9a053"), looks := true }, kinds := [], alts := [], laidByText := true, laidKinds := [.data, .pinned], laidTests := true, laidLooks := .later }
def ImageBackCardSaid : Prop := Claim7.holds Tryz.pinned (.plain (OpenSpec.ofChange imageBackSpec)) imageBackCard

/-- THE TIED CARD OF 'analemmalaw14.TableCompiles'. -/
def tableCompilesCard : Claim7 := { stood := { row := tableCompilesRow, standIns := [], harness := (true, "60e7d201ccd7d439c13a50c889593db6bde5cc10126984e681ac69ba9eb9a053"), looks := true }, kinds := [], alts := [], laidByText := true, laidKinds := [.data, .pinned], laidTests := true, laidLooks := .later }
def TableCompilesCardSaid : Prop := Claim7.holds Tryz.pinned (.plain (OpenSpec.ofChange tableCompilesSpec)) tableCompilesCard

/-- THE TIED CARD OF 'analemmalaw14.TableTells'. -/
def tableTellsCard : Claim7 := { stood := { row := tableTellsRow, standIns := [], harness := (true, "60e7d201ccd7d439c13a50c889593db6bde5cc10126984e681ac69ba9eb9a053"), looks := true }, kinds := [], alts := [], laidByText := true, laidKinds := [.data, .pinned], laidTests := true, laidLooks := .later }
def TableTellsCardSaid : Prop := Claim7.holds Tryz.pinned (.plain (OpenSpec.ofChange tableTellsSpec)) tableTellsCard

/-- THE TIED CARD OF 'analemmalaw14.TableSames'. -/
def tableSamesCard : Claim7 := { stood := { row := tableSamesRow, standIns := [], harness := (true, "60e7d201ccd7d439c13a50c889593db6bde5cc10126984e681ac69ba9eb9a053"), looks := true }, kinds := [], alts := [], laidByText := true, laidKinds := [.data, .pinned], laidTests := true, laidLooks := .later }
def TableSamesCardSaid : Prop := Claim7.holds Tryz.pinned (.plain (OpenSpec.ofChange tableSamesSpec)) tableSamesCard

/-- THE TIED CARD OF 'analemmalaw14.TableMeans'. -/
def tableMeansCard : Claim7 := { stood := { row := tableMeansRow, standIns := [], harness := (true, "60e7d201ccd7d439c13a50c889593db6bde5cc10126984e681ac69ba9eb9a053"), looks := true }, kinds := [], alts := [], laidByText := true, laidKinds := [.data, .pinned], laidTests := true, laidLooks := .later }
def TableMeansCardSaid : Prop := Claim7.holds Tryz.pinned (.plain (OpenSpec.ofChange tableMeansSpec)) tableMeansCard

/-- THE TIED CARD OF 'analemmalaw14.TableRefuses'. -/
def tableRefusesCard : Claim7 := { stood := { row := tableRefusesRow, standIns := [], harness := (true, "60e7d201ccd7d439c13a50c889593db6bde5cc10126984e681ac69ba9eb9a053"), looks := true }, kinds := [], alts := [], laidByText := true, laidKinds := [.data, .pinned], laidTests := true, laidLooks := .later }
def TableRefusesCardSaid : Prop := Claim7.holds Tryz.pinned (.plain (OpenSpec.ofChange tableRefusesSpec)) tableRefusesCard

/-- THE TIED CARD OF 'analemmalaw14.TableAlone'. -/
def tableAloneCard : Claim7 := { stood := { row := tableAloneRow, standIns := [], harness := (true, "60e7d201ccd7d439c13a50c889593db6bde5cc10126984e681ac69ba9eb9a053"), looks := true }, kinds := [], alts := [], laidByText := true, laidKinds := [.data, .pinned], laidTests := true, laidLooks := .later }
def TableAloneCardSaid : Prop := Claim7.holds Tryz.pinned (.plain (OpenSpec.ofChange tableAloneSpec)) tableAloneCard

/-- THE TIED CARD OF 'analemmalaw16.ZoneSeconds'. -/
def zoneSecondsCard : Claim7 := { stood := { row := zoneSecondsRow, standIns := [], harness := (true, "60e7d201ccd7d439c13a50c889593db6bde5cc10126984e681ac69ba9eb9a053"), looks := true }, kinds := [], alts := [], laidByText := true, laidKinds := [.data, .pinned], laidTests := true, laidLooks := .later }
def ZoneSecondsCardSaid : Prop := Claim7.holds Tryz.pinned (.plain (OpenSpec.ofChange zoneSecondsSpec)) zoneSecondsCard

/-- THE TIED CARD OF 'analemmalaw16.ZoneShapes'. -/
def zoneShapesCard : Claim7 := { stood := { row := zoneShapesRow, standIns := [], harness := (true, "60e7d201ccd7d439c13a50c889593db6bde5cc10126984e681ac69ba9eb9a053"), looks := true }, kinds := [], alts := [], laidByText := true, laidKinds := [.data, .pinned], laidTests := true, laidLooks := .later }
def ZoneShapesCardSaid : Prop := Claim7.holds Tryz.pinned (.plain (OpenSpec.ofChange zoneShapesSpec)) zoneShapesCard

/-- THE TIED CARD OF 'analemmalaw16.ZoneChooses'. -/
def zoneChoosesCard : Claim7 := { stood := { row := zoneChoosesRow, standIns := [], harness := (true, "60e7d201ccd7d439c13a50c889593db6bde5cc10126984e681ac69ba9eb9a053"), looks := true }, kinds := [], alts := [], laidByText := true, laidKinds := [.data, .pinned], laidTests := true, laidLooks := .later }
def ZoneChoosesCardSaid : Prop := Claim7.holds Tryz.pinned (.plain (OpenSpec.ofChange zoneChoosesSpec)) zoneChoosesCard

/-- THE TIED CARD OF 'analemmalaw16.ZoneNexts'. -/
def zoneNextsCard : Claim7 := { stood := { row := zoneNextsRow, standIns := [], harness := (true, "60e7d201ccd7d439c13a50c889593db6bde5cc10126984e681ac69ba9eb9a053"), looks := true }, kinds := [], alts := [], laidByText := true, laidKinds := [.data, .pinned], laidTests := true, laidLooks := .later }
def ZoneNextsCardSaid : Prop := Claim7.holds Tryz.pinned (.plain (OpenSpec.ofChange zoneNextsSpec)) zoneNextsCard

/-- THE TIED CARD OF 'analemmalaw16.ZoneBack'. -/
def zoneBackCard : Claim7 := { stood := { row := zoneBackRow, standIns := [], harness := (true, "60e7d201ccd7d439c13a50c889593db6bde5cc10126984e681ac69ba9eb9a053"), looks := true }, kinds := [], alts := [], laidByText := true, laidKinds := [.data, .pinned], laidTests := true, laidLooks := .later }
def ZoneBackCardSaid : Prop := Claim7.holds Tryz.pinned (.plain (OpenSpec.ofChange zoneBackSpec)) zoneBackCard

/-- THE TIED CARD OF 'analemmalaw16.ZoneStretches'. -/
def zoneStretchesCard : Claim7 := { stood := { row := zoneStretchesRow, standIns := [], harness := (true, "60e7d201ccd7d439c13a50c889593db6bde5cc10126984e681ac69ba9eb9a053"), looks := true }, kinds := [], alts := [], laidByText := true, laidKinds := [.data, .pinned], laidTests := true, laidLooks := .later }
def ZoneStretchesCardSaid : Prop := Claim7.holds Tryz.pinned (.plain (OpenSpec.ofChange zoneStretchesSpec)) zoneStretchesCard

/-- THE SECOND FORM's CARD OF 'analemmalaw15.ImageBack'. -/
def imageBackUptoCard : Claim7 := { stood := { row := imageBackUptoRow, standIns := [], harness := (true, "60e7d201ccd7d439c13a50c889593db6bde5cc10126984e681ac69ba9eb9a053"), looks := true }, kinds := [], alts := [], laidByText := true, laidKinds := [.data, .pinned], laidTests := true, laidLooks := .later }
def ImageBackUptoCardSaid : Prop := Claim7.holds Tryz.pinned (.plain (OpenSpec.upto imageBackSpec)) imageBackUptoCard

/-- THE SECOND FORM's CARD OF 'analemmalaw14.TableCompiles'. -/
def tableCompilesUptoCard : Claim7 := { stood := { row := tableCompilesUptoRow, standIns := [], harness := (true, "60e7d201ccd7d439c13a50c889593db6bde5cc10126984e681ac69ba9eb9a053"), looks := true }, kinds := [], alts := [], laidByText := true, laidKinds := [.data, .pinned], laidTests := true, laidLooks := .later }
def TableCompilesUptoCardSaid : Prop := Claim7.holds Tryz.pinned (.plain (OpenSpec.upto tableCompilesSpec)) tableCompilesUptoCard

/-- THE SECOND FORM's CARD OF 'analemmalaw14.TableTells'. -/
def tableTellsUptoCard : Claim7 := { stood := { row := tableTellsUptoRow, standIns := [], harness := (true, "60e7d201ccd7d439c13a50c889593db6bde5cc10126984e681ac69ba9eb9a053"), looks := true }, kinds := [], alts := [], laidByText := true, laidKinds := [.data, .pinned], laidTests := true, laidLooks := .later }
def TableTellsUptoCardSaid : Prop := Claim7.holds Tryz.pinned (.plain (OpenSpec.upto tableTellsSpec)) tableTellsUptoCard

/-- THE SECOND FORM's CARD OF 'analemmalaw14.TableSames'. -/
def tableSamesUptoCard : Claim7 := { stood := { row := tableSamesUptoRow, standIns := [], harness := (true, "60e7d201ccd7d439c13a50c889593db6bde5cc10126984e681ac69ba9eb9a053"), looks := true }, kinds := [], alts := [], laidByText := true, laidKinds := [.data, .pinned], laidTests := true, laidLooks := .later }
def TableSamesUptoCardSaid : Prop := Claim7.holds Tryz.pinned (.plain (OpenSpec.upto tableSamesSpec)) tableSamesUptoCard

/-- THE SECOND FORM's CARD OF 'analemmalaw14.TableMeans'. -/
def tableMeansUptoCard : Claim7 := { stood := { row := tableMeansUptoRow, standIns := [], harness := (true, "60e7d201ccd7d439c13a50c889593db6bde5cc10126984e681ac69ba9eb9a053"), looks := true }, kinds := [], alts := [], laidByText := true, laidKinds := [.data, .pinned], laidTests := true, laidLooks := .later }
def TableMeansUptoCardSaid : Prop := Claim7.holds Tryz.pinned (.plain (OpenSpec.upto tableMeansSpec)) tableMeansUptoCard

/-- THE SECOND FORM's CARD OF 'analemmalaw14.TableRefuses'. -/
def tableRefusesUptoCard : Claim7 := { stood := { row := tableRefusesUptoRow, standIns := [], harness := (true, "60e7d201ccd7d439c13a50c889593db6bde5cc10126984e681ac69ba9eb9a053"), looks := true }, kinds := [], alts := [], laidByText := true, laidKinds := [.data, .pinned], laidTests := true, laidLooks := .later }
def TableRefusesUptoCardSaid : Prop := Claim7.holds Tryz.pinned (.plain (OpenSpec.upto tableRefusesSpec)) tableRefusesUptoCard

/-- THE SECOND FORM's CARD OF 'analemmalaw14.TableAlone'. -/
def tableAloneUptoCard : Claim7 := { stood := { row := tableAloneUptoRow, standIns := [], harness := (true, "60e7d201ccd7d439c13a50c889593db6bde5cc10126984e681ac69ba9eb9a053"), looks := true }, kinds := [], alts := [], laidByText := true, laidKinds := [.data, .pinned], laidTests := true, laidLooks := .later }
def TableAloneUptoCardSaid : Prop := Claim7.holds Tryz.pinned (.plain (OpenSpec.upto tableAloneSpec)) tableAloneUptoCard

/-- THE SECOND FORM's CARD OF 'analemmalaw16.ZoneSeconds'. -/
def zoneSecondsUptoCard : Claim7 := { stood := { row := zoneSecondsUptoRow, standIns := [], harness := (true, "60e7d201ccd7d439c13a50c889593db6bde5cc10126984e681ac69ba9eb9a053"), looks := true }, kinds := [], alts := [], laidByText := true, laidKinds := [.data, .pinned], laidTests := true, laidLooks := .later }
def ZoneSecondsUptoCardSaid : Prop := Claim7.holds Tryz.pinned (.plain (OpenSpec.upto zoneSecondsSpec)) zoneSecondsUptoCard

/-- THE SECOND FORM's CARD OF 'analemmalaw16.ZoneShapes'. -/
def zoneShapesUptoCard : Claim7 := { stood := { row := zoneShapesUptoRow, standIns := [], harness := (true, "60e7d201ccd7d439c13a50c889593db6bde5cc10126984e681ac69ba9eb9a053"), looks := true }, kinds := [], alts := [], laidByText := true, laidKinds := [.data, .pinned], laidTests := true, laidLooks := .later }
def ZoneShapesUptoCardSaid : Prop := Claim7.holds Tryz.pinned (.plain (OpenSpec.upto zoneShapesSpec)) zoneShapesUptoCard

/-- THE SECOND FORM's CARD OF 'analemmalaw16.ZoneChooses'. -/
def zoneChoosesUptoCard : Claim7 := { stood := { row := zoneChoosesUptoRow, standIns := [], harness := (true, "60e7d201ccd7d439c13a50c889593db6bde5cc10126984e681ac69ba9eb9a053"), looks := true }, kinds := [], alts := [], laidByText := true, laidKinds := [.data, .pinned], laidTests := true, laidLooks := .later }
def ZoneChoosesUptoCardSaid : Prop := Claim7.holds Tryz.pinned (.plain (OpenSpec.upto zoneChoosesSpec)) zoneChoosesUptoCard

/-- THE SECOND FORM's CARD OF 'analemmalaw16.ZoneNexts'. -/
def zoneNextsUptoCard : Claim7 := { stood := { row := zoneNextsUptoRow, standIns := [], harness := (true, "60e7d201ccd7d439c13a50c889593db6bde5cc10126984e681ac69ba9eb9a053"), looks := true }, kinds := [], alts := [], laidByText := true, laidKinds := [.data, .pinned], laidTests := true, laidLooks := .later }
def ZoneNextsUptoCardSaid : Prop := Claim7.holds Tryz.pinned (.plain (OpenSpec.upto zoneNextsSpec)) zoneNextsUptoCard

/-- THE SECOND FORM's CARD OF 'analemmalaw16.ZoneBack'. -/
def zoneBackUptoCard : Claim7 := { stood := { row := zoneBackUptoRow, standIns := [], harness := (true, "60e7d201ccd7d439c13a50c889593db6bde5cc10126984e681ac69ba9eb9a053"), looks := true }, kinds := [], alts := [], laidByText := true, laidKinds := [.data, .pinned], laidTests := true, laidLooks := .later }
def ZoneBackUptoCardSaid : Prop := Claim7.holds Tryz.pinned (.plain (OpenSpec.upto zoneBackSpec)) zoneBackUptoCard

/-- THE SECOND FORM's CARD OF 'analemmalaw16.ZoneStretches'. -/
def zoneStretchesUptoCard : Claim7 := { stood := { row := zoneStretchesUptoRow, standIns := [], harness := (true, "60e7d201ccd7d439c13a50c889593db6bde5cc10126984e681ac69ba9eb9a053"), looks := true }, kinds := [], alts := [], laidByText := true, laidKinds := [.data, .pinned], laidTests := true, laidLooks := .later }
def ZoneStretchesUptoCardSaid : Prop := Claim7.holds Tryz.pinned (.plain (OpenSpec.upto zoneStretchesSpec)) zoneStretchesUptoCard
end Rows
end Go.Proofs.YtpbojebnghcndaaGreatDoor
