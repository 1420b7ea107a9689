/-
  DERIVED. GIVEN WITH THE SEED: THE CARDS: each row of YtmlejgdohcpmjaaGreatDoorRows.lean that lists a variable, with what it lists TIED to the program's text (the seventh form; the later family's looks); each row that meets fmt, with fmt's text TOLD by the authors' own Lean function (tested against real Go, not proved from fmt's source: count such statements apart). THE CARD IS WHAT COUNTS. Prove the row's statement (the work); the ties are given (YtmlejgdohcpmjaaGreatDoorTie.lean); close each card by the builder's one call (the guide's Derived/Test/ToyasCard.lean, 'card_holds'). Laid BY PROGRAM, IN A SANDBOX (cutbox-door.mjs). By AI agents, Wed Nov 11 2026. No macro, syntax, notation, axiom, sorry.
-/
import Derived.Test.YtmlejgdohcpmjaaGreatDoorRows
import GoSem.ClaimSeven
namespace Go.Proofs.YtmlejgdohcpmjaaGreatDoor
namespace Rows

/-- THE TIED CARD OF 'analemmalaw16.ZoneSeconds'. -/
def zoneSecondsCard : Claim7 := { stood := { row := zoneSecondsRow, standIns := [], harness := (true, "4f44d475f2e358f47aac34b67d2df668d0c6546672c3776414c7ef9f08249f4e"), looks := false }, kinds := [], alts := [], laidByText := true, laidKinds := [.data, .pinned], laidTests := true, laidLooks := .later }
def ZoneSecondsCardSaid : Prop := Claim7.holds Tryz.pinned (.plain (OpenSpec.ofChange zoneSecondsSpec)) zoneSecondsCard

/-- THE TIED CARD OF 'analemmalaw16.ZoneShapes'. -/
def zoneShapesCard : Claim7 := { stood := { row := zoneShapesRow, standIns := [], harness := (true, "4f44d475f2e358f47aac34b67d2df668d0c6546672c3776414c7ef9f08249f4e"), looks := false }, kinds := [], alts := [], laidByText := true, laidKinds := [.data, .pinned], laidTests := true, laidLooks := .later }
def ZoneShapesCardSaid : Prop := Claim7.holds Tryz.pinned (.plain (OpenSpec.ofChange zoneShapesSpec)) zoneShapesCard

/-- THE TIED CARD OF 'analemmalaw16.ZoneChooses'. -/
def zoneChoosesCard : Claim7 := { stood := { row := zoneChoosesRow, standIns := [], harness := (true, "4f44d475f2e358f47aac34b67d2df668d0c6546672c3776414c7ef9f08249f4e"), looks := false }, kinds := [], alts := [], laidByText := true, laidKinds := [.data, .pinned], laidTests := true, laidLooks := .later }
def ZoneChoosesCardSaid : Prop := Claim7.holds Tryz.pinned (.plain (OpenSpec.ofChange zoneChoosesSpec)) zoneChoosesCard

/-- THE TIED CARD OF 'analemmalaw16.ZoneNexts'. -/
def zoneNextsCard : Claim7 := { stood := { row := zoneNextsRow, standIns := [], harness := (true, "4f44d475f2e358f47aac34b67d2df668d0c6546672c3776414c7ef9f08249f4e"), looks := false }, kinds := [], alts := [], laidByText := true, laidKinds := [.data, .pinned], laidTests := true, laidLooks := .later }
def ZoneNextsCardSaid : Prop := Claim7.holds Tryz.pinned (.plain (OpenSpec.ofChange zoneNextsSpec)) zoneNextsCard

/-- THE TIED CARD OF 'analemmalaw16.ZoneBack'. -/
def zoneBackCard : Claim7 := { stood := { row := zoneBackRow, standIns := [], harness := (true, "4f44d475f2e358f47aac34b67d2df668d0c6546672c3776414c7ef9f08249f4e"), looks := false }, kinds := [], alts := [], laidByText := true, laidKinds := [.data, .pinned], laidTests := true, laidLooks := .later }
def ZoneBackCardSaid : Prop := Claim7.holds Tryz.pinned (.plain (OpenSpec.ofChange zoneBackSpec)) zoneBackCard

/-- THE TIED CARD OF 'analemmalaw16.ZoneStretches'. -/
def zoneStretchesCard : Claim7 := { stood := { row := zoneStretchesRow, standIns := [], harness := (true, "4f44d475f2e358f47aac34b67d2df668d0c6546672c3776414c7ef9f08249f4e"), looks := false }, kinds := [], alts := [], laidByText := true, laidKinds := [.data, .pinned], laidTests := true, laidLooks := .later }
def ZoneStretchesCardSaid : Prop := Claim7.holds Tryz.pinned (.plain (OpenSpec.ofChange zoneStretchesSpec)) zoneStretchesCard

/-- THE SECOND FORM's CARD OF 'analemmalaw16.ZoneSeconds'. -/
def zoneSecondsUptoCard : Claim7 := { stood := { row := zoneSecondsUptoRow, standIns := [], harness := (true, "4f44d475f2e358f47aac34b67d2df668d0c6546672c3776414c7ef9f08249f4e"), looks := false }, kinds := [], alts := [], laidByText := true, laidKinds := [.data, .pinned], laidTests := true, laidLooks := .later }
def ZoneSecondsUptoCardSaid : Prop := Claim7.holds Tryz.pinned (.plain (OpenSpec.upto zoneSecondsSpec)) zoneSecondsUptoCard

/-- THE SECOND FORM's CARD OF 'analemmalaw16.ZoneShapes'. -/
def zoneShapesUptoCard : Claim7 := { stood := { row := zoneShapesUptoRow, standIns := [], harness := (true, "4f44d475f2e358f47aac34b67d2df668d0c6546672c3776414c7ef9f08249f4e"), looks := false }, kinds := [], alts := [], laidByText := true, laidKinds := [.data, .pinned], laidTests := true, laidLooks := .later }
def ZoneShapesUptoCardSaid : Prop := Claim7.holds Tryz.pinned (.plain (OpenSpec.upto zoneShapesSpec)) zoneShapesUptoCard

/-- THE SECOND FORM's CARD OF 'analemmalaw16.ZoneChooses'. -/
def zoneChoosesUptoCard : Claim7 := { stood := { row := zoneChoosesUptoRow, standIns := [], harness := (true, "4f44d475f2e358f47aac34b67d2df668d0c6546672c3776414c7ef9f08249f4e"), looks := false }, kinds := [], alts := [], laidByText := true, laidKinds := [.data, .pinned], laidTests := true, laidLooks := .later }
def ZoneChoosesUptoCardSaid : Prop := Claim7.holds Tryz.pinned (.plain (OpenSpec.upto zoneChoosesSpec)) zoneChoosesUptoCard

/-- THE SECOND FORM's CARD OF 'analemmalaw16.ZoneNexts'. -/
def zoneNextsUptoCard : Claim7 := { stood := { row := zoneNextsUptoRow, standIns := [], harness := (true, "4f44d475f2e358f47aac34b67d2df668d0c6546672c3776414c7ef9f08249f4e"), looks := false }, kinds := [], alts := [], laidByText := true, laidKinds := [.data, .pinned], laidTests := true, laidLooks := .later }
def ZoneNextsUptoCardSaid : Prop := Claim7.holds Tryz.pinned (.plain (OpenSpec.upto zoneNextsSpec)) zoneNextsUptoCard

/-- THE SECOND FORM's CARD OF 'analemmalaw16.ZoneBack'. -/
def zoneBackUptoCard : Claim7 := { stood := { row := zoneBackUptoRow, standIns := [], harness := (true, "4f44d475f2e358f47aac34b67d2df668d0c6546672c3776414c7ef9f08249f4e"), looks := false }, kinds := [], alts := [], laidByText := true, laidKinds := [.data, .pinned], laidTests := true, laidLooks := .later }
def ZoneBackUptoCardSaid : Prop := Claim7.holds Tryz.pinned (.plain (OpenSpec.upto zoneBackSpec)) zoneBackUptoCard

/-- THE SECOND FORM's CARD OF 'analemmalaw16.ZoneStretches'. -/
def zoneStretchesUptoCard : Claim7 := { stood := { row := zoneStretchesUptoRow, standIns := [], harness := (true, "4f44d475f2e358f47aac34b67d2df668d0c6546672c3776414c7ef9f08249f4e"), looks := false }, kinds := [], alts := [], laidByText := true, laidKinds := [.data, .pinned], laidTests := true, laidLooks := .later }
def ZoneStretchesUptoCardSaid : Prop := Claim7.holds Tryz.pinned (.plain (OpenSpec.upto zoneStretchesSpec)) zoneStretchesUptoCard
end Rows
end Go.Proofs.YtmlejgdohcpmjaaGreatDoor
