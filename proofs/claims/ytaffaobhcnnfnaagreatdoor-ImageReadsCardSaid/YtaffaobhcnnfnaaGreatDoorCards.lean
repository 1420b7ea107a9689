/-
  DERIVED. GIVEN WITH THE SEED: THE CARDS: each row of YtaffaobhcnnfnaaGreatDoorRows.lean that lists a variable, with what it lists TIED to the program's text (the seventh form; the later family's looks); each row that meets fmt, with fmt's text TOLD by the authors' own Lean function (tested against real Go, not proved from fmt's source: count such statements apart). THE CARD IS WHAT COUNTS. Prove the row's statement (the work); the ties are given (YtaffaobhcnnfnaaGreatDoorTie.lean); close each card by the builder's one call (the guide's Derived/Test/ToyasCard.lean, 'card_holds'). Laid BY PROGRAM, IN A SANDBOX (cutbox-door.mjs). By AI agents, Wed Nov 11 2026. No macro, syntax, notation, axiom, sorry.
-/
import Derived.Test.YtaffaobhcnnfnaaGreatDoorRows
import GoSem.ClaimSeven
namespace Go.Proofs.YtaffaobhcnnfnaaGreatDoor
namespace Rows

/-- THE TIED CARD OF 'analemmalaw15.ImageWrites'. -/
def imageWritesCard : Claim7 := { stood := { row := imageWritesRow, standIns := [], harness := (true, "9e843f17030c7142e8e3fb1f28d7ee6b70784beb065fe2f754dd60f6db03329e"), looks := true }, kinds := [], alts := [], laidByText := true, laidKinds := [.data, .pinned], laidTests := true, laidLooks := .later }
def ImageWritesCardSaid : Prop := Claim7.holds Tryz.pinned (.plain (OpenSpec.ofChange imageWritesSpec)) imageWritesCard

/-- THE TIED CARD OF 'analemmalaw15.ImageReads'. -/
def imageReadsCard : Claim7 := { stood := { row := imageReadsRow, standIns := [], harness := (true, "9e843f17030c7142e8e3fb1f28d7ee6b70784beb065fe2f754dd60f6db03329e"), looks := true }, kinds := [], alts := [], laidByText := true, laidKinds := [.data, .pinned], laidTests := true, laidLooks := .later }
def ImageReadsCardSaid : Prop := Claim7.holds Tryz.pinned (.plain (OpenSpec.ofChange imageReadsSpec)) imageReadsCard

/-- THE TIED CARD OF 'analemmalaw15.ImageSums'. -/
def imageSumsCard : Claim7 := { stood := { row := imageSumsRow, standIns := [], harness := (true, "9e843f17030c7142e8e3fb1f28d7ee6b70784beb065fe2f754dd60f6db03329e"), looks := true }, kinds := [], alts := [], laidByText := true, laidKinds := [.data, .pinned], laidTests := true, laidLooks := .later }
def ImageSumsCardSaid : Prop := Claim7.holds Tryz.pinned (.plain (OpenSpec.ofChange imageSumsSpec)) imageSumsCard

/-- THE TIED CARD OF 'analemmalaw15.ImageTurned'. -/
def imageTurnedCard : Claim7 := { stood := { row := imageTurnedRow, standIns := [], harness := (true, "9e843f17030c7142e8e3fb1f28d7ee6b70784beb065fe2f754dd60f6db03329e"), looks := true }, kinds := [], alts := [], laidByText := true, laidKinds := [.data, .pinned], laidTests := true, laidLooks := .later }
def ImageTurnedCardSaid : Prop := Claim7.holds Tryz.pinned (.plain (OpenSpec.ofChange imageTurnedSpec)) imageTurnedCard

/-- THE TIED CARD OF 'analemmalaw15.ImageBack'. -/
def imageBackCard : Claim7 := { stood := { row := imageBackRow, standIns := [], harness := (true, "9e843f17030c7142e8e3fb1f28d7ee6b70784beb065fe2f754dd60f6db03329e"), looks := true }, kinds := [], alts := [], laidByText := true, laidKinds := [.data, .pinned], laidTests := true, laidLooks := .later }
def ImageBackCardSaid : Prop := Claim7.holds Tryz.pinned (.plain (OpenSpec.ofChange imageBackSpec)) imageBackCard

/-- THE SECOND FORM's CARD OF 'analemmalaw15.ImageWrites'. -/
def imageWritesUptoCard : Claim7 := { stood := { row := imageWritesUptoRow, standIns := [], harness := (true, "9e843f17030c7142e8e3fb1f28d7ee6b70784beb065fe2f754dd60f6db03329e"), looks := true }, kinds := [], alts := [], laidByText := true, laidKinds := [.data, .pinned], laidTests := true, laidLooks := .later }
def ImageWritesUptoCardSaid : Prop := Claim7.holds Tryz.pinned (.plain (OpenSpec.upto imageWritesSpec)) imageWritesUptoCard

/-- THE SECOND FORM's CARD OF 'analemmalaw15.ImageReads'. -/
def imageReadsUptoCard : Claim7 := { stood := { row := imageReadsUptoRow, standIns := [], harness := (true, "9e843f17030c7142e8e3fb1f28d7ee6b70784beb065fe2f754dd60f6db03329e"), looks := true }, kinds := [], alts := [], laidByText := true, laidKinds := [.data, .pinned], laidTests := true, laidLooks := .later }
def ImageReadsUptoCardSaid : Prop := Claim7.holds Tryz.pinned (.plain (OpenSpec.upto imageReadsSpec)) imageReadsUptoCard

/-- THE SECOND FORM's CARD OF 'analemmalaw15.ImageSums'. -/
def imageSumsUptoCard : Claim7 := { stood := { row := imageSumsUptoRow, standIns := [], harness := (true, "9e843f17030c7142e8e3fb1f28d7ee6b70784beb065fe2f754dd60f6db03329e"), looks := true }, kinds := [], alts := [], laidByText := true, laidKinds := [.data, .pinned], laidTests := true, laidLooks := .later }
def ImageSumsUptoCardSaid : Prop := Claim7.holds Tryz.pinned (.plain (OpenSpec.upto imageSumsSpec)) imageSumsUptoCard

/-- THE SECOND FORM's CARD OF 'analemmalaw15.ImageTurned'. -/
def imageTurnedUptoCard : Claim7 := { stood := { row := imageTurnedUptoRow, standIns := [], harness := (true, "9e843f17030c7142e8e3fb1f28d7ee6b70784beb065fe2f754dd60f6db03329e"), looks := true }, kinds := [], alts := [], laidByText := true, laidKinds := [.data, .pinned], laidTests := true, laidLooks := .later }
def ImageTurnedUptoCardSaid : Prop := Claim7.holds Tryz.pinned (.plain (OpenSpec.upto imageTurnedSpec)) imageTurnedUptoCard

/-- THE SECOND FORM's CARD OF 'analemmalaw15.ImageBack'. -/
def imageBackUptoCard : Claim7 := { stood := { row := imageBackUptoRow, standIns := [], harness := (true, "9e843f17030c7142e8e3fb1f28d7ee6b70784beb065fe2f754dd60f6db03329e"), looks := true }, kinds := [], alts := [], laidByText := true, laidKinds := [.data, .pinned], laidTests := true, laidLooks := .later }
def ImageBackUptoCardSaid : Prop := Claim7.holds Tryz.pinned (.plain (OpenSpec.upto imageBackSpec)) imageBackUptoCard
end Rows
end Go.Proofs.YtaffaobhcnnfnaaGreatDoor
