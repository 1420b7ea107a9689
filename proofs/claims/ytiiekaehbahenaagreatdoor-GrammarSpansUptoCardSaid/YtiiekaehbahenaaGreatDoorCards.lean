/-
  DERIVED. GIVEN WITH THE SEED: THE CARDS: each row of YtiiekaehbahenaaGreatDoorRows.lean that lists a variable, with what it lists TIED to the program's text (the seventh form; the later family's looks); each row that meets fmt, with fmt's text TOLD by the authors' own Lean function (tested against real Go, not proved from fmt's source: count such statements apart). THE CARD IS WHAT COUNTS. Prove the row's statement (the work); the ties are given (YtiiekaehbahenaaGreatDoorTie.lean); close each card by the builder's one call (the guide's Derived/Test/ToyasCard.lean, 'card_holds'). Laid BY PROGRAM, IN A SANDBOX (cutbox-door.mjs). By AI agents, Wed Nov 11 2026. No macro, syntax, notation, axiom, sorry.
-/
import Derived.Test.YtiiekaehbahenaaGreatDoorRows
import GoSem.ClaimSeven
namespace Go.Proofs.YtiiekaehbahenaaGreatDoor
namespace Rows

/-- THE TIED CARD OF 'analemmalaw24.GrammarClocks'. -/
def grammarClocksCard : Claim7 := { stood := { row := grammarClocksRow, standIns := [], harness := (true, "e8761e892d5e1867bd7963d9d3c578e1a8e883e3f510016ed3991503a5d71b0b"), looks := true }, kinds := [], alts := [], laidByText := true, laidKinds := [.data, .data, .data, .pinned, .pinned], laidTests := true, laidLooks := .later }
def GrammarClocksCardSaid : Prop := Claim7.holds Tryz.pinned (.plain (OpenSpec.ofChange grammarClocksSpec)) grammarClocksCard

/-- THE TIED CARD OF 'analemmalaw24.GrammarSpans'. -/
def grammarSpansCard : Claim7 := { stood := { row := grammarSpansRow, standIns := [], harness := (true, "e8761e892d5e1867bd7963d9d3c578e1a8e883e3f510016ed3991503a5d71b0b"), looks := true }, kinds := [], alts := [], laidByText := true, laidKinds := [.data, .data, .data, .pinned, .pinned], laidTests := true, laidLooks := .later }
def GrammarSpansCardSaid : Prop := Claim7.holds Tryz.pinned (.plain (OpenSpec.ofChange grammarSpansSpec)) grammarSpansCard

/-- THE TIED CARD OF 'analemmalaw24.GrammarSame'. -/
def grammarSameCard : Claim7 := { stood := { row := grammarSameRow, standIns := [], harness := (true, "e8761e892d5e1867bd7963d9d3c578e1a8e883e3f510016ed3991503a5d71b0b"), looks := true }, kinds := [], alts := [], laidByText := true, laidKinds := [.data, .data, .data, .pinned, .pinned], laidTests := true, laidLooks := .later }
def GrammarSameCardSaid : Prop := Claim7.holds Tryz.pinned (.plain (OpenSpec.ofChange grammarSameSpec)) grammarSameCard

/-- THE TIED CARD OF 'analemmalaw24.GrammarLetters'. -/
def grammarLettersCard : Claim7 := { stood := { row := grammarLettersRow, standIns := [], harness := (true, "e8761e892d5e1867bd7963d9d3c578e1a8e883e3f510016ed3991503a5d71b0b"), looks := true }, kinds := [], alts := [], laidByText := true, laidKinds := [.data, .data, .data, .pinned, .pinned], laidTests := true, laidLooks := .later }
def GrammarLettersCardSaid : Prop := Claim7.holds Tryz.pinned (.plain (OpenSpec.ofChange grammarLettersSpec)) grammarLettersCard

/-- THE TIED CARD OF 'analemmalaw24.GrammarOdd'. -/
def grammarOddCard : Claim7 := { stood := { row := grammarOddRow, standIns := [], harness := (true, "e8761e892d5e1867bd7963d9d3c578e1a8e883e3f510016ed3991503a5d71b0b"), looks := true }, kinds := [], alts := [], laidByText := true, laidKinds := [.data, .data, .data, .pinned, .pinned], laidTests := true, laidLooks := .later }
def GrammarOddCardSaid : Prop := Claim7.holds Tryz.pinned (.plain (OpenSpec.ofChange grammarOddSpec)) grammarOddCard

/-- THE SECOND FORM's CARD OF 'analemmalaw24.GrammarClocks'. -/
def grammarClocksUptoCard : Claim7 := { stood := { row := grammarClocksUptoRow, standIns := [], harness := (true, "e8761e892d5e1867bd7963d9d3c578e1a8e883e3f510016ed3991503a5d71b0b"), looks := true }, kinds := [], alts := [], laidByText := true, laidKinds := [.data, .data, .data, .pinned, .pinned], laidTests := true, laidLooks := .later }
def GrammarClocksUptoCardSaid : Prop := Claim7.holds Tryz.pinned (.plain (OpenSpec.upto grammarClocksSpec)) grammarClocksUptoCard

/-- THE SECOND FORM's CARD OF 'analemmalaw24.GrammarSpans'. -/
def grammarSpansUptoCard : Claim7 := { stood := { row := grammarSpansUptoRow, standIns := [], harness := (true, "e8761e892d5e1867bd7963d9d3c578e1a8e883e3f510016ed3991503a5d71b0b"), looks := true }, kinds := [], alts := [], laidByText := true, laidKinds := [.data, .data, .data, .pinned, .pinned], laidTests := true, laidLooks := .later }
def GrammarSpansUptoCardSaid : Prop := Claim7.holds Tryz.pinned (.plain (OpenSpec.upto grammarSpansSpec)) grammarSpansUptoCard

/-- THE SECOND FORM's CARD OF 'analemmalaw24.GrammarSame'. -/
def grammarSameUptoCard : Claim7 := { stood := { row := grammarSameUptoRow, standIns := [], harness := (true, "e8761e892d5e1867bd7963d9d3c578e1a8e883e3f510016ed3991503a5d71b0b"), looks := true }, kinds := [], alts := [], laidByText := true, laidKinds := [.data, .data, .data, .pinned, .pinned], laidTests := true, laidLooks := .later }
def GrammarSameUptoCardSaid : Prop := Claim7.holds Tryz.pinned (.plain (OpenSpec.upto grammarSameSpec)) grammarSameUptoCard

/-- THE SECOND FORM's CARD OF 'analemmalaw24.GrammarLetters'. -/
def grammarLettersUptoCard : Claim7 := { stood := { row := grammarLettersUptoRow, standIns := [], harness := (true, "e8761e892d5e1867bd7963d9d3c578e1a8e883e3f510016ed3991503a5d71b0b"), looks := true }, kinds := [], alts := [], laidByText := true, laidKinds := [.data, .data, .data, .pinned, .pinned], laidTests := true, laidLooks := .later }
def GrammarLettersUptoCardSaid : Prop := Claim7.holds Tryz.pinned (.plain (OpenSpec.upto grammarLettersSpec)) grammarLettersUptoCard

/-- THE SECOND FORM's CARD OF 'analemmalaw24.GrammarOdd'. -/
def grammarOddUptoCard : Claim7 := { stood := { row := grammarOddUptoRow, standIns := [], harness := (true, "e8761e892d5e1867bd7963d9d3c578e1a8e883e3f510016ed3991503a5d71b0b"), looks := true }, kinds := [], alts := [], laidByText := true, laidKinds := [.data, .data, .data, .pinned, .pinned], laidTests := true, laidLooks := .later }
def GrammarOddUptoCardSaid : Prop := Claim7.holds Tryz.pinned (.plain (OpenSpec.upto grammarOddSpec)) grammarOddUptoCard
end Rows
end Go.Proofs.YtiiekaehbahenaaGreatDoor
