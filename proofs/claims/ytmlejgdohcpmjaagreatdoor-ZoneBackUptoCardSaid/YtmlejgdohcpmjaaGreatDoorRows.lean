/-
  NARROWER THAN 'FOR EVERY INPUT', by the rows' own cells (each row's printed sentence says how): ZoneSeconds: laid · ZoneShapes: laid · ZoneChooses: laid · ZoneNexts: laid · ZoneBack: laid · ZoneStretches: laid.
  DERIVED. THE GIVEN ROWS OF THIS SEAT. 6 by the template 'for every input the law returns true; each argument reads behind the call as it read before'; 0 by the template 'total and deterministic' (their statements: YtmlejgdohcpmjaaGreatDoorTotals.lean).
  GIVEN WITH THE SEED: the statements are not yours to turn. If you find one false, say at which input.
  Laid BY PROGRAM, IN A SANDBOX (cutbox-rows.mjs): the forced cells as the released guide's own fill.sh prints them over the translation 68257d1068e8f797… (all of the seat's roots in one cut). By AI agents, Wed Nov 11 2026. No macro, syntax, notation, axiom, sorry.
-/
import Derived.Test.YtmlejgdohcpmjaaGreatDoorChecked
import GoSem.PinnedTables
import GoSem.Claim
import GoSem.ClaimJoined
import GoSem.ClaimMapViews
import Derived.JoinedTies
import Derived.KernelRfl
namespace Go.Proofs.YtmlejgdohcpmjaaGreatDoor
/- THE CELL 'sum', in the pinned program and in every row, IS THE sha256 OF THE DUMP (.gsa) THAT YtmlejgdohcpmjaaGreatDoorProg.lean LOADS. Nothing in Lean hashes anything: it is a label: what it is worth is what the hold of that sum in a sandbox is worth. -/
noncomputable def Tryz.pinned : Pinned := { name := "ytmlejgdohcpmjaagreatdoor", sum := "68257d1068e8f797a33af8b0b24f278da53288ce96e4ba77280f6876fa6eaf16", checked := Tryz.checked }
namespace Rows
def none {H : Type} : Left H := { results := [], args := [] }

/- WHAT THE LISTED PACKAGE-LEVEL VARIABLES READ AS WHEN THE CALL BEGINS. Each datum BY PROGRAM (the guide's laid-datum.mjs) off the statement by which the dump's own 'gosem.cut.vars' lays the variable. In a bare row this is a premise. The card (YtmlejgdohcpmjaaGreatDoorCards.lean) ties it to the program's text. -/
def laid_unicode_utf8_acceptRanges {H : Type} : DataW H := .agg [.agg [.lit (.int .u8 128), .lit (.int .u8 191)], .agg [.lit (.int .u8 160), .lit (.int .u8 191)], .agg [.lit (.int .u8 128), .lit (.int .u8 159)], .agg [.lit (.int .u8 144), .lit (.int .u8 191)], .agg [.lit (.int .u8 128), .lit (.int .u8 143)], .agg [.lit (.int .u8 0), .lit (.int .u8 0)], .agg [.lit (.int .u8 0), .lit (.int .u8 0)], .agg [.lit (.int .u8 0), .lit (.int .u8 0)], .agg [.lit (.int .u8 0), .lit (.int .u8 0)], .agg [.lit (.int .u8 0), .lit (.int .u8 0)], .agg [.lit (.int .u8 0), .lit (.int .u8 0)], .agg [.lit (.int .u8 0), .lit (.int .u8 0)], .agg [.lit (.int .u8 0), .lit (.int .u8 0)], .agg [.lit (.int .u8 0), .lit (.int .u8 0)], .agg [.lit (.int .u8 0), .lit (.int .u8 0)], .agg [.lit (.int .u8 0), .lit (.int .u8 0)]]
/-- One of Go's own tables, pinned by name: the form's constant. -/
def laid_unicode_utf8_first : DataW Unit := Go.Pinned.utf8First

/-- 'analemmalaw16.ZoneSeconds': WHATEVER THE INPUT: true; the input reads as it did. -/
def zoneSecondsSpec : ChangeSpec := { name := "zoneSeconds", fn := fun _ => fun
  | [d1, d2] => { results := [.lit (.bool true)], args := [d1, d2] }
  | _ => none }
def zoneSecondsRow : OpenClaim := { program := "ytmlejgdohcpmjaagreatdoor", sum := "68257d1068e8f797a33af8b0b24f278da53288ce96e4ba77280f6876fa6eaf16", func := "analemma/analemmalaw16.ZoneSeconds", spec := "zoneSeconds", inPlace := ["internal/bytealg.CountString", "internal/bytealg.IndexByteString", "internal/bytealg.IndexString", "internal/abi.NoEscape", "internal/bytealg.MakeNoZero"], unfollowed := true, recurses := true, named := ["unicode/utf8.first", "unicode/utf8.acceptRanges", "internal/bytealg.MaxLen"], apart := false, laid := [("unicode/utf8.acceptRanges", laid_unicode_utf8_acceptRanges), ("unicode/utf8.first", laid_unicode_utf8_first)] }
def ZoneSecondsSaid : Prop := zoneSecondsRow.holds Tryz.pinned (OpenSpec.ofChange zoneSecondsSpec)

/-- ITS FALSE NEIGHBOUR: 'it returns false'. Refute it at one input. -/
def zoneSecondsWrong : ChangeSpec := { name := "zoneSeconds", fn := fun _ => fun
  | [d1, d2] => { results := [.lit (.bool false)], args := [d1, d2] }
  | _ => none }
def ZoneSecondsWrongFalsely : Prop := zoneSecondsRow.holds Tryz.pinned (OpenSpec.ofChange zoneSecondsWrong)

/-- 'analemmalaw16.ZoneShapes': WHATEVER THE INPUT: true; the input reads as it did. -/
def zoneShapesSpec : ChangeSpec := { name := "zoneShapes", fn := fun _ => fun
  | [d1, d2] => { results := [.lit (.bool true)], args := [d1, d2] }
  | _ => none }
def zoneShapesRow : OpenClaim := { program := "ytmlejgdohcpmjaagreatdoor", sum := "68257d1068e8f797a33af8b0b24f278da53288ce96e4ba77280f6876fa6eaf16", func := "analemma/analemmalaw16.ZoneShapes", spec := "zoneShapes", inPlace := ["internal/bytealg.CountString", "internal/bytealg.IndexByteString", "internal/bytealg.IndexString", "internal/abi.NoEscape", "internal/bytealg.MakeNoZero"], unfollowed := true, recurses := true, named := ["unicode/utf8.first", "unicode/utf8.acceptRanges", "internal/bytealg.MaxLen"], apart := false, laid := [("unicode/utf8.acceptRanges", laid_unicode_utf8_acceptRanges), ("unicode/utf8.first", laid_unicode_utf8_first)] }
def ZoneShapesSaid : Prop := zoneShapesRow.holds Tryz.pinned (OpenSpec.ofChange zoneShapesSpec)

/-- ITS FALSE NEIGHBOUR: 'it returns false'. Refute it at one input. -/
def zoneShapesWrong : ChangeSpec := { name := "zoneShapes", fn := fun _ => fun
  | [d1, d2] => { results := [.lit (.bool false)], args := [d1, d2] }
  | _ => none }
def ZoneShapesWrongFalsely : Prop := zoneShapesRow.holds Tryz.pinned (OpenSpec.ofChange zoneShapesWrong)

/-- 'analemmalaw16.ZoneChooses': WHATEVER THE INPUT: true; the input reads as it did. -/
def zoneChoosesSpec : ChangeSpec := { name := "zoneChooses", fn := fun _ => fun
  | [d1, d2, d3] => { results := [.lit (.bool true)], args := [d1, d2, d3] }
  | _ => none }
def zoneChoosesRow : OpenClaim := { program := "ytmlejgdohcpmjaagreatdoor", sum := "68257d1068e8f797a33af8b0b24f278da53288ce96e4ba77280f6876fa6eaf16", func := "analemma/analemmalaw16.ZoneChooses", spec := "zoneChooses", inPlace := ["internal/bytealg.CountString", "internal/bytealg.IndexByteString", "internal/bytealg.IndexString", "internal/abi.NoEscape", "internal/bytealg.MakeNoZero"], unfollowed := true, recurses := true, named := ["unicode/utf8.first", "unicode/utf8.acceptRanges", "internal/bytealg.MaxLen"], apart := false, laid := [("unicode/utf8.acceptRanges", laid_unicode_utf8_acceptRanges), ("unicode/utf8.first", laid_unicode_utf8_first)] }
def ZoneChoosesSaid : Prop := zoneChoosesRow.holds Tryz.pinned (OpenSpec.ofChange zoneChoosesSpec)

/-- ITS FALSE NEIGHBOUR: 'it returns false'. Refute it at one input. -/
def zoneChoosesWrong : ChangeSpec := { name := "zoneChooses", fn := fun _ => fun
  | [d1, d2, d3] => { results := [.lit (.bool false)], args := [d1, d2, d3] }
  | _ => none }
def ZoneChoosesWrongFalsely : Prop := zoneChoosesRow.holds Tryz.pinned (OpenSpec.ofChange zoneChoosesWrong)

/-- 'analemmalaw16.ZoneNexts': WHATEVER THE INPUT: true; the input reads as it did. -/
def zoneNextsSpec : ChangeSpec := { name := "zoneNexts", fn := fun _ => fun
  | [d1, d2] => { results := [.lit (.bool true)], args := [d1, d2] }
  | _ => none }
def zoneNextsRow : OpenClaim := { program := "ytmlejgdohcpmjaagreatdoor", sum := "68257d1068e8f797a33af8b0b24f278da53288ce96e4ba77280f6876fa6eaf16", func := "analemma/analemmalaw16.ZoneNexts", spec := "zoneNexts", inPlace := ["internal/bytealg.CountString", "internal/bytealg.IndexByteString", "internal/bytealg.IndexString", "internal/abi.NoEscape", "internal/bytealg.MakeNoZero"], unfollowed := true, recurses := true, named := ["unicode/utf8.first", "unicode/utf8.acceptRanges", "internal/bytealg.MaxLen"], apart := false, laid := [("unicode/utf8.acceptRanges", laid_unicode_utf8_acceptRanges), ("unicode/utf8.first", laid_unicode_utf8_first)] }
def ZoneNextsSaid : Prop := zoneNextsRow.holds Tryz.pinned (OpenSpec.ofChange zoneNextsSpec)

/-- ITS FALSE NEIGHBOUR: 'it returns false'. Refute it at one input. -/
def zoneNextsWrong : ChangeSpec := { name := "zoneNexts", fn := fun _ => fun
  | [d1, d2] => { results := [.lit (.bool false)], args := [d1, d2] }
  | _ => none }
def ZoneNextsWrongFalsely : Prop := zoneNextsRow.holds Tryz.pinned (OpenSpec.ofChange zoneNextsWrong)

/-- 'analemmalaw16.ZoneBack': WHATEVER THE INPUT: true; the input reads as it did. -/
def zoneBackSpec : ChangeSpec := { name := "zoneBack", fn := fun _ => fun
  | [d1, d2, d3] => { results := [.lit (.bool true)], args := [d1, d2, d3] }
  | _ => none }
def zoneBackRow : OpenClaim := { program := "ytmlejgdohcpmjaagreatdoor", sum := "68257d1068e8f797a33af8b0b24f278da53288ce96e4ba77280f6876fa6eaf16", func := "analemma/analemmalaw16.ZoneBack", spec := "zoneBack", inPlace := ["internal/bytealg.CountString", "internal/bytealg.IndexByteString", "internal/bytealg.IndexString", "internal/abi.NoEscape", "internal/bytealg.MakeNoZero"], unfollowed := true, recurses := true, named := ["unicode/utf8.first", "unicode/utf8.acceptRanges", "internal/bytealg.MaxLen"], apart := false, laid := [("unicode/utf8.acceptRanges", laid_unicode_utf8_acceptRanges), ("unicode/utf8.first", laid_unicode_utf8_first)] }
def ZoneBackSaid : Prop := zoneBackRow.holds Tryz.pinned (OpenSpec.ofChange zoneBackSpec)

/-- ITS FALSE NEIGHBOUR: 'it returns false'. Refute it at one input. -/
def zoneBackWrong : ChangeSpec := { name := "zoneBack", fn := fun _ => fun
  | [d1, d2, d3] => { results := [.lit (.bool false)], args := [d1, d2, d3] }
  | _ => none }
def ZoneBackWrongFalsely : Prop := zoneBackRow.holds Tryz.pinned (OpenSpec.ofChange zoneBackWrong)

/-- 'analemmalaw16.ZoneStretches': WHATEVER THE INPUT: true; the input reads as it did. -/
def zoneStretchesSpec : ChangeSpec := { name := "zoneStretches", fn := fun _ => fun
  | [d1, d2, d3] => { results := [.lit (.bool true)], args := [d1, d2, d3] }
  | _ => none }
def zoneStretchesRow : OpenClaim := { program := "ytmlejgdohcpmjaagreatdoor", sum := "68257d1068e8f797a33af8b0b24f278da53288ce96e4ba77280f6876fa6eaf16", func := "analemma/analemmalaw16.ZoneStretches", spec := "zoneStretches", inPlace := ["internal/bytealg.CountString", "internal/bytealg.IndexByteString", "internal/bytealg.IndexString", "internal/abi.NoEscape", "internal/bytealg.MakeNoZero"], unfollowed := true, recurses := true, named := ["unicode/utf8.first", "unicode/utf8.acceptRanges", "internal/bytealg.MaxLen"], apart := false, laid := [("unicode/utf8.acceptRanges", laid_unicode_utf8_acceptRanges), ("unicode/utf8.first", laid_unicode_utf8_first)] }
def ZoneStretchesSaid : Prop := zoneStretchesRow.holds Tryz.pinned (OpenSpec.ofChange zoneStretchesSpec)

/-- ITS FALSE NEIGHBOUR: 'it returns false'. Refute it at one input. -/
def zoneStretchesWrong : ChangeSpec := { name := "zoneStretches", fn := fun _ => fun
  | [d1, d2, d3] => { results := [.lit (.bool false)], args := [d1, d2, d3] }
  | _ => none }
def ZoneStretchesWrongFalsely : Prop := zoneStretchesRow.holds Tryz.pinned (OpenSpec.ofChange zoneStretchesWrong)

/- THE SECOND FORM. 'bulk': how many values and letters a reading holds, each counted each time it is reached (what is shared counts as often as it is met; a slice's spare places count too). A statement '..UptoSaid' is the law's where the arguments, and the package variables that the reading takes, are together of bulk at most 1048576: NARROWER than '..Said'. Prove '..Said' where nothing that the law and all that it calls make is longer than what came in: it says more and counts as full. Else prove '..UptoSaid'. A law counts once. -/
mutual
def uptoBulk {H : Type} : DataW H → Nat
  | .lit (.string bytes) => bytes.length + 1
  | .lit _ => 1
  | .nil => 1
  | .ptr d => uptoBulk d + 1
  | .slice elems spare => uptoBulkAll elems + uptoBulkAll spare + 1
  | .agg parts => uptoBulkAll parts + 1
  | .iface _ d => uptoBulk d + 1
  | .map entries => uptoBulkEntries entries + 1
  | .held _ => 1
def uptoBulkAll {H : Type} : List (DataW H) → Nat
  | [] => 0
  | d :: r => uptoBulk d + uptoBulkAll r
def uptoBulkEntries {H : Type} : List (Lit × DataW H) → Nat
  | [] => 0
  | x :: r => uptoBulkEntry x + uptoBulkEntries r
def uptoBulkEntry {H : Type} : Lit × DataW H → Nat
  | (.string bytes, d) => bytes.length + uptoBulk d + 1
  | (_, d) => uptoBulk d + 1
 end
def uptoSmall : (H : Type) → List (DataW H) → Bool := fun _ ds => decide (uptoBulkAll ds ≤ 1048576)
def OpenSpec.upto (s : _root_.Go.ChangeSpec) : _root_.Go.OpenSpec := { _root_.Go.OpenSpec.ofChange s with cond := some uptoSmall }

/-- 'analemmalaw16.ZoneSeconds', WHERE WHAT IT READS IS OF BULK AT MOST 1048576: true; the input reads as it did. -/
def zoneSecondsUptoRow : OpenClaim := { program := "ytmlejgdohcpmjaagreatdoor", sum := "68257d1068e8f797a33af8b0b24f278da53288ce96e4ba77280f6876fa6eaf16", func := "analemma/analemmalaw16.ZoneSeconds", spec := "zoneSeconds", inPlace := ["internal/bytealg.CountString", "internal/bytealg.IndexByteString", "internal/bytealg.IndexString", "internal/abi.NoEscape", "internal/bytealg.MakeNoZero"], unfollowed := true, recurses := true, named := ["unicode/utf8.first", "unicode/utf8.acceptRanges", "internal/bytealg.MaxLen"], apart := false, laid := [("unicode/utf8.acceptRanges", laid_unicode_utf8_acceptRanges), ("unicode/utf8.first", laid_unicode_utf8_first)], narrowed := true }
def ZoneSecondsUptoSaid : Prop := zoneSecondsUptoRow.holds Tryz.pinned (OpenSpec.upto zoneSecondsSpec)

/-- 'analemmalaw16.ZoneShapes', WHERE WHAT IT READS IS OF BULK AT MOST 1048576: true; the input reads as it did. -/
def zoneShapesUptoRow : OpenClaim := { program := "ytmlejgdohcpmjaagreatdoor", sum := "68257d1068e8f797a33af8b0b24f278da53288ce96e4ba77280f6876fa6eaf16", func := "analemma/analemmalaw16.ZoneShapes", spec := "zoneShapes", inPlace := ["internal/bytealg.CountString", "internal/bytealg.IndexByteString", "internal/bytealg.IndexString", "internal/abi.NoEscape", "internal/bytealg.MakeNoZero"], unfollowed := true, recurses := true, named := ["unicode/utf8.first", "unicode/utf8.acceptRanges", "internal/bytealg.MaxLen"], apart := false, laid := [("unicode/utf8.acceptRanges", laid_unicode_utf8_acceptRanges), ("unicode/utf8.first", laid_unicode_utf8_first)], narrowed := true }
def ZoneShapesUptoSaid : Prop := zoneShapesUptoRow.holds Tryz.pinned (OpenSpec.upto zoneShapesSpec)

/-- 'analemmalaw16.ZoneChooses', WHERE WHAT IT READS IS OF BULK AT MOST 1048576: true; the input reads as it did. -/
def zoneChoosesUptoRow : OpenClaim := { program := "ytmlejgdohcpmjaagreatdoor", sum := "68257d1068e8f797a33af8b0b24f278da53288ce96e4ba77280f6876fa6eaf16", func := "analemma/analemmalaw16.ZoneChooses", spec := "zoneChooses", inPlace := ["internal/bytealg.CountString", "internal/bytealg.IndexByteString", "internal/bytealg.IndexString", "internal/abi.NoEscape", "internal/bytealg.MakeNoZero"], unfollowed := true, recurses := true, named := ["unicode/utf8.first", "unicode/utf8.acceptRanges", "internal/bytealg.MaxLen"], apart := false, laid := [("unicode/utf8.acceptRanges", laid_unicode_utf8_acceptRanges), ("unicode/utf8.first", laid_unicode_utf8_first)], narrowed := true }
def ZoneChoosesUptoSaid : Prop := zoneChoosesUptoRow.holds Tryz.pinned (OpenSpec.upto zoneChoosesSpec)

/-- 'analemmalaw16.ZoneNexts', WHERE WHAT IT READS IS OF BULK AT MOST 1048576: true; the input reads as it did. -/
def zoneNextsUptoRow : OpenClaim := { program := "ytmlejgdohcpmjaagreatdoor", sum := "68257d1068e8f797a33af8b0b24f278da53288ce96e4ba77280f6876fa6eaf16", func := "analemma/analemmalaw16.ZoneNexts", spec := "zoneNexts", inPlace := ["internal/bytealg.CountString", "internal/bytealg.IndexByteString", "internal/bytealg.IndexString", "internal/abi.NoEscape", "internal/bytealg.MakeNoZero"], unfollowed := true, recurses := true, named := ["unicode/utf8.first", "unicode/utf8.acceptRanges", "internal/bytealg.MaxLen"], apart := false, laid := [("unicode/utf8.acceptRanges", laid_unicode_utf8_acceptRanges), ("unicode/utf8.first", laid_unicode_utf8_first)], narrowed := true }
def ZoneNextsUptoSaid : Prop := zoneNextsUptoRow.holds Tryz.pinned (OpenSpec.upto zoneNextsSpec)

/-- 'analemmalaw16.ZoneBack', WHERE WHAT IT READS IS OF BULK AT MOST 1048576: true; the input reads as it did. -/
def zoneBackUptoRow : OpenClaim := { program := "ytmlejgdohcpmjaagreatdoor", sum := "68257d1068e8f797a33af8b0b24f278da53288ce96e4ba77280f6876fa6eaf16", func := "analemma/analemmalaw16.ZoneBack", spec := "zoneBack", inPlace := ["internal/bytealg.CountString", "internal/bytealg.IndexByteString", "internal/bytealg.IndexString", "internal/abi.NoEscape", "internal/bytealg.MakeNoZero"], unfollowed := true, recurses := true, named := ["unicode/utf8.first", "unicode/utf8.acceptRanges", "internal/bytealg.MaxLen"], apart := false, laid := [("unicode/utf8.acceptRanges", laid_unicode_utf8_acceptRanges), ("unicode/utf8.first", laid_unicode_utf8_first)], narrowed := true }
def ZoneBackUptoSaid : Prop := zoneBackUptoRow.holds Tryz.pinned (OpenSpec.upto zoneBackSpec)

/-- 'analemmalaw16.ZoneStretches', WHERE WHAT IT READS IS OF BULK AT MOST 1048576: true; the input reads as it did. -/
def zoneStretchesUptoRow : OpenClaim := { program := "ytmlejgdohcpmjaagreatdoor", sum := "68257d1068e8f797a33af8b0b24f278da53288ce96e4ba77280f6876fa6eaf16", func := "analemma/analemmalaw16.ZoneStretches", spec := "zoneStretches", inPlace := ["internal/bytealg.CountString", "internal/bytealg.IndexByteString", "internal/bytealg.IndexString", "internal/abi.NoEscape", "internal/bytealg.MakeNoZero"], unfollowed := true, recurses := true, named := ["unicode/utf8.first", "unicode/utf8.acceptRanges", "internal/bytealg.MaxLen"], apart := false, laid := [("unicode/utf8.acceptRanges", laid_unicode_utf8_acceptRanges), ("unicode/utf8.first", laid_unicode_utf8_first)], narrowed := true }
def ZoneStretchesUptoSaid : Prop := zoneStretchesUptoRow.holds Tryz.pinned (OpenSpec.upto zoneStretchesSpec)

end Rows
end Go.Proofs.YtmlejgdohcpmjaaGreatDoor
