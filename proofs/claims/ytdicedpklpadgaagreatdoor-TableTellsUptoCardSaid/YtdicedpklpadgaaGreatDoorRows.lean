/-
  NARROWER THAN 'FOR EVERY INPUT', by the rows' own cells (each row's printed sentence says how): TableCompiles: laid · TableTells: laid · TableSames: laid · TableMeans: laid · TableRefuses: laid · TableAlone: laid.
  DERIVED. THE GIVEN ROWS OF THIS SEAT. 6 by the template 'for every input the law returns true; each argument reads behind the call as it read before'; 0 by the template 'total and deterministic' (their statements: YtdicedpklpadgaaGreatDoorTotals.lean).
  GIVEN WITH THE SEED: the statements are not yours to turn. If you find one false, say at which input.
  Laid BY PROGRAM, IN A SANDBOX (cutbox-rows.mjs): the forced cells as the released guide's own fill.sh prints them over the translation 4ea9b87c0860daf3… (all of the seat's roots in one cut). By AI agents, Wed Nov 11 2026. No macro, syntax, notation, axiom, sorry.
-/
import Derived.Test.YtdicedpklpadgaaGreatDoorChecked
import GoSem.PinnedTables
import GoSem.Claim
import GoSem.ClaimJoined
import GoSem.ClaimMapViews
import Derived.JoinedTies
import Derived.KernelRfl
namespace Go.Proofs.YtdicedpklpadgaaGreatDoor
/- THE CELL 'sum', in the pinned program and in every row, IS THE sha256 OF THE DUMP (.gsa) THAT YtdicedpklpadgaaGreatDoorProg.lean LOADS. Nothing in Lean hashes anything: it is a label: what it is worth is what the hold of that sum in a sandbox is worth. -/
noncomputable def Tryz.pinned : Pinned := { name := "ytdicedpklpadgaagreatdoor", sum := "4ea9b87c0860daf3f2f5e4bb9d9ea69b3bfbed4313f7f7967fe9dfa07b314422", checked := Tryz.checked }
namespace Rows
def none {H : Type} : Left H := { results := [], args := [] }

/- WHAT THE LISTED PACKAGE-LEVEL VARIABLES READ AS WHEN THE CALL BEGINS. Each datum BY PROGRAM (the guide's laid-datum.mjs) off the statement by which the dump's own 'gosem.cut.vars' lays the variable. In a bare row this is a premise. The card (YtdicedpklpadgaaGreatDoorCards.lean) ties it to the program's text. -/
def laid_unicode_utf8_acceptRanges {H : Type} : DataW H := .agg [.agg [.lit (.int .u8 128), .lit (.int .u8 191)], .agg [.lit (.int .u8 160), .lit (.int .u8 191)], .agg [.lit (.int .u8 128), .lit (.int .u8 159)], .agg [.lit (.int .u8 144), .lit (.int .u8 191)], .agg [.lit (.int .u8 128), .lit (.int .u8 143)], .agg [.lit (.int .u8 0), .lit (.int .u8 0)], .agg [.lit (.int .u8 0), .lit (.int .u8 0)], .agg [.lit (.int .u8 0), .lit (.int .u8 0)], .agg [.lit (.int .u8 0), .lit (.int .u8 0)], .agg [.lit (.int .u8 0), .lit (.int .u8 0)], .agg [.lit (.int .u8 0), .lit (.int .u8 0)], .agg [.lit (.int .u8 0), .lit (.int .u8 0)], .agg [.lit (.int .u8 0), .lit (.int .u8 0)], .agg [.lit (.int .u8 0), .lit (.int .u8 0)], .agg [.lit (.int .u8 0), .lit (.int .u8 0)], .agg [.lit (.int .u8 0), .lit (.int .u8 0)]]
/-- One of Go's own tables, pinned by name: the form's constant. -/
def laid_unicode_utf8_first : DataW Unit := Go.Pinned.utf8First

/-- 'analemmalaw14.TableCompiles': WHATEVER THE INPUT: true; the input reads as it did. -/
def tableCompilesSpec : ChangeSpec := { name := "tableCompiles", fn := fun _ => fun
  | [d1, d2] => { results := [.lit (.bool true)], args := [d1, d2] }
  | _ => none }
def tableCompilesRow : OpenClaim := { program := "ytdicedpklpadgaagreatdoor", sum := "4ea9b87c0860daf3f2f5e4bb9d9ea69b3bfbed4313f7f7967fe9dfa07b314422", func := "analemma/analemmalaw14.TableCompiles", spec := "tableCompiles", inPlace := ["internal/bytealg.IndexByteString", "internal/bytealg.CountString", "internal/bytealg.IndexString", "internal/abi.NoEscape", "internal/bytealg.MakeNoZero"], unfollowed := true, recurses := true, named := ["unicode/utf8.first", "unicode/utf8.acceptRanges", "internal/bytealg.MaxLen"], apart := false, laid := [("unicode/utf8.acceptRanges", laid_unicode_utf8_acceptRanges), ("unicode/utf8.first", laid_unicode_utf8_first)] }
def TableCompilesSaid : Prop := tableCompilesRow.holds Tryz.pinned (OpenSpec.ofChange tableCompilesSpec)

/-- ITS FALSE NEIGHBOUR: 'it returns false'. Refute it at one input. -/
def tableCompilesWrong : ChangeSpec := { name := "tableCompiles", fn := fun _ => fun
  | [d1, d2] => { results := [.lit (.bool false)], args := [d1, d2] }
  | _ => none }
def TableCompilesWrongFalsely : Prop := tableCompilesRow.holds Tryz.pinned (OpenSpec.ofChange tableCompilesWrong)

/-- 'analemmalaw14.TableTells': WHATEVER THE INPUT: true; the input reads as it did. -/
def tableTellsSpec : ChangeSpec := { name := "tableTells", fn := fun _ => fun
  | [d1, d2] => { results := [.lit (.bool true)], args := [d1, d2] }
  | _ => none }
def tableTellsRow : OpenClaim := { program := "ytdicedpklpadgaagreatdoor", sum := "4ea9b87c0860daf3f2f5e4bb9d9ea69b3bfbed4313f7f7967fe9dfa07b314422", func := "analemma/analemmalaw14.TableTells", spec := "tableTells", inPlace := ["internal/bytealg.IndexByteString", "internal/bytealg.CountString", "internal/bytealg.IndexString", "internal/abi.NoEscape", "internal/bytealg.MakeNoZero"], unfollowed := true, recurses := true, named := ["unicode/utf8.first", "unicode/utf8.acceptRanges", "internal/bytealg.MaxLen"], apart := false, laid := [("unicode/utf8.acceptRanges", laid_unicode_utf8_acceptRanges), ("unicode/utf8.first", laid_unicode_utf8_first)] }
def TableTellsSaid : Prop := tableTellsRow.holds Tryz.pinned (OpenSpec.ofChange tableTellsSpec)

/-- ITS FALSE NEIGHBOUR: 'it returns false'. Refute it at one input. -/
def tableTellsWrong : ChangeSpec := { name := "tableTells", fn := fun _ => fun
  | [d1, d2] => { results := [.lit (.bool false)], args := [d1, d2] }
  | _ => none }
def TableTellsWrongFalsely : Prop := tableTellsRow.holds Tryz.pinned (OpenSpec.ofChange tableTellsWrong)

/-- 'analemmalaw14.TableSames': WHATEVER THE INPUT: true; the input reads as it did. -/
def tableSamesSpec : ChangeSpec := { name := "tableSames", fn := fun _ => fun
  | [d1, d2] => { results := [.lit (.bool true)], args := [d1, d2] }
  | _ => none }
def tableSamesRow : OpenClaim := { program := "ytdicedpklpadgaagreatdoor", sum := "4ea9b87c0860daf3f2f5e4bb9d9ea69b3bfbed4313f7f7967fe9dfa07b314422", func := "analemma/analemmalaw14.TableSames", spec := "tableSames", inPlace := ["internal/bytealg.IndexByteString", "internal/bytealg.CountString", "internal/bytealg.IndexString", "internal/abi.NoEscape", "internal/bytealg.MakeNoZero"], unfollowed := true, recurses := true, named := ["unicode/utf8.first", "unicode/utf8.acceptRanges", "internal/bytealg.MaxLen"], apart := false, laid := [("unicode/utf8.acceptRanges", laid_unicode_utf8_acceptRanges), ("unicode/utf8.first", laid_unicode_utf8_first)] }
def TableSamesSaid : Prop := tableSamesRow.holds Tryz.pinned (OpenSpec.ofChange tableSamesSpec)

/-- ITS FALSE NEIGHBOUR: 'it returns false'. Refute it at one input. -/
def tableSamesWrong : ChangeSpec := { name := "tableSames", fn := fun _ => fun
  | [d1, d2] => { results := [.lit (.bool false)], args := [d1, d2] }
  | _ => none }
def TableSamesWrongFalsely : Prop := tableSamesRow.holds Tryz.pinned (OpenSpec.ofChange tableSamesWrong)

/-- 'analemmalaw14.TableMeans': WHATEVER THE INPUT: true; the input reads as it did. -/
def tableMeansSpec : ChangeSpec := { name := "tableMeans", fn := fun _ => fun
  | [d1, d2, d3] => { results := [.lit (.bool true)], args := [d1, d2, d3] }
  | _ => none }
def tableMeansRow : OpenClaim := { program := "ytdicedpklpadgaagreatdoor", sum := "4ea9b87c0860daf3f2f5e4bb9d9ea69b3bfbed4313f7f7967fe9dfa07b314422", func := "analemma/analemmalaw14.TableMeans", spec := "tableMeans", inPlace := ["internal/bytealg.IndexByteString", "internal/bytealg.CountString", "internal/bytealg.IndexString", "internal/abi.NoEscape", "internal/bytealg.MakeNoZero"], unfollowed := true, recurses := true, named := ["unicode/utf8.first", "unicode/utf8.acceptRanges", "internal/bytealg.MaxLen"], apart := false, laid := [("unicode/utf8.acceptRanges", laid_unicode_utf8_acceptRanges), ("unicode/utf8.first", laid_unicode_utf8_first)] }
def TableMeansSaid : Prop := tableMeansRow.holds Tryz.pinned (OpenSpec.ofChange tableMeansSpec)

/-- ITS FALSE NEIGHBOUR: 'it returns false'. Refute it at one input. -/
def tableMeansWrong : ChangeSpec := { name := "tableMeans", fn := fun _ => fun
  | [d1, d2, d3] => { results := [.lit (.bool false)], args := [d1, d2, d3] }
  | _ => none }
def TableMeansWrongFalsely : Prop := tableMeansRow.holds Tryz.pinned (OpenSpec.ofChange tableMeansWrong)

/-- 'analemmalaw14.TableRefuses': WHATEVER THE INPUT: true; the input reads as it did. -/
def tableRefusesSpec : ChangeSpec := { name := "tableRefuses", fn := fun _ => fun
  | [d1, d2] => { results := [.lit (.bool true)], args := [d1, d2] }
  | _ => none }
def tableRefusesRow : OpenClaim := { program := "ytdicedpklpadgaagreatdoor", sum := "4ea9b87c0860daf3f2f5e4bb9d9ea69b3bfbed4313f7f7967fe9dfa07b314422", func := "analemma/analemmalaw14.TableRefuses", spec := "tableRefuses", inPlace := ["internal/bytealg.IndexByteString", "internal/bytealg.CountString", "internal/bytealg.IndexString", "internal/abi.NoEscape", "internal/bytealg.MakeNoZero"], unfollowed := true, recurses := true, named := ["unicode/utf8.first", "unicode/utf8.acceptRanges", "internal/bytealg.MaxLen"], apart := false, laid := [("unicode/utf8.acceptRanges", laid_unicode_utf8_acceptRanges), ("unicode/utf8.first", laid_unicode_utf8_first)] }
def TableRefusesSaid : Prop := tableRefusesRow.holds Tryz.pinned (OpenSpec.ofChange tableRefusesSpec)

/-- ITS FALSE NEIGHBOUR: 'it returns false'. Refute it at one input. -/
def tableRefusesWrong : ChangeSpec := { name := "tableRefuses", fn := fun _ => fun
  | [d1, d2] => { results := [.lit (.bool false)], args := [d1, d2] }
  | _ => none }
def TableRefusesWrongFalsely : Prop := tableRefusesRow.holds Tryz.pinned (OpenSpec.ofChange tableRefusesWrong)

/-- 'analemmalaw14.TableAlone': WHATEVER THE INPUT: true; the input reads as it did. -/
def tableAloneSpec : ChangeSpec := { name := "tableAlone", fn := fun _ => fun
  | [d1, d2] => { results := [.lit (.bool true)], args := [d1, d2] }
  | _ => none }
def tableAloneRow : OpenClaim := { program := "ytdicedpklpadgaagreatdoor", sum := "4ea9b87c0860daf3f2f5e4bb9d9ea69b3bfbed4313f7f7967fe9dfa07b314422", func := "analemma/analemmalaw14.TableAlone", spec := "tableAlone", inPlace := ["internal/bytealg.IndexByteString", "internal/bytealg.CountString", "internal/bytealg.IndexString", "internal/abi.NoEscape", "internal/bytealg.MakeNoZero"], unfollowed := true, recurses := true, named := ["unicode/utf8.first", "unicode/utf8.acceptRanges", "internal/bytealg.MaxLen"], apart := false, laid := [("unicode/utf8.acceptRanges", laid_unicode_utf8_acceptRanges), ("unicode/utf8.first", laid_unicode_utf8_first)] }
def TableAloneSaid : Prop := tableAloneRow.holds Tryz.pinned (OpenSpec.ofChange tableAloneSpec)

/-- ITS FALSE NEIGHBOUR: 'it returns false'. Refute it at one input. -/
def tableAloneWrong : ChangeSpec := { name := "tableAlone", fn := fun _ => fun
  | [d1, d2] => { results := [.lit (.bool false)], args := [d1, d2] }
  | _ => none }
def TableAloneWrongFalsely : Prop := tableAloneRow.holds Tryz.pinned (OpenSpec.ofChange tableAloneWrong)

/- THE SECOND FORM. 'bulk': how many values and letters a reading holds, each counted each time it is reached (what is shared counts as often as it is met; a slice's spare places count too). A statement '..UptoSaid' is the law's where the arguments, and the package variables that the reading takes, are together of bulk at most 1048576: NARROWER than '..Said'. Prove '..Said' where nothing that the law and all that it calls make is longer than what came in: it says more and counts as full. Else prove '..UptoSaid'. A law counts once. -/
mutual
def uptoBulk {H : Type} : DataW H → Nat
  | .lit (.string bytes) => bytes.length + 1
  | .lit _ => 1
  | .nil => 1
  | .ptr d => uptoBulk d + 1
  | .slice elems spare => uptoBulkAll elems + uptoBulkAll spare + 1
  | .agg parts => uptoBulkAll parts + 1
  | .iface _ d => uptoBulk d + 1
  | .map entries => uptoBulkEntries entries + 1
  | .held _ => 1
def uptoBulkAll {H : Type} : List (DataW H) → Nat
  | [] => 0
  | d :: r => uptoBulk d + uptoBulkAll r
def uptoBulkEntries {H : Type} : List (Lit × DataW H) → Nat
  | [] => 0
  | x :: r => uptoBulkEntry x + uptoBulkEntries r
def uptoBulkEntry {H : Type} : Lit × DataW H → Nat
  | (.string bytes, d) => bytes.length + uptoBulk d + 1
  | (_, d) => uptoBulk d + 1
 end
def uptoSmall : (H : Type) → List (DataW H) → Bool := fun _ ds => decide (uptoBulkAll ds ≤ 1048576)
def OpenSpec.upto (s : _root_.Go.ChangeSpec) : _root_.Go.OpenSpec := { _root_.Go.OpenSpec.ofChange s with cond := some uptoSmall }

/-- 'analemmalaw14.TableCompiles', WHERE WHAT IT READS IS OF BULK AT MOST 1048576: true; the input reads as it did. -/
def tableCompilesUptoRow : OpenClaim := { program := "ytdicedpklpadgaagreatdoor", sum := "4ea9b87c0860daf3f2f5e4bb9d9ea69b3bfbed4313f7f7967fe9dfa07b314422", func := "analemma/analemmalaw14.TableCompiles", spec := "tableCompiles", inPlace := ["internal/bytealg.IndexByteString", "internal/bytealg.CountString", "internal/bytealg.IndexString", "internal/abi.NoEscape", "internal/bytealg.MakeNoZero"], unfollowed := true, recurses := true, named := ["unicode/utf8.first", "unicode/utf8.acceptRanges", "internal/bytealg.MaxLen"], apart := false, laid := [("unicode/utf8.acceptRanges", laid_unicode_utf8_acceptRanges), ("unicode/utf8.first", laid_unicode_utf8_first)], narrowed := true }
def TableCompilesUptoSaid : Prop := tableCompilesUptoRow.holds Tryz.pinned (OpenSpec.upto tableCompilesSpec)

/-- 'analemmalaw14.TableTells', WHERE WHAT IT READS IS OF BULK AT MOST 1048576: true; the input reads as it did. -/
def tableTellsUptoRow : OpenClaim := { program := "ytdicedpklpadgaagreatdoor", sum := "4ea9b87c0860daf3f2f5e4bb9d9ea69b3bfbed4313f7f7967fe9dfa07b314422", func := "analemma/analemmalaw14.TableTells", spec := "tableTells", inPlace := ["internal/bytealg.IndexByteString", "internal/bytealg.CountString", "internal/bytealg.IndexString", "internal/abi.NoEscape", "internal/bytealg.MakeNoZero"], unfollowed := true, recurses := true, named := ["unicode/utf8.first", "unicode/utf8.acceptRanges", "internal/bytealg.MaxLen"], apart := false, laid := [("unicode/utf8.acceptRanges", laid_unicode_utf8_acceptRanges), ("unicode/utf8.first", laid_unicode_utf8_first)], narrowed := true }
def TableTellsUptoSaid : Prop := tableTellsUptoRow.holds Tryz.pinned (OpenSpec.upto tableTellsSpec)

/-- 'analemmalaw14.TableSames', WHERE WHAT IT READS IS OF BULK AT MOST 1048576: true; the input reads as it did. -/
def tableSamesUptoRow : OpenClaim := { program := "ytdicedpklpadgaagreatdoor", sum := "4ea9b87c0860daf3f2f5e4bb9d9ea69b3bfbed4313f7f7967fe9dfa07b314422", func := "analemma/analemmalaw14.TableSames", spec := "tableSames", inPlace := ["internal/bytealg.IndexByteString", "internal/bytealg.CountString", "internal/bytealg.IndexString", "internal/abi.NoEscape", "internal/bytealg.MakeNoZero"], unfollowed := true, recurses := true, named := ["unicode/utf8.first", "unicode/utf8.acceptRanges", "internal/bytealg.MaxLen"], apart := false, laid := [("unicode/utf8.acceptRanges", laid_unicode_utf8_acceptRanges), ("unicode/utf8.first", laid_unicode_utf8_first)], narrowed := true }
def TableSamesUptoSaid : Prop := tableSamesUptoRow.holds Tryz.pinned (OpenSpec.upto tableSamesSpec)

/-- 'analemmalaw14.TableMeans', WHERE WHAT IT READS IS OF BULK AT MOST 1048576: true; the input reads as it did. -/
def tableMeansUptoRow : OpenClaim := { program := "ytdicedpklpadgaagreatdoor", sum := "4ea9b87c0860daf3f2f5e4bb9d9ea69b3bfbed4313f7f7967fe9dfa07b314422", func := "analemma/analemmalaw14.TableMeans", spec := "tableMeans", inPlace := ["internal/bytealg.IndexByteString", "internal/bytealg.CountString", "internal/bytealg.IndexString", "internal/abi.NoEscape", "internal/bytealg.MakeNoZero"], unfollowed := true, recurses := true, named := ["unicode/utf8.first", "unicode/utf8.acceptRanges", "internal/bytealg.MaxLen"], apart := false, laid := [("unicode/utf8.acceptRanges", laid_unicode_utf8_acceptRanges), ("unicode/utf8.first", laid_unicode_utf8_first)], narrowed := true }
def TableMeansUptoSaid : Prop := tableMeansUptoRow.holds Tryz.pinned (OpenSpec.upto tableMeansSpec)

/-- 'analemmalaw14.TableRefuses', WHERE WHAT IT READS IS OF BULK AT MOST 1048576: true; the input reads as it did. -/
def tableRefusesUptoRow : OpenClaim := { program := "ytdicedpklpadgaagreatdoor", sum := "4ea9b87c0860daf3f2f5e4bb9d9ea69b3bfbed4313f7f7967fe9dfa07b314422", func := "analemma/analemmalaw14.TableRefuses", spec := "tableRefuses", inPlace := ["internal/bytealg.IndexByteString", "internal/bytealg.CountString", "internal/bytealg.IndexString", "internal/abi.NoEscape", "internal/bytealg.MakeNoZero"], unfollowed := true, recurses := true, named := ["unicode/utf8.first", "unicode/utf8.acceptRanges", "internal/bytealg.MaxLen"], apart := false, laid := [("unicode/utf8.acceptRanges", laid_unicode_utf8_acceptRanges), ("unicode/utf8.first", laid_unicode_utf8_first)], narrowed := true }
def TableRefusesUptoSaid : Prop := tableRefusesUptoRow.holds Tryz.pinned (OpenSpec.upto tableRefusesSpec)

/-- 'analemmalaw14.TableAlone', WHERE WHAT IT READS IS OF BULK AT MOST 1048576: true; the input reads as it did. -/
def tableAloneUptoRow : OpenClaim := { program := "ytdicedpklpadgaagreatdoor", sum := "4ea9b87c0860daf3f2f5e4bb9d9ea69b3bfbed4313f7f7967fe9dfa07b314422", func := "analemma/analemmalaw14.TableAlone", spec := "tableAlone", inPlace := ["internal/bytealg.IndexByteString", "internal/bytealg.CountString", "internal/bytealg.IndexString", "internal/abi.NoEscape", "internal/bytealg.MakeNoZero"], unfollowed := true, recurses := true, named := ["unicode/utf8.first", "unicode/utf8.acceptRanges", "internal/bytealg.MaxLen"], apart := false, laid := [("unicode/utf8.acceptRanges", laid_unicode_utf8_acceptRanges), ("unicode/utf8.first", laid_unicode_utf8_first)], narrowed := true }
def TableAloneUptoSaid : Prop := tableAloneUptoRow.holds Tryz.pinned (OpenSpec.upto tableAloneSpec)

end Rows
end Go.Proofs.YtdicedpklpadgaaGreatDoor
