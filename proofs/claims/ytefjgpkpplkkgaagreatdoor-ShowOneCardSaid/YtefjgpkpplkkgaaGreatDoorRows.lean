/-
  NARROWER THAN 'FOR EVERY INPUT', by the rows' own cells (each row's printed sentence says how): ValueShows: loops, laid · ShowParts: loops, laid · ShowOne: loops, laid · ShowTypes: loops, laid · ShowSchemas: laid.
  DERIVED. THE GIVEN ROWS OF THIS SEAT. 5 by the template 'for every input the law returns true; each argument reads behind the call as it read before'; 0 by the template 'total and deterministic' (their statements: YtefjgpkpplkkgaaGreatDoorTotals.lean).
  GIVEN WITH THE SEED: the statements are not yours to turn. If you find one false, say at which input.
  Laid BY PROGRAM, IN A SANDBOX (cutbox-rows.mjs): the forced cells as the released guide's own fill.sh prints them over the translation 12c26e5069abbd7a… (all of the seat's roots in one cut). By AI agents, Wed Nov 11 2026. No macro, syntax, notation, axiom, sorry.
-/
import Derived.Test.YtefjgpkpplkkgaaGreatDoorChecked
import GoSem.PinnedTables
import GoSem.Claim
import GoSem.ClaimJoined
import GoSem.ClaimMapViews
import Derived.JoinedTies
import Derived.KernelRfl
namespace Go.Proofs.YtefjgpkpplkkgaaGreatDoor
/- THE CELL 'sum', in the pinned program and in every row, IS THE sha256 OF THE DUMP (.gsa) THAT YtefjgpkpplkkgaaGreatDoorProg.lean LOADS. Nothing in Lean hashes anything: it is a label: what it is worth is what the hold of that sum in a sandbox is worth. -/
noncomputable def Tryz.pinned : Pinned := { name := "ytefjgpkpplkkgaagreatdoor", sum := "12c26e5069abbd7a02795be14e0b1468030fafb25e24ae771d1ff232ef130f67", checked := Tryz.checked }
namespace Rows
def none {H : Type} : Left H := { results := [], args := [] }

/- WHAT THE LISTED PACKAGE-LEVEL VARIABLES READ AS WHEN THE CALL BEGINS. Each datum BY PROGRAM (the guide's laid-datum.mjs) off the statement by which the dump's own 'gosem.cut.vars' lays the variable. In a bare row this is a premise. The card (YtefjgpkpplkkgaaGreatDoorCards.lean) ties it to the program's text. -/
def laid_unicode_utf8_acceptRanges {H : Type} : DataW H := .agg [.agg [.lit (.int .u8 128), .lit (.int .u8 191)], .agg [.lit (.int .u8 160), .lit (.int .u8 191)], .agg [.lit (.int .u8 128), .lit (.int .u8 159)], .agg [.lit (.int .u8 144), .lit (.int .u8 191)], .agg [.lit (.int .u8 128), .lit (.int .u8 143)], .agg [.lit (.int .u8 0), .lit (.int .u8 0)], .agg [.lit (.int .u8 0), .lit (.int .u8 0)], .agg [.lit (.int .u8 0), .lit (.int .u8 0)], .agg [.lit (.int .u8 0), .lit (.int .u8 0)], .agg [.lit (.int .u8 0), .lit (.int .u8 0)], .agg [.lit (.int .u8 0), .lit (.int .u8 0)], .agg [.lit (.int .u8 0), .lit (.int .u8 0)], .agg [.lit (.int .u8 0), .lit (.int .u8 0)], .agg [.lit (.int .u8 0), .lit (.int .u8 0)], .agg [.lit (.int .u8 0), .lit (.int .u8 0)], .agg [.lit (.int .u8 0), .lit (.int .u8 0)]]
/-- One of Go's own tables, pinned by name: the form's constant. -/
def laid_unicode_utf8_first : DataW Unit := Go.Pinned.utf8First

/-- 'rubriclaw08.ValueShows': WHATEVER THE INPUT: true; the input reads as it did. -/
def valueShowsSpec : ChangeSpec := { name := "valueShows", fn := fun _ => fun
  | [d] => { results := [.lit (.bool true)], args := [d] }
  | _ => none }
def valueShowsRow : OpenClaim := { program := "ytefjgpkpplkkgaagreatdoor", sum := "12c26e5069abbd7a02795be14e0b1468030fafb25e24ae771d1ff232ef130f67", func := "rubric/rubriclaw08.ValueShows", spec := "valueShows", inPlace := ["internal/bytealg.CountString", "internal/bytealg.IndexByteString", "internal/bytealg.IndexString", "internal/abi.NoEscape", "internal/bytealg.MakeNoZero"], unfollowed := true, recurses := true, named := ["unicode/utf8.first", "unicode/utf8.acceptRanges", "internal/bytealg.MaxLen"], loops := true, apart := false, laid := [("unicode/utf8.acceptRanges", laid_unicode_utf8_acceptRanges), ("unicode/utf8.first", laid_unicode_utf8_first)] }
def ValueShowsSaid : Prop := valueShowsRow.holds Tryz.pinned (OpenSpec.ofChange valueShowsSpec)

/-- ITS FALSE NEIGHBOUR: 'it returns false'. Refute it at one input. -/
def valueShowsWrong : ChangeSpec := { name := "valueShows", fn := fun _ => fun
  | [d] => { results := [.lit (.bool false)], args := [d] }
  | _ => none }
def ValueShowsWrongFalsely : Prop := valueShowsRow.holds Tryz.pinned (OpenSpec.ofChange valueShowsWrong)

/-- 'rubriclaw11.ShowParts': WHATEVER THE INPUT: true; the input reads as it did. -/
def showPartsSpec : ChangeSpec := { name := "showParts", fn := fun _ => fun
  | [d1, d2] => { results := [.lit (.bool true)], args := [d1, d2] }
  | _ => none }
def showPartsRow : OpenClaim := { program := "ytefjgpkpplkkgaagreatdoor", sum := "12c26e5069abbd7a02795be14e0b1468030fafb25e24ae771d1ff232ef130f67", func := "rubric/rubriclaw11.ShowParts", spec := "showParts", inPlace := ["internal/bytealg.CountString", "internal/bytealg.IndexByteString", "internal/bytealg.IndexString", "internal/abi.NoEscape", "internal/bytealg.MakeNoZero"], unfollowed := true, recurses := true, named := ["unicode/utf8.first", "unicode/utf8.acceptRanges", "internal/bytealg.MaxLen"], loops := true, apart := false, laid := [("unicode/utf8.acceptRanges", laid_unicode_utf8_acceptRanges), ("unicode/utf8.first", laid_unicode_utf8_first)] }
def ShowPartsSaid : Prop := showPartsRow.holds Tryz.pinned (OpenSpec.ofChange showPartsSpec)

/-- ITS FALSE NEIGHBOUR: 'it returns false'. Refute it at one input. -/
def showPartsWrong : ChangeSpec := { name := "showParts", fn := fun _ => fun
  | [d1, d2] => { results := [.lit (.bool false)], args := [d1, d2] }
  | _ => none }
def ShowPartsWrongFalsely : Prop := showPartsRow.holds Tryz.pinned (OpenSpec.ofChange showPartsWrong)

/-- 'rubriclaw11.ShowOne': WHATEVER THE INPUT: true; the input reads as it did. -/
def showOneSpec : ChangeSpec := { name := "showOne", fn := fun _ => fun
  | [d1, d2] => { results := [.lit (.bool true)], args := [d1, d2] }
  | _ => none }
def showOneRow : OpenClaim := { program := "ytefjgpkpplkkgaagreatdoor", sum := "12c26e5069abbd7a02795be14e0b1468030fafb25e24ae771d1ff232ef130f67", func := "rubric/rubriclaw11.ShowOne", spec := "showOne", inPlace := ["internal/bytealg.CountString", "internal/bytealg.IndexByteString", "internal/bytealg.IndexString", "internal/abi.NoEscape", "internal/bytealg.MakeNoZero"], unfollowed := true, recurses := true, named := ["unicode/utf8.first", "unicode/utf8.acceptRanges", "internal/bytealg.MaxLen"], loops := true, apart := false, laid := [("unicode/utf8.acceptRanges", laid_unicode_utf8_acceptRanges), ("unicode/utf8.first", laid_unicode_utf8_first)] }
def ShowOneSaid : Prop := showOneRow.holds Tryz.pinned (OpenSpec.ofChange showOneSpec)

/-- ITS FALSE NEIGHBOUR: 'it returns false'. Refute it at one input. -/
def showOneWrong : ChangeSpec := { name := "showOne", fn := fun _ => fun
  | [d1, d2] => { results := [.lit (.bool false)], args := [d1, d2] }
  | _ => none }
def ShowOneWrongFalsely : Prop := showOneRow.holds Tryz.pinned (OpenSpec.ofChange showOneWrong)

/-- 'rubriclaw11.ShowTypes': WHATEVER THE INPUT: true; the input reads as it did. -/
def showTypesSpec : ChangeSpec := { name := "showTypes", fn := fun _ => fun
  | [d] => { results := [.lit (.bool true)], args := [d] }
  | _ => none }
def showTypesRow : OpenClaim := { program := "ytefjgpkpplkkgaagreatdoor", sum := "12c26e5069abbd7a02795be14e0b1468030fafb25e24ae771d1ff232ef130f67", func := "rubric/rubriclaw11.ShowTypes", spec := "showTypes", inPlace := ["internal/bytealg.CountString", "internal/bytealg.IndexByteString", "internal/bytealg.IndexString", "internal/abi.NoEscape", "internal/bytealg.MakeNoZero"], unfollowed := true, recurses := true, named := ["unicode/utf8.first", "unicode/utf8.acceptRanges", "internal/bytealg.MaxLen"], loops := true, apart := false, laid := [("unicode/utf8.acceptRanges", laid_unicode_utf8_acceptRanges), ("unicode/utf8.first", laid_unicode_utf8_first)] }
def ShowTypesSaid : Prop := showTypesRow.holds Tryz.pinned (OpenSpec.ofChange showTypesSpec)

/-- ITS FALSE NEIGHBOUR: 'it returns false'. Refute it at one input. -/
def showTypesWrong : ChangeSpec := { name := "showTypes", fn := fun _ => fun
  | [d] => { results := [.lit (.bool false)], args := [d] }
  | _ => none }
def ShowTypesWrongFalsely : Prop := showTypesRow.holds Tryz.pinned (OpenSpec.ofChange showTypesWrong)

/-- 'rubriclaw11.ShowSchemas': WHATEVER THE INPUT: true; the input reads as it did. -/
def showSchemasSpec : ChangeSpec := { name := "showSchemas", fn := fun _ => fun
  | [d] => { results := [.lit (.bool true)], args := [d] }
  | _ => none }
def showSchemasRow : OpenClaim := { program := "ytefjgpkpplkkgaagreatdoor", sum := "12c26e5069abbd7a02795be14e0b1468030fafb25e24ae771d1ff232ef130f67", func := "rubric/rubriclaw11.ShowSchemas", spec := "showSchemas", inPlace := ["internal/bytealg.CountString", "internal/bytealg.IndexByteString", "internal/bytealg.IndexString", "internal/abi.NoEscape", "internal/bytealg.MakeNoZero"], unfollowed := true, recurses := true, named := ["unicode/utf8.first", "unicode/utf8.acceptRanges", "internal/bytealg.MaxLen"], apart := false, laid := [("unicode/utf8.acceptRanges", laid_unicode_utf8_acceptRanges), ("unicode/utf8.first", laid_unicode_utf8_first)] }
def ShowSchemasSaid : Prop := showSchemasRow.holds Tryz.pinned (OpenSpec.ofChange showSchemasSpec)

/-- ITS FALSE NEIGHBOUR: 'it returns false'. Refute it at one input. -/
def showSchemasWrong : ChangeSpec := { name := "showSchemas", fn := fun _ => fun
  | [d] => { results := [.lit (.bool false)], args := [d] }
  | _ => none }
def ShowSchemasWrongFalsely : Prop := showSchemasRow.holds Tryz.pinned (OpenSpec.ofChange showSchemasWrong)

/- THE SECOND FORM. 'bulk': how many values and letters a reading holds, each counted each time it is reached (what is shared counts as often as it is met; a slice's spare places count too). A statement '..UptoSaid' is the law's where the arguments, and the package variables that the reading takes, are together of bulk at most 1048576: NARROWER than '..Said'. Prove '..Said' where nothing that the law and all that it calls make is longer than what came in: it says more and counts as full. Else prove '..UptoSaid'. A law counts once. -/
mutual
def uptoBulk {H : Type} : DataW H → Nat
  | .lit (.string bytes) => bytes.length + 1
  | .lit _ => 1
  | .nil => 1
  | .ptr d => uptoBulk d + 1
  | .slice elems spare => uptoBulkAll elems + uptoBulkAll spare + 1
  | .agg parts => uptoBulkAll parts + 1
  | .iface _ d => uptoBulk d + 1
  | .map entries => uptoBulkEntries entries + 1
  | .held _ => 1
def uptoBulkAll {H : Type} : List (DataW H) → Nat
  | [] => 0
  | d :: r => uptoBulk d + uptoBulkAll r
def uptoBulkEntries {H : Type} : List (Lit × DataW H) → Nat
  | [] => 0
  | x :: r => uptoBulkEntry x + uptoBulkEntries r
def uptoBulkEntry {H : Type} : Lit × DataW H → Nat
  | (.string bytes, d) => bytes.length + uptoBulk d + 1
  | (_, d) => uptoBulk d + 1
 end
def uptoSmall : (H : Type) → List (DataW H) → Bool := fun _ ds => decide (uptoBulkAll ds ≤ 1048576)
def OpenSpec.upto (s : _root_.Go.ChangeSpec) : _root_.Go.OpenSpec := { _root_.Go.OpenSpec.ofChange s with cond := some uptoSmall }

/-- 'rubriclaw08.ValueShows', WHERE WHAT IT READS IS OF BULK AT MOST 1048576: true; the input reads as it did. -/
def valueShowsUptoRow : OpenClaim := { program := "ytefjgpkpplkkgaagreatdoor", sum := "12c26e5069abbd7a02795be14e0b1468030fafb25e24ae771d1ff232ef130f67", func := "rubric/rubriclaw08.ValueShows", spec := "valueShows", inPlace := ["internal/bytealg.CountString", "internal/bytealg.IndexByteString", "internal/bytealg.IndexString", "internal/abi.NoEscape", "internal/bytealg.MakeNoZero"], unfollowed := true, recurses := true, named := ["unicode/utf8.first", "unicode/utf8.acceptRanges", "internal/bytealg.MaxLen"], loops := true, apart := false, laid := [("unicode/utf8.acceptRanges", laid_unicode_utf8_acceptRanges), ("unicode/utf8.first", laid_unicode_utf8_first)], narrowed := true }
def ValueShowsUptoSaid : Prop := valueShowsUptoRow.holds Tryz.pinned (OpenSpec.upto valueShowsSpec)

/-- 'rubriclaw11.ShowParts', WHERE WHAT IT READS IS OF BULK AT MOST 1048576: true; the input reads as it did. -/
def showPartsUptoRow : OpenClaim := { program := "ytefjgpkpplkkgaagreatdoor", sum := "12c26e5069abbd7a02795be14e0b1468030fafb25e24ae771d1ff232ef130f67", func := "rubric/rubriclaw11.ShowParts", spec := "showParts", inPlace := ["internal/bytealg.CountString", "internal/bytealg.IndexByteString", "internal/bytealg.IndexString", "internal/abi.NoEscape", "internal/bytealg.MakeNoZero"], unfollowed := true, recurses := true, named := ["unicode/utf8.first", "unicode/utf8.acceptRanges", "internal/bytealg.MaxLen"], loops := true, apart := false, laid := [("unicode/utf8.acceptRanges", laid_unicode_utf8_acceptRanges), ("unicode/utf8.first", laid_unicode_utf8_first)], narrowed := true }
def ShowPartsUptoSaid : Prop := showPartsUptoRow.holds Tryz.pinned (OpenSpec.upto showPartsSpec)

/-- 'rubriclaw11.ShowOne', WHERE WHAT IT READS IS OF BULK AT MOST 1048576: true; the input reads as it did. -/
def showOneUptoRow : OpenClaim := { program := "ytefjgpkpplkkgaagreatdoor", sum := "12c26e5069abbd7a02795be14e0b1468030fafb25e24ae771d1ff232ef130f67", func := "rubric/rubriclaw11.ShowOne", spec := "showOne", inPlace := ["internal/bytealg.CountString", "internal/bytealg.IndexByteString", "internal/bytealg.IndexString", "internal/abi.NoEscape", "internal/bytealg.MakeNoZero"], unfollowed := true, recurses := true, named := ["unicode/utf8.first", "unicode/utf8.acceptRanges", "internal/bytealg.MaxLen"], loops := true, apart := false, laid := [("unicode/utf8.acceptRanges", laid_unicode_utf8_acceptRanges), ("unicode/utf8.first", laid_unicode_utf8_first)], narrowed := true }
def ShowOneUptoSaid : Prop := showOneUptoRow.holds Tryz.pinned (OpenSpec.upto showOneSpec)

/-- 'rubriclaw11.ShowTypes', WHERE WHAT IT READS IS OF BULK AT MOST 1048576: true; the input reads as it did. -/
def showTypesUptoRow : OpenClaim := { program := "ytefjgpkpplkkgaagreatdoor", sum := "12c26e5069abbd7a02795be14e0b1468030fafb25e24ae771d1ff232ef130f67", func := "rubric/rubriclaw11.ShowTypes", spec := "showTypes", inPlace := ["internal/bytealg.CountString", "internal/bytealg.IndexByteString", "internal/bytealg.IndexString", "internal/abi.NoEscape", "internal/bytealg.MakeNoZero"], unfollowed := true, recurses := true, named := ["unicode/utf8.first", "unicode/utf8.acceptRanges", "internal/bytealg.MaxLen"], loops := true, apart := false, laid := [("unicode/utf8.acceptRanges", laid_unicode_utf8_acceptRanges), ("unicode/utf8.first", laid_unicode_utf8_first)], narrowed := true }
def ShowTypesUptoSaid : Prop := showTypesUptoRow.holds Tryz.pinned (OpenSpec.upto showTypesSpec)

/-- 'rubriclaw11.ShowSchemas', WHERE WHAT IT READS IS OF BULK AT MOST 1048576: true; the input reads as it did. -/
def showSchemasUptoRow : OpenClaim := { program := "ytefjgpkpplkkgaagreatdoor", sum := "12c26e5069abbd7a02795be14e0b1468030fafb25e24ae771d1ff232ef130f67", func := "rubric/rubriclaw11.ShowSchemas", spec := "showSchemas", inPlace := ["internal/bytealg.CountString", "internal/bytealg.IndexByteString", "internal/bytealg.IndexString", "internal/abi.NoEscape", "internal/bytealg.MakeNoZero"], unfollowed := true, recurses := true, named := ["unicode/utf8.first", "unicode/utf8.acceptRanges", "internal/bytealg.MaxLen"], apart := false, laid := [("unicode/utf8.acceptRanges", laid_unicode_utf8_acceptRanges), ("unicode/utf8.first", laid_unicode_utf8_first)], narrowed := true }
def ShowSchemasUptoSaid : Prop := showSchemasUptoRow.holds Tryz.pinned (OpenSpec.upto showSchemasSpec)

end Rows
end Go.Proofs.YtefjgpkpplkkgaaGreatDoor
