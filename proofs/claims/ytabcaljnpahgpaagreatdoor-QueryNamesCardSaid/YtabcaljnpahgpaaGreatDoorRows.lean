/-
  NARROWER THAN 'FOR EVERY INPUT', by the rows' own cells (each row's printed sentence says how): SdlJoins: laid · SdlStrings: laid · QueryNames: loops, laid · ValueNames: laid · ValueShows: loops, laid · ValueGood: laid · ValueSame: loops, laid · ValueDeep: laid.
  DERIVED. THE GIVEN ROWS OF THIS SEAT. 8 by the template 'for every input the law returns true; each argument reads behind the call as it read before'; 0 by the template 'total and deterministic' (their statements: YtabcaljnpahgpaaGreatDoorTotals.lean).
  GIVEN WITH THE SEED: the statements are not yours to turn. If you find one false, say at which input.
  Laid BY PROGRAM, IN A SANDBOX (cutbox-rows.mjs): the forced cells as the released guide's own fill.sh prints them over the translation a590da65cbf99b68… (all of the seat's roots in one cut). By AI agents, Wed Nov 11 2026. No macro, syntax, notation, axiom, sorry.
-/
import Derived.Test.YtabcaljnpahgpaaGreatDoorChecked
import GoSem.PinnedTables
import GoSem.Claim
import GoSem.ClaimJoined
import GoSem.ClaimMapViews
import Derived.JoinedTies
import Derived.KernelRfl
namespace Go.Proofs.YtabcaljnpahgpaaGreatDoor
/- THE CELL 'sum', in the pinned program and in every row, IS THE sha256 OF THE DUMP (.gsa) THAT YtabcaljnpahgpaaGreatDoorProg.lean LOADS. Nothing in Lean hashes anything: it is a label: what it is worth is what the hold of that sum in a sandbox is worth. -/
noncomputable def Tryz.pinned : Pinned := { name := "ytabcaljnpahgpaagreatdoor", sum := "a590da65cbf99b684f5c217c01f346704af89fe0347ae712be5a38dd318aca60", checked := Tryz.checked }
namespace Rows
def none {H : Type} : Left H := { results := [], args := [] }

/- WHAT THE LISTED PACKAGE-LEVEL VARIABLES READ AS WHEN THE CALL BEGINS. Each datum BY PROGRAM (the guide's laid-datum.mjs) off the statement by which the dump's own 'gosem.cut.vars' lays the variable. In a bare row this is a premise. The card (YtabcaljnpahgpaaGreatDoorCards.lean) ties it to the program's text. -/
def laid_unicode_utf8_acceptRanges {H : Type} : DataW H := .agg [.agg [.lit (.int .u8 128), .lit (.int .u8 191)], .agg [.lit (.int .u8 160), .lit (.int .u8 191)], .agg [.lit (.int .u8 128), .lit (.int .u8 159)], .agg [.lit (.int .u8 144), .lit (.int .u8 191)], .agg [.lit (.int .u8 128), .lit (.int .u8 143)], .agg [.lit (.int .u8 0), .lit (.int .u8 0)], .agg [.lit (.int .u8 0), .lit (.int .u8 0)], .agg [.lit (.int .u8 0), .lit (.int .u8 0)], .agg [.lit (.int .u8 0), .lit (.int .u8 0)], .agg [.lit (.int .u8 0), .lit (.int .u8 0)], .agg [.lit (.int .u8 0), .lit (.int .u8 0)], .agg [.lit (.int .u8 0), .lit (.int .u8 0)], .agg [.lit (.int .u8 0), .lit (.int .u8 0)], .agg [.lit (.int .u8 0), .lit (.int .u8 0)], .agg [.lit (.int .u8 0), .lit (.int .u8 0)], .agg [.lit (.int .u8 0), .lit (.int .u8 0)]]
/-- One of Go's own tables, pinned by name: the form's constant. -/
def laid_unicode_utf8_first : DataW Unit := Go.Pinned.utf8First

/-- 'rubriclaw10.SdlJoins': WHATEVER THE INPUT: true; the input reads as it did. -/
def sdlJoinsSpec : ChangeSpec := { name := "sdlJoins", fn := fun _ => fun
  | [d1, d2] => { results := [.lit (.bool true)], args := [d1, d2] }
  | _ => none }
def sdlJoinsRow : OpenClaim := { program := "ytabcaljnpahgpaagreatdoor", sum := "a590da65cbf99b684f5c217c01f346704af89fe0347ae712be5a38dd318aca60", func := "rubric/rubriclaw10.SdlJoins", spec := "sdlJoins", inPlace := ["internal/bytealg.CountString", "internal/bytealg.IndexByteString", "internal/bytealg.IndexString", "internal/abi.NoEscape", "internal/bytealg.MakeNoZero"], unfollowed := true, recurses := true, named := ["unicode/utf8.first", "unicode/utf8.acceptRanges", "internal/bytealg.MaxLen"], apart := false, laid := [("unicode/utf8.acceptRanges", laid_unicode_utf8_acceptRanges), ("unicode/utf8.first", laid_unicode_utf8_first)] }
def SdlJoinsSaid : Prop := sdlJoinsRow.holds Tryz.pinned (OpenSpec.ofChange sdlJoinsSpec)

/-- ITS FALSE NEIGHBOUR: 'it returns false'. Refute it at one input. -/
def sdlJoinsWrong : ChangeSpec := { name := "sdlJoins", fn := fun _ => fun
  | [d1, d2] => { results := [.lit (.bool false)], args := [d1, d2] }
  | _ => none }
def SdlJoinsWrongFalsely : Prop := sdlJoinsRow.holds Tryz.pinned (OpenSpec.ofChange sdlJoinsWrong)

/-- 'rubriclaw10.SdlStrings': WHATEVER THE INPUT: true; the input reads as it did. -/
def sdlStringsSpec : ChangeSpec := { name := "sdlStrings", fn := fun _ => fun
  | [d1, d2, d3] => { results := [.lit (.bool true)], args := [d1, d2, d3] }
  | _ => none }
def sdlStringsRow : OpenClaim := { program := "ytabcaljnpahgpaagreatdoor", sum := "a590da65cbf99b684f5c217c01f346704af89fe0347ae712be5a38dd318aca60", func := "rubric/rubriclaw10.SdlStrings", spec := "sdlStrings", inPlace := ["internal/bytealg.CountString", "internal/bytealg.IndexByteString", "internal/bytealg.IndexString", "internal/abi.NoEscape", "internal/bytealg.MakeNoZero"], unfollowed := true, recurses := true, named := ["unicode/utf8.first", "unicode/utf8.acceptRanges", "internal/bytealg.MaxLen"], apart := false, laid := [("unicode/utf8.acceptRanges", laid_unicode_utf8_acceptRanges), ("unicode/utf8.first", laid_unicode_utf8_first)] }
def SdlStringsSaid : Prop := sdlStringsRow.holds Tryz.pinned (OpenSpec.ofChange sdlStringsSpec)

/-- ITS FALSE NEIGHBOUR: 'it returns false'. Refute it at one input. -/
def sdlStringsWrong : ChangeSpec := { name := "sdlStrings", fn := fun _ => fun
  | [d1, d2, d3] => { results := [.lit (.bool false)], args := [d1, d2, d3] }
  | _ => none }
def SdlStringsWrongFalsely : Prop := sdlStringsRow.holds Tryz.pinned (OpenSpec.ofChange sdlStringsWrong)

/-- 'rubriclaw09.QueryNames': WHATEVER THE INPUT: true; the input reads as it did. -/
def queryNamesSpec : ChangeSpec := { name := "queryNames", fn := fun _ => fun
  | [d] => { results := [.lit (.bool true)], args := [d] }
  | _ => none }
def queryNamesRow : OpenClaim := { program := "ytabcaljnpahgpaagreatdoor", sum := "a590da65cbf99b684f5c217c01f346704af89fe0347ae712be5a38dd318aca60", func := "rubric/rubriclaw09.QueryNames", spec := "queryNames", inPlace := ["internal/bytealg.CountString", "internal/bytealg.IndexByteString", "internal/bytealg.IndexString", "internal/abi.NoEscape", "internal/bytealg.MakeNoZero"], unfollowed := true, recurses := true, named := ["unicode/utf8.first", "unicode/utf8.acceptRanges", "internal/bytealg.MaxLen"], loops := true, apart := false, laid := [("unicode/utf8.acceptRanges", laid_unicode_utf8_acceptRanges), ("unicode/utf8.first", laid_unicode_utf8_first)] }
def QueryNamesSaid : Prop := queryNamesRow.holds Tryz.pinned (OpenSpec.ofChange queryNamesSpec)

/-- ITS FALSE NEIGHBOUR: 'it returns false'. Refute it at one input. -/
def queryNamesWrong : ChangeSpec := { name := "queryNames", fn := fun _ => fun
  | [d] => { results := [.lit (.bool false)], args := [d] }
  | _ => none }
def QueryNamesWrongFalsely : Prop := queryNamesRow.holds Tryz.pinned (OpenSpec.ofChange queryNamesWrong)

/-- 'rubriclaw08.ValueNames': WHATEVER THE INPUT: true; the input reads as it did. -/
def valueNamesSpec : ChangeSpec := { name := "valueNames", fn := fun _ => fun
  | [d] => { results := [.lit (.bool true)], args := [d] }
  | _ => none }
def valueNamesRow : OpenClaim := { program := "ytabcaljnpahgpaagreatdoor", sum := "a590da65cbf99b684f5c217c01f346704af89fe0347ae712be5a38dd318aca60", func := "rubric/rubriclaw08.ValueNames", spec := "valueNames", inPlace := ["internal/bytealg.CountString", "internal/bytealg.IndexByteString", "internal/bytealg.IndexString", "internal/abi.NoEscape", "internal/bytealg.MakeNoZero"], unfollowed := true, recurses := true, named := ["unicode/utf8.first", "unicode/utf8.acceptRanges", "internal/bytealg.MaxLen"], apart := false, laid := [("unicode/utf8.acceptRanges", laid_unicode_utf8_acceptRanges), ("unicode/utf8.first", laid_unicode_utf8_first)] }
def ValueNamesSaid : Prop := valueNamesRow.holds Tryz.pinned (OpenSpec.ofChange valueNamesSpec)

/-- ITS FALSE NEIGHBOUR: 'it returns false'. Refute it at one input. -/
def valueNamesWrong : ChangeSpec := { name := "valueNames", fn := fun _ => fun
  | [d] => { results := [.lit (.bool false)], args := [d] }
  | _ => none }
def ValueNamesWrongFalsely : Prop := valueNamesRow.holds Tryz.pinned (OpenSpec.ofChange valueNamesWrong)

/-- 'rubriclaw08.ValueShows': WHATEVER THE INPUT: true; the input reads as it did. -/
def valueShowsSpec : ChangeSpec := { name := "valueShows", fn := fun _ => fun
  | [d] => { results := [.lit (.bool true)], args := [d] }
  | _ => none }
def valueShowsRow : OpenClaim := { program := "ytabcaljnpahgpaagreatdoor", sum := "a590da65cbf99b684f5c217c01f346704af89fe0347ae712be5a38dd318aca60", func := "rubric/rubriclaw08.ValueShows", spec := "valueShows", inPlace := ["internal/bytealg.CountString", "internal/bytealg.IndexByteString", "internal/bytealg.IndexString", "internal/abi.NoEscape", "internal/bytealg.MakeNoZero"], unfollowed := true, recurses := true, named := ["unicode/utf8.first", "unicode/utf8.acceptRanges", "internal/bytealg.MaxLen"], loops := true, apart := false, laid := [("unicode/utf8.acceptRanges", laid_unicode_utf8_acceptRanges), ("unicode/utf8.first", laid_unicode_utf8_first)] }
def ValueShowsSaid : Prop := valueShowsRow.holds Tryz.pinned (OpenSpec.ofChange valueShowsSpec)

/-- ITS FALSE NEIGHBOUR: 'it returns false'. Refute it at one input. -/
def valueShowsWrong : ChangeSpec := { name := "valueShows", fn := fun _ => fun
  | [d] => { results := [.lit (.bool false)], args := [d] }
  | _ => none }
def ValueShowsWrongFalsely : Prop := valueShowsRow.holds Tryz.pinned (OpenSpec.ofChange valueShowsWrong)

/-- 'rubriclaw08.ValueGood': WHATEVER THE INPUT: true; the input reads as it did. -/
def valueGoodSpec : ChangeSpec := { name := "valueGood", fn := fun _ => fun
  | [d] => { results := [.lit (.bool true)], args := [d] }
  | _ => none }
def valueGoodRow : OpenClaim := { program := "ytabcaljnpahgpaagreatdoor", sum := "a590da65cbf99b684f5c217c01f346704af89fe0347ae712be5a38dd318aca60", func := "rubric/rubriclaw08.ValueGood", spec := "valueGood", inPlace := ["internal/bytealg.CountString", "internal/bytealg.IndexByteString", "internal/bytealg.IndexString", "internal/abi.NoEscape", "internal/bytealg.MakeNoZero"], unfollowed := true, recurses := true, named := ["unicode/utf8.first", "unicode/utf8.acceptRanges", "internal/bytealg.MaxLen"], apart := false, laid := [("unicode/utf8.acceptRanges", laid_unicode_utf8_acceptRanges), ("unicode/utf8.first", laid_unicode_utf8_first)] }
def ValueGoodSaid : Prop := valueGoodRow.holds Tryz.pinned (OpenSpec.ofChange valueGoodSpec)

/-- ITS FALSE NEIGHBOUR: 'it returns false'. Refute it at one input. -/
def valueGoodWrong : ChangeSpec := { name := "valueGood", fn := fun _ => fun
  | [d] => { results := [.lit (.bool false)], args := [d] }
  | _ => none }
def ValueGoodWrongFalsely : Prop := valueGoodRow.holds Tryz.pinned (OpenSpec.ofChange valueGoodWrong)

/-- 'rubriclaw08.ValueSame': WHATEVER THE INPUT: true; the input reads as it did. -/
def valueSameSpec : ChangeSpec := { name := "valueSame", fn := fun _ => fun
  | [d1, d2] => { results := [.lit (.bool true)], args := [d1, d2] }
  | _ => none }
def valueSameRow : OpenClaim := { program := "ytabcaljnpahgpaagreatdoor", sum := "a590da65cbf99b684f5c217c01f346704af89fe0347ae712be5a38dd318aca60", func := "rubric/rubriclaw08.ValueSame", spec := "valueSame", inPlace := ["internal/bytealg.CountString", "internal/bytealg.IndexByteString", "internal/bytealg.IndexString", "internal/abi.NoEscape", "internal/bytealg.MakeNoZero"], unfollowed := true, recurses := true, named := ["unicode/utf8.first", "unicode/utf8.acceptRanges", "internal/bytealg.MaxLen"], loops := true, apart := false, laid := [("unicode/utf8.acceptRanges", laid_unicode_utf8_acceptRanges), ("unicode/utf8.first", laid_unicode_utf8_first)] }
def ValueSameSaid : Prop := valueSameRow.holds Tryz.pinned (OpenSpec.ofChange valueSameSpec)

/-- ITS FALSE NEIGHBOUR: 'it returns false'. Refute it at one input. -/
def valueSameWrong : ChangeSpec := { name := "valueSame", fn := fun _ => fun
  | [d1, d2] => { results := [.lit (.bool false)], args := [d1, d2] }
  | _ => none }
def ValueSameWrongFalsely : Prop := valueSameRow.holds Tryz.pinned (OpenSpec.ofChange valueSameWrong)

/-- 'rubriclaw08.ValueDeep': WHATEVER THE INPUT: true; the input reads as it did. -/
def valueDeepSpec : ChangeSpec := { name := "valueDeep", fn := fun _ => fun
  | [d1, d2] => { results := [.lit (.bool true)], args := [d1, d2] }
  | _ => none }
def valueDeepRow : OpenClaim := { program := "ytabcaljnpahgpaagreatdoor", sum := "a590da65cbf99b684f5c217c01f346704af89fe0347ae712be5a38dd318aca60", func := "rubric/rubriclaw08.ValueDeep", spec := "valueDeep", inPlace := ["internal/bytealg.CountString", "internal/bytealg.IndexByteString", "internal/bytealg.IndexString", "internal/abi.NoEscape", "internal/bytealg.MakeNoZero"], unfollowed := true, recurses := true, named := ["unicode/utf8.first", "unicode/utf8.acceptRanges", "internal/bytealg.MaxLen"], apart := false, laid := [("unicode/utf8.acceptRanges", laid_unicode_utf8_acceptRanges), ("unicode/utf8.first", laid_unicode_utf8_first)] }
def ValueDeepSaid : Prop := valueDeepRow.holds Tryz.pinned (OpenSpec.ofChange valueDeepSpec)

/-- ITS FALSE NEIGHBOUR: 'it returns false'. Refute it at one input. -/
def valueDeepWrong : ChangeSpec := { name := "valueDeep", fn := fun _ => fun
  | [d1, d2] => { results := [.lit (.bool false)], args := [d1, d2] }
  | _ => none }
def ValueDeepWrongFalsely : Prop := valueDeepRow.holds Tryz.pinned (OpenSpec.ofChange valueDeepWrong)

/- THE SECOND FORM. 'bulk': how many values and letters a reading holds, each counted each time it is reached (what is shared counts as often as it is met; a slice's spare places count too). A statement '..UptoSaid' is the law's where the arguments, and the package variables that the reading takes, are together of bulk at most 1048576: NARROWER than '..Said'. Prove '..Said' where nothing that the law and all that it calls make is longer than what came in: it says more and counts as full. Else prove '..UptoSaid'. A law counts once. -/
mutual
def uptoBulk {H : Type} : DataW H → Nat
  | .lit (.string bytes) => bytes.length + 1
  | .lit _ => 1
  | .nil => 1
  | .ptr d => uptoBulk d + 1
  | .slice elems spare => uptoBulkAll elems + uptoBulkAll spare + 1
  | .agg parts => uptoBulkAll parts + 1
  | .iface _ d => uptoBulk d + 1
  | .map entries => uptoBulkEntries entries + 1
  | .held _ => 1
def uptoBulkAll {H : Type} : List (DataW H) → Nat
  | [] => 0
  | d :: r => uptoBulk d + uptoBulkAll r
def uptoBulkEntries {H : Type} : List (Lit × DataW H) → Nat
  | [] => 0
  | x :: r => uptoBulkEntry x + uptoBulkEntries r
def uptoBulkEntry {H : Type} : Lit × DataW H → Nat
  | (.string bytes, d) => bytes.length + uptoBulk d + 1
  | (_, d) => uptoBulk d + 1
 end
def uptoSmall : (H : Type) → List (DataW H) → Bool := fun _ ds => decide (uptoBulkAll ds ≤ 1048576)
def OpenSpec.upto (s : _root_.Go.ChangeSpec) : _root_.Go.OpenSpec := { _root_.Go.OpenSpec.ofChange s with cond := some uptoSmall }

/-- 'rubriclaw10.SdlJoins', WHERE WHAT IT READS IS OF BULK AT MOST 1048576: true; the input reads as it did. -/
def sdlJoinsUptoRow : OpenClaim := { program := "ytabcaljnpahgpaagreatdoor", sum := "a590da65cbf99b684f5c217c01f346704af89fe0347ae712be5a38dd318aca60", func := "rubric/rubriclaw10.SdlJoins", spec := "sdlJoins", inPlace := ["internal/bytealg.CountString", "internal/bytealg.IndexByteString", "internal/bytealg.IndexString", "internal/abi.NoEscape", "internal/bytealg.MakeNoZero"], unfollowed := true, recurses := true, named := ["unicode/utf8.first", "unicode/utf8.acceptRanges", "internal/bytealg.MaxLen"], apart := false, laid := [("unicode/utf8.acceptRanges", laid_unicode_utf8_acceptRanges), ("unicode/utf8.first", laid_unicode_utf8_first)], narrowed := true }
def SdlJoinsUptoSaid : Prop := sdlJoinsUptoRow.holds Tryz.pinned (OpenSpec.upto sdlJoinsSpec)

/-- 'rubriclaw10.SdlStrings', WHERE WHAT IT READS IS OF BULK AT MOST 1048576: true; the input reads as it did. -/
def sdlStringsUptoRow : OpenClaim := { program := "ytabcaljnpahgpaagreatdoor", sum := "a590da65cbf99b684f5c217c01f346704af89fe0347ae712be5a38dd318aca60", func := "rubric/rubriclaw10.SdlStrings", spec := "sdlStrings", inPlace := ["internal/bytealg.CountString", "internal/bytealg.IndexByteString", "internal/bytealg.IndexString", "internal/abi.NoEscape", "internal/bytealg.MakeNoZero"], unfollowed := true, recurses := true, named := ["unicode/utf8.first", "unicode/utf8.acceptRanges", "internal/bytealg.MaxLen"], apart := false, laid := [("unicode/utf8.acceptRanges", laid_unicode_utf8_acceptRanges), ("unicode/utf8.first", laid_unicode_utf8_first)], narrowed := true }
def SdlStringsUptoSaid : Prop := sdlStringsUptoRow.holds Tryz.pinned (OpenSpec.upto sdlStringsSpec)

/-- 'rubriclaw09.QueryNames', WHERE WHAT IT READS IS OF BULK AT MOST 1048576: true; the input reads as it did. -/
def queryNamesUptoRow : OpenClaim := { program := "ytabcaljnpahgpaagreatdoor", sum := "a590da65cbf99b684f5c217c01f346704af89fe0347ae712be5a38dd318aca60", func := "rubric/rubriclaw09.QueryNames", spec := "queryNames", inPlace := ["internal/bytealg.CountString", "internal/bytealg.IndexByteString", "internal/bytealg.IndexString", "internal/abi.NoEscape", "internal/bytealg.MakeNoZero"], unfollowed := true, recurses := true, named := ["unicode/utf8.first", "unicode/utf8.acceptRanges", "internal/bytealg.MaxLen"], loops := true, apart := false, laid := [("unicode/utf8.acceptRanges", laid_unicode_utf8_acceptRanges), ("unicode/utf8.first", laid_unicode_utf8_first)], narrowed := true }
def QueryNamesUptoSaid : Prop := queryNamesUptoRow.holds Tryz.pinned (OpenSpec.upto queryNamesSpec)

/-- 'rubriclaw08.ValueNames', WHERE WHAT IT READS IS OF BULK AT MOST 1048576: true; the input reads as it did. -/
def valueNamesUptoRow : OpenClaim := { program := "ytabcaljnpahgpaagreatdoor", sum := "a590da65cbf99b684f5c217c01f346704af89fe0347ae712be5a38dd318aca60", func := "rubric/rubriclaw08.ValueNames", spec := "valueNames", inPlace := ["internal/bytealg.CountString", "internal/bytealg.IndexByteString", "internal/bytealg.IndexString", "internal/abi.NoEscape", "internal/bytealg.MakeNoZero"], unfollowed := true, recurses := true, named := ["unicode/utf8.first", "unicode/utf8.acceptRanges", "internal/bytealg.MaxLen"], apart := false, laid := [("unicode/utf8.acceptRanges", laid_unicode_utf8_acceptRanges), ("unicode/utf8.first", laid_unicode_utf8_first)], narrowed := true }
def ValueNamesUptoSaid : Prop := valueNamesUptoRow.holds Tryz.pinned (OpenSpec.upto valueNamesSpec)

/-- 'rubriclaw08.ValueShows', WHERE WHAT IT READS IS OF BULK AT MOST 1048576: true; the input reads as it did. -/
def valueShowsUptoRow : OpenClaim := { program := "ytabcaljnpahgpaagreatdoor", sum := "a590da65cbf99b684f5c217c01f346704af89fe0347ae712be5a38dd318aca60", func := "rubric/rubriclaw08.ValueShows", spec := "valueShows", inPlace := ["internal/bytealg.CountString", "internal/bytealg.IndexByteString", "internal/bytealg.IndexString", "internal/abi.NoEscape", "internal/bytealg.MakeNoZero"], unfollowed := true, recurses := true, named := ["unicode/utf8.first", "unicode/utf8.acceptRanges", "internal/bytealg.MaxLen"], loops := true, apart := false, laid := [("unicode/utf8.acceptRanges", laid_unicode_utf8_acceptRanges), ("unicode/utf8.first", laid_unicode_utf8_first)], narrowed := true }
def ValueShowsUptoSaid : Prop := valueShowsUptoRow.holds Tryz.pinned (OpenSpec.upto valueShowsSpec)

/-- 'rubriclaw08.ValueGood', WHERE WHAT IT READS IS OF BULK AT MOST 1048576: true; the input reads as it did. -/
def valueGoodUptoRow : OpenClaim := { program := "ytabcaljnpahgpaagreatdoor", sum := "a590da65cbf99b684f5c217c01f346704af89fe0347ae712be5a38dd318aca60", func := "rubric/rubriclaw08.ValueGood", spec := "valueGood", inPlace := ["internal/bytealg.CountString", "internal/bytealg.IndexByteString", "internal/bytealg.IndexString", "internal/abi.NoEscape", "internal/bytealg.MakeNoZero"], unfollowed := true, recurses := true, named := ["unicode/utf8.first", "unicode/utf8.acceptRanges", "internal/bytealg.MaxLen"], apart := false, laid := [("unicode/utf8.acceptRanges", laid_unicode_utf8_acceptRanges), ("unicode/utf8.first", laid_unicode_utf8_first)], narrowed := true }
def ValueGoodUptoSaid : Prop := valueGoodUptoRow.holds Tryz.pinned (OpenSpec.upto valueGoodSpec)

/-- 'rubriclaw08.ValueSame', WHERE WHAT IT READS IS OF BULK AT MOST 1048576: true; the input reads as it did. -/
def valueSameUptoRow : OpenClaim := { program := "ytabcaljnpahgpaagreatdoor", sum := "a590da65cbf99b684f5c217c01f346704af89fe0347ae712be5a38dd318aca60", func := "rubric/rubriclaw08.ValueSame", spec := "valueSame", inPlace := ["internal/bytealg.CountString", "internal/bytealg.IndexByteString", "internal/bytealg.IndexString", "internal/abi.NoEscape", "internal/bytealg.MakeNoZero"], unfollowed := true, recurses := true, named := ["unicode/utf8.first", "unicode/utf8.acceptRanges", "internal/bytealg.MaxLen"], loops := true, apart := false, laid := [("unicode/utf8.acceptRanges", laid_unicode_utf8_acceptRanges), ("unicode/utf8.first", laid_unicode_utf8_first)], narrowed := true }
def ValueSameUptoSaid : Prop := valueSameUptoRow.holds Tryz.pinned (OpenSpec.upto valueSameSpec)

/-- 'rubriclaw08.ValueDeep', WHERE WHAT IT READS IS OF BULK AT MOST 1048576: true; the input reads as it did. -/
def valueDeepUptoRow : OpenClaim := { program := "ytabcaljnpahgpaagreatdoor", sum := "a590da65cbf99b684f5c217c01f346704af89fe0347ae712be5a38dd318aca60", func := "rubric/rubriclaw08.ValueDeep", spec := "valueDeep", inPlace := ["internal/bytealg.CountString", "internal/bytealg.IndexByteString", "internal/bytealg.IndexString", "internal/abi.NoEscape", "internal/bytealg.MakeNoZero"], unfollowed := true, recurses := true, named := ["unicode/utf8.first", "unicode/utf8.acceptRanges", "internal/bytealg.MaxLen"], apart := false, laid := [("unicode/utf8.acceptRanges", laid_unicode_utf8_acceptRanges), ("unicode/utf8.first", laid_unicode_utf8_first)], narrowed := true }
def ValueDeepUptoSaid : Prop := valueDeepUptoRow.holds Tryz.pinned (OpenSpec.upto valueDeepSpec)

end Rows
end Go.Proofs.YtabcaljnpahgpaaGreatDoor
