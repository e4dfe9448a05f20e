/-
  NARROWER THAN 'FOR EVERY INPUT', by the rows' own cells (each row's printed sentence says how): QuotedScans: laid · QuotedValues: laid · QuotedQuotes: laid · QuotedJoins: laid · QuotedRaw: laid · QuotedRunes: laid · QuotedFound: laid.
  DERIVED. THE GIVEN ROWS OF THIS SEAT. 7 by the template 'for every input the law returns true; each argument reads behind the call as it read before'; 0 by the template 'total and deterministic' (their statements: YtnnfkdjmpbgkaaaDoorTotals.lean).
  GIVEN WITH THE SEED: the statements are not yours to turn. If you find one false, say at which input.
  Laid BY PROGRAM, IN A SANDBOX (cutbox-rows.mjs): the forced cells as the released guide's own fill.sh prints them over the translation 603f71201e272794… (all of the seat's roots in one cut). By AI agents, Wed Nov 11 2026. No macro, syntax, notation, axiom, sorry.
-/
import Derived.Test.YtnnfkdjmpbgkaaaDoorChecked
import GoSem.PinnedTables
import GoSem.Claim
import GoSem.ClaimJoined
import GoSem.ClaimMapViews
import Derived.JoinedTies
import Derived.KernelRfl
namespace Go.Proofs.YtnnfkdjmpbgkaaaDoor
/- THE CELL 'sum', in the pinned program and in every row, IS THE sha256 OF THE DUMP (.gsa) THAT YtnnfkdjmpbgkaaaDoorProg.lean LOADS. Nothing in Lean hashes anything: it is a label: what it is worth is what the hold of that sum in a sandbox is worth. -/
noncomputable def Tryd.pinned : Pinned := { name := "ytnnfkdjmpbgkaaadoor", sum := "603f71201e27279458d23f49797f4b47003d4a565aa2533389d07cf592f0c7e1", checked := Tryd.checked }
namespace Rows
def none {H : Type} : Left H := { results := [], args := [] }

/- WHAT THE LISTED PACKAGE-LEVEL VARIABLES READ AS WHEN THE CALL BEGINS. Each datum BY PROGRAM (the guide's laid-datum.mjs) off the statement by which the dump's own 'gosem.cut.vars' lays the variable. In a bare row this is a premise. The card (YtnnfkdjmpbgkaaaDoorCards.lean) ties it to the program's text. -/
def laid_unicode_utf8_acceptRanges {H : Type} : DataW H := .agg [.agg [.lit (.int .u8 128), .lit (.int .u8 191)], .agg [.lit (.int .u8 160), .lit (.int .u8 191)], .agg [.lit (.int .u8 128), .lit (.int .u8 159)], .agg [.lit (.int .u8 144), .lit (.int .u8 191)], .agg [.lit (.int .u8 128), .lit (.int .u8 143)], .agg [.lit (.int .u8 0), .lit (.int .u8 0)], .agg [.lit (.int .u8 0), .lit (.int .u8 0)], .agg [.lit (.int .u8 0), .lit (.int .u8 0)], .agg [.lit (.int .u8 0), .lit (.int .u8 0)], .agg [.lit (.int .u8 0), .lit (.int .u8 0)], .agg [.lit (.int .u8 0), .lit (.int .u8 0)], .agg [.lit (.int .u8 0), .lit (.int .u8 0)], .agg [.lit (.int .u8 0), .lit (.int .u8 0)], .agg [.lit (.int .u8 0), .lit (.int .u8 0)], .agg [.lit (.int .u8 0), .lit (.int .u8 0)], .agg [.lit (.int .u8 0), .lit (.int .u8 0)]]
/-- One of Go's own tables, pinned by name: the form's constant. -/
def laid_unicode_utf8_first : DataW Unit := Go.Pinned.utf8First

/-- 'emendlaw06.QuotedScans': WHATEVER THE INPUT: true; the input reads as it did. -/
def quotedScansSpec : ChangeSpec := { name := "quotedScans", fn := fun _ => fun
  | [d1, d2] => { results := [.lit (.bool true)], args := [d1, d2] }
  | _ => none }
def quotedScansRow : OpenClaim := { program := "ytnnfkdjmpbgkaaadoor", sum := "603f71201e27279458d23f49797f4b47003d4a565aa2533389d07cf592f0c7e1", func := "emend/emendlaw06.QuotedScans", spec := "quotedScans", inPlace := ["internal/bytealg.IndexByteString", "internal/bytealg.CountString", "internal/bytealg.IndexString", "internal/abi.NoEscape", "internal/bytealg.MakeNoZero"], named := ["internal/bytealg.MaxLen", "unicode/utf8.first", "unicode/utf8.acceptRanges"], apart := false, laid := [("unicode/utf8.acceptRanges", laid_unicode_utf8_acceptRanges), ("unicode/utf8.first", laid_unicode_utf8_first)] }
def QuotedScansSaid : Prop := quotedScansRow.holds Tryd.pinned (OpenSpec.ofChange quotedScansSpec)

/-- ITS FALSE NEIGHBOUR: 'it returns false'. Refute it at one input. -/
def quotedScansWrong : ChangeSpec := { name := "quotedScans", fn := fun _ => fun
  | [d1, d2] => { results := [.lit (.bool false)], args := [d1, d2] }
  | _ => none }
def QuotedScansWrongFalsely : Prop := quotedScansRow.holds Tryd.pinned (OpenSpec.ofChange quotedScansWrong)

/-- 'emendlaw06.QuotedValues': WHATEVER THE INPUT: true; the input reads as it did. -/
def quotedValuesSpec : ChangeSpec := { name := "quotedValues", fn := fun _ => fun
  | [d] => { results := [.lit (.bool true)], args := [d] }
  | _ => none }
def quotedValuesRow : OpenClaim := { program := "ytnnfkdjmpbgkaaadoor", sum := "603f71201e27279458d23f49797f4b47003d4a565aa2533389d07cf592f0c7e1", func := "emend/emendlaw06.QuotedValues", spec := "quotedValues", inPlace := ["internal/bytealg.IndexByteString", "internal/bytealg.CountString", "internal/bytealg.IndexString", "internal/abi.NoEscape", "internal/bytealg.MakeNoZero"], named := ["internal/bytealg.MaxLen", "unicode/utf8.first", "unicode/utf8.acceptRanges"], apart := false, laid := [("unicode/utf8.acceptRanges", laid_unicode_utf8_acceptRanges), ("unicode/utf8.first", laid_unicode_utf8_first)] }
def QuotedValuesSaid : Prop := quotedValuesRow.holds Tryd.pinned (OpenSpec.ofChange quotedValuesSpec)

/-- ITS FALSE NEIGHBOUR: 'it returns false'. Refute it at one input. -/
def quotedValuesWrong : ChangeSpec := { name := "quotedValues", fn := fun _ => fun
  | [d] => { results := [.lit (.bool false)], args := [d] }
  | _ => none }
def QuotedValuesWrongFalsely : Prop := quotedValuesRow.holds Tryd.pinned (OpenSpec.ofChange quotedValuesWrong)

/-- 'emendlaw06.QuotedQuotes': WHATEVER THE INPUT: true; the input reads as it did. -/
def quotedQuotesSpec : ChangeSpec := { name := "quotedQuotes", fn := fun _ => fun
  | [d] => { results := [.lit (.bool true)], args := [d] }
  | _ => none }
def quotedQuotesRow : OpenClaim := { program := "ytnnfkdjmpbgkaaadoor", sum := "603f71201e27279458d23f49797f4b47003d4a565aa2533389d07cf592f0c7e1", func := "emend/emendlaw06.QuotedQuotes", spec := "quotedQuotes", inPlace := ["internal/bytealg.IndexByteString", "internal/bytealg.CountString", "internal/bytealg.IndexString", "internal/abi.NoEscape", "internal/bytealg.MakeNoZero"], named := ["internal/bytealg.MaxLen", "unicode/utf8.first", "unicode/utf8.acceptRanges"], apart := false, laid := [("unicode/utf8.acceptRanges", laid_unicode_utf8_acceptRanges), ("unicode/utf8.first", laid_unicode_utf8_first)] }
def QuotedQuotesSaid : Prop := quotedQuotesRow.holds Tryd.pinned (OpenSpec.ofChange quotedQuotesSpec)

/-- ITS FALSE NEIGHBOUR: 'it returns false'. Refute it at one input. -/
def quotedQuotesWrong : ChangeSpec := { name := "quotedQuotes", fn := fun _ => fun
  | [d] => { results := [.lit (.bool false)], args := [d] }
  | _ => none }
def QuotedQuotesWrongFalsely : Prop := quotedQuotesRow.holds Tryd.pinned (OpenSpec.ofChange quotedQuotesWrong)

/-- 'emendlaw06.QuotedJoins': WHATEVER THE INPUT: true; the input reads as it did. -/
def quotedJoinsSpec : ChangeSpec := { name := "quotedJoins", fn := fun _ => fun
  | [d1, d2] => { results := [.lit (.bool true)], args := [d1, d2] }
  | _ => none }
def quotedJoinsRow : OpenClaim := { program := "ytnnfkdjmpbgkaaadoor", sum := "603f71201e27279458d23f49797f4b47003d4a565aa2533389d07cf592f0c7e1", func := "emend/emendlaw06.QuotedJoins", spec := "quotedJoins", inPlace := ["internal/bytealg.IndexByteString", "internal/bytealg.CountString", "internal/bytealg.IndexString", "internal/abi.NoEscape", "internal/bytealg.MakeNoZero"], named := ["internal/bytealg.MaxLen", "unicode/utf8.first", "unicode/utf8.acceptRanges"], apart := false, laid := [("unicode/utf8.acceptRanges", laid_unicode_utf8_acceptRanges), ("unicode/utf8.first", laid_unicode_utf8_first)] }
def QuotedJoinsSaid : Prop := quotedJoinsRow.holds Tryd.pinned (OpenSpec.ofChange quotedJoinsSpec)

/-- ITS FALSE NEIGHBOUR: 'it returns false'. Refute it at one input. -/
def quotedJoinsWrong : ChangeSpec := { name := "quotedJoins", fn := fun _ => fun
  | [d1, d2] => { results := [.lit (.bool false)], args := [d1, d2] }
  | _ => none }
def QuotedJoinsWrongFalsely : Prop := quotedJoinsRow.holds Tryd.pinned (OpenSpec.ofChange quotedJoinsWrong)

/-- 'emendlaw06.QuotedRaw': WHATEVER THE INPUT: true; the input reads as it did. -/
def quotedRawSpec : ChangeSpec := { name := "quotedRaw", fn := fun _ => fun
  | [d] => { results := [.lit (.bool true)], args := [d] }
  | _ => none }
def quotedRawRow : OpenClaim := { program := "ytnnfkdjmpbgkaaadoor", sum := "603f71201e27279458d23f49797f4b47003d4a565aa2533389d07cf592f0c7e1", func := "emend/emendlaw06.QuotedRaw", spec := "quotedRaw", inPlace := ["internal/bytealg.IndexByteString", "internal/bytealg.CountString", "internal/bytealg.IndexString", "internal/abi.NoEscape", "internal/bytealg.MakeNoZero"], named := ["internal/bytealg.MaxLen", "unicode/utf8.first", "unicode/utf8.acceptRanges"], apart := false, laid := [("unicode/utf8.acceptRanges", laid_unicode_utf8_acceptRanges), ("unicode/utf8.first", laid_unicode_utf8_first)] }
def QuotedRawSaid : Prop := quotedRawRow.holds Tryd.pinned (OpenSpec.ofChange quotedRawSpec)

/-- ITS FALSE NEIGHBOUR: 'it returns false'. Refute it at one input. -/
def quotedRawWrong : ChangeSpec := { name := "quotedRaw", fn := fun _ => fun
  | [d] => { results := [.lit (.bool false)], args := [d] }
  | _ => none }
def QuotedRawWrongFalsely : Prop := quotedRawRow.holds Tryd.pinned (OpenSpec.ofChange quotedRawWrong)

/-- 'emendlaw06.QuotedRunes': WHATEVER THE INPUT: true; the input reads as it did. -/
def quotedRunesSpec : ChangeSpec := { name := "quotedRunes", fn := fun _ => fun
  | [d] => { results := [.lit (.bool true)], args := [d] }
  | _ => none }
def quotedRunesRow : OpenClaim := { program := "ytnnfkdjmpbgkaaadoor", sum := "603f71201e27279458d23f49797f4b47003d4a565aa2533389d07cf592f0c7e1", func := "emend/emendlaw06.QuotedRunes", spec := "quotedRunes", inPlace := ["internal/bytealg.IndexByteString", "internal/bytealg.CountString", "internal/bytealg.IndexString", "internal/abi.NoEscape", "internal/bytealg.MakeNoZero"], named := ["internal/bytealg.MaxLen", "unicode/utf8.first", "unicode/utf8.acceptRanges"], apart := false, laid := [("unicode/utf8.acceptRanges", laid_unicode_utf8_acceptRanges), ("unicode/utf8.first", laid_unicode_utf8_first)] }
def QuotedRunesSaid : Prop := quotedRunesRow.holds Tryd.pinned (OpenSpec.ofChange quotedRunesSpec)

/-- ITS FALSE NEIGHBOUR: 'it returns false'. Refute it at one input. -/
def quotedRunesWrong : ChangeSpec := { name := "quotedRunes", fn := fun _ => fun
  | [d] => { results := [.lit (.bool false)], args := [d] }
  | _ => none }
def QuotedRunesWrongFalsely : Prop := quotedRunesRow.holds Tryd.pinned (OpenSpec.ofChange quotedRunesWrong)

/-- 'emendlaw06.QuotedFound': WHATEVER THE INPUT: true; the input reads as it did. -/
def quotedFoundSpec : ChangeSpec := { name := "quotedFound", fn := fun _ => fun
  | [d1, d2] => { results := [.lit (.bool true)], args := [d1, d2] }
  | _ => none }
def quotedFoundRow : OpenClaim := { program := "ytnnfkdjmpbgkaaadoor", sum := "603f71201e27279458d23f49797f4b47003d4a565aa2533389d07cf592f0c7e1", func := "emend/emendlaw06.QuotedFound", spec := "quotedFound", inPlace := ["internal/bytealg.IndexByteString", "internal/bytealg.CountString", "internal/bytealg.IndexString", "internal/abi.NoEscape", "internal/bytealg.MakeNoZero"], named := ["internal/bytealg.MaxLen", "unicode/utf8.first", "unicode/utf8.acceptRanges"], apart := false, laid := [("unicode/utf8.acceptRanges", laid_unicode_utf8_acceptRanges), ("unicode/utf8.first", laid_unicode_utf8_first)] }
def QuotedFoundSaid : Prop := quotedFoundRow.holds Tryd.pinned (OpenSpec.ofChange quotedFoundSpec)

/-- ITS FALSE NEIGHBOUR: 'it returns false'. Refute it at one input. -/
def quotedFoundWrong : ChangeSpec := { name := "quotedFound", fn := fun _ => fun
  | [d1, d2] => { results := [.lit (.bool false)], args := [d1, d2] }
  | _ => none }
def QuotedFoundWrongFalsely : Prop := quotedFoundRow.holds Tryd.pinned (OpenSpec.ofChange quotedFoundWrong)

/- THE SECOND FORM. 'bulk': how many values and letters a reading holds, each counted each time it is reached (what is shared counts as often as it is met; a slice's spare places count too). A statement '..UptoSaid' is the law's where the arguments, and the package variables that the reading takes, are together of bulk at most 1048576: NARROWER than '..Said'. Prove '..Said' where nothing that the law and all that it calls make is longer than what came in: it says more and counts as full. Else prove '..UptoSaid'. A law counts once. -/
mutual
def uptoBulk {H : Type} : DataW H → Nat
  | .lit (.string bytes) => bytes.length + 1
  | .lit _ => 1
  | .nil => 1
  | .ptr d => uptoBulk d + 1
  | .slice elems spare => uptoBulkAll elems + uptoBulkAll spare + 1
  | .agg parts => uptoBulkAll parts + 1
  | .iface _ d => uptoBulk d + 1
  | .map entries => uptoBulkEntries entries + 1
  | .held _ => 1
def uptoBulkAll {H : Type} : List (DataW H) → Nat
  | [] => 0
  | d :: r => uptoBulk d + uptoBulkAll r
def uptoBulkEntries {H : Type} : List (Lit × DataW H) → Nat
  | [] => 0
  | x :: r => uptoBulkEntry x + uptoBulkEntries r
def uptoBulkEntry {H : Type} : Lit × DataW H → Nat
  | (.string bytes, d) => bytes.length + uptoBulk d + 1
  | (_, d) => uptoBulk d + 1
 end
def uptoSmall : (H : Type) → List (DataW H) → Bool := fun _ ds => decide (uptoBulkAll ds ≤ 1048576)
def OpenSpec.upto (s : _root_.Go.ChangeSpec) : _root_.Go.OpenSpec := { _root_.Go.OpenSpec.ofChange s with cond := some uptoSmall }

/-- 'emendlaw06.QuotedScans', WHERE WHAT IT READS IS OF BULK AT MOST 1048576: true; the input reads as it did. -/
def quotedScansUptoRow : OpenClaim := { program := "ytnnfkdjmpbgkaaadoor", sum := "603f71201e27279458d23f49797f4b47003d4a565aa2533389d07cf592f0c7e1", func := "emend/emendlaw06.QuotedScans", spec := "quotedScans", inPlace := ["internal/bytealg.IndexByteString", "internal/bytealg.CountString", "internal/bytealg.IndexString", "internal/abi.NoEscape", "internal/bytealg.MakeNoZero"], named := ["internal/bytealg.MaxLen", "unicode/utf8.first", "unicode/utf8.acceptRanges"], apart := false, laid := [("unicode/utf8.acceptRanges", laid_unicode_utf8_acceptRanges), ("unicode/utf8.first", laid_unicode_utf8_first)], narrowed := true }
def QuotedScansUptoSaid : Prop := quotedScansUptoRow.holds Tryd.pinned (OpenSpec.upto quotedScansSpec)

/-- 'emendlaw06.QuotedValues', WHERE WHAT IT READS IS OF BULK AT MOST 1048576: true; the input reads as it did. -/
def quotedValuesUptoRow : OpenClaim := { program := "ytnnfkdjmpbgkaaadoor", sum := "603f71201e27279458d23f49797f4b47003d4a565aa2533389d07cf592f0c7e1", func := "emend/emendlaw06.QuotedValues", spec := "quotedValues", inPlace := ["internal/bytealg.IndexByteString", "internal/bytealg.CountString", "internal/bytealg.IndexString", "internal/abi.NoEscape", "internal/bytealg.MakeNoZero"], named := ["internal/bytealg.MaxLen", "unicode/utf8.first", "unicode/utf8.acceptRanges"], apart := false, laid := [("unicode/utf8.acceptRanges", laid_unicode_utf8_acceptRanges), ("unicode/utf8.first", laid_unicode_utf8_first)], narrowed := true }
def QuotedValuesUptoSaid : Prop := quotedValuesUptoRow.holds Tryd.pinned (OpenSpec.upto quotedValuesSpec)

/-- 'emendlaw06.QuotedQuotes', WHERE WHAT IT READS IS OF BULK AT MOST 1048576: true; the input reads as it did. -/
def quotedQuotesUptoRow : OpenClaim := { program := "ytnnfkdjmpbgkaaadoor", sum := "603f71201e27279458d23f49797f4b47003d4a565aa2533389d07cf592f0c7e1", func := "emend/emendlaw06.QuotedQuotes", spec := "quotedQuotes", inPlace := ["internal/bytealg.IndexByteString", "internal/bytealg.CountString", "internal/bytealg.IndexString", "internal/abi.NoEscape", "internal/bytealg.MakeNoZero"], named := ["internal/bytealg.MaxLen", "unicode/utf8.first", "unicode/utf8.acceptRanges"], apart := false, laid := [("unicode/utf8.acceptRanges", laid_unicode_utf8_acceptRanges), ("unicode/utf8.first", laid_unicode_utf8_first)], narrowed := true }
def QuotedQuotesUptoSaid : Prop := quotedQuotesUptoRow.holds Tryd.pinned (OpenSpec.upto quotedQuotesSpec)

/-- 'emendlaw06.QuotedJoins', WHERE WHAT IT READS IS OF BULK AT MOST 1048576: true; the input reads as it did. -/
def quotedJoinsUptoRow : OpenClaim := { program := "ytnnfkdjmpbgkaaadoor", sum := "603f71201e27279458d23f49797f4b47003d4a565aa2533389d07cf592f0c7e1", func := "emend/emendlaw06.QuotedJoins", spec := "quotedJoins", inPlace := ["internal/bytealg.IndexByteString", "internal/bytealg.CountString", "internal/bytealg.IndexString", "internal/abi.NoEscape", "internal/bytealg.MakeNoZero"], named := ["internal/bytealg.MaxLen", "unicode/utf8.first", "unicode/utf8.acceptRanges"], apart := false, laid := [("unicode/utf8.acceptRanges", laid_unicode_utf8_acceptRanges), ("unicode/utf8.first", laid_unicode_utf8_first)], narrowed := true }
def QuotedJoinsUptoSaid : Prop := quotedJoinsUptoRow.holds Tryd.pinned (OpenSpec.upto quotedJoinsSpec)

/-- 'emendlaw06.QuotedRaw', WHERE WHAT IT READS IS OF BULK AT MOST 1048576: true; the input reads as it did. -/
def quotedRawUptoRow : OpenClaim := { program := "ytnnfkdjmpbgkaaadoor", sum := "603f71201e27279458d23f49797f4b47003d4a565aa2533389d07cf592f0c7e1", func := "emend/emendlaw06.QuotedRaw", spec := "quotedRaw", inPlace := ["internal/bytealg.IndexByteString", "internal/bytealg.CountString", "internal/bytealg.IndexString", "internal/abi.NoEscape", "internal/bytealg.MakeNoZero"], named := ["internal/bytealg.MaxLen", "unicode/utf8.first", "unicode/utf8.acceptRanges"], apart := false, laid := [("unicode/utf8.acceptRanges", laid_unicode_utf8_acceptRanges), ("unicode/utf8.first", laid_unicode_utf8_first)], narrowed := true }
def QuotedRawUptoSaid : Prop := quotedRawUptoRow.holds Tryd.pinned (OpenSpec.upto quotedRawSpec)

/-- 'emendlaw06.QuotedRunes', WHERE WHAT IT READS IS OF BULK AT MOST 1048576: true; the input reads as it did. -/
def quotedRunesUptoRow : OpenClaim := { program := "ytnnfkdjmpbgkaaadoor", sum := "603f71201e27279458d23f49797f4b47003d4a565aa2533389d07cf592f0c7e1", func := "emend/emendlaw06.QuotedRunes", spec := "quotedRunes", inPlace := ["internal/bytealg.IndexByteString", "internal/bytealg.CountString", "internal/bytealg.IndexString", "internal/abi.NoEscape", "internal/bytealg.MakeNoZero"], named := ["internal/bytealg.MaxLen", "unicode/utf8.first", "unicode/utf8.acceptRanges"], apart := false, laid := [("unicode/utf8.acceptRanges", laid_unicode_utf8_acceptRanges), ("unicode/utf8.first", laid_unicode_utf8_first)], narrowed := true }
def QuotedRunesUptoSaid : Prop := quotedRunesUptoRow.holds Tryd.pinned (OpenSpec.upto quotedRunesSpec)

/-- 'emendlaw06.QuotedFound', WHERE WHAT IT READS IS OF BULK AT MOST 1048576: true; the input reads as it did. -/
def quotedFoundUptoRow : OpenClaim := { program := "ytnnfkdjmpbgkaaadoor", sum := "603f71201e27279458d23f49797f4b47003d4a565aa2533389d07cf592f0c7e1", func := "emend/emendlaw06.QuotedFound", spec := "quotedFound", inPlace := ["internal/bytealg.IndexByteString", "internal/bytealg.CountString", "internal/bytealg.IndexString", "internal/abi.NoEscape", "internal/bytealg.MakeNoZero"], named := ["internal/bytealg.MaxLen", "unicode/utf8.first", "unicode/utf8.acceptRanges"], apart := false, laid := [("unicode/utf8.acceptRanges", laid_unicode_utf8_acceptRanges), ("unicode/utf8.first", laid_unicode_utf8_first)], narrowed := true }
def QuotedFoundUptoSaid : Prop := quotedFoundUptoRow.holds Tryd.pinned (OpenSpec.upto quotedFoundSpec)

end Rows
end Go.Proofs.YtnnfkdjmpbgkaaaDoor
