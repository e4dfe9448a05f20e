/-
  NARROWER THAN 'FOR EVERY INPUT', by the rows' own cells (each row's printed sentence says how): ScanCleans: laid · ScanWhole: laid · ScanApart: laid · ScanLong: laid · SemiEnds: laid · SemiComments: laid · SemiWritten: laid · SemiTokens: laid.
  DERIVED. THE GIVEN ROWS OF THIS SEAT. 8 by the template 'for every input the law returns true; each argument reads behind the call as it read before'; 0 by the template 'total and deterministic' (their statements: YtcnkcnalabjhgaaDoorTotals.lean).
  GIVEN WITH THE SEED: the statements are not yours to turn. If you find one false, say at which input.
  Laid BY PROGRAM, IN A SANDBOX (cutbox-rows.mjs): the forced cells as the released guide's own fill.sh prints them over the translation 9cb0deadbd9b993c… (all of the seat's roots in one cut). By AI agents, Wed Nov 11 2026. No macro, syntax, notation, axiom, sorry.
-/
import Derived.Test.YtcnkcnalabjhgaaDoorChecked
import GoSem.PinnedTables
import GoSem.Claim
import GoSem.ClaimJoined
import GoSem.ClaimMapViews
import Derived.JoinedTies
import Derived.KernelRfl
namespace Go.Proofs.YtcnkcnalabjhgaaDoor
/- THE CELL 'sum', in the pinned program and in every row, IS THE sha256 OF THE DUMP (.gsa) THAT YtcnkcnalabjhgaaDoorProg.lean LOADS. Nothing in Lean hashes anything: it is a label: what it is worth is what the hold of that sum in a sandbox is worth. -/
noncomputable def Tryd.pinned : Pinned := { name := "ytcnkcnalabjhgaadoor", sum := "9cb0deadbd9b993cfd5372e102f551a7cc27291a989f9c08c0a87b6018f570ea", checked := Tryd.checked }
namespace Rows
def none {H : Type} : Left H := { results := [], args := [] }

/- WHAT THE LISTED PACKAGE-LEVEL VARIABLES READ AS WHEN THE CALL BEGINS. Each datum BY PROGRAM (the guide's laid-datum.mjs) off the statement by which the dump's own 'gosem.cut.vars' lays the variable. In a bare row this is a premise. The card (YtcnkcnalabjhgaaDoorCards.lean) ties it to the program's text. -/
def laid_unicode_utf8_acceptRanges {H : Type} : DataW H := .agg [.agg [.lit (.int .u8 128), .lit (.int .u8 191)], .agg [.lit (.int .u8 160), .lit (.int .u8 191)], .agg [.lit (.int .u8 128), .lit (.int .u8 159)], .agg [.lit (.int .u8 144), .lit (.int .u8 191)], .agg [.lit (.int .u8 128), .lit (.int .u8 143)], .agg [.lit (.int .u8 0), .lit (.int .u8 0)], .agg [.lit (.int .u8 0), .lit (.int .u8 0)], .agg [.lit (.int .u8 0), .lit (.int .u8 0)], .agg [.lit (.int .u8 0), .lit (.int .u8 0)], .agg [.lit (.int .u8 0), .lit (.int .u8 0)], .agg [.lit (.int .u8 0), .lit (.int .u8 0)], .agg [.lit (.int .u8 0), .lit (.int .u8 0)], .agg [.lit (.int .u8 0), .lit (.int .u8 0)], .agg [.lit (.int .u8 0), .lit (.int .u8 0)], .agg [.lit (.int .u8 0), .lit (.int .u8 0)], .agg [.lit (.int .u8 0), .lit (.int .u8 0)]]
/-- One of Go's own tables, pinned by name: the form's constant. -/
def laid_unicode_utf8_first : DataW Unit := Go.Pinned.utf8First

/-- 'emendlaw07.ScanCleans': WHATEVER THE INPUT: true; the input reads as it did. -/
def scanCleansSpec : ChangeSpec := { name := "scanCleans", fn := fun _ => fun
  | [d] => { results := [.lit (.bool true)], args := [d] }
  | _ => none }
def scanCleansRow : OpenClaim := { program := "ytcnkcnalabjhgaadoor", sum := "9cb0deadbd9b993cfd5372e102f551a7cc27291a989f9c08c0a87b6018f570ea", func := "emend/emendlaw07.ScanCleans", spec := "scanCleans", inPlace := ["internal/bytealg.IndexByteString", "internal/bytealg.IndexString", "internal/bytealg.CountString", "internal/abi.NoEscape", "internal/bytealg.MakeNoZero"], unfollowed := true, recurses := true, named := ["unicode/utf8.first", "unicode/utf8.acceptRanges", "internal/bytealg.MaxLen"], apart := false, laid := [("unicode/utf8.acceptRanges", laid_unicode_utf8_acceptRanges), ("unicode/utf8.first", laid_unicode_utf8_first)] }
def ScanCleansSaid : Prop := scanCleansRow.holds Tryd.pinned (OpenSpec.ofChange scanCleansSpec)

/-- ITS FALSE NEIGHBOUR: 'it returns false'. Refute it at one input. -/
def scanCleansWrong : ChangeSpec := { name := "scanCleans", fn := fun _ => fun
  | [d] => { results := [.lit (.bool false)], args := [d] }
  | _ => none }
def ScanCleansWrongFalsely : Prop := scanCleansRow.holds Tryd.pinned (OpenSpec.ofChange scanCleansWrong)

/-- 'emendlaw07.ScanWhole': WHATEVER THE INPUT: true; the input reads as it did. -/
def scanWholeSpec : ChangeSpec := { name := "scanWhole", fn := fun _ => fun
  | [d] => { results := [.lit (.bool true)], args := [d] }
  | _ => none }
def scanWholeRow : OpenClaim := { program := "ytcnkcnalabjhgaadoor", sum := "9cb0deadbd9b993cfd5372e102f551a7cc27291a989f9c08c0a87b6018f570ea", func := "emend/emendlaw07.ScanWhole", spec := "scanWhole", inPlace := ["internal/bytealg.IndexByteString", "internal/bytealg.IndexString", "internal/bytealg.CountString", "internal/abi.NoEscape", "internal/bytealg.MakeNoZero"], unfollowed := true, recurses := true, named := ["unicode/utf8.first", "unicode/utf8.acceptRanges", "internal/bytealg.MaxLen"], apart := false, laid := [("unicode/utf8.acceptRanges", laid_unicode_utf8_acceptRanges), ("unicode/utf8.first", laid_unicode_utf8_first)] }
def ScanWholeSaid : Prop := scanWholeRow.holds Tryd.pinned (OpenSpec.ofChange scanWholeSpec)

/-- ITS FALSE NEIGHBOUR: 'it returns false'. Refute it at one input. -/
def scanWholeWrong : ChangeSpec := { name := "scanWhole", fn := fun _ => fun
  | [d] => { results := [.lit (.bool false)], args := [d] }
  | _ => none }
def ScanWholeWrongFalsely : Prop := scanWholeRow.holds Tryd.pinned (OpenSpec.ofChange scanWholeWrong)

/-- 'emendlaw07.ScanApart': WHATEVER THE INPUT: true; the input reads as it did. -/
def scanApartSpec : ChangeSpec := { name := "scanApart", fn := fun _ => fun
  | [d] => { results := [.lit (.bool true)], args := [d] }
  | _ => none }
def scanApartRow : OpenClaim := { program := "ytcnkcnalabjhgaadoor", sum := "9cb0deadbd9b993cfd5372e102f551a7cc27291a989f9c08c0a87b6018f570ea", func := "emend/emendlaw07.ScanApart", spec := "scanApart", inPlace := ["internal/bytealg.IndexByteString", "internal/bytealg.IndexString", "internal/bytealg.CountString", "internal/abi.NoEscape", "internal/bytealg.MakeNoZero"], unfollowed := true, recurses := true, named := ["unicode/utf8.first", "unicode/utf8.acceptRanges", "internal/bytealg.MaxLen"], apart := false, laid := [("unicode/utf8.acceptRanges", laid_unicode_utf8_acceptRanges), ("unicode/utf8.first", laid_unicode_utf8_first)] }
def ScanApartSaid : Prop := scanApartRow.holds Tryd.pinned (OpenSpec.ofChange scanApartSpec)

/-- ITS FALSE NEIGHBOUR: 'it returns false'. Refute it at one input. -/
def scanApartWrong : ChangeSpec := { name := "scanApart", fn := fun _ => fun
  | [d] => { results := [.lit (.bool false)], args := [d] }
  | _ => none }
def ScanApartWrongFalsely : Prop := scanApartRow.holds Tryd.pinned (OpenSpec.ofChange scanApartWrong)

/-- 'emendlaw07.ScanLong': WHATEVER THE INPUT: true; the input reads as it did. -/
def scanLongSpec : ChangeSpec := { name := "scanLong", fn := fun _ => fun
  | [] => { results := [.lit (.bool true)], args := [] }
  | _ => none }
def scanLongRow : OpenClaim := { program := "ytcnkcnalabjhgaadoor", sum := "9cb0deadbd9b993cfd5372e102f551a7cc27291a989f9c08c0a87b6018f570ea", func := "emend/emendlaw07.ScanLong", spec := "scanLong", inPlace := ["internal/bytealg.IndexByteString", "internal/bytealg.IndexString", "internal/bytealg.CountString", "internal/abi.NoEscape", "internal/bytealg.MakeNoZero"], unfollowed := true, recurses := true, named := ["unicode/utf8.first", "unicode/utf8.acceptRanges", "internal/bytealg.MaxLen"], apart := false, laid := [("unicode/utf8.acceptRanges", laid_unicode_utf8_acceptRanges), ("unicode/utf8.first", laid_unicode_utf8_first)] }
def ScanLongSaid : Prop := scanLongRow.holds Tryd.pinned (OpenSpec.ofChange scanLongSpec)

/-- ITS FALSE NEIGHBOUR: 'it returns false'. Refute it at one input. -/
def scanLongWrong : ChangeSpec := { name := "scanLong", fn := fun _ => fun
  | [] => { results := [.lit (.bool false)], args := [] }
  | _ => none }
def ScanLongWrongFalsely : Prop := scanLongRow.holds Tryd.pinned (OpenSpec.ofChange scanLongWrong)

/-- 'emendlaw08.SemiEnds': WHATEVER THE INPUT: true; the input reads as it did. -/
def semiEndsSpec : ChangeSpec := { name := "semiEnds", fn := fun _ => fun
  | [d1, d2] => { results := [.lit (.bool true)], args := [d1, d2] }
  | _ => none }
def semiEndsRow : OpenClaim := { program := "ytcnkcnalabjhgaadoor", sum := "9cb0deadbd9b993cfd5372e102f551a7cc27291a989f9c08c0a87b6018f570ea", func := "emend/emendlaw08.SemiEnds", spec := "semiEnds", inPlace := ["internal/bytealg.IndexByteString", "internal/bytealg.IndexString", "internal/bytealg.CountString", "internal/abi.NoEscape", "internal/bytealg.MakeNoZero"], unfollowed := true, recurses := true, named := ["unicode/utf8.first", "unicode/utf8.acceptRanges", "internal/bytealg.MaxLen"], apart := false, laid := [("unicode/utf8.acceptRanges", laid_unicode_utf8_acceptRanges), ("unicode/utf8.first", laid_unicode_utf8_first)] }
def SemiEndsSaid : Prop := semiEndsRow.holds Tryd.pinned (OpenSpec.ofChange semiEndsSpec)

/-- ITS FALSE NEIGHBOUR: 'it returns false'. Refute it at one input. -/
def semiEndsWrong : ChangeSpec := { name := "semiEnds", fn := fun _ => fun
  | [d1, d2] => { results := [.lit (.bool false)], args := [d1, d2] }
  | _ => none }
def SemiEndsWrongFalsely : Prop := semiEndsRow.holds Tryd.pinned (OpenSpec.ofChange semiEndsWrong)

/-- 'emendlaw08.SemiComments': WHATEVER THE INPUT: true; the input reads as it did. -/
def semiCommentsSpec : ChangeSpec := { name := "semiComments", fn := fun _ => fun
  | [d] => { results := [.lit (.bool true)], args := [d] }
  | _ => none }
def semiCommentsRow : OpenClaim := { program := "ytcnkcnalabjhgaadoor", sum := "9cb0deadbd9b993cfd5372e102f551a7cc27291a989f9c08c0a87b6018f570ea", func := "emend/emendlaw08.SemiComments", spec := "semiComments", inPlace := ["internal/bytealg.IndexByteString", "internal/bytealg.IndexString", "internal/bytealg.CountString", "internal/abi.NoEscape", "internal/bytealg.MakeNoZero"], unfollowed := true, recurses := true, named := ["unicode/utf8.first", "unicode/utf8.acceptRanges", "internal/bytealg.MaxLen"], apart := false, laid := [("unicode/utf8.acceptRanges", laid_unicode_utf8_acceptRanges), ("unicode/utf8.first", laid_unicode_utf8_first)] }
def SemiCommentsSaid : Prop := semiCommentsRow.holds Tryd.pinned (OpenSpec.ofChange semiCommentsSpec)

/-- ITS FALSE NEIGHBOUR: 'it returns false'. Refute it at one input. -/
def semiCommentsWrong : ChangeSpec := { name := "semiComments", fn := fun _ => fun
  | [d] => { results := [.lit (.bool false)], args := [d] }
  | _ => none }
def SemiCommentsWrongFalsely : Prop := semiCommentsRow.holds Tryd.pinned (OpenSpec.ofChange semiCommentsWrong)

/-- 'emendlaw08.SemiWritten': WHATEVER THE INPUT: true; the input reads as it did. -/
def semiWrittenSpec : ChangeSpec := { name := "semiWritten", fn := fun _ => fun
  | [d] => { results := [.lit (.bool true)], args := [d] }
  | _ => none }
def semiWrittenRow : OpenClaim := { program := "ytcnkcnalabjhgaadoor", sum := "9cb0deadbd9b993cfd5372e102f551a7cc27291a989f9c08c0a87b6018f570ea", func := "emend/emendlaw08.SemiWritten", spec := "semiWritten", inPlace := ["internal/bytealg.IndexByteString", "internal/bytealg.IndexString", "internal/bytealg.CountString", "internal/abi.NoEscape", "internal/bytealg.MakeNoZero"], unfollowed := true, recurses := true, named := ["unicode/utf8.first", "unicode/utf8.acceptRanges", "internal/bytealg.MaxLen"], apart := false, laid := [("unicode/utf8.acceptRanges", laid_unicode_utf8_acceptRanges), ("unicode/utf8.first", laid_unicode_utf8_first)] }
def SemiWrittenSaid : Prop := semiWrittenRow.holds Tryd.pinned (OpenSpec.ofChange semiWrittenSpec)

/-- ITS FALSE NEIGHBOUR: 'it returns false'. Refute it at one input. -/
def semiWrittenWrong : ChangeSpec := { name := "semiWritten", fn := fun _ => fun
  | [d] => { results := [.lit (.bool false)], args := [d] }
  | _ => none }
def SemiWrittenWrongFalsely : Prop := semiWrittenRow.holds Tryd.pinned (OpenSpec.ofChange semiWrittenWrong)

/-- 'emendlaw08.SemiTokens': WHATEVER THE INPUT: true; the input reads as it did. -/
def semiTokensSpec : ChangeSpec := { name := "semiTokens", fn := fun _ => fun
  | [d] => { results := [.lit (.bool true)], args := [d] }
  | _ => none }
def semiTokensRow : OpenClaim := { program := "ytcnkcnalabjhgaadoor", sum := "9cb0deadbd9b993cfd5372e102f551a7cc27291a989f9c08c0a87b6018f570ea", func := "emend/emendlaw08.SemiTokens", spec := "semiTokens", inPlace := ["internal/bytealg.IndexByteString", "internal/bytealg.IndexString", "internal/bytealg.CountString", "internal/abi.NoEscape", "internal/bytealg.MakeNoZero"], unfollowed := true, recurses := true, named := ["unicode/utf8.first", "unicode/utf8.acceptRanges", "internal/bytealg.MaxLen"], apart := false, laid := [("unicode/utf8.acceptRanges", laid_unicode_utf8_acceptRanges), ("unicode/utf8.first", laid_unicode_utf8_first)] }
def SemiTokensSaid : Prop := semiTokensRow.holds Tryd.pinned (OpenSpec.ofChange semiTokensSpec)

/-- ITS FALSE NEIGHBOUR: 'it returns false'. Refute it at one input. -/
def semiTokensWrong : ChangeSpec := { name := "semiTokens", fn := fun _ => fun
  | [d] => { results := [.lit (.bool false)], args := [d] }
  | _ => none }
def SemiTokensWrongFalsely : Prop := semiTokensRow.holds Tryd.pinned (OpenSpec.ofChange semiTokensWrong)

/- THE SECOND FORM. 'bulk': how many values and letters a reading holds, each counted each time it is reached (what is shared counts as often as it is met; a slice's spare places count too). A statement '..UptoSaid' is the law's where the arguments, and the package variables that the reading takes, are together of bulk at most 1048576: NARROWER than '..Said'. Prove '..Said' where nothing that the law and all that it calls make is longer than what came in: it says more and counts as full. Else prove '..UptoSaid'. A law counts once. -/
mutual
def uptoBulk {H : Type} : DataW H → Nat
  | .lit (.string bytes) => bytes.length + 1
  | .lit _ => 1
  | .nil => 1
  | .ptr d => uptoBulk d + 1
  | .slice elems spare => uptoBulkAll elems + uptoBulkAll spare + 1
  | .agg parts => uptoBulkAll parts + 1
  | .iface _ d => uptoBulk d + 1
  | .map entries => uptoBulkEntries entries + 1
  | .held _ => 1
def uptoBulkAll {H : Type} : List (DataW H) → Nat
  | [] => 0
  | d :: r => uptoBulk d + uptoBulkAll r
def uptoBulkEntries {H : Type} : List (Lit × DataW H) → Nat
  | [] => 0
  | x :: r => uptoBulkEntry x + uptoBulkEntries r
def uptoBulkEntry {H : Type} : Lit × DataW H → Nat
  | (.string bytes, d) => bytes.length + uptoBulk d + 1
  | (_, d) => uptoBulk d + 1
 end
def uptoSmall : (H : Type) → List (DataW H) → Bool := fun _ ds => decide (uptoBulkAll ds ≤ 1048576)
def OpenSpec.upto (s : _root_.Go.ChangeSpec) : _root_.Go.OpenSpec := { _root_.Go.OpenSpec.ofChange s with cond := some uptoSmall }

/-- 'emendlaw07.ScanCleans', WHERE WHAT IT READS IS OF BULK AT MOST 1048576: true; the input reads as it did. -/
def scanCleansUptoRow : OpenClaim := { program := "ytcnkcnalabjhgaadoor", sum := "9cb0deadbd9b993cfd5372e102f551a7cc27291a989f9c08c0a87b6018f570ea", func := "emend/emendlaw07.ScanCleans", spec := "scanCleans", inPlace := ["internal/bytealg.IndexByteString", "internal/bytealg.IndexString", "internal/bytealg.CountString", "internal/abi.NoEscape", "internal/bytealg.MakeNoZero"], unfollowed := true, recurses := true, named := ["unicode/utf8.first", "unicode/utf8.acceptRanges", "internal/bytealg.MaxLen"], apart := false, laid := [("unicode/utf8.acceptRanges", laid_unicode_utf8_acceptRanges), ("unicode/utf8.first", laid_unicode_utf8_first)], narrowed := true }
def ScanCleansUptoSaid : Prop := scanCleansUptoRow.holds Tryd.pinned (OpenSpec.upto scanCleansSpec)

/-- 'emendlaw07.ScanWhole', WHERE WHAT IT READS IS OF BULK AT MOST 1048576: true; the input reads as it did. -/
def scanWholeUptoRow : OpenClaim := { program := "ytcnkcnalabjhgaadoor", sum := "9cb0deadbd9b993cfd5372e102f551a7cc27291a989f9c08c0a87b6018f570ea", func := "emend/emendlaw07.ScanWhole", spec := "scanWhole", inPlace := ["internal/bytealg.IndexByteString", "internal/bytealg.IndexString", "internal/bytealg.CountString", "internal/abi.NoEscape", "internal/bytealg.MakeNoZero"], unfollowed := true, recurses := true, named := ["unicode/utf8.first", "unicode/utf8.acceptRanges", "internal/bytealg.MaxLen"], apart := false, laid := [("unicode/utf8.acceptRanges", laid_unicode_utf8_acceptRanges), ("unicode/utf8.first", laid_unicode_utf8_first)], narrowed := true }
def ScanWholeUptoSaid : Prop := scanWholeUptoRow.holds Tryd.pinned (OpenSpec.upto scanWholeSpec)

/-- 'emendlaw07.ScanApart', WHERE WHAT IT READS IS OF BULK AT MOST 1048576: true; the input reads as it did. -/
def scanApartUptoRow : OpenClaim := { program := "ytcnkcnalabjhgaadoor", sum := "9cb0deadbd9b993cfd5372e102f551a7cc27291a989f9c08c0a87b6018f570ea", func := "emend/emendlaw07.ScanApart", spec := "scanApart", inPlace := ["internal/bytealg.IndexByteString", "internal/bytealg.IndexString", "internal/bytealg.CountString", "internal/abi.NoEscape", "internal/bytealg.MakeNoZero"], unfollowed := true, recurses := true, named := ["unicode/utf8.first", "unicode/utf8.acceptRanges", "internal/bytealg.MaxLen"], apart := false, laid := [("unicode/utf8.acceptRanges", laid_unicode_utf8_acceptRanges), ("unicode/utf8.first", laid_unicode_utf8_first)], narrowed := true }
def ScanApartUptoSaid : Prop := scanApartUptoRow.holds Tryd.pinned (OpenSpec.upto scanApartSpec)

/-- 'emendlaw07.ScanLong', WHERE WHAT IT READS IS OF BULK AT MOST 1048576: true; the input reads as it did. -/
def scanLongUptoRow : OpenClaim := { program := "ytcnkcnalabjhgaadoor", sum := "9cb0deadbd9b993cfd5372e102f551a7cc27291a989f9c08c0a87b6018f570ea", func := "emend/emendlaw07.ScanLong", spec := "scanLong", inPlace := ["internal/bytealg.IndexByteString", "internal/bytealg.IndexString", "internal/bytealg.CountString", "internal/abi.NoEscape", "internal/bytealg.MakeNoZero"], unfollowed := true, recurses := true, named := ["unicode/utf8.first", "unicode/utf8.acceptRanges", "internal/bytealg.MaxLen"], apart := false, laid := [("unicode/utf8.acceptRanges", laid_unicode_utf8_acceptRanges), ("unicode/utf8.first", laid_unicode_utf8_first)], narrowed := true }
def ScanLongUptoSaid : Prop := scanLongUptoRow.holds Tryd.pinned (OpenSpec.upto scanLongSpec)

/-- 'emendlaw08.SemiEnds', WHERE WHAT IT READS IS OF BULK AT MOST 1048576: true; the input reads as it did. -/
def semiEndsUptoRow : OpenClaim := { program := "ytcnkcnalabjhgaadoor", sum := "9cb0deadbd9b993cfd5372e102f551a7cc27291a989f9c08c0a87b6018f570ea", func := "emend/emendlaw08.SemiEnds", spec := "semiEnds", inPlace := ["internal/bytealg.IndexByteString", "internal/bytealg.IndexString", "internal/bytealg.CountString", "internal/abi.NoEscape", "internal/bytealg.MakeNoZero"], unfollowed := true, recurses := true, named := ["unicode/utf8.first", "unicode/utf8.acceptRanges", "internal/bytealg.MaxLen"], apart := false, laid := [("unicode/utf8.acceptRanges", laid_unicode_utf8_acceptRanges), ("unicode/utf8.first", laid_unicode_utf8_first)], narrowed := true }
def SemiEndsUptoSaid : Prop := semiEndsUptoRow.holds Tryd.pinned (OpenSpec.upto semiEndsSpec)

/-- 'emendlaw08.SemiComments', WHERE WHAT IT READS IS OF BULK AT MOST 1048576: true; the input reads as it did. -/
def semiCommentsUptoRow : OpenClaim := { program := "ytcnkcnalabjhgaadoor", sum := "9cb0deadbd9b993cfd5372e102f551a7cc27291a989f9c08c0a87b6018f570ea", func := "emend/emendlaw08.SemiComments", spec := "semiComments", inPlace := ["internal/bytealg.IndexByteString", "internal/bytealg.IndexString", "internal/bytealg.CountString", "internal/abi.NoEscape", "internal/bytealg.MakeNoZero"], unfollowed := true, recurses := true, named := ["unicode/utf8.first", "unicode/utf8.acceptRanges", "internal/bytealg.MaxLen"], apart := false, laid := [("unicode/utf8.acceptRanges", laid_unicode_utf8_acceptRanges), ("unicode/utf8.first", laid_unicode_utf8_first)], narrowed := true }
def SemiCommentsUptoSaid : Prop := semiCommentsUptoRow.holds Tryd.pinned (OpenSpec.upto semiCommentsSpec)

/-- 'emendlaw08.SemiWritten', WHERE WHAT IT READS IS OF BULK AT MOST 1048576: true; the input reads as it did. -/
def semiWrittenUptoRow : OpenClaim := { program := "ytcnkcnalabjhgaadoor", sum := "9cb0deadbd9b993cfd5372e102f551a7cc27291a989f9c08c0a87b6018f570ea", func := "emend/emendlaw08.SemiWritten", spec := "semiWritten", inPlace := ["internal/bytealg.IndexByteString", "internal/bytealg.IndexString", "internal/bytealg.CountString", "internal/abi.NoEscape", "internal/bytealg.MakeNoZero"], unfollowed := true, recurses := true, named := ["unicode/utf8.first", "unicode/utf8.acceptRanges", "internal/bytealg.MaxLen"], apart := false, laid := [("unicode/utf8.acceptRanges", laid_unicode_utf8_acceptRanges), ("unicode/utf8.first", laid_unicode_utf8_first)], narrowed := true }
def SemiWrittenUptoSaid : Prop := semiWrittenUptoRow.holds Tryd.pinned (OpenSpec.upto semiWrittenSpec)

/-- 'emendlaw08.SemiTokens', WHERE WHAT IT READS IS OF BULK AT MOST 1048576: true; the input reads as it did. -/
def semiTokensUptoRow : OpenClaim := { program := "ytcnkcnalabjhgaadoor", sum := "9cb0deadbd9b993cfd5372e102f551a7cc27291a989f9c08c0a87b6018f570ea", func := "emend/emendlaw08.SemiTokens", spec := "semiTokens", inPlace := ["internal/bytealg.IndexByteString", "internal/bytealg.IndexString", "internal/bytealg.CountString", "internal/abi.NoEscape", "internal/bytealg.MakeNoZero"], unfollowed := true, recurses := true, named := ["unicode/utf8.first", "unicode/utf8.acceptRanges", "internal/bytealg.MaxLen"], apart := false, laid := [("unicode/utf8.acceptRanges", laid_unicode_utf8_acceptRanges), ("unicode/utf8.first", laid_unicode_utf8_first)], narrowed := true }
def SemiTokensUptoSaid : Prop := semiTokensUptoRow.holds Tryd.pinned (OpenSpec.upto semiTokensSpec)

end Rows
end Go.Proofs.YtcnkcnalabjhgaaDoor
