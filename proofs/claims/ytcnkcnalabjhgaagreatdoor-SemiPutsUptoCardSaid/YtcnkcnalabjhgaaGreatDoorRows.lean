/-
  NARROWER THAN 'FOR EVERY INPUT', by the rows' own cells (each row's printed sentence says how): ScanOnes: laid · ScanAlls: laid · ScanSigns: laid · SemiPuts: laid.
  DERIVED. THE GIVEN ROWS OF THIS SEAT. 4 by the template 'for every input the law returns true; each argument reads behind the call as it read before'; 0 by the template 'total and deterministic' (their statements: YtcnkcnalabjhgaaGreatDoorTotals.lean).
  GIVEN WITH THE SEED: the statements are not yours to turn. If you find one false, say at which input.
  Laid BY PROGRAM, IN A SANDBOX (cutbox-rows.mjs): the forced cells as the released guide's own fill.sh prints them over the translation 130ef16d14855990… (all of the seat's roots in one cut). By AI agents, Wed Nov 11 2026. No macro, syntax, notation, axiom, sorry.
-/
import Derived.Test.YtcnkcnalabjhgaaGreatDoorChecked
import GoSem.PinnedTables
import GoSem.Claim
import GoSem.ClaimJoined
import GoSem.ClaimMapViews
import Derived.JoinedTies
import Derived.KernelRfl
namespace Go.Proofs.YtcnkcnalabjhgaaGreatDoor
/- THE CELL 'sum', in the pinned program and in every row, IS THE sha256 OF THE DUMP (.gsa) THAT YtcnkcnalabjhgaaGreatDoorProg.lean LOADS. Nothing in Lean hashes anything: it is a label: what it is worth is what the hold of that sum in a sandbox is worth. -/
noncomputable def Tryz.pinned : Pinned := { name := "ytcnkcnalabjhgaagreatdoor", sum := "130ef16d148559909d3b463989de4fa3c26cd2f67891a98a5e982c0fd432d1e2", checked := Tryz.checked }
namespace Rows
def none {H : Type} : Left H := { results := [], args := [] }

/- WHAT THE LISTED PACKAGE-LEVEL VARIABLES READ AS WHEN THE CALL BEGINS. Each datum BY PROGRAM (the guide's laid-datum.mjs) off the statement by which the dump's own 'gosem.cut.vars' lays the variable. In a bare row this is a premise. The card (YtcnkcnalabjhgaaGreatDoorCards.lean) ties it to the program's text. -/
def laid_unicode_utf8_acceptRanges {H : Type} : DataW H := .agg [.agg [.lit (.int .u8 128), .lit (.int .u8 191)], .agg [.lit (.int .u8 160), .lit (.int .u8 191)], .agg [.lit (.int .u8 128), .lit (.int .u8 159)], .agg [.lit (.int .u8 144), .lit (.int .u8 191)], .agg [.lit (.int .u8 128), .lit (.int .u8 143)], .agg [.lit (.int .u8 0), .lit (.int .u8 0)], .agg [.lit (.int .u8 0), .lit (.int .u8 0)], .agg [.lit (.int .u8 0), .lit (.int .u8 0)], .agg [.lit (.int .u8 0), .lit (.int .u8 0)], .agg [.lit (.int .u8 0), .lit (.int .u8 0)], .agg [.lit (.int .u8 0), .lit (.int .u8 0)], .agg [.lit (.int .u8 0), .lit (.int .u8 0)], .agg [.lit (.int .u8 0), .lit (.int .u8 0)], .agg [.lit (.int .u8 0), .lit (.int .u8 0)], .agg [.lit (.int .u8 0), .lit (.int .u8 0)], .agg [.lit (.int .u8 0), .lit (.int .u8 0)]]
/-- One of Go's own tables, pinned by name: the form's constant. -/
def laid_unicode_utf8_first : DataW Unit := Go.Pinned.utf8First

/-- 'emendlaw07.ScanOnes': WHATEVER THE INPUT: true; the input reads as it did. -/
def scanOnesSpec : ChangeSpec := { name := "scanOnes", fn := fun _ => fun
  | [d1, d2] => { results := [.lit (.bool true)], args := [d1, d2] }
  | _ => none }
def scanOnesRow : OpenClaim := { program := "ytcnkcnalabjhgaagreatdoor", sum := "130ef16d148559909d3b463989de4fa3c26cd2f67891a98a5e982c0fd432d1e2", func := "emend/emendlaw07.ScanOnes", spec := "scanOnes", inPlace := ["internal/bytealg.IndexByteString", "internal/bytealg.IndexString", "internal/bytealg.CountString", "internal/abi.NoEscape", "internal/bytealg.MakeNoZero"], unfollowed := true, recurses := true, named := ["unicode/utf8.first", "unicode/utf8.acceptRanges", "internal/bytealg.MaxLen"], apart := false, laid := [("unicode/utf8.acceptRanges", laid_unicode_utf8_acceptRanges), ("unicode/utf8.first", laid_unicode_utf8_first)] }
def ScanOnesSaid : Prop := scanOnesRow.holds Tryz.pinned (OpenSpec.ofChange scanOnesSpec)

/-- ITS FALSE NEIGHBOUR: 'it returns false'. Refute it at one input. -/
def scanOnesWrong : ChangeSpec := { name := "scanOnes", fn := fun _ => fun
  | [d1, d2] => { results := [.lit (.bool false)], args := [d1, d2] }
  | _ => none }
def ScanOnesWrongFalsely : Prop := scanOnesRow.holds Tryz.pinned (OpenSpec.ofChange scanOnesWrong)

/-- 'emendlaw07.ScanAlls': WHATEVER THE INPUT: true; the input reads as it did. -/
def scanAllsSpec : ChangeSpec := { name := "scanAlls", fn := fun _ => fun
  | [d] => { results := [.lit (.bool true)], args := [d] }
  | _ => none }
def scanAllsRow : OpenClaim := { program := "ytcnkcnalabjhgaagreatdoor", sum := "130ef16d148559909d3b463989de4fa3c26cd2f67891a98a5e982c0fd432d1e2", func := "emend/emendlaw07.ScanAlls", spec := "scanAlls", inPlace := ["internal/bytealg.IndexByteString", "internal/bytealg.IndexString", "internal/bytealg.CountString", "internal/abi.NoEscape", "internal/bytealg.MakeNoZero"], unfollowed := true, recurses := true, named := ["unicode/utf8.first", "unicode/utf8.acceptRanges", "internal/bytealg.MaxLen"], apart := false, laid := [("unicode/utf8.acceptRanges", laid_unicode_utf8_acceptRanges), ("unicode/utf8.first", laid_unicode_utf8_first)] }
def ScanAllsSaid : Prop := scanAllsRow.holds Tryz.pinned (OpenSpec.ofChange scanAllsSpec)

/-- ITS FALSE NEIGHBOUR: 'it returns false'. Refute it at one input. -/
def scanAllsWrong : ChangeSpec := { name := "scanAlls", fn := fun _ => fun
  | [d] => { results := [.lit (.bool false)], args := [d] }
  | _ => none }
def ScanAllsWrongFalsely : Prop := scanAllsRow.holds Tryz.pinned (OpenSpec.ofChange scanAllsWrong)

/-- 'emendlaw07.ScanSigns': WHATEVER THE INPUT: true; the input reads as it did. -/
def scanSignsSpec : ChangeSpec := { name := "scanSigns", fn := fun _ => fun
  | [] => { results := [.lit (.bool true)], args := [] }
  | _ => none }
def scanSignsRow : OpenClaim := { program := "ytcnkcnalabjhgaagreatdoor", sum := "130ef16d148559909d3b463989de4fa3c26cd2f67891a98a5e982c0fd432d1e2", func := "emend/emendlaw07.ScanSigns", spec := "scanSigns", inPlace := ["internal/bytealg.IndexByteString", "internal/bytealg.IndexString", "internal/bytealg.CountString", "internal/abi.NoEscape", "internal/bytealg.MakeNoZero"], unfollowed := true, recurses := true, named := ["unicode/utf8.first", "unicode/utf8.acceptRanges", "internal/bytealg.MaxLen"], apart := false, laid := [("unicode/utf8.acceptRanges", laid_unicode_utf8_acceptRanges), ("unicode/utf8.first", laid_unicode_utf8_first)] }
def ScanSignsSaid : Prop := scanSignsRow.holds Tryz.pinned (OpenSpec.ofChange scanSignsSpec)

/-- ITS FALSE NEIGHBOUR: 'it returns false'. Refute it at one input. -/
def scanSignsWrong : ChangeSpec := { name := "scanSigns", fn := fun _ => fun
  | [] => { results := [.lit (.bool false)], args := [] }
  | _ => none }
def ScanSignsWrongFalsely : Prop := scanSignsRow.holds Tryz.pinned (OpenSpec.ofChange scanSignsWrong)

/-- 'emendlaw08.SemiPuts': WHATEVER THE INPUT: true; the input reads as it did. -/
def semiPutsSpec : ChangeSpec := { name := "semiPuts", fn := fun _ => fun
  | [d] => { results := [.lit (.bool true)], args := [d] }
  | _ => none }
def semiPutsRow : OpenClaim := { program := "ytcnkcnalabjhgaagreatdoor", sum := "130ef16d148559909d3b463989de4fa3c26cd2f67891a98a5e982c0fd432d1e2", func := "emend/emendlaw08.SemiPuts", spec := "semiPuts", inPlace := ["internal/bytealg.IndexByteString", "internal/bytealg.IndexString", "internal/bytealg.CountString", "internal/abi.NoEscape", "internal/bytealg.MakeNoZero"], unfollowed := true, recurses := true, named := ["unicode/utf8.first", "unicode/utf8.acceptRanges", "internal/bytealg.MaxLen"], apart := false, laid := [("unicode/utf8.acceptRanges", laid_unicode_utf8_acceptRanges), ("unicode/utf8.first", laid_unicode_utf8_first)] }
def SemiPutsSaid : Prop := semiPutsRow.holds Tryz.pinned (OpenSpec.ofChange semiPutsSpec)

/-- ITS FALSE NEIGHBOUR: 'it returns false'. Refute it at one input. -/
def semiPutsWrong : ChangeSpec := { name := "semiPuts", fn := fun _ => fun
  | [d] => { results := [.lit (.bool false)], args := [d] }
  | _ => none }
def SemiPutsWrongFalsely : Prop := semiPutsRow.holds Tryz.pinned (OpenSpec.ofChange semiPutsWrong)

/- THE SECOND FORM. 'bulk': how many values and letters a reading holds, each counted each time it is reached (what is shared counts as often as it is met; a slice's spare places count too). A statement '..UptoSaid' is the law's where the arguments, and the package variables that the reading takes, are together of bulk at most 1048576: NARROWER than '..Said'. Prove '..Said' where nothing that the law and all that it calls make is longer than what came in: it says more and counts as full. Else prove '..UptoSaid'. A law counts once. -/
mutual
def uptoBulk {H : Type} : DataW H → Nat
  | .lit (.string bytes) => bytes.length + 1
  | .lit _ => 1
  | .nil => 1
  | .ptr d => uptoBulk d + 1
  | .slice elems spare => uptoBulkAll elems + uptoBulkAll spare + 1
  | .agg parts => uptoBulkAll parts + 1
  | .iface _ d => uptoBulk d + 1
  | .map entries => uptoBulkEntries entries + 1
  | .held _ => 1
def uptoBulkAll {H : Type} : List (DataW H) → Nat
  | [] => 0
  | d :: r => uptoBulk d + uptoBulkAll r
def uptoBulkEntries {H : Type} : List (Lit × DataW H) → Nat
  | [] => 0
  | x :: r => uptoBulkEntry x + uptoBulkEntries r
def uptoBulkEntry {H : Type} : Lit × DataW H → Nat
  | (.string bytes, d) => bytes.length + uptoBulk d + 1
  | (_, d) => uptoBulk d + 1
 end
def uptoSmall : (H : Type) → List (DataW H) → Bool := fun _ ds => decide (uptoBulkAll ds ≤ 1048576)
def OpenSpec.upto (s : _root_.Go.ChangeSpec) : _root_.Go.OpenSpec := { _root_.Go.OpenSpec.ofChange s with cond := some uptoSmall }

/-- 'emendlaw07.ScanOnes', WHERE WHAT IT READS IS OF BULK AT MOST 1048576: true; the input reads as it did. -/
def scanOnesUptoRow : OpenClaim := { program := "ytcnkcnalabjhgaagreatdoor", sum := "130ef16d148559909d3b463989de4fa3c26cd2f67891a98a5e982c0fd432d1e2", func := "emend/emendlaw07.ScanOnes", spec := "scanOnes", inPlace := ["internal/bytealg.IndexByteString", "internal/bytealg.IndexString", "internal/bytealg.CountString", "internal/abi.NoEscape", "internal/bytealg.MakeNoZero"], unfollowed := true, recurses := true, named := ["unicode/utf8.first", "unicode/utf8.acceptRanges", "internal/bytealg.MaxLen"], apart := false, laid := [("unicode/utf8.acceptRanges", laid_unicode_utf8_acceptRanges), ("unicode/utf8.first", laid_unicode_utf8_first)], narrowed := true }
def ScanOnesUptoSaid : Prop := scanOnesUptoRow.holds Tryz.pinned (OpenSpec.upto scanOnesSpec)

/-- 'emendlaw07.ScanAlls', WHERE WHAT IT READS IS OF BULK AT MOST 1048576: true; the input reads as it did. -/
def scanAllsUptoRow : OpenClaim := { program := "ytcnkcnalabjhgaagreatdoor", sum := "130ef16d148559909d3b463989de4fa3c26cd2f67891a98a5e982c0fd432d1e2", func := "emend/emendlaw07.ScanAlls", spec := "scanAlls", inPlace := ["internal/bytealg.IndexByteString", "internal/bytealg.IndexString", "internal/bytealg.CountString", "internal/abi.NoEscape", "internal/bytealg.MakeNoZero"], unfollowed := true, recurses := true, named := ["unicode/utf8.first", "unicode/utf8.acceptRanges", "internal/bytealg.MaxLen"], apart := false, laid := [("unicode/utf8.acceptRanges", laid_unicode_utf8_acceptRanges), ("unicode/utf8.first", laid_unicode_utf8_first)], narrowed := true }
def ScanAllsUptoSaid : Prop := scanAllsUptoRow.holds Tryz.pinned (OpenSpec.upto scanAllsSpec)

/-- 'emendlaw07.ScanSigns', WHERE WHAT IT READS IS OF BULK AT MOST 1048576: true; the input reads as it did. -/
def scanSignsUptoRow : OpenClaim := { program := "ytcnkcnalabjhgaagreatdoor", sum := "130ef16d148559909d3b463989de4fa3c26cd2f67891a98a5e982c0fd432d1e2", func := "emend/emendlaw07.ScanSigns", spec := "scanSigns", inPlace := ["internal/bytealg.IndexByteString", "internal/bytealg.IndexString", "internal/bytealg.CountString", "internal/abi.NoEscape", "internal/bytealg.MakeNoZero"], unfollowed := true, recurses := true, named := ["unicode/utf8.first", "unicode/utf8.acceptRanges", "internal/bytealg.MaxLen"], apart := false, laid := [("unicode/utf8.acceptRanges", laid_unicode_utf8_acceptRanges), ("unicode/utf8.first", laid_unicode_utf8_first)], narrowed := true }
def ScanSignsUptoSaid : Prop := scanSignsUptoRow.holds Tryz.pinned (OpenSpec.upto scanSignsSpec)

/-- 'emendlaw08.SemiPuts', WHERE WHAT IT READS IS OF BULK AT MOST 1048576: true; the input reads as it did. -/
def semiPutsUptoRow : OpenClaim := { program := "ytcnkcnalabjhgaagreatdoor", sum := "130ef16d148559909d3b463989de4fa3c26cd2f67891a98a5e982c0fd432d1e2", func := "emend/emendlaw08.SemiPuts", spec := "semiPuts", inPlace := ["internal/bytealg.IndexByteString", "internal/bytealg.IndexString", "internal/bytealg.CountString", "internal/abi.NoEscape", "internal/bytealg.MakeNoZero"], unfollowed := true, recurses := true, named := ["unicode/utf8.first", "unicode/utf8.acceptRanges", "internal/bytealg.MaxLen"], apart := false, laid := [("unicode/utf8.acceptRanges", laid_unicode_utf8_acceptRanges), ("unicode/utf8.first", laid_unicode_utf8_first)], narrowed := true }
def SemiPutsUptoSaid : Prop := semiPutsUptoRow.holds Tryz.pinned (OpenSpec.upto semiPutsSpec)

end Rows
end Go.Proofs.YtcnkcnalabjhgaaGreatDoor
