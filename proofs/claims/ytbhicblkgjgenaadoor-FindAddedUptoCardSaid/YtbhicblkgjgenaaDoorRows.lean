/-
  NARROWER THAN 'FOR EVERY INPUT', by the rows' own cells (each row's printed sentence says how): MatchMoved: laid · FindHolds: laid · FindOrder: laid · FindWithin: laid · FindAdded: laid.
  DERIVED. THE GIVEN ROWS OF THIS SEAT. 5 by the template 'for every input the law returns true; each argument reads behind the call as it read before'; 0 by the template 'total and deterministic' (their statements: YtbhicblkgjgenaaDoorTotals.lean).
  GIVEN WITH THE SEED: the statements are not yours to turn. If you find one false, say at which input.
  Laid BY PROGRAM, IN A SANDBOX (cutbox-rows.mjs): the forced cells as the released guide's own fill.sh prints them over the translation 71da8ec9adf17ff0… (all of the seat's roots in one cut). By AI agents, Wed Nov 11 2026. No macro, syntax, notation, axiom, sorry.
-/
import Derived.Test.YtbhicblkgjgenaaDoorChecked
import GoSem.PinnedTables
import GoSem.Claim
import GoSem.ClaimJoined
import GoSem.ClaimMapViews
import Derived.JoinedTies
import Derived.KernelRfl
namespace Go.Proofs.YtbhicblkgjgenaaDoor
/- THE CELL 'sum', in the pinned program and in every row, IS THE sha256 OF THE DUMP (.gsa) THAT YtbhicblkgjgenaaDoorProg.lean LOADS. Nothing in Lean hashes anything: it is a label: what it is worth is what the hold of that sum in a sandbox is worth. -/
noncomputable def Tryd.pinned : Pinned := { name := "ytbhicblkgjgenaadoor", sum := "71da8ec9adf17ff009325df0811d9372419ff8b3b080b5687829ef68bd94b0a9", checked := Tryd.checked }
namespace Rows
def none {H : Type} : Left H := { results := [], args := [] }

/- WHAT THE LISTED PACKAGE-LEVEL VARIABLES READ AS WHEN THE CALL BEGINS. Each datum BY PROGRAM (the guide's laid-datum.mjs) off the statement by which the dump's own 'gosem.cut.vars' lays the variable. In a bare row this is a premise. The card (YtbhicblkgjgenaaDoorCards.lean) ties it to the program's text. -/
def laid_unicode_utf8_acceptRanges {H : Type} : DataW H := .agg [.agg [.lit (.int .u8 128), .lit (.int .u8 191)], .agg [.lit (.int .u8 160), .lit (.int .u8 191)], .agg [.lit (.int .u8 128), .lit (.int .u8 159)], .agg [.lit (.int .u8 144), .lit (.int .u8 191)], .agg [.lit (.int .u8 128), .lit (.int .u8 143)], .agg [.lit (.int .u8 0), .lit (.int .u8 0)], .agg [.lit (.int .u8 0), .lit (.int .u8 0)], .agg [.lit (.int .u8 0), .lit (.int .u8 0)], .agg [.lit (.int .u8 0), .lit (.int .u8 0)], .agg [.lit (.int .u8 0), .lit (.int .u8 0)], .agg [.lit (.int .u8 0), .lit (.int .u8 0)], .agg [.lit (.int .u8 0), .lit (.int .u8 0)], .agg [.lit (.int .u8 0), .lit (.int .u8 0)], .agg [.lit (.int .u8 0), .lit (.int .u8 0)], .agg [.lit (.int .u8 0), .lit (.int .u8 0)], .agg [.lit (.int .u8 0), .lit (.int .u8 0)]]
/-- One of Go's own tables, pinned by name: the form's constant. -/
def laid_unicode_utf8_first : DataW Unit := Go.Pinned.utf8First

/-- 'emendlaw17.MatchMoved': WHATEVER THE INPUT: true; the input reads as it did. -/
def matchMovedSpec : ChangeSpec := { name := "matchMoved", fn := fun _ => fun
  | [d1, d2, d3] => { results := [.lit (.bool true)], args := [d1, d2, d3] }
  | _ => none }
def matchMovedRow : OpenClaim := { program := "ytbhicblkgjgenaadoor", sum := "71da8ec9adf17ff009325df0811d9372419ff8b3b080b5687829ef68bd94b0a9", func := "emend/emendlaw17.MatchMoved", spec := "matchMoved", inPlace := ["internal/bytealg.IndexByteString", "internal/bytealg.CountString", "internal/bytealg.IndexString", "internal/abi.NoEscape", "internal/bytealg.MakeNoZero"], unfollowed := true, recurses := true, named := ["unicode/utf8.first", "unicode/utf8.acceptRanges", "internal/bytealg.MaxLen"], apart := false, laid := [("unicode/utf8.acceptRanges", laid_unicode_utf8_acceptRanges), ("unicode/utf8.first", laid_unicode_utf8_first)] }
def MatchMovedSaid : Prop := matchMovedRow.holds Tryd.pinned (OpenSpec.ofChange matchMovedSpec)

/-- ITS FALSE NEIGHBOUR: 'it returns false'. Refute it at one input. -/
def matchMovedWrong : ChangeSpec := { name := "matchMoved", fn := fun _ => fun
  | [d1, d2, d3] => { results := [.lit (.bool false)], args := [d1, d2, d3] }
  | _ => none }
def MatchMovedWrongFalsely : Prop := matchMovedRow.holds Tryd.pinned (OpenSpec.ofChange matchMovedWrong)

/-- 'emendlaw18.FindHolds': WHATEVER THE INPUT: true; the input reads as it did. -/
def findHoldsSpec : ChangeSpec := { name := "findHolds", fn := fun _ => fun
  | [d1, d2] => { results := [.lit (.bool true)], args := [d1, d2] }
  | _ => none }
def findHoldsRow : OpenClaim := { program := "ytbhicblkgjgenaadoor", sum := "71da8ec9adf17ff009325df0811d9372419ff8b3b080b5687829ef68bd94b0a9", func := "emend/emendlaw18.FindHolds", spec := "findHolds", inPlace := ["internal/bytealg.IndexByteString", "internal/bytealg.CountString", "internal/bytealg.IndexString", "internal/abi.NoEscape", "internal/bytealg.MakeNoZero"], unfollowed := true, recurses := true, named := ["unicode/utf8.first", "unicode/utf8.acceptRanges", "internal/bytealg.MaxLen"], apart := false, laid := [("unicode/utf8.acceptRanges", laid_unicode_utf8_acceptRanges), ("unicode/utf8.first", laid_unicode_utf8_first)] }
def FindHoldsSaid : Prop := findHoldsRow.holds Tryd.pinned (OpenSpec.ofChange findHoldsSpec)

/-- ITS FALSE NEIGHBOUR: 'it returns false'. Refute it at one input. -/
def findHoldsWrong : ChangeSpec := { name := "findHolds", fn := fun _ => fun
  | [d1, d2] => { results := [.lit (.bool false)], args := [d1, d2] }
  | _ => none }
def FindHoldsWrongFalsely : Prop := findHoldsRow.holds Tryd.pinned (OpenSpec.ofChange findHoldsWrong)

/-- 'emendlaw18.FindOrder': WHATEVER THE INPUT: true; the input reads as it did. -/
def findOrderSpec : ChangeSpec := { name := "findOrder", fn := fun _ => fun
  | [d1, d2] => { results := [.lit (.bool true)], args := [d1, d2] }
  | _ => none }
def findOrderRow : OpenClaim := { program := "ytbhicblkgjgenaadoor", sum := "71da8ec9adf17ff009325df0811d9372419ff8b3b080b5687829ef68bd94b0a9", func := "emend/emendlaw18.FindOrder", spec := "findOrder", inPlace := ["internal/bytealg.IndexByteString", "internal/bytealg.CountString", "internal/bytealg.IndexString", "internal/abi.NoEscape", "internal/bytealg.MakeNoZero"], unfollowed := true, recurses := true, named := ["unicode/utf8.first", "unicode/utf8.acceptRanges", "internal/bytealg.MaxLen"], apart := false, laid := [("unicode/utf8.acceptRanges", laid_unicode_utf8_acceptRanges), ("unicode/utf8.first", laid_unicode_utf8_first)] }
def FindOrderSaid : Prop := findOrderRow.holds Tryd.pinned (OpenSpec.ofChange findOrderSpec)

/-- ITS FALSE NEIGHBOUR: 'it returns false'. Refute it at one input. -/
def findOrderWrong : ChangeSpec := { name := "findOrder", fn := fun _ => fun
  | [d1, d2] => { results := [.lit (.bool false)], args := [d1, d2] }
  | _ => none }
def FindOrderWrongFalsely : Prop := findOrderRow.holds Tryd.pinned (OpenSpec.ofChange findOrderWrong)

/-- 'emendlaw18.FindWithin': WHATEVER THE INPUT: true; the input reads as it did. -/
def findWithinSpec : ChangeSpec := { name := "findWithin", fn := fun _ => fun
  | [d1, d2, d3] => { results := [.lit (.bool true)], args := [d1, d2, d3] }
  | _ => none }
def findWithinRow : OpenClaim := { program := "ytbhicblkgjgenaadoor", sum := "71da8ec9adf17ff009325df0811d9372419ff8b3b080b5687829ef68bd94b0a9", func := "emend/emendlaw18.FindWithin", spec := "findWithin", inPlace := ["internal/bytealg.IndexByteString", "internal/bytealg.CountString", "internal/bytealg.IndexString", "internal/abi.NoEscape", "internal/bytealg.MakeNoZero"], unfollowed := true, recurses := true, named := ["unicode/utf8.first", "unicode/utf8.acceptRanges", "internal/bytealg.MaxLen"], apart := false, laid := [("unicode/utf8.acceptRanges", laid_unicode_utf8_acceptRanges), ("unicode/utf8.first", laid_unicode_utf8_first)] }
def FindWithinSaid : Prop := findWithinRow.holds Tryd.pinned (OpenSpec.ofChange findWithinSpec)

/-- ITS FALSE NEIGHBOUR: 'it returns false'. Refute it at one input. -/
def findWithinWrong : ChangeSpec := { name := "findWithin", fn := fun _ => fun
  | [d1, d2, d3] => { results := [.lit (.bool false)], args := [d1, d2, d3] }
  | _ => none }
def FindWithinWrongFalsely : Prop := findWithinRow.holds Tryd.pinned (OpenSpec.ofChange findWithinWrong)

/-- 'emendlaw18.FindAdded': WHATEVER THE INPUT: true; the input reads as it did. -/
def findAddedSpec : ChangeSpec := { name := "findAdded", fn := fun _ => fun
  | [d1, d2, d3] => { results := [.lit (.bool true)], args := [d1, d2, d3] }
  | _ => none }
def findAddedRow : OpenClaim := { program := "ytbhicblkgjgenaadoor", sum := "71da8ec9adf17ff009325df0811d9372419ff8b3b080b5687829ef68bd94b0a9", func := "emend/emendlaw18.FindAdded", spec := "findAdded", inPlace := ["internal/bytealg.IndexByteString", "internal/bytealg.CountString", "internal/bytealg.IndexString", "internal/abi.NoEscape", "internal/bytealg.MakeNoZero"], unfollowed := true, recurses := true, named := ["unicode/utf8.first", "unicode/utf8.acceptRanges", "internal/bytealg.MaxLen"], apart := false, laid := [("unicode/utf8.acceptRanges", laid_unicode_utf8_acceptRanges), ("unicode/utf8.first", laid_unicode_utf8_first)] }
def FindAddedSaid : Prop := findAddedRow.holds Tryd.pinned (OpenSpec.ofChange findAddedSpec)

/-- ITS FALSE NEIGHBOUR: 'it returns false'. Refute it at one input. -/
def findAddedWrong : ChangeSpec := { name := "findAdded", fn := fun _ => fun
  | [d1, d2, d3] => { results := [.lit (.bool false)], args := [d1, d2, d3] }
  | _ => none }
def FindAddedWrongFalsely : Prop := findAddedRow.holds Tryd.pinned (OpenSpec.ofChange findAddedWrong)

/- THE SECOND FORM. 'bulk': how many values and letters a reading holds, each counted each time it is reached (what is shared counts as often as it is met; a slice's spare places count too). A statement '..UptoSaid' is the law's where the arguments, and the package variables that the reading takes, are together of bulk at most 1048576: NARROWER than '..Said'. Prove '..Said' where nothing that the law and all that it calls make is longer than what came in: it says more and counts as full. Else prove '..UptoSaid'. A law counts once. -/
mutual
def uptoBulk {H : Type} : DataW H → Nat
  | .lit (.string bytes) => bytes.length + 1
  | .lit _ => 1
  | .nil => 1
  | .ptr d => uptoBulk d + 1
  | .slice elems spare => uptoBulkAll elems + uptoBulkAll spare + 1
  | .agg parts => uptoBulkAll parts + 1
  | .iface _ d => uptoBulk d + 1
  | .map entries => uptoBulkEntries entries + 1
  | .held _ => 1
def uptoBulkAll {H : Type} : List (DataW H) → Nat
  | [] => 0
  | d :: r => uptoBulk d + uptoBulkAll r
def uptoBulkEntries {H : Type} : List (Lit × DataW H) → Nat
  | [] => 0
  | x :: r => uptoBulkEntry x + uptoBulkEntries r
def uptoBulkEntry {H : Type} : Lit × DataW H → Nat
  | (.string bytes, d) => bytes.length + uptoBulk d + 1
  | (_, d) => uptoBulk d + 1
 end
def uptoSmall : (H : Type) → List (DataW H) → Bool := fun _ ds => decide (uptoBulkAll ds ≤ 1048576)
def OpenSpec.upto (s : _root_.Go.ChangeSpec) : _root_.Go.OpenSpec := { _root_.Go.OpenSpec.ofChange s with cond := some uptoSmall }

/-- 'emendlaw17.MatchMoved', WHERE WHAT IT READS IS OF BULK AT MOST 1048576: true; the input reads as it did. -/
def matchMovedUptoRow : OpenClaim := { program := "ytbhicblkgjgenaadoor", sum := "71da8ec9adf17ff009325df0811d9372419ff8b3b080b5687829ef68bd94b0a9", func := "emend/emendlaw17.MatchMoved", spec := "matchMoved", inPlace := ["internal/bytealg.IndexByteString", "internal/bytealg.CountString", "internal/bytealg.IndexString", "internal/abi.NoEscape", "internal/bytealg.MakeNoZero"], unfollowed := true, recurses := true, named := ["unicode/utf8.first", "unicode/utf8.acceptRanges", "internal/bytealg.MaxLen"], apart := false, laid := [("unicode/utf8.acceptRanges", laid_unicode_utf8_acceptRanges), ("unicode/utf8.first", laid_unicode_utf8_first)], narrowed := true }
def MatchMovedUptoSaid : Prop := matchMovedUptoRow.holds Tryd.pinned (OpenSpec.upto matchMovedSpec)

/-- 'emendlaw18.FindHolds', WHERE WHAT IT READS IS OF BULK AT MOST 1048576: true; the input reads as it did. -/
def findHoldsUptoRow : OpenClaim := { program := "ytbhicblkgjgenaadoor", sum := "71da8ec9adf17ff009325df0811d9372419ff8b3b080b5687829ef68bd94b0a9", func := "emend/emendlaw18.FindHolds", spec := "findHolds", inPlace := ["internal/bytealg.IndexByteString", "internal/bytealg.CountString", "internal/bytealg.IndexString", "internal/abi.NoEscape", "internal/bytealg.MakeNoZero"], unfollowed := true, recurses := true, named := ["unicode/utf8.first", "unicode/utf8.acceptRanges", "internal/bytealg.MaxLen"], apart := false, laid := [("unicode/utf8.acceptRanges", laid_unicode_utf8_acceptRanges), ("unicode/utf8.first", laid_unicode_utf8_first)], narrowed := true }
def FindHoldsUptoSaid : Prop := findHoldsUptoRow.holds Tryd.pinned (OpenSpec.upto findHoldsSpec)

/-- 'emendlaw18.FindOrder', WHERE WHAT IT READS IS OF BULK AT MOST 1048576: true; the input reads as it did. -/
def findOrderUptoRow : OpenClaim := { program := "ytbhicblkgjgenaadoor", sum := "71da8ec9adf17ff009325df0811d9372419ff8b3b080b5687829ef68bd94b0a9", func := "emend/emendlaw18.FindOrder", spec := "findOrder", inPlace := ["internal/bytealg.IndexByteString", "internal/bytealg.CountString", "internal/bytealg.IndexString", "internal/abi.NoEscape", "internal/bytealg.MakeNoZero"], unfollowed := true, recurses := true, named := ["unicode/utf8.first", "unicode/utf8.acceptRanges", "internal/bytealg.MaxLen"], apart := false, laid := [("unicode/utf8.acceptRanges", laid_unicode_utf8_acceptRanges), ("unicode/utf8.first", laid_unicode_utf8_first)], narrowed := true }
def FindOrderUptoSaid : Prop := findOrderUptoRow.holds Tryd.pinned (OpenSpec.upto findOrderSpec)

/-- 'emendlaw18.FindWithin', WHERE WHAT IT READS IS OF BULK AT MOST 1048576: true; the input reads as it did. -/
def findWithinUptoRow : OpenClaim := { program := "ytbhicblkgjgenaadoor", sum := "71da8ec9adf17ff009325df0811d9372419ff8b3b080b5687829ef68bd94b0a9", func := "emend/emendlaw18.FindWithin", spec := "findWithin", inPlace := ["internal/bytealg.IndexByteString", "internal/bytealg.CountString", "internal/bytealg.IndexString", "internal/abi.NoEscape", "internal/bytealg.MakeNoZero"], unfollowed := true, recurses := true, named := ["unicode/utf8.first", "unicode/utf8.acceptRanges", "internal/bytealg.MaxLen"], apart := false, laid := [("unicode/utf8.acceptRanges", laid_unicode_utf8_acceptRanges), ("unicode/utf8.first", laid_unicode_utf8_first)], narrowed := true }
def FindWithinUptoSaid : Prop := findWithinUptoRow.holds Tryd.pinned (OpenSpec.upto findWithinSpec)

/-- 'emendlaw18.FindAdded', WHERE WHAT IT READS IS OF BULK AT MOST 1048576: true; the input reads as it did. -/
def findAddedUptoRow : OpenClaim := { program := "ytbhicblkgjgenaadoor", sum := "71da8ec9adf17ff009325df0811d9372419ff8b3b080b5687829ef68bd94b0a9", func := "emend/emendlaw18.FindAdded", spec := "findAdded", inPlace := ["internal/bytealg.IndexByteString", "internal/bytealg.CountString", "internal/bytealg.IndexString", "internal/abi.NoEscape", "internal/bytealg.MakeNoZero"], unfollowed := true, recurses := true, named := ["unicode/utf8.first", "unicode/utf8.acceptRanges", "internal/bytealg.MaxLen"], apart := false, laid := [("unicode/utf8.acceptRanges", laid_unicode_utf8_acceptRanges), ("unicode/utf8.first", laid_unicode_utf8_first)], narrowed := true }
def FindAddedUptoSaid : Prop := findAddedUptoRow.holds Tryd.pinned (OpenSpec.upto findAddedSpec)

end Rows
end Go.Proofs.YtbhicblkgjgenaaDoor
