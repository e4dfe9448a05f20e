/-
  NARROWER THAN 'FOR EVERY INPUT', by the rows' own cells (each row's printed sentence says how): MatchAt: laid · MatchAll: laid · MatchInstance: laid · MatchMade: laid · MatchPlain: laid · FindAlls: laid.
  DERIVED. THE GIVEN ROWS OF THIS SEAT. 6 by the template 'for every input the law returns true; each argument reads behind the call as it read before'; 0 by the template 'total and deterministic' (their statements: YtlkheofphafofaaGreatDoorTotals.lean).
  GIVEN WITH THE SEED: the statements are not yours to turn. If you find one false, say at which input.
  Laid BY PROGRAM, IN A SANDBOX (cutbox-rows.mjs): the forced cells as the released guide's own fill.sh prints them over the translation b3490e3f1189647c… (all of the seat's roots in one cut). By AI agents, Wed Nov 11 2026. No macro, syntax, notation, axiom, sorry.
-/
import Derived.Test.YtlkheofphafofaaGreatDoorChecked
import GoSem.PinnedTables
import GoSem.Claim
import GoSem.ClaimJoined
import GoSem.ClaimMapViews
import Derived.JoinedTies
import Derived.KernelRfl
namespace Go.Proofs.YtlkheofphafofaaGreatDoor
/- THE CELL 'sum', in the pinned program and in every row, IS THE sha256 OF THE DUMP (.gsa) THAT YtlkheofphafofaaGreatDoorProg.lean LOADS. Nothing in Lean hashes anything: it is a label: what it is worth is what the hold of that sum in a sandbox is worth. -/
noncomputable def Tryz.pinned : Pinned := { name := "ytlkheofphafofaagreatdoor", sum := "b3490e3f1189647c689185dce0f62d066f901228fed524172d3ae0be5d2338c6", checked := Tryz.checked }
namespace Rows
def none {H : Type} : Left H := { results := [], args := [] }

/- WHAT THE LISTED PACKAGE-LEVEL VARIABLES READ AS WHEN THE CALL BEGINS. Each datum BY PROGRAM (the guide's laid-datum.mjs) off the statement by which the dump's own 'gosem.cut.vars' lays the variable. In a bare row this is a premise. The card (YtlkheofphafofaaGreatDoorCards.lean) ties it to the program's text. -/
def laid_unicode_utf8_acceptRanges {H : Type} : DataW H := .agg [.agg [.lit (.int .u8 128), .lit (.int .u8 191)], .agg [.lit (.int .u8 160), .lit (.int .u8 191)], .agg [.lit (.int .u8 128), .lit (.int .u8 159)], .agg [.lit (.int .u8 144), .lit (.int .u8 191)], .agg [.lit (.int .u8 128), .lit (.int .u8 143)], .agg [.lit (.int .u8 0), .lit (.int .u8 0)], .agg [.lit (.int .u8 0), .lit (.int .u8 0)], .agg [.lit (.int .u8 0), .lit (.int .u8 0)], .agg [.lit (.int .u8 0), .lit (.int .u8 0)], .agg [.lit (.int .u8 0), .lit (.int .u8 0)], .agg [.lit (.int .u8 0), .lit (.int .u8 0)], .agg [.lit (.int .u8 0), .lit (.int .u8 0)], .agg [.lit (.int .u8 0), .lit (.int .u8 0)], .agg [.lit (.int .u8 0), .lit (.int .u8 0)], .agg [.lit (.int .u8 0), .lit (.int .u8 0)], .agg [.lit (.int .u8 0), .lit (.int .u8 0)]]
/-- One of Go's own tables, pinned by name: the form's constant. -/
def laid_unicode_utf8_first : DataW Unit := Go.Pinned.utf8First

/-- 'emendlaw17.MatchAt': WHATEVER THE INPUT: true; the input reads as it did. -/
def matchAtSpec : ChangeSpec := { name := "matchAt", fn := fun _ => fun
  | [d1, d2, d3] => { results := [.lit (.bool true)], args := [d1, d2, d3] }
  | _ => none }
def matchAtRow : OpenClaim := { program := "ytlkheofphafofaagreatdoor", sum := "b3490e3f1189647c689185dce0f62d066f901228fed524172d3ae0be5d2338c6", func := "emend/emendlaw17.MatchAt", spec := "matchAt", inPlace := ["internal/bytealg.IndexByteString", "internal/bytealg.CountString", "internal/bytealg.IndexString", "internal/abi.NoEscape", "internal/bytealg.MakeNoZero"], unfollowed := true, recurses := true, named := ["unicode/utf8.first", "unicode/utf8.acceptRanges", "internal/bytealg.MaxLen"], apart := false, laid := [("unicode/utf8.acceptRanges", laid_unicode_utf8_acceptRanges), ("unicode/utf8.first", laid_unicode_utf8_first)] }
def MatchAtSaid : Prop := matchAtRow.holds Tryz.pinned (OpenSpec.ofChange matchAtSpec)

/-- ITS FALSE NEIGHBOUR: 'it returns false'. Refute it at one input. -/
def matchAtWrong : ChangeSpec := { name := "matchAt", fn := fun _ => fun
  | [d1, d2, d3] => { results := [.lit (.bool false)], args := [d1, d2, d3] }
  | _ => none }
def MatchAtWrongFalsely : Prop := matchAtRow.holds Tryz.pinned (OpenSpec.ofChange matchAtWrong)

/-- 'emendlaw17.MatchAll': WHATEVER THE INPUT: true; the input reads as it did. -/
def matchAllSpec : ChangeSpec := { name := "matchAll", fn := fun _ => fun
  | [d1, d2] => { results := [.lit (.bool true)], args := [d1, d2] }
  | _ => none }
def matchAllRow : OpenClaim := { program := "ytlkheofphafofaagreatdoor", sum := "b3490e3f1189647c689185dce0f62d066f901228fed524172d3ae0be5d2338c6", func := "emend/emendlaw17.MatchAll", spec := "matchAll", inPlace := ["internal/bytealg.IndexByteString", "internal/bytealg.CountString", "internal/bytealg.IndexString", "internal/abi.NoEscape", "internal/bytealg.MakeNoZero"], unfollowed := true, recurses := true, named := ["unicode/utf8.first", "unicode/utf8.acceptRanges", "internal/bytealg.MaxLen"], apart := false, laid := [("unicode/utf8.acceptRanges", laid_unicode_utf8_acceptRanges), ("unicode/utf8.first", laid_unicode_utf8_first)] }
def MatchAllSaid : Prop := matchAllRow.holds Tryz.pinned (OpenSpec.ofChange matchAllSpec)

/-- ITS FALSE NEIGHBOUR: 'it returns false'. Refute it at one input. -/
def matchAllWrong : ChangeSpec := { name := "matchAll", fn := fun _ => fun
  | [d1, d2] => { results := [.lit (.bool false)], args := [d1, d2] }
  | _ => none }
def MatchAllWrongFalsely : Prop := matchAllRow.holds Tryz.pinned (OpenSpec.ofChange matchAllWrong)

/-- 'emendlaw17.MatchInstance': WHATEVER THE INPUT: true; the input reads as it did. -/
def matchInstanceSpec : ChangeSpec := { name := "matchInstance", fn := fun _ => fun
  | [d1, d2, d3] => { results := [.lit (.bool true)], args := [d1, d2, d3] }
  | _ => none }
def matchInstanceRow : OpenClaim := { program := "ytlkheofphafofaagreatdoor", sum := "b3490e3f1189647c689185dce0f62d066f901228fed524172d3ae0be5d2338c6", func := "emend/emendlaw17.MatchInstance", spec := "matchInstance", inPlace := ["internal/bytealg.IndexByteString", "internal/bytealg.CountString", "internal/bytealg.IndexString", "internal/abi.NoEscape", "internal/bytealg.MakeNoZero"], unfollowed := true, recurses := true, named := ["unicode/utf8.first", "unicode/utf8.acceptRanges", "internal/bytealg.MaxLen"], apart := false, laid := [("unicode/utf8.acceptRanges", laid_unicode_utf8_acceptRanges), ("unicode/utf8.first", laid_unicode_utf8_first)] }
def MatchInstanceSaid : Prop := matchInstanceRow.holds Tryz.pinned (OpenSpec.ofChange matchInstanceSpec)

/-- ITS FALSE NEIGHBOUR: 'it returns false'. Refute it at one input. -/
def matchInstanceWrong : ChangeSpec := { name := "matchInstance", fn := fun _ => fun
  | [d1, d2, d3] => { results := [.lit (.bool false)], args := [d1, d2, d3] }
  | _ => none }
def MatchInstanceWrongFalsely : Prop := matchInstanceRow.holds Tryz.pinned (OpenSpec.ofChange matchInstanceWrong)

/-- 'emendlaw17.MatchMade': WHATEVER THE INPUT: true; the input reads as it did. -/
def matchMadeSpec : ChangeSpec := { name := "matchMade", fn := fun _ => fun
  | [d1, d2, d3] => { results := [.lit (.bool true)], args := [d1, d2, d3] }
  | _ => none }
def matchMadeRow : OpenClaim := { program := "ytlkheofphafofaagreatdoor", sum := "b3490e3f1189647c689185dce0f62d066f901228fed524172d3ae0be5d2338c6", func := "emend/emendlaw17.MatchMade", spec := "matchMade", inPlace := ["internal/bytealg.IndexByteString", "internal/bytealg.CountString", "internal/bytealg.IndexString", "internal/abi.NoEscape", "internal/bytealg.MakeNoZero"], unfollowed := true, recurses := true, named := ["unicode/utf8.first", "unicode/utf8.acceptRanges", "internal/bytealg.MaxLen"], apart := false, laid := [("unicode/utf8.acceptRanges", laid_unicode_utf8_acceptRanges), ("unicode/utf8.first", laid_unicode_utf8_first)] }
def MatchMadeSaid : Prop := matchMadeRow.holds Tryz.pinned (OpenSpec.ofChange matchMadeSpec)

/-- ITS FALSE NEIGHBOUR: 'it returns false'. Refute it at one input. -/
def matchMadeWrong : ChangeSpec := { name := "matchMade", fn := fun _ => fun
  | [d1, d2, d3] => { results := [.lit (.bool false)], args := [d1, d2, d3] }
  | _ => none }
def MatchMadeWrongFalsely : Prop := matchMadeRow.holds Tryz.pinned (OpenSpec.ofChange matchMadeWrong)

/-- 'emendlaw17.MatchPlain': WHATEVER THE INPUT: true; the input reads as it did. -/
def matchPlainSpec : ChangeSpec := { name := "matchPlain", fn := fun _ => fun
  | [d1, d2, d3] => { results := [.lit (.bool true)], args := [d1, d2, d3] }
  | _ => none }
def matchPlainRow : OpenClaim := { program := "ytlkheofphafofaagreatdoor", sum := "b3490e3f1189647c689185dce0f62d066f901228fed524172d3ae0be5d2338c6", func := "emend/emendlaw17.MatchPlain", spec := "matchPlain", inPlace := ["internal/bytealg.IndexByteString", "internal/bytealg.CountString", "internal/bytealg.IndexString", "internal/abi.NoEscape", "internal/bytealg.MakeNoZero"], unfollowed := true, recurses := true, named := ["unicode/utf8.first", "unicode/utf8.acceptRanges", "internal/bytealg.MaxLen"], apart := false, laid := [("unicode/utf8.acceptRanges", laid_unicode_utf8_acceptRanges), ("unicode/utf8.first", laid_unicode_utf8_first)] }
def MatchPlainSaid : Prop := matchPlainRow.holds Tryz.pinned (OpenSpec.ofChange matchPlainSpec)

/-- ITS FALSE NEIGHBOUR: 'it returns false'. Refute it at one input. -/
def matchPlainWrong : ChangeSpec := { name := "matchPlain", fn := fun _ => fun
  | [d1, d2, d3] => { results := [.lit (.bool false)], args := [d1, d2, d3] }
  | _ => none }
def MatchPlainWrongFalsely : Prop := matchPlainRow.holds Tryz.pinned (OpenSpec.ofChange matchPlainWrong)

/-- 'emendlaw18.FindAlls': WHATEVER THE INPUT: true; the input reads as it did. -/
def findAllsSpec : ChangeSpec := { name := "findAlls", fn := fun _ => fun
  | [d1, d2] => { results := [.lit (.bool true)], args := [d1, d2] }
  | _ => none }
def findAllsRow : OpenClaim := { program := "ytlkheofphafofaagreatdoor", sum := "b3490e3f1189647c689185dce0f62d066f901228fed524172d3ae0be5d2338c6", func := "emend/emendlaw18.FindAlls", spec := "findAlls", inPlace := ["internal/bytealg.IndexByteString", "internal/bytealg.CountString", "internal/bytealg.IndexString", "internal/abi.NoEscape", "internal/bytealg.MakeNoZero"], unfollowed := true, recurses := true, named := ["unicode/utf8.first", "unicode/utf8.acceptRanges", "internal/bytealg.MaxLen"], apart := false, laid := [("unicode/utf8.acceptRanges", laid_unicode_utf8_acceptRanges), ("unicode/utf8.first", laid_unicode_utf8_first)] }
def FindAllsSaid : Prop := findAllsRow.holds Tryz.pinned (OpenSpec.ofChange findAllsSpec)

/-- ITS FALSE NEIGHBOUR: 'it returns false'. Refute it at one input. -/
def findAllsWrong : ChangeSpec := { name := "findAlls", fn := fun _ => fun
  | [d1, d2] => { results := [.lit (.bool false)], args := [d1, d2] }
  | _ => none }
def FindAllsWrongFalsely : Prop := findAllsRow.holds Tryz.pinned (OpenSpec.ofChange findAllsWrong)

/- THE SECOND FORM. 'bulk': how many values and letters a reading holds, each counted each time it is reached (what is shared counts as often as it is met; a slice's spare places count too). A statement '..UptoSaid' is the law's where the arguments, and the package variables that the reading takes, are together of bulk at most 1048576: NARROWER than '..Said'. Prove '..Said' where nothing that the law and all that it calls make is longer than what came in: it says more and counts as full. Else prove '..UptoSaid'. A law counts once. -/
mutual
def uptoBulk {H : Type} : DataW H → Nat
  | .lit (.string bytes) => bytes.length + 1
  | .lit _ => 1
  | .nil => 1
  | .ptr d => uptoBulk d + 1
  | .slice elems spare => uptoBulkAll elems + uptoBulkAll spare + 1
  | .agg parts => uptoBulkAll parts + 1
  | .iface _ d => uptoBulk d + 1
  | .map entries => uptoBulkEntries entries + 1
  | .held _ => 1
def uptoBulkAll {H : Type} : List (DataW H) → Nat
  | [] => 0
  | d :: r => uptoBulk d + uptoBulkAll r
def uptoBulkEntries {H : Type} : List (Lit × DataW H) → Nat
  | [] => 0
  | x :: r => uptoBulkEntry x + uptoBulkEntries r
def uptoBulkEntry {H : Type} : Lit × DataW H → Nat
  | (.string bytes, d) => bytes.length + uptoBulk d + 1
  | (_, d) => uptoBulk d + 1
 end
def uptoSmall : (H : Type) → List (DataW H) → Bool := fun _ ds => decide (uptoBulkAll ds ≤ 1048576)
def OpenSpec.upto (s : _root_.Go.ChangeSpec) : _root_.Go.OpenSpec := { _root_.Go.OpenSpec.ofChange s with cond := some uptoSmall }

/-- 'emendlaw17.MatchAt', WHERE WHAT IT READS IS OF BULK AT MOST 1048576: true; the input reads as it did. -/
def matchAtUptoRow : OpenClaim := { program := "ytlkheofphafofaagreatdoor", sum := "b3490e3f1189647c689185dce0f62d066f901228fed524172d3ae0be5d2338c6", func := "emend/emendlaw17.MatchAt", spec := "matchAt", inPlace := ["internal/bytealg.IndexByteString", "internal/bytealg.CountString", "internal/bytealg.IndexString", "internal/abi.NoEscape", "internal/bytealg.MakeNoZero"], unfollowed := true, recurses := true, named := ["unicode/utf8.first", "unicode/utf8.acceptRanges", "internal/bytealg.MaxLen"], apart := false, laid := [("unicode/utf8.acceptRanges", laid_unicode_utf8_acceptRanges), ("unicode/utf8.first", laid_unicode_utf8_first)], narrowed := true }
def MatchAtUptoSaid : Prop := matchAtUptoRow.holds Tryz.pinned (OpenSpec.upto matchAtSpec)

/-- 'emendlaw17.MatchAll', WHERE WHAT IT READS IS OF BULK AT MOST 1048576: true; the input reads as it did. -/
def matchAllUptoRow : OpenClaim := { program := "ytlkheofphafofaagreatdoor", sum := "b3490e3f1189647c689185dce0f62d066f901228fed524172d3ae0be5d2338c6", func := "emend/emendlaw17.MatchAll", spec := "matchAll", inPlace := ["internal/bytealg.IndexByteString", "internal/bytealg.CountString", "internal/bytealg.IndexString", "internal/abi.NoEscape", "internal/bytealg.MakeNoZero"], unfollowed := true, recurses := true, named := ["unicode/utf8.first", "unicode/utf8.acceptRanges", "internal/bytealg.MaxLen"], apart := false, laid := [("unicode/utf8.acceptRanges", laid_unicode_utf8_acceptRanges), ("unicode/utf8.first", laid_unicode_utf8_first)], narrowed := true }
def MatchAllUptoSaid : Prop := matchAllUptoRow.holds Tryz.pinned (OpenSpec.upto matchAllSpec)

/-- 'emendlaw17.MatchInstance', WHERE WHAT IT READS IS OF BULK AT MOST 1048576: true; the input reads as it did. -/
def matchInstanceUptoRow : OpenClaim := { program := "ytlkheofphafofaagreatdoor", sum := "b3490e3f1189647c689185dce0f62d066f901228fed524172d3ae0be5d2338c6", func := "emend/emendlaw17.MatchInstance", spec := "matchInstance", inPlace := ["internal/bytealg.IndexByteString", "internal/bytealg.CountString", "internal/bytealg.IndexString", "internal/abi.NoEscape", "internal/bytealg.MakeNoZero"], unfollowed := true, recurses := true, named := ["unicode/utf8.first", "unicode/utf8.acceptRanges", "internal/bytealg.MaxLen"], apart := false, laid := [("unicode/utf8.acceptRanges", laid_unicode_utf8_acceptRanges), ("unicode/utf8.first", laid_unicode_utf8_first)], narrowed := true }
def MatchInstanceUptoSaid : Prop := matchInstanceUptoRow.holds Tryz.pinned (OpenSpec.upto matchInstanceSpec)

/-- 'emendlaw17.MatchMade', WHERE WHAT IT READS IS OF BULK AT MOST 1048576: true; the input reads as it did. -/
def matchMadeUptoRow : OpenClaim := { program := "ytlkheofphafofaagreatdoor", sum := "b3490e3f1189647c689185dce0f62d066f901228fed524172d3ae0be5d2338c6", func := "emend/emendlaw17.MatchMade", spec := "matchMade", inPlace := ["internal/bytealg.IndexByteString", "internal/bytealg.CountString", "internal/bytealg.IndexString", "internal/abi.NoEscape", "internal/bytealg.MakeNoZero"], unfollowed := true, recurses := true, named := ["unicode/utf8.first", "unicode/utf8.acceptRanges", "internal/bytealg.MaxLen"], apart := false, laid := [("unicode/utf8.acceptRanges", laid_unicode_utf8_acceptRanges), ("unicode/utf8.first", laid_unicode_utf8_first)], narrowed := true }
def MatchMadeUptoSaid : Prop := matchMadeUptoRow.holds Tryz.pinned (OpenSpec.upto matchMadeSpec)

/-- 'emendlaw17.MatchPlain', WHERE WHAT IT READS IS OF BULK AT MOST 1048576: true; the input reads as it did. -/
def matchPlainUptoRow : OpenClaim := { program := "ytlkheofphafofaagreatdoor", sum := "b3490e3f1189647c689185dce0f62d066f901228fed524172d3ae0be5d2338c6", func := "emend/emendlaw17.MatchPlain", spec := "matchPlain", inPlace := ["internal/bytealg.IndexByteString", "internal/bytealg.CountString", "internal/bytealg.IndexString", "internal/abi.NoEscape", "internal/bytealg.MakeNoZero"], unfollowed := true, recurses := true, named := ["unicode/utf8.first", "unicode/utf8.acceptRanges", "internal/bytealg.MaxLen"], apart := false, laid := [("unicode/utf8.acceptRanges", laid_unicode_utf8_acceptRanges), ("unicode/utf8.first", laid_unicode_utf8_first)], narrowed := true }
def MatchPlainUptoSaid : Prop := matchPlainUptoRow.holds Tryz.pinned (OpenSpec.upto matchPlainSpec)

/-- 'emendlaw18.FindAlls', WHERE WHAT IT READS IS OF BULK AT MOST 1048576: true; the input reads as it did. -/
def findAllsUptoRow : OpenClaim := { program := "ytlkheofphafofaagreatdoor", sum := "b3490e3f1189647c689185dce0f62d066f901228fed524172d3ae0be5d2338c6", func := "emend/emendlaw18.FindAlls", spec := "findAlls", inPlace := ["internal/bytealg.IndexByteString", "internal/bytealg.CountString", "internal/bytealg.IndexString", "internal/abi.NoEscape", "internal/bytealg.MakeNoZero"], unfollowed := true, recurses := true, named := ["unicode/utf8.first", "unicode/utf8.acceptRanges", "internal/bytealg.MaxLen"], apart := false, laid := [("unicode/utf8.acceptRanges", laid_unicode_utf8_acceptRanges), ("unicode/utf8.first", laid_unicode_utf8_first)], narrowed := true }
def FindAllsUptoSaid : Prop := findAllsUptoRow.holds Tryz.pinned (OpenSpec.upto findAllsSpec)

end Rows
end Go.Proofs.YtlkheofphafofaaGreatDoor
