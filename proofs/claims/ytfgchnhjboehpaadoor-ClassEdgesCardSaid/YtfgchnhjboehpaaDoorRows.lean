/-
  NARROWER THAN 'FOR EVERY INPUT', by the rows' own cells (each row's printed sentence says how): RunesRead: laid · RunesForms: laid · RunesBad: laid · RunesBehind: laid · RunesJoins: laid · RunesBack: laid · RunesFresh: laid · ClassNames: laid · ClassLonger: laid · ClassEdges: laid · ClassTells: laid · ClassApart: laid.
  DERIVED. THE GIVEN ROWS OF THIS SEAT. 12 by the template 'for every input the law returns true; each argument reads behind the call as it read before'; 0 by the template 'total and deterministic' (their statements: YtfgchnhjboehpaaDoorTotals.lean).
  GIVEN WITH THE SEED: the statements are not yours to turn. If you find one false, say at which input.
  Laid BY PROGRAM, IN A SANDBOX (cutbox-rows.mjs): the forced cells as the released guide's own fill.sh prints them over the translation 8193452d6f588ecb… (all of the seat's roots in one cut). By AI agents, Wed Nov 11 2026. No macro, syntax, notation, axiom, sorry.
-/
import Derived.Test.YtfgchnhjboehpaaDoorChecked
import GoSem.PinnedTables
import GoSem.Claim
import GoSem.ClaimJoined
import GoSem.ClaimMapViews
import Derived.JoinedTies
import Derived.KernelRfl
namespace Go.Proofs.YtfgchnhjboehpaaDoor
/- THE CELL 'sum', in the pinned program and in every row, IS THE sha256 OF THE DUMP (.gsa) THAT YtfgchnhjboehpaaDoorProg.lean LOADS. Nothing in Lean hashes anything: it is a label: what it is worth is what the hold of that sum in a sandbox is worth. -/
noncomputable def Tryd.pinned : Pinned := { name := "ytfgchnhjboehpaadoor", sum := "8193452d6f588ecb7a6c0e0701aef6d6036872dc236623ce5f73e04d45f62f78", checked := Tryd.checked }
namespace Rows
def none {H : Type} : Left H := { results := [], args := [] }

/- WHAT THE LISTED PACKAGE-LEVEL VARIABLES READ AS WHEN THE CALL BEGINS. Each datum BY PROGRAM (the guide's laid-datum.mjs) off the statement by which the dump's own 'gosem.cut.vars' lays the variable. In a bare row this is a premise. The card (YtfgchnhjboehpaaDoorCards.lean) ties it to the program's text. -/
def laid_unicode_utf8_acceptRanges {H : Type} : DataW H := .agg [.agg [.lit (.int .u8 128), .lit (.int .u8 191)], .agg [.lit (.int .u8 160), .lit (.int .u8 191)], .agg [.lit (.int .u8 128), .lit (.int .u8 159)], .agg [.lit (.int .u8 144), .lit (.int .u8 191)], .agg [.lit (.int .u8 128), .lit (.int .u8 143)], .agg [.lit (.int .u8 0), .lit (.int .u8 0)], .agg [.lit (.int .u8 0), .lit (.int .u8 0)], .agg [.lit (.int .u8 0), .lit (.int .u8 0)], .agg [.lit (.int .u8 0), .lit (.int .u8 0)], .agg [.lit (.int .u8 0), .lit (.int .u8 0)], .agg [.lit (.int .u8 0), .lit (.int .u8 0)], .agg [.lit (.int .u8 0), .lit (.int .u8 0)], .agg [.lit (.int .u8 0), .lit (.int .u8 0)], .agg [.lit (.int .u8 0), .lit (.int .u8 0)], .agg [.lit (.int .u8 0), .lit (.int .u8 0)], .agg [.lit (.int .u8 0), .lit (.int .u8 0)]]
/-- One of Go's own tables, pinned by name: the form's constant. -/
def laid_unicode_utf8_first : DataW Unit := Go.Pinned.utf8First

/-- 'emendlaw01.RunesRead': WHATEVER THE INPUT: true; the input reads as it did. -/
def runesReadSpec : ChangeSpec := { name := "runesRead", fn := fun _ => fun
  | [d1, d2] => { results := [.lit (.bool true)], args := [d1, d2] }
  | _ => none }
def runesReadRow : OpenClaim := { program := "ytfgchnhjboehpaadoor", sum := "8193452d6f588ecb7a6c0e0701aef6d6036872dc236623ce5f73e04d45f62f78", func := "emend/emendlaw01.RunesRead", spec := "runesRead", named := ["unicode/utf8.first", "unicode/utf8.acceptRanges"], apart := false, laid := [("unicode/utf8.acceptRanges", laid_unicode_utf8_acceptRanges), ("unicode/utf8.first", laid_unicode_utf8_first)] }
def RunesReadSaid : Prop := runesReadRow.holds Tryd.pinned (OpenSpec.ofChange runesReadSpec)

/-- ITS FALSE NEIGHBOUR: 'it returns false'. Refute it at one input. -/
def runesReadWrong : ChangeSpec := { name := "runesRead", fn := fun _ => fun
  | [d1, d2] => { results := [.lit (.bool false)], args := [d1, d2] }
  | _ => none }
def RunesReadWrongFalsely : Prop := runesReadRow.holds Tryd.pinned (OpenSpec.ofChange runesReadWrong)

/-- 'emendlaw01.RunesForms': WHATEVER THE INPUT: true; the input reads as it did. -/
def runesFormsSpec : ChangeSpec := { name := "runesForms", fn := fun _ => fun
  | [d] => { results := [.lit (.bool true)], args := [d] }
  | _ => none }
def runesFormsRow : OpenClaim := { program := "ytfgchnhjboehpaadoor", sum := "8193452d6f588ecb7a6c0e0701aef6d6036872dc236623ce5f73e04d45f62f78", func := "emend/emendlaw01.RunesForms", spec := "runesForms", named := ["unicode/utf8.first", "unicode/utf8.acceptRanges"], apart := false, laid := [("unicode/utf8.acceptRanges", laid_unicode_utf8_acceptRanges), ("unicode/utf8.first", laid_unicode_utf8_first)] }
def RunesFormsSaid : Prop := runesFormsRow.holds Tryd.pinned (OpenSpec.ofChange runesFormsSpec)

/-- ITS FALSE NEIGHBOUR: 'it returns false'. Refute it at one input. -/
def runesFormsWrong : ChangeSpec := { name := "runesForms", fn := fun _ => fun
  | [d] => { results := [.lit (.bool false)], args := [d] }
  | _ => none }
def RunesFormsWrongFalsely : Prop := runesFormsRow.holds Tryd.pinned (OpenSpec.ofChange runesFormsWrong)

/-- 'emendlaw01.RunesBad': WHATEVER THE INPUT: true; the input reads as it did. -/
def runesBadSpec : ChangeSpec := { name := "runesBad", fn := fun _ => fun
  | [d] => { results := [.lit (.bool true)], args := [d] }
  | _ => none }
def runesBadRow : OpenClaim := { program := "ytfgchnhjboehpaadoor", sum := "8193452d6f588ecb7a6c0e0701aef6d6036872dc236623ce5f73e04d45f62f78", func := "emend/emendlaw01.RunesBad", spec := "runesBad", named := ["unicode/utf8.first", "unicode/utf8.acceptRanges"], apart := false, laid := [("unicode/utf8.acceptRanges", laid_unicode_utf8_acceptRanges), ("unicode/utf8.first", laid_unicode_utf8_first)] }
def RunesBadSaid : Prop := runesBadRow.holds Tryd.pinned (OpenSpec.ofChange runesBadSpec)

/-- ITS FALSE NEIGHBOUR: 'it returns false'. Refute it at one input. -/
def runesBadWrong : ChangeSpec := { name := "runesBad", fn := fun _ => fun
  | [d] => { results := [.lit (.bool false)], args := [d] }
  | _ => none }
def RunesBadWrongFalsely : Prop := runesBadRow.holds Tryd.pinned (OpenSpec.ofChange runesBadWrong)

/-- 'emendlaw01.RunesBehind': WHATEVER THE INPUT: true; the input reads as it did. -/
def runesBehindSpec : ChangeSpec := { name := "runesBehind", fn := fun _ => fun
  | [d1, d2] => { results := [.lit (.bool true)], args := [d1, d2] }
  | _ => none }
def runesBehindRow : OpenClaim := { program := "ytfgchnhjboehpaadoor", sum := "8193452d6f588ecb7a6c0e0701aef6d6036872dc236623ce5f73e04d45f62f78", func := "emend/emendlaw01.RunesBehind", spec := "runesBehind", named := ["unicode/utf8.first", "unicode/utf8.acceptRanges"], apart := false, laid := [("unicode/utf8.acceptRanges", laid_unicode_utf8_acceptRanges), ("unicode/utf8.first", laid_unicode_utf8_first)] }
def RunesBehindSaid : Prop := runesBehindRow.holds Tryd.pinned (OpenSpec.ofChange runesBehindSpec)

/-- ITS FALSE NEIGHBOUR: 'it returns false'. Refute it at one input. -/
def runesBehindWrong : ChangeSpec := { name := "runesBehind", fn := fun _ => fun
  | [d1, d2] => { results := [.lit (.bool false)], args := [d1, d2] }
  | _ => none }
def RunesBehindWrongFalsely : Prop := runesBehindRow.holds Tryd.pinned (OpenSpec.ofChange runesBehindWrong)

/-- 'emendlaw01.RunesJoins': WHATEVER THE INPUT: true; the input reads as it did. -/
def runesJoinsSpec : ChangeSpec := { name := "runesJoins", fn := fun _ => fun
  | [d] => { results := [.lit (.bool true)], args := [d] }
  | _ => none }
def runesJoinsRow : OpenClaim := { program := "ytfgchnhjboehpaadoor", sum := "8193452d6f588ecb7a6c0e0701aef6d6036872dc236623ce5f73e04d45f62f78", func := "emend/emendlaw01.RunesJoins", spec := "runesJoins", named := ["unicode/utf8.first", "unicode/utf8.acceptRanges"], apart := false, laid := [("unicode/utf8.acceptRanges", laid_unicode_utf8_acceptRanges), ("unicode/utf8.first", laid_unicode_utf8_first)] }
def RunesJoinsSaid : Prop := runesJoinsRow.holds Tryd.pinned (OpenSpec.ofChange runesJoinsSpec)

/-- ITS FALSE NEIGHBOUR: 'it returns false'. Refute it at one input. -/
def runesJoinsWrong : ChangeSpec := { name := "runesJoins", fn := fun _ => fun
  | [d] => { results := [.lit (.bool false)], args := [d] }
  | _ => none }
def RunesJoinsWrongFalsely : Prop := runesJoinsRow.holds Tryd.pinned (OpenSpec.ofChange runesJoinsWrong)

/-- 'emendlaw01.RunesBack': WHATEVER THE INPUT: true; the input reads as it did. -/
def runesBackSpec : ChangeSpec := { name := "runesBack", fn := fun _ => fun
  | [d1, d2] => { results := [.lit (.bool true)], args := [d1, d2] }
  | _ => none }
def runesBackRow : OpenClaim := { program := "ytfgchnhjboehpaadoor", sum := "8193452d6f588ecb7a6c0e0701aef6d6036872dc236623ce5f73e04d45f62f78", func := "emend/emendlaw01.RunesBack", spec := "runesBack", named := ["unicode/utf8.first", "unicode/utf8.acceptRanges"], apart := false, laid := [("unicode/utf8.acceptRanges", laid_unicode_utf8_acceptRanges), ("unicode/utf8.first", laid_unicode_utf8_first)] }
def RunesBackSaid : Prop := runesBackRow.holds Tryd.pinned (OpenSpec.ofChange runesBackSpec)

/-- ITS FALSE NEIGHBOUR: 'it returns false'. Refute it at one input. -/
def runesBackWrong : ChangeSpec := { name := "runesBack", fn := fun _ => fun
  | [d1, d2] => { results := [.lit (.bool false)], args := [d1, d2] }
  | _ => none }
def RunesBackWrongFalsely : Prop := runesBackRow.holds Tryd.pinned (OpenSpec.ofChange runesBackWrong)

/-- 'emendlaw01.RunesFresh': WHATEVER THE INPUT: true; the input reads as it did. -/
def runesFreshSpec : ChangeSpec := { name := "runesFresh", fn := fun _ => fun
  | [d1, d2] => { results := [.lit (.bool true)], args := [d1, d2] }
  | _ => none }
def runesFreshRow : OpenClaim := { program := "ytfgchnhjboehpaadoor", sum := "8193452d6f588ecb7a6c0e0701aef6d6036872dc236623ce5f73e04d45f62f78", func := "emend/emendlaw01.RunesFresh", spec := "runesFresh", named := ["unicode/utf8.first", "unicode/utf8.acceptRanges"], apart := false, laid := [("unicode/utf8.acceptRanges", laid_unicode_utf8_acceptRanges), ("unicode/utf8.first", laid_unicode_utf8_first)] }
def RunesFreshSaid : Prop := runesFreshRow.holds Tryd.pinned (OpenSpec.ofChange runesFreshSpec)

/-- ITS FALSE NEIGHBOUR: 'it returns false'. Refute it at one input. -/
def runesFreshWrong : ChangeSpec := { name := "runesFresh", fn := fun _ => fun
  | [d1, d2] => { results := [.lit (.bool false)], args := [d1, d2] }
  | _ => none }
def RunesFreshWrongFalsely : Prop := runesFreshRow.holds Tryd.pinned (OpenSpec.ofChange runesFreshWrong)

/-- 'emendlaw02.ClassNames': WHATEVER THE INPUT: true; the input reads as it did. -/
def classNamesSpec : ChangeSpec := { name := "classNames", fn := fun _ => fun
  | [d] => { results := [.lit (.bool true)], args := [d] }
  | _ => none }
def classNamesRow : OpenClaim := { program := "ytfgchnhjboehpaadoor", sum := "8193452d6f588ecb7a6c0e0701aef6d6036872dc236623ce5f73e04d45f62f78", func := "emend/emendlaw02.ClassNames", spec := "classNames", named := ["unicode/utf8.first", "unicode/utf8.acceptRanges"], apart := false, laid := [("unicode/utf8.acceptRanges", laid_unicode_utf8_acceptRanges), ("unicode/utf8.first", laid_unicode_utf8_first)] }
def ClassNamesSaid : Prop := classNamesRow.holds Tryd.pinned (OpenSpec.ofChange classNamesSpec)

/-- ITS FALSE NEIGHBOUR: 'it returns false'. Refute it at one input. -/
def classNamesWrong : ChangeSpec := { name := "classNames", fn := fun _ => fun
  | [d] => { results := [.lit (.bool false)], args := [d] }
  | _ => none }
def ClassNamesWrongFalsely : Prop := classNamesRow.holds Tryd.pinned (OpenSpec.ofChange classNamesWrong)

/-- 'emendlaw02.ClassLonger': WHATEVER THE INPUT: true; the input reads as it did. -/
def classLongerSpec : ChangeSpec := { name := "classLonger", fn := fun _ => fun
  | [d1, d2] => { results := [.lit (.bool true)], args := [d1, d2] }
  | _ => none }
def classLongerRow : OpenClaim := { program := "ytfgchnhjboehpaadoor", sum := "8193452d6f588ecb7a6c0e0701aef6d6036872dc236623ce5f73e04d45f62f78", func := "emend/emendlaw02.ClassLonger", spec := "classLonger", named := ["unicode/utf8.first", "unicode/utf8.acceptRanges"], apart := false, laid := [("unicode/utf8.acceptRanges", laid_unicode_utf8_acceptRanges), ("unicode/utf8.first", laid_unicode_utf8_first)] }
def ClassLongerSaid : Prop := classLongerRow.holds Tryd.pinned (OpenSpec.ofChange classLongerSpec)

/-- ITS FALSE NEIGHBOUR: 'it returns false'. Refute it at one input. -/
def classLongerWrong : ChangeSpec := { name := "classLonger", fn := fun _ => fun
  | [d1, d2] => { results := [.lit (.bool false)], args := [d1, d2] }
  | _ => none }
def ClassLongerWrongFalsely : Prop := classLongerRow.holds Tryd.pinned (OpenSpec.ofChange classLongerWrong)

/-- 'emendlaw02.ClassEdges': WHATEVER THE INPUT: true; the input reads as it did. -/
def classEdgesSpec : ChangeSpec := { name := "classEdges", fn := fun _ => fun
  | [] => { results := [.lit (.bool true)], args := [] }
  | _ => none }
def classEdgesRow : OpenClaim := { program := "ytfgchnhjboehpaadoor", sum := "8193452d6f588ecb7a6c0e0701aef6d6036872dc236623ce5f73e04d45f62f78", func := "emend/emendlaw02.ClassEdges", spec := "classEdges", named := ["unicode/utf8.first", "unicode/utf8.acceptRanges"], apart := false, laid := [("unicode/utf8.acceptRanges", laid_unicode_utf8_acceptRanges), ("unicode/utf8.first", laid_unicode_utf8_first)] }
def ClassEdgesSaid : Prop := classEdgesRow.holds Tryd.pinned (OpenSpec.ofChange classEdgesSpec)

/-- ITS FALSE NEIGHBOUR: 'it returns false'. Refute it at one input. -/
def classEdgesWrong : ChangeSpec := { name := "classEdges", fn := fun _ => fun
  | [] => { results := [.lit (.bool false)], args := [] }
  | _ => none }
def ClassEdgesWrongFalsely : Prop := classEdgesRow.holds Tryd.pinned (OpenSpec.ofChange classEdgesWrong)

/-- 'emendlaw02.ClassTells': WHATEVER THE INPUT: true; the input reads as it did. -/
def classTellsSpec : ChangeSpec := { name := "classTells", fn := fun _ => fun
  | [d] => { results := [.lit (.bool true)], args := [d] }
  | _ => none }
def classTellsRow : OpenClaim := { program := "ytfgchnhjboehpaadoor", sum := "8193452d6f588ecb7a6c0e0701aef6d6036872dc236623ce5f73e04d45f62f78", func := "emend/emendlaw02.ClassTells", spec := "classTells", named := ["unicode/utf8.first", "unicode/utf8.acceptRanges"], apart := false, laid := [("unicode/utf8.acceptRanges", laid_unicode_utf8_acceptRanges), ("unicode/utf8.first", laid_unicode_utf8_first)] }
def ClassTellsSaid : Prop := classTellsRow.holds Tryd.pinned (OpenSpec.ofChange classTellsSpec)

/-- ITS FALSE NEIGHBOUR: 'it returns false'. Refute it at one input. -/
def classTellsWrong : ChangeSpec := { name := "classTells", fn := fun _ => fun
  | [d] => { results := [.lit (.bool false)], args := [d] }
  | _ => none }
def ClassTellsWrongFalsely : Prop := classTellsRow.holds Tryd.pinned (OpenSpec.ofChange classTellsWrong)

/-- 'emendlaw02.ClassApart': WHATEVER THE INPUT: true; the input reads as it did. -/
def classApartSpec : ChangeSpec := { name := "classApart", fn := fun _ => fun
  | [d] => { results := [.lit (.bool true)], args := [d] }
  | _ => none }
def classApartRow : OpenClaim := { program := "ytfgchnhjboehpaadoor", sum := "8193452d6f588ecb7a6c0e0701aef6d6036872dc236623ce5f73e04d45f62f78", func := "emend/emendlaw02.ClassApart", spec := "classApart", named := ["unicode/utf8.first", "unicode/utf8.acceptRanges"], apart := false, laid := [("unicode/utf8.acceptRanges", laid_unicode_utf8_acceptRanges), ("unicode/utf8.first", laid_unicode_utf8_first)] }
def ClassApartSaid : Prop := classApartRow.holds Tryd.pinned (OpenSpec.ofChange classApartSpec)

/-- ITS FALSE NEIGHBOUR: 'it returns false'. Refute it at one input. -/
def classApartWrong : ChangeSpec := { name := "classApart", fn := fun _ => fun
  | [d] => { results := [.lit (.bool false)], args := [d] }
  | _ => none }
def ClassApartWrongFalsely : Prop := classApartRow.holds Tryd.pinned (OpenSpec.ofChange classApartWrong)

/- THE SECOND FORM. 'bulk': how many values and letters a reading holds, each counted each time it is reached (what is shared counts as often as it is met; a slice's spare places count too). A statement '..UptoSaid' is the law's where the arguments, and the package variables that the reading takes, are together of bulk at most 1048576: NARROWER than '..Said'. Prove '..Said' where nothing that the law and all that it calls make is longer than what came in: it says more and counts as full. Else prove '..UptoSaid'. A law counts once. -/
mutual
def uptoBulk {H : Type} : DataW H → Nat
  | .lit (.string bytes) => bytes.length + 1
  | .lit _ => 1
  | .nil => 1
  | .ptr d => uptoBulk d + 1
  | .slice elems spare => uptoBulkAll elems + uptoBulkAll spare + 1
  | .agg parts => uptoBulkAll parts + 1
  | .iface _ d => uptoBulk d + 1
  | .map entries => uptoBulkEntries entries + 1
  | .held _ => 1
def uptoBulkAll {H : Type} : List (DataW H) → Nat
  | [] => 0
  | d :: r => uptoBulk d + uptoBulkAll r
def uptoBulkEntries {H : Type} : List (Lit × DataW H) → Nat
  | [] => 0
  | x :: r => uptoBulkEntry x + uptoBulkEntries r
def uptoBulkEntry {H : Type} : Lit × DataW H → Nat
  | (.string bytes, d) => bytes.length + uptoBulk d + 1
  | (_, d) => uptoBulk d + 1
 end
def uptoSmall : (H : Type) → List (DataW H) → Bool := fun _ ds => decide (uptoBulkAll ds ≤ 1048576)
def OpenSpec.upto (s : _root_.Go.ChangeSpec) : _root_.Go.OpenSpec := { _root_.Go.OpenSpec.ofChange s with cond := some uptoSmall }

/-- 'emendlaw01.RunesRead', WHERE WHAT IT READS IS OF BULK AT MOST 1048576: true; the input reads as it did. -/
def runesReadUptoRow : OpenClaim := { program := "ytfgchnhjboehpaadoor", sum := "8193452d6f588ecb7a6c0e0701aef6d6036872dc236623ce5f73e04d45f62f78", func := "emend/emendlaw01.RunesRead", spec := "runesRead", named := ["unicode/utf8.first", "unicode/utf8.acceptRanges"], apart := false, laid := [("unicode/utf8.acceptRanges", laid_unicode_utf8_acceptRanges), ("unicode/utf8.first", laid_unicode_utf8_first)], narrowed := true }
def RunesReadUptoSaid : Prop := runesReadUptoRow.holds Tryd.pinned (OpenSpec.upto runesReadSpec)

/-- 'emendlaw01.RunesForms', WHERE WHAT IT READS IS OF BULK AT MOST 1048576: true; the input reads as it did. -/
def runesFormsUptoRow : OpenClaim := { program := "ytfgchnhjboehpaadoor", sum := "8193452d6f588ecb7a6c0e0701aef6d6036872dc236623ce5f73e04d45f62f78", func := "emend/emendlaw01.RunesForms", spec := "runesForms", named := ["unicode/utf8.first", "unicode/utf8.acceptRanges"], apart := false, laid := [("unicode/utf8.acceptRanges", laid_unicode_utf8_acceptRanges), ("unicode/utf8.first", laid_unicode_utf8_first)], narrowed := true }
def RunesFormsUptoSaid : Prop := runesFormsUptoRow.holds Tryd.pinned (OpenSpec.upto runesFormsSpec)

/-- 'emendlaw01.RunesBad', WHERE WHAT IT READS IS OF BULK AT MOST 1048576: true; the input reads as it did. -/
def runesBadUptoRow : OpenClaim := { program := "ytfgchnhjboehpaadoor", sum := "8193452d6f588ecb7a6c0e0701aef6d6036872dc236623ce5f73e04d45f62f78", func := "emend/emendlaw01.RunesBad", spec := "runesBad", named := ["unicode/utf8.first", "unicode/utf8.acceptRanges"], apart := false, laid := [("unicode/utf8.acceptRanges", laid_unicode_utf8_acceptRanges), ("unicode/utf8.first", laid_unicode_utf8_first)], narrowed := true }
def RunesBadUptoSaid : Prop := runesBadUptoRow.holds Tryd.pinned (OpenSpec.upto runesBadSpec)

/-- 'emendlaw01.RunesBehind', WHERE WHAT IT READS IS OF BULK AT MOST 1048576: true; the input reads as it did. -/
def runesBehindUptoRow : OpenClaim := { program := "ytfgchnhjboehpaadoor", sum := "8193452d6f588ecb7a6c0e0701aef6d6036872dc236623ce5f73e04d45f62f78", func := "emend/emendlaw01.RunesBehind", spec := "runesBehind", named := ["unicode/utf8.first", "unicode/utf8.acceptRanges"], apart := false, laid := [("unicode/utf8.acceptRanges", laid_unicode_utf8_acceptRanges), ("unicode/utf8.first", laid_unicode_utf8_first)], narrowed := true }
def RunesBehindUptoSaid : Prop := runesBehindUptoRow.holds Tryd.pinned (OpenSpec.upto runesBehindSpec)

/-- 'emendlaw01.RunesJoins', WHERE WHAT IT READS IS OF BULK AT MOST 1048576: true; the input reads as it did. -/
def runesJoinsUptoRow : OpenClaim := { program := "ytfgchnhjboehpaadoor", sum := "8193452d6f588ecb7a6c0e0701aef6d6036872dc236623ce5f73e04d45f62f78", func := "emend/emendlaw01.RunesJoins", spec := "runesJoins", named := ["unicode/utf8.first", "unicode/utf8.acceptRanges"], apart := false, laid := [("unicode/utf8.acceptRanges", laid_unicode_utf8_acceptRanges), ("unicode/utf8.first", laid_unicode_utf8_first)], narrowed := true }
def RunesJoinsUptoSaid : Prop := runesJoinsUptoRow.holds Tryd.pinned (OpenSpec.upto runesJoinsSpec)

/-- 'emendlaw01.RunesBack', WHERE WHAT IT READS IS OF BULK AT MOST 1048576: true; the input reads as it did. -/
def runesBackUptoRow : OpenClaim := { program := "ytfgchnhjboehpaadoor", sum := "8193452d6f588ecb7a6c0e0701aef6d6036872dc236623ce5f73e04d45f62f78", func := "emend/emendlaw01.RunesBack", spec := "runesBack", named := ["unicode/utf8.first", "unicode/utf8.acceptRanges"], apart := false, laid := [("unicode/utf8.acceptRanges", laid_unicode_utf8_acceptRanges), ("unicode/utf8.first", laid_unicode_utf8_first)], narrowed := true }
def RunesBackUptoSaid : Prop := runesBackUptoRow.holds Tryd.pinned (OpenSpec.upto runesBackSpec)

/-- 'emendlaw01.RunesFresh', WHERE WHAT IT READS IS OF BULK AT MOST 1048576: true; the input reads as it did. -/
def runesFreshUptoRow : OpenClaim := { program := "ytfgchnhjboehpaadoor", sum := "8193452d6f588ecb7a6c0e0701aef6d6036872dc236623ce5f73e04d45f62f78", func := "emend/emendlaw01.RunesFresh", spec := "runesFresh", named := ["unicode/utf8.first", "unicode/utf8.acceptRanges"], apart := false, laid := [("unicode/utf8.acceptRanges", laid_unicode_utf8_acceptRanges), ("unicode/utf8.first", laid_unicode_utf8_first)], narrowed := true }
def RunesFreshUptoSaid : Prop := runesFreshUptoRow.holds Tryd.pinned (OpenSpec.upto runesFreshSpec)

/-- 'emendlaw02.ClassNames', WHERE WHAT IT READS IS OF BULK AT MOST 1048576: true; the input reads as it did. -/
def classNamesUptoRow : OpenClaim := { program := "ytfgchnhjboehpaadoor", sum := "8193452d6f588ecb7a6c0e0701aef6d6036872dc236623ce5f73e04d45f62f78", func := "emend/emendlaw02.ClassNames", spec := "classNames", named := ["unicode/utf8.first", "unicode/utf8.acceptRanges"], apart := false, laid := [("unicode/utf8.acceptRanges", laid_unicode_utf8_acceptRanges), ("unicode/utf8.first", laid_unicode_utf8_first)], narrowed := true }
def ClassNamesUptoSaid : Prop := classNamesUptoRow.holds Tryd.pinned (OpenSpec.upto classNamesSpec)

/-- 'emendlaw02.ClassLonger', WHERE WHAT IT READS IS OF BULK AT MOST 1048576: true; the input reads as it did. -/
def classLongerUptoRow : OpenClaim := { program := "ytfgchnhjboehpaadoor", sum := "8193452d6f588ecb7a6c0e0701aef6d6036872dc236623ce5f73e04d45f62f78", func := "emend/emendlaw02.ClassLonger", spec := "classLonger", named := ["unicode/utf8.first", "unicode/utf8.acceptRanges"], apart := false, laid := [("unicode/utf8.acceptRanges", laid_unicode_utf8_acceptRanges), ("unicode/utf8.first", laid_unicode_utf8_first)], narrowed := true }
def ClassLongerUptoSaid : Prop := classLongerUptoRow.holds Tryd.pinned (OpenSpec.upto classLongerSpec)

/-- 'emendlaw02.ClassEdges', WHERE WHAT IT READS IS OF BULK AT MOST 1048576: true; the input reads as it did. -/
def classEdgesUptoRow : OpenClaim := { program := "ytfgchnhjboehpaadoor", sum := "8193452d6f588ecb7a6c0e0701aef6d6036872dc236623ce5f73e04d45f62f78", func := "emend/emendlaw02.ClassEdges", spec := "classEdges", named := ["unicode/utf8.first", "unicode/utf8.acceptRanges"], apart := false, laid := [("unicode/utf8.acceptRanges", laid_unicode_utf8_acceptRanges), ("unicode/utf8.first", laid_unicode_utf8_first)], narrowed := true }
def ClassEdgesUptoSaid : Prop := classEdgesUptoRow.holds Tryd.pinned (OpenSpec.upto classEdgesSpec)

/-- 'emendlaw02.ClassTells', WHERE WHAT IT READS IS OF BULK AT MOST 1048576: true; the input reads as it did. -/
def classTellsUptoRow : OpenClaim := { program := "ytfgchnhjboehpaadoor", sum := "8193452d6f588ecb7a6c0e0701aef6d6036872dc236623ce5f73e04d45f62f78", func := "emend/emendlaw02.ClassTells", spec := "classTells", named := ["unicode/utf8.first", "unicode/utf8.acceptRanges"], apart := false, laid := [("unicode/utf8.acceptRanges", laid_unicode_utf8_acceptRanges), ("unicode/utf8.first", laid_unicode_utf8_first)], narrowed := true }
def ClassTellsUptoSaid : Prop := classTellsUptoRow.holds Tryd.pinned (OpenSpec.upto classTellsSpec)

/-- 'emendlaw02.ClassApart', WHERE WHAT IT READS IS OF BULK AT MOST 1048576: true; the input reads as it did. -/
def classApartUptoRow : OpenClaim := { program := "ytfgchnhjboehpaadoor", sum := "8193452d6f588ecb7a6c0e0701aef6d6036872dc236623ce5f73e04d45f62f78", func := "emend/emendlaw02.ClassApart", spec := "classApart", named := ["unicode/utf8.first", "unicode/utf8.acceptRanges"], apart := false, laid := [("unicode/utf8.acceptRanges", laid_unicode_utf8_acceptRanges), ("unicode/utf8.first", laid_unicode_utf8_first)], narrowed := true }
def ClassApartUptoSaid : Prop := classApartUptoRow.holds Tryd.pinned (OpenSpec.upto classApartSpec)

end Rows
end Go.Proofs.YtfgchnhjboehpaaDoor
