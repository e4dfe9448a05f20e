/-
  DERIVED. GIVEN WITH THE SEED: THE CARDS: each row of YtfgchnhjboehpaaDoorRows.lean that lists a variable, with what it lists TIED to the program's text (the seventh form; the later family's looks); each row that meets fmt, with fmt's text TOLD by the authors' own Lean function (tested against real Go, not proved from fmt's source: count such statements apart). THE CARD IS WHAT COUNTS. Prove the row's statement (the work); the ties are given (YtfgchnhjboehpaaDoorTie.lean); close each card by the builder's one call (the guide's Derived/Test/ToyasCard.lean, 'card_holds'). Laid BY PROGRAM, IN A SANDBOX (cutbox-door.mjs). By AI agents, Wed Nov 11 2026. No macro, syntax, notation, axiom, sorry.
-/
import Derived.Test.YtfgchnhjboehpaaDoorRows
import GoSem.ClaimSeven
namespace Go.Proofs.YtfgchnhjboehpaaDoor
namespace Rows

/-- THE TIED CARD OF 'emendlaw01.RunesRead'. -/
def runesReadCard : Claim7 := { stood := { row := runesReadRow, standIns := [], harness := (true, "71c95bf7450de65dc736fd47937a3d80c8d4025f18c3678bfb2176af0f5411f2"), looks := false }, kinds := [], alts := [], laidByText := true, laidKinds := [.data, .pinned], laidTests := true, laidLooks := .later }
def RunesReadCardSaid : Prop := Claim7.holds Tryd.pinned (.plain (OpenSpec.ofChange runesReadSpec)) runesReadCard

/-- THE TIED CARD OF 'emendlaw01.RunesForms'. -/
def runesFormsCard : Claim7 := { stood := { row := runesFormsRow, standIns := [], harness := (true, "71c95bf7450de65dc736fd47937a3d80c8d4025f18c3678bfb2176af0f5411f2"), looks := false }, kinds := [], alts := [], laidByText := true, laidKinds := [.data, .pinned], laidTests := true, laidLooks := .later }
def RunesFormsCardSaid : Prop := Claim7.holds Tryd.pinned (.plain (OpenSpec.ofChange runesFormsSpec)) runesFormsCard

/-- THE TIED CARD OF 'emendlaw01.RunesBad'. -/
def runesBadCard : Claim7 := { stood := { row := runesBadRow, standIns := [], harness := (true, "71c95bf7450de65dc736fd47937a3d80c8d4025f18c3678bfb2176af0f5411f2"), looks := false }, kinds := [], alts := [], laidByText := true, laidKinds := [.data, .pinned], laidTests := true, laidLooks := .later }
def RunesBadCardSaid : Prop := Claim7.holds Tryd.pinned (.plain (OpenSpec.ofChange runesBadSpec)) runesBadCard

/-- THE TIED CARD OF 'emendlaw01.RunesBehind'. -/
def runesBehindCard : Claim7 := { stood := { row := runesBehindRow, standIns := [], harness := (true, "71c95bf7450de65dc736fd47937a3d80c8d4025f18c3678bfb2176af0f5411f2"), looks := false }, kinds := [], alts := [], laidByText := true, laidKinds := [.data, .pinned], laidTests := true, laidLooks := .later }
def RunesBehindCardSaid : Prop := Claim7.holds Tryd.pinned (.plain (OpenSpec.ofChange runesBehindSpec)) runesBehindCard

/-- THE TIED CARD OF 'emendlaw01.RunesJoins'. -/
def runesJoinsCard : Claim7 := { stood := { row := runesJoinsRow, standIns := [], harness := (true, "71c95bf7450de65dc736fd47937a3d80c8d4025f18c3678bfb2176af0f5411f2"), looks := false }, kinds := [], alts := [], laidByText := true, laidKinds := [.data, .pinned], laidTests := true, laidLooks := .later }
def RunesJoinsCardSaid : Prop := Claim7.holds Tryd.pinned (.plain (OpenSpec.ofChange runesJoinsSpec)) runesJoinsCard

/-- THE TIED CARD OF 'emendlaw01.RunesBack'. -/
def runesBackCard : Claim7 := { stood := { row := runesBackRow, standIns := [], harness := (true, "71c95bf7450de65dc736fd47937a3d80c8d4025f18c3678bfb2176af0f5411f2"), looks := false }, kinds := [], alts := [], laidByText := true, laidKinds := [.data, .pinned], laidTests := true, laidLooks := .later }
def RunesBackCardSaid : Prop := Claim7.holds Tryd.pinned (.plain (OpenSpec.ofChange runesBackSpec)) runesBackCard

/-- THE TIED CARD OF 'emendlaw01.RunesFresh'. -/
def runesFreshCard : Claim7 := { stood := { row := runesFreshRow, standIns := [], harness := (true, "71c95bf7450de65dc736fd47937a3d80c8d4025f18c3678bfb2176af0f5411f2"), looks := false }, kinds := [], alts := [], laidByText := true, laidKinds := [.data, .pinned], laidTests := true, laidLooks := .later }
def RunesFreshCardSaid : Prop := Claim7.holds Tryd.pinned (.plain (OpenSpec.ofChange runesFreshSpec)) runesFreshCard

/-- THE TIED CARD OF 'emendlaw02.ClassNames'. -/
def classNamesCard : Claim7 := { stood := { row := classNamesRow, standIns := [], harness := (true, "71c95bf7450de65dc736fd47937a3d80c8d4025f18c3678bfb2176af0f5411f2"), looks := false }, kinds := [], alts := [], laidByText := true, laidKinds := [.data, .pinned], laidTests := true, laidLooks := .later }
def ClassNamesCardSaid : Prop := Claim7.holds Tryd.pinned (.plain (OpenSpec.ofChange classNamesSpec)) classNamesCard

/-- THE TIED CARD OF 'emendlaw02.ClassLonger'. -/
def classLongerCard : Claim7 := { stood := { row := classLongerRow, standIns := [], harness := (true, "71c95bf7450de65dc736fd47937a3d80c8d4025f18c3678bfb2176af0f5411f2"), looks := false }, kinds := [], alts := [], laidByText := true, laidKinds := [.data, .pinned], laidTests := true, laidLooks := .later }
def ClassLongerCardSaid : Prop := Claim7.holds Tryd.pinned (.plain (OpenSpec.ofChange classLongerSpec)) classLongerCard

/-- THE TIED CARD OF 'emendlaw02.ClassEdges'. -/
def classEdgesCard : Claim7 := { stood := { row := classEdgesRow, standIns := [], harness := (true, "71c95bf7450de65dc736fd47937a3d80c8d4025f18c3678bfb2176af0f5411f2"), looks := false }, kinds := [], alts := [], laidByText := true, laidKinds := [.data, .pinned], laidTests := true, laidLooks := .later }
def ClassEdgesCardSaid : Prop := Claim7.holds Tryd.pinned (.plain (OpenSpec.ofChange classEdgesSpec)) classEdgesCard

/-- THE TIED CARD OF 'emendlaw02.ClassTells'. -/
def classTellsCard : Claim7 := { stood := { row := classTellsRow, standIns := [], harness := (true, "71c95bf7450de65dc736fd47937a3d80c8d4025f18c3678bfb2176af0f5411f2"), looks := false }, kinds := [], alts := [], laidByText := true, laidKinds := [.data, .pinned], laidTests := true, laidLooks := .later }
def ClassTellsCardSaid : Prop := Claim7.holds Tryd.pinned (.plain (OpenSpec.ofChange classTellsSpec)) classTellsCard

/-- THE TIED CARD OF 'emendlaw02.ClassApart'. -/
def classApartCard : Claim7 := { stood := { row := classApartRow, standIns := [], harness := (true, "71c95bf7450de65dc736fd47937a3d80c8d4025f18c3678bfb2176af0f5411f2"), looks := false }, kinds := [], alts := [], laidByText := true, laidKinds := [.data, .pinned], laidTests := true, laidLooks := .later }
def ClassApartCardSaid : Prop := Claim7.holds Tryd.pinned (.plain (OpenSpec.ofChange classApartSpec)) classApartCard

/-- THE SECOND FORM's CARD OF 'emendlaw01.RunesRead'. -/
def runesReadUptoCard : Claim7 := { stood := { row := runesReadUptoRow, standIns := [], harness := (true, "71c95bf7450de65dc736fd47937a3d80c8d4025f18c3678bfb2176af0f5411f2"), looks := false }, kinds := [], alts := [], laidByText := true, laidKinds := [.data, .pinned], laidTests := true, laidLooks := .later }
def RunesReadUptoCardSaid : Prop := Claim7.holds Tryd.pinned (.plain (OpenSpec.upto runesReadSpec)) runesReadUptoCard

/-- THE SECOND FORM's CARD OF 'emendlaw01.RunesForms'. -/
def runesFormsUptoCard : Claim7 := { stood := { row := runesFormsUptoRow, standIns := [], harness := (true, "71c95bf7450de65dc736fd47937a3d80c8d4025f18c3678bfb2176af0f5411f2"), looks := false }, kinds := [], alts := [], laidByText := true, laidKinds := [.data, .pinned], laidTests := true, laidLooks := .later }
def RunesFormsUptoCardSaid : Prop := Claim7.holds Tryd.pinned (.plain (OpenSpec.upto runesFormsSpec)) runesFormsUptoCard

/-- THE SECOND FORM's CARD OF 'emendlaw01.RunesBad'. -/
def runesBadUptoCard : Claim7 := { stood := { row := runesBadUptoRow, standIns := [], harness := (true, "71c95bf7450de65dc736fd47937a3d80c8d4025f18c3678bfb2176af0f5411f2"), looks := false }, kinds := [], alts := [], laidByText := true, laidKinds := [.data, .pinned], laidTests := true, laidLooks := .later }
def RunesBadUptoCardSaid : Prop := Claim7.holds Tryd.pinned (.plain (OpenSpec.upto runesBadSpec)) runesBadUptoCard

/-- THE SECOND FORM's CARD OF 'emendlaw01.RunesBehind'. -/
def runesBehindUptoCard : Claim7 := { stood := { row := runesBehindUptoRow, standIns := [], harness := (true, "71c95bf7450de65dc736fd47937a3d80c8d4025f18c3678bfb2176af0f5411f2"), looks := false }, kinds := [], alts := [], laidByText := true, laidKinds := [.data, .pinned], laidTests := true, laidLooks := .later }
def RunesBehindUptoCardSaid : Prop := Claim7.holds Tryd.pinned (.plain (OpenSpec.upto runesBehindSpec)) runesBehindUptoCard

/-- THE SECOND FORM's CARD OF 'emendlaw01.RunesJoins'. -/
def runesJoinsUptoCard : Claim7 := { stood := { row := runesJoinsUptoRow, standIns := [], harness := (true, "71c95bf7450de65dc736fd47937a3d80c8d4025f18c3678bfb2176af0f5411f2"), looks := false }, kinds := [], alts := [], laidByText := true, laidKinds := [.data, .pinned], laidTests := true, laidLooks := .later }
def RunesJoinsUptoCardSaid : Prop := Claim7.holds Tryd.pinned (.plain (OpenSpec.upto runesJoinsSpec)) runesJoinsUptoCard

/-- THE SECOND FORM's CARD OF 'emendlaw01.RunesBack'. -/
def runesBackUptoCard : Claim7 := { stood := { row := runesBackUptoRow, standIns := [], harness := (true, "71c95bf7450de65dc736fd47937a3d80c8d4025f18c3678bfb2176af0f5411f2"), looks := false }, kinds := [], alts := [], laidByText := true, laidKinds := [.data, .pinned], laidTests := true, laidLooks := .later }
def RunesBackUptoCardSaid : Prop := Claim7.holds Tryd.pinned (.plain (OpenSpec.upto runesBackSpec)) runesBackUptoCard

/-- THE SECOND FORM's CARD OF 'emendlaw01.RunesFresh'. -/
def runesFreshUptoCard : Claim7 := { stood := { row := runesFreshUptoRow, standIns := [], harness := (true, "71c95bf7450de65dc736fd47937a3d80c8d4025f18c3678bfb2176af0f5411f2"), looks := false }, kinds := [], alts := [], laidByText := true, laidKinds := [.data, .pinned], laidTests := true, laidLooks := .later }
def RunesFreshUptoCardSaid : Prop := Claim7.holds Tryd.pinned (.plain (OpenSpec.upto runesFreshSpec)) runesFreshUptoCard

/-- THE SECOND FORM's CARD OF 'emendlaw02.ClassNames'. -/
def classNamesUptoCard : Claim7 := { stood := { row := classNamesUptoRow, standIns := [], harness := (true, "71c95bf7450de65dc736fd47937a3d80c8d4025f18c3678bfb2176af0f5411f2"), looks := false }, kinds := [], alts := [], laidByText := true, laidKinds := [.data, .pinned], laidTests := true, laidLooks := .later }
def ClassNamesUptoCardSaid : Prop := Claim7.holds Tryd.pinned (.plain (OpenSpec.upto classNamesSpec)) classNamesUptoCard

/-- THE SECOND FORM's CARD OF 'emendlaw02.ClassLonger'. -/
def classLongerUptoCard : Claim7 := { stood := { row := classLongerUptoRow, standIns := [], harness := (true, "71c95bf7450de65dc736fd47937a3d80c8d4025f18c3678bfb2176af0f5411f2"), looks := false }, kinds := [], alts := [], laidByText := true, laidKinds := [.data, .pinned], laidTests := true, laidLooks := .later }
def ClassLongerUptoCardSaid : Prop := Claim7.holds Tryd.pinned (.plain (OpenSpec.upto classLongerSpec)) classLongerUptoCard

/-- THE SECOND FORM's CARD OF 'emendlaw02.ClassEdges'. -/
def classEdgesUptoCard : Claim7 := { stood := { row := classEdgesUptoRow, standIns := [], harness := (true, "71c95bf7450de65dc736fd47937a3d80c8d4025f18c3678bfb2176af0f5411f2"), looks := false }, kinds := [], alts := [], laidByText := true, laidKinds := [.data, .pinned], laidTests := true, laidLooks := .later }
def ClassEdgesUptoCardSaid : Prop := Claim7.holds Tryd.pinned (.plain (OpenSpec.upto classEdgesSpec)) classEdgesUptoCard

/-- THE SECOND FORM's CARD OF 'emendlaw02.ClassTells'. -/
def classTellsUptoCard : Claim7 := { stood := { row := classTellsUptoRow, standIns := [], harness := (true, "71c95bf7450de65dc736fd47937a3d80c8d4025f18c3678bfb2176af0f5411f2"), looks := false }, kinds := [], alts := [], laidByText := true, laidKinds := [.data, .pinned], laidTests := true, laidLooks := .later }
def ClassTellsUptoCardSaid : Prop := Claim7.holds Tryd.pinned (.plain (OpenSpec.upto classTellsSpec)) classTellsUptoCard

/-- THE SECOND FORM's CARD OF 'emendlaw02.ClassApart'. -/
def classApartUptoCard : Claim7 := { stood := { row := classApartUptoRow, standIns := [], harness := (true, "71c95bf7450de65dc736fd47937a3d80c8d4025f18c3678bfb2176af0f5411f2"), looks := false }, kinds := [], alts := [], laidByText := true, laidKinds := [.data, .pinned], laidTests := true, laidLooks := .later }
def ClassApartUptoCardSaid : Prop := Claim7.holds Tryd.pinned (.plain (OpenSpec.upto classApartSpec)) classApartUptoCard
end Rows
end Go.Proofs.YtfgchnhjboehpaaDoor
