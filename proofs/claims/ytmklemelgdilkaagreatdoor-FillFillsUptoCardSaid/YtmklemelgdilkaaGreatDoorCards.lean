/-
  DERIVED. GIVEN WITH THE SEED: THE CARDS: each row of YtmklemelgdilkaaGreatDoorRows.lean that lists a variable, with what it lists TIED to the program's text (the seventh form; the later family's looks); each row that meets fmt, with fmt's text TOLD by the authors' own Lean function (tested against real Go, not proved from fmt's source: count such statements apart). THE CARD IS WHAT COUNTS. Prove the row's statement (the work); the ties are given (YtmklemelgdilkaaGreatDoorTie.lean); close each card by the builder's one call (the guide's Derived/Test/ToyasCard.lean, 'card_holds'). Laid BY PROGRAM, IN A SANDBOX (cutbox-door.mjs). By AI agents, Wed Nov 11 2026. No macro, syntax, notation, axiom, sorry.
-/
import Derived.Test.YtmklemelgdilkaaGreatDoorRows
import GoSem.ClaimSeven
namespace Go.Proofs.YtmklemelgdilkaaGreatDoor
namespace Rows

/-- THE TIED CARD OF 'emendlaw20.FillSteps'. -/
def fillStepsCard : Claim7 := { stood := { row := fillStepsRow, standIns := [], harness := (true, "13c8cd8e6e0a6cc73a0500b7fbe911d3c3d2dc84b7f3844430578e2f4c1280cd"), looks := false }, kinds := [], alts := [], laidByText := true, laidKinds := [.data, .pinned], laidTests := true, laidLooks := .later }
def FillStepsCardSaid : Prop := Claim7.holds Tryz.pinned (.plain (OpenSpec.ofChange fillStepsSpec)) fillStepsCard

/-- THE TIED CARD OF 'emendlaw20.FillFills'. -/
def fillFillsCard : Claim7 := { stood := { row := fillFillsRow, standIns := [], harness := (true, "13c8cd8e6e0a6cc73a0500b7fbe911d3c3d2dc84b7f3844430578e2f4c1280cd"), looks := false }, kinds := [], alts := [], laidByText := true, laidKinds := [.data, .pinned], laidTests := true, laidLooks := .later }
def FillFillsCardSaid : Prop := Claim7.holds Tryz.pinned (.plain (OpenSpec.ofChange fillFillsSpec)) fillFillsCard

/-- THE SECOND FORM's CARD OF 'emendlaw20.FillSteps'. -/
def fillStepsUptoCard : Claim7 := { stood := { row := fillStepsUptoRow, standIns := [], harness := (true, "13c8cd8e6e0a6cc73a0500b7fbe911d3c3d2dc84b7f3844430578e2f4c1280cd"), looks := false }, kinds := [], alts := [], laidByText := true, laidKinds := [.data, .pinned], laidTests := true, laidLooks := .later }
def FillStepsUptoCardSaid : Prop := Claim7.holds Tryz.pinned (.plain (OpenSpec.upto fillStepsSpec)) fillStepsUptoCard

/-- THE SECOND FORM's CARD OF 'emendlaw20.FillFills'. -/
def fillFillsUptoCard : Claim7 := { stood := { row := fillFillsUptoRow, standIns := [], harness := (true, "13c8cd8e6e0a6cc73a0500b7fbe911d3c3d2dc84b7f3844430578e2f4c1280cd"), looks := false }, kinds := [], alts := [], laidByText := true, laidKinds := [.data, .pinned], laidTests := true, laidLooks := .later }
def FillFillsUptoCardSaid : Prop := Claim7.holds Tryz.pinned (.plain (OpenSpec.upto fillFillsSpec)) fillFillsUptoCard
end Rows
end Go.Proofs.YtmklemelgdilkaaGreatDoor
