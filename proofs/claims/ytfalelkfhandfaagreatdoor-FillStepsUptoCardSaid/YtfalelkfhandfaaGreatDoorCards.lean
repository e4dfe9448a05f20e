/-
  DERIVED. GIVEN WITH THE SEED: THE CARDS: each row of YtfalelkfhandfaaGreatDoorRows.lean that lists a variable, with what it lists TIED to the program's text (the seventh form; the later family's looks); each row that meets fmt, with fmt's text TOLD by the authors' own Lean function (tested against real Go, not proved from fmt's source: count such statements apart). THE CARD IS WHAT COUNTS. Prove the row's statement (the work); the ties are given (YtfalelkfhandfaaGreatDoorTie.lean); close each card by the builder's one call (the guide's Derived/Test/ToyasCard.lean, 'card_holds'). Laid BY PROGRAM, IN A SANDBOX (cutbox-door.mjs). By AI agents, Wed Nov 11 2026. No macro, syntax, notation, axiom, sorry.
-/
import Derived.Test.YtfalelkfhandfaaGreatDoorRows
import GoSem.ClaimSeven
namespace Go.Proofs.YtfalelkfhandfaaGreatDoor
namespace Rows

/-- THE TIED CARD OF 'emendlaw20.FillSteps'. -/
def fillStepsCard : Claim7 := { stood := { row := fillStepsRow, standIns := [], harness := (true, "5d31a17128655c8fdcba4c52c34c096d1e1b819597871c8d69c32b5911ef697c"), looks := true }, kinds := [], alts := [], laidByText := true, laidKinds := [.data, .pinned], laidTests := true, laidLooks := .later }
def FillStepsCardSaid : Prop := Claim7.holds Tryz.pinned (.plain (OpenSpec.ofChange fillStepsSpec)) fillStepsCard

/-- THE TIED CARD OF 'emendlaw20.FillSame'. -/
def fillSameCard : Claim7 := { stood := { row := fillSameRow, standIns := [], harness := (true, "5d31a17128655c8fdcba4c52c34c096d1e1b819597871c8d69c32b5911ef697c"), looks := true }, kinds := [], alts := [], laidByText := true, laidKinds := [.data, .pinned], laidTests := true, laidLooks := .later }
def FillSameCardSaid : Prop := Claim7.holds Tryz.pinned (.plain (OpenSpec.ofChange fillSameSpec)) fillSameCard

/-- THE SECOND FORM's CARD OF 'emendlaw20.FillSteps'. -/
def fillStepsUptoCard : Claim7 := { stood := { row := fillStepsUptoRow, standIns := [], harness := (true, "5d31a17128655c8fdcba4c52c34c096d1e1b819597871c8d69c32b5911ef697c"), looks := true }, kinds := [], alts := [], laidByText := true, laidKinds := [.data, .pinned], laidTests := true, laidLooks := .later }
def FillStepsUptoCardSaid : Prop := Claim7.holds Tryz.pinned (.plain (OpenSpec.upto fillStepsSpec)) fillStepsUptoCard

/-- THE SECOND FORM's CARD OF 'emendlaw20.FillSame'. -/
def fillSameUptoCard : Claim7 := { stood := { row := fillSameUptoRow, standIns := [], harness := (true, "5d31a17128655c8fdcba4c52c34c096d1e1b819597871c8d69c32b5911ef697c"), looks := true }, kinds := [], alts := [], laidByText := true, laidKinds := [.data, .pinned], laidTests := true, laidLooks := .later }
def FillSameUptoCardSaid : Prop := Claim7.holds Tryz.pinned (.plain (OpenSpec.upto fillSameSpec)) fillSameUptoCard
end Rows
end Go.Proofs.YtfalelkfhandfaaGreatDoor
