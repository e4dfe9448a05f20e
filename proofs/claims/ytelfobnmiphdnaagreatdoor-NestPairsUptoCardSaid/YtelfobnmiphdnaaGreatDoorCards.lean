/-
  DERIVED. GIVEN WITH THE SEED: THE CARDS: each row of YtelfobnmiphdnaaGreatDoorRows.lean that lists a variable, with what it lists TIED to the program's text (the seventh form; the later family's looks); each row that meets fmt, with fmt's text TOLD by the authors' own Lean function (tested against real Go, not proved from fmt's source: count such statements apart). THE CARD IS WHAT COUNTS. Prove the row's statement (the work); the ties are given (YtelfobnmiphdnaaGreatDoorTie.lean); close each card by the builder's one call (the guide's Derived/Test/ToyasCard.lean, 'card_holds'). Laid BY PROGRAM, IN A SANDBOX (cutbox-door.mjs). By AI agents, Wed Nov 11 2026. No macro, syntax, notation, axiom, sorry.
-/
import Derived.Test.YtelfobnmiphdnaaGreatDoorRows
import GoSem.ClaimSeven
namespace Go.Proofs.YtelfobnmiphdnaaGreatDoor
namespace Rows

/-- THE TIED CARD OF 'emendlaw09.NestPairs'. -/
def nestPairsCard : Claim7 := { stood := { row := nestPairsRow, standIns := [], harness := (true, "295d8abacf8d841804016f3699ff9a9a2e47f5f37a8df9bc0a7d49025eb0f502"), looks := false }, kinds := [], alts := [], laidByText := true, laidKinds := [.data, .pinned], laidTests := true, laidLooks := .later }
def NestPairsCardSaid : Prop := Claim7.holds Tryz.pinned (.plain (OpenSpec.ofChange nestPairsSpec)) nestPairsCard

/-- THE SECOND FORM's CARD OF 'emendlaw09.NestPairs'. -/
def nestPairsUptoCard : Claim7 := { stood := { row := nestPairsUptoRow, standIns := [], harness := (true, "295d8abacf8d841804016f3699ff9a9a2e47f5f37a8df9bc0a7d49025eb0f502"), looks := false }, kinds := [], alts := [], laidByText := true, laidKinds := [.data, .pinned], laidTests := true, laidLooks := .later }
def NestPairsUptoCardSaid : Prop := Claim7.holds Tryz.pinned (.plain (OpenSpec.upto nestPairsSpec)) nestPairsUptoCard
end Rows
end Go.Proofs.YtelfobnmiphdnaaGreatDoor
