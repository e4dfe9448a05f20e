/-
  DERIVED. GIVEN WITH THE SEED: THE CARDS: each row of YtbjkdmbcpkopjaaGreatDoorRows.lean that lists a variable, with what it lists TIED to the program's text (the seventh form; the later family's looks); each row that meets fmt, with fmt's text TOLD by the authors' own Lean function (tested against real Go, not proved from fmt's source: count such statements apart). THE CARD IS WHAT COUNTS. Prove the row's statement (the work); the ties are given (YtbjkdmbcpkopjaaGreatDoorTie.lean); close each card by the builder's one call (the guide's Derived/Test/ToyasCard.lean, 'card_holds'). Laid BY PROGRAM, IN A SANDBOX (cutbox-door.mjs). By AI agents, Wed Nov 11 2026. No macro, syntax, notation, axiom, sorry.
-/
import Derived.Test.YtbjkdmbcpkopjaaGreatDoorRows
import GoSem.ClaimSeven
namespace Go.Proofs.YtbjkdmbcpkopjaaGreatDoor
namespace Rows

/-- THE TIED CARD OF 'emendtop.TopMatches'. -/
def topMatchesCard : Claim7 := { stood := { row := topMatchesRow, standIns := [], harness := (true, "acae7fdc155500fa3c5f1a9a4eb62b095f89f89098452b5b828e9c3dc2052ace"), looks := true }, kinds := [], alts := [], laidByText := true, laidKinds := [.data, .pinned], laidTests := true, laidLooks := .later }
def TopMatchesCardSaid : Prop := Claim7.holds Tryz.pinned (.plain (OpenSpec.ofChange topMatchesSpec)) topMatchesCard

/-- THE SECOND FORM's CARD OF 'emendtop.TopMatches'. -/
def topMatchesUptoCard : Claim7 := { stood := { row := topMatchesUptoRow, standIns := [], harness := (true, "acae7fdc155500fa3c5f1a9a4eb62b095f89f89098452b5b828e9c3dc2052ace"), looks := true }, kinds := [], alts := [], laidByText := true, laidKinds := [.data, .pinned], laidTests := true, laidLooks := .later }
def TopMatchesUptoCardSaid : Prop := Claim7.holds Tryz.pinned (.plain (OpenSpec.upto topMatchesSpec)) topMatchesUptoCard
end Rows
end Go.Proofs.YtbjkdmbcpkopjaaGreatDoor
