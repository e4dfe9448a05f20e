/-
  DERIVED. GIVEN WITH THE SEED: THE CARDS: each row of YtfpjdpdmgceciaaGreatDoorRows.lean that lists a variable, with what it lists TIED to the program's text (the seventh form; the later family's looks); each row that meets fmt, with fmt's text TOLD by the authors' own Lean function (tested against real Go, not proved from fmt's source: count such statements apart). THE CARD IS WHAT COUNTS. Prove the row's statement (the work); the ties are given (YtfpjdpdmgceciaaGreatDoorTie.lean); close each card by the builder's one call (the guide's Derived/Test/ToyasCard.lean, 'card_holds'). Laid BY PROGRAM, IN A SANDBOX (cutbox-door.mjs). By AI agents, Wed Nov 11 2026. No macro, syntax, notation, axiom, sorry.
-/
import Derived.Test.YtfpjdpdmgceciaaGreatDoorRows
import GoSem.ClaimSeven
namespace Go.Proofs.YtfpjdpdmgceciaaGreatDoor
namespace Rows

/-- THE TIED CARD OF 'emendtop.TopGuarded'. -/
def topGuardedCard : Claim7 := { stood := { row := topGuardedRow, standIns := [], harness := (true, "3b05c71a50a62cdef7649dd7bbee745aee612020e3c340148603a453df546b3e"), looks := true }, kinds := [], alts := [], laidByText := true, laidKinds := [.data, .pinned], laidTests := true, laidLooks := .later }
def TopGuardedCardSaid : Prop := Claim7.holds Tryz.pinned (.plain (OpenSpec.ofChange topGuardedSpec)) topGuardedCard

/-- THE SECOND FORM's CARD OF 'emendtop.TopGuarded'. -/
def topGuardedUptoCard : Claim7 := { stood := { row := topGuardedUptoRow, standIns := [], harness := (true, "3b05c71a50a62cdef7649dd7bbee745aee612020e3c340148603a453df546b3e"), looks := true }, kinds := [], alts := [], laidByText := true, laidKinds := [.data, .pinned], laidTests := true, laidLooks := .later }
def TopGuardedUptoCardSaid : Prop := Claim7.holds Tryz.pinned (.plain (OpenSpec.upto topGuardedSpec)) topGuardedUptoCard
end Rows
end Go.Proofs.YtfpjdpdmgceciaaGreatDoor
