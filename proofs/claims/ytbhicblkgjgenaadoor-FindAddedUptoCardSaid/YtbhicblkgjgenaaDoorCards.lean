/-
  DERIVED. GIVEN WITH THE SEED: THE CARDS: each row of YtbhicblkgjgenaaDoorRows.lean that lists a variable, with what it lists TIED to the program's text (the seventh form; the later family's looks); each row that meets fmt, with fmt's text TOLD by the authors' own Lean function (tested against real Go, not proved from fmt's source: count such statements apart). THE CARD IS WHAT COUNTS. Prove the row's statement (the work); the ties are given (YtbhicblkgjgenaaDoorTie.lean); close each card by the builder's one call (the guide's Derived/Test/ToyasCard.lean, 'card_holds'). Laid BY PROGRAM, IN A SANDBOX (cutbox-door.mjs). By AI agents, Wed Nov 11 2026. No macro, syntax, notation, axiom, sorry.
-/
import Derived.Test.YtbhicblkgjgenaaDoorRows
import GoSem.ClaimSeven
namespace Go.Proofs.YtbhicblkgjgenaaDoor
namespace Rows

/-- THE TIED CARD OF 'emendlaw17.MatchMoved'. -/
def matchMovedCard : Claim7 := { stood := { row := matchMovedRow, standIns := [], harness := (true, "ec6987ce3373cfe4189f68f5eb9b7c9ccad38945be2bab925959bb84a1175204"), looks := false }, kinds := [], alts := [], laidByText := true, laidKinds := [.data, .pinned], laidTests := true, laidLooks := .later }
def MatchMovedCardSaid : Prop := Claim7.holds Tryd.pinned (.plain (OpenSpec.ofChange matchMovedSpec)) matchMovedCard

/-- THE TIED CARD OF 'emendlaw18.FindHolds'. -/
def findHoldsCard : Claim7 := { stood := { row := findHoldsRow, standIns := [], harness := (true, "ec6987ce3373cfe4189f68f5eb9b7c9ccad38945be2bab925959bb84a1175204"), looks := false }, kinds := [], alts := [], laidByText := true, laidKinds := [.data, .pinned], laidTests := true, laidLooks := .later }
def FindHoldsCardSaid : Prop := Claim7.holds Tryd.pinned (.plain (OpenSpec.ofChange findHoldsSpec)) findHoldsCard

/-- THE TIED CARD OF 'emendlaw18.FindOrder'. -/
def findOrderCard : Claim7 := { stood := { row := findOrderRow, standIns := [], harness := (true, "ec6987ce3373cfe4189f68f5eb9b7c9ccad38945be2bab925959bb84a1175204"), looks := false }, kinds := [], alts := [], laidByText := true, laidKinds := [.data, .pinned], laidTests := true, laidLooks := .later }
def FindOrderCardSaid : Prop := Claim7.holds Tryd.pinned (.plain (OpenSpec.ofChange findOrderSpec)) findOrderCard

/-- THE TIED CARD OF 'emendlaw18.FindWithin'. -/
def findWithinCard : Claim7 := { stood := { row := findWithinRow, standIns := [], harness := (true, "ec6987ce3373cfe4189f68f5eb9b7c9ccad38945be2bab925959bb84a1175204"), looks := false }, kinds := [], alts := [], laidByText := true, laidKinds := [.data, .pinned], laidTests := true, laidLooks := .later }
def FindWithinCardSaid : Prop := Claim7.holds Tryd.pinned (.plain (OpenSpec.ofChange findWithinSpec)) findWithinCard

/-- THE TIED CARD OF 'emendlaw18.FindAdded'. -/
def findAddedCard : Claim7 := { stood := { row := findAddedRow, standIns := [], harness := (true, "ec6987ce3373cfe4189f68f5eb9b7c9ccad38945be2bab925959bb84a1175204"), looks := false }, kinds := [], alts := [], laidByText := true, laidKinds := [.data, .pinned], laidTests := true, laidLooks := .later }
def FindAddedCardSaid : Prop := Claim7.holds Tryd.pinned (.plain (OpenSpec.ofChange findAddedSpec)) findAddedCard

/-- THE SECOND FORM's CARD OF 'emendlaw17.MatchMoved'. -/
def matchMovedUptoCard : Claim7 := { stood := { row := matchMovedUptoRow, standIns := [], harness := (true, "ec6987ce3373cfe4189f68f5eb9b7c9ccad38945be2bab925959bb84a1175204"), looks := false }, kinds := [], alts := [], laidByText := true, laidKinds := [.data, .pinned], laidTests := true, laidLooks := .later }
def MatchMovedUptoCardSaid : Prop := Claim7.holds Tryd.pinned (.plain (OpenSpec.upto matchMovedSpec)) matchMovedUptoCard

/-- THE SECOND FORM's CARD OF 'emendlaw18.FindHolds'. -/
def findHoldsUptoCard : Claim7 := { stood := { row := findHoldsUptoRow, standIns := [], harness := (true, "ec6987ce3373cfe4189f68f5eb9b7c9ccad38945be2bab925959bb84a1175204"), looks := false }, kinds := [], alts := [], laidByText := true, laidKinds := [.data, .pinned], laidTests := true, laidLooks := .later }
def FindHoldsUptoCardSaid : Prop := Claim7.holds Tryd.pinned (.plain (OpenSpec.upto findHoldsSpec)) findHoldsUptoCard

/-- THE SECOND FORM's CARD OF 'emendlaw18.FindOrder'. -/
def findOrderUptoCard : Claim7 := { stood := { row := findOrderUptoRow, standIns := [], harness := (true, "ec6987ce3373cfe4189f68f5eb9b7c9ccad38945be2bab925959bb84a1175204"), looks := false }, kinds := [], alts := [], laidByText := true, laidKinds := [.data, .pinned], laidTests := true, laidLooks := .later }
def FindOrderUptoCardSaid : Prop := Claim7.holds Tryd.pinned (.plain (OpenSpec.upto findOrderSpec)) findOrderUptoCard

/-- THE SECOND FORM's CARD OF 'emendlaw18.FindWithin'. -/
def findWithinUptoCard : Claim7 := { stood := { row := findWithinUptoRow, standIns := [], harness := (true, "ec6987ce3373cfe4189f68f5eb9b7c9ccad38945be2bab925959bb84a1175204"), looks := false }, kinds := [], alts := [], laidByText := true, laidKinds := [.data, .pinned], laidTests := true, laidLooks := .later }
def FindWithinUptoCardSaid : Prop := Claim7.holds Tryd.pinned (.plain (OpenSpec.upto findWithinSpec)) findWithinUptoCard

/-- THE SECOND FORM's CARD OF 'emendlaw18.FindAdded'. -/
def findAddedUptoCard : Claim7 := { stood := { row := findAddedUptoRow, standIns := [], harness := (true, "ec6987ce3373cfe4189f68f5eb9b7c9ccad38945be2bab925959bb84a1175204"), looks := false }, kinds := [], alts := [], laidByText := true, laidKinds := [.data, .pinned], laidTests := true, laidLooks := .later }
def FindAddedUptoCardSaid : Prop := Claim7.holds Tryd.pinned (.plain (OpenSpec.upto findAddedSpec)) findAddedUptoCard
end Rows
end Go.Proofs.YtbhicblkgjgenaaDoor
