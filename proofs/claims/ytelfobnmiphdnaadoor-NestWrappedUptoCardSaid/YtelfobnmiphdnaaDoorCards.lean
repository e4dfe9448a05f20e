/-
  DERIVED. GIVEN WITH THE SEED: THE CARDS: each row of YtelfobnmiphdnaaDoorRows.lean that lists a variable, with what it lists TIED to the program's text (the seventh form; the later family's looks); each row that meets fmt, with fmt's text TOLD by the authors' own Lean function (tested against real Go, not proved from fmt's source: count such statements apart). THE CARD IS WHAT COUNTS. Prove the row's statement (the work); the ties are given (YtelfobnmiphdnaaDoorTie.lean); close each card by the builder's one call (the guide's Derived/Test/ToyasCard.lean, 'card_holds'). Laid BY PROGRAM, IN A SANDBOX (cutbox-door.mjs). By AI agents, Wed Nov 11 2026. No macro, syntax, notation, axiom, sorry.
-/
import Derived.Test.YtelfobnmiphdnaaDoorRows
import GoSem.ClaimSeven
namespace Go.Proofs.YtelfobnmiphdnaaDoor
namespace Rows

/-- THE TIED CARD OF 'emendlaw09.NestWithin'. -/
def nestWithinCard : Claim7 := { stood := { row := nestWithinRow, standIns := [], harness := (true, "a2240fdff9b817623ea9637b489596e703db9787c1939e9e97a26ec54f180871"), looks := false }, kinds := [], alts := [], laidByText := true, laidKinds := [.data, .pinned], laidTests := true, laidLooks := .later }
def NestWithinCardSaid : Prop := Claim7.holds Tryd.pinned (.plain (OpenSpec.ofChange nestWithinSpec)) nestWithinCard

/-- THE TIED CARD OF 'emendlaw09.NestWrapped'. -/
def nestWrappedCard : Claim7 := { stood := { row := nestWrappedRow, standIns := [], harness := (true, "a2240fdff9b817623ea9637b489596e703db9787c1939e9e97a26ec54f180871"), looks := false }, kinds := [], alts := [], laidByText := true, laidKinds := [.data, .pinned], laidTests := true, laidLooks := .later }
def NestWrappedCardSaid : Prop := Claim7.holds Tryd.pinned (.plain (OpenSpec.ofChange nestWrappedSpec)) nestWrappedCard

/-- THE TIED CARD OF 'emendlaw09.NestDeep'. -/
def nestDeepCard : Claim7 := { stood := { row := nestDeepRow, standIns := [], harness := (true, "a2240fdff9b817623ea9637b489596e703db9787c1939e9e97a26ec54f180871"), looks := false }, kinds := [], alts := [], laidByText := true, laidKinds := [.data, .pinned], laidTests := true, laidLooks := .later }
def NestDeepCardSaid : Prop := Claim7.holds Tryd.pinned (.plain (OpenSpec.ofChange nestDeepSpec)) nestDeepCard

/-- THE SECOND FORM's CARD OF 'emendlaw09.NestWithin'. -/
def nestWithinUptoCard : Claim7 := { stood := { row := nestWithinUptoRow, standIns := [], harness := (true, "a2240fdff9b817623ea9637b489596e703db9787c1939e9e97a26ec54f180871"), looks := false }, kinds := [], alts := [], laidByText := true, laidKinds := [.data, .pinned], laidTests := true, laidLooks := .later }
def NestWithinUptoCardSaid : Prop := Claim7.holds Tryd.pinned (.plain (OpenSpec.upto nestWithinSpec)) nestWithinUptoCard

/-- THE SECOND FORM's CARD OF 'emendlaw09.NestWrapped'. -/
def nestWrappedUptoCard : Claim7 := { stood := { row := nestWrappedUptoRow, standIns := [], harness := (true, "a2240fdff9b817623ea9637b489596e703db9787c1939e9e97a26ec54f180871"), looks := false }, kinds := [], alts := [], laidByText := true, laidKinds := [.data, .pinned], laidTests := true, laidLooks := .later }
def NestWrappedUptoCardSaid : Prop := Claim7.holds Tryd.pinned (.plain (OpenSpec.upto nestWrappedSpec)) nestWrappedUptoCard

/-- THE SECOND FORM's CARD OF 'emendlaw09.NestDeep'. -/
def nestDeepUptoCard : Claim7 := { stood := { row := nestDeepUptoRow, standIns := [], harness := (true, "a2240fdff9b817623ea9637b489596e703db9787c1939e9e97a26ec54f180871"), looks := false }, kinds := [], alts := [], laidByText := true, laidKinds := [.data, .pinned], laidTests := true, laidLooks := .later }
def NestDeepUptoCardSaid : Prop := Claim7.holds Tryd.pinned (.plain (OpenSpec.upto nestDeepSpec)) nestDeepUptoCard
end Rows
end Go.Proofs.YtelfobnmiphdnaaDoor
