/-
  DERIVED. GIVEN WITH THE SEED: THE CARDS: each row of YtnnfkdjmpbgkaaaDoorRows.lean that lists a variable, with what it lists TIED to the program's text (the seventh form; the later family's looks); each row that meets fmt, with fmt's text TOLD by the authors' own Lean function (tested against real Go, not proved from fmt's source: count such statements apart). THE CARD IS WHAT COUNTS. Prove the row's statement (the work); the ties are given (YtnnfkdjmpbgkaaaDoorTie.lean); close each card by the builder's one call (the guide's Derived/Test/ToyasCard.lean, 'card_holds'). Laid BY PROGRAM, IN A SANDBOX (cutbox-door.mjs). By AI agents, Wed Nov 11 2026. No macro, syntax, notation, axiom, sorry.
-/
import Derived.Test.YtnnfkdjmpbgkaaaDoorRows
import GoSem.ClaimSeven
namespace Go.Proofs.YtnnfkdjmpbgkaaaDoor
namespace Rows

/-- THE TIED CARD OF 'emendlaw06.QuotedScans'. -/
def quotedScansCard : Claim7 := { stood := { row := quotedScansRow, standIns := [], harness := (true, "851792d86327c3232c89af75a693182d300727fb28bb77622a3cad0228309544"), looks := false }, kinds := [], alts := [], laidByText := true, laidKinds := [.data, .pinned], laidTests := true, laidLooks := .later }
def QuotedScansCardSaid : Prop := Claim7.holds Tryd.pinned (.plain (OpenSpec.ofChange quotedScansSpec)) quotedScansCard

/-- THE TIED CARD OF 'emendlaw06.QuotedValues'. -/
def quotedValuesCard : Claim7 := { stood := { row := quotedValuesRow, standIns := [], harness := (true, "851792d86327c3232c89af75a693182d300727fb28bb77622a3cad0228309544"), looks := false }, kinds := [], alts := [], laidByText := true, laidKinds := [.data, .pinned], laidTests := true, laidLooks := .later }
def QuotedValuesCardSaid : Prop := Claim7.holds Tryd.pinned (.plain (OpenSpec.ofChange quotedValuesSpec)) quotedValuesCard

/-- THE TIED CARD OF 'emendlaw06.QuotedQuotes'. -/
def quotedQuotesCard : Claim7 := { stood := { row := quotedQuotesRow, standIns := [], harness := (true, "851792d86327c3232c89af75a693182d300727fb28bb77622a3cad0228309544"), looks := false }, kinds := [], alts := [], laidByText := true, laidKinds := [.data, .pinned], laidTests := true, laidLooks := .later }
def QuotedQuotesCardSaid : Prop := Claim7.holds Tryd.pinned (.plain (OpenSpec.ofChange quotedQuotesSpec)) quotedQuotesCard

/-- THE TIED CARD OF 'emendlaw06.QuotedJoins'. -/
def quotedJoinsCard : Claim7 := { stood := { row := quotedJoinsRow, standIns := [], harness := (true, "851792d86327c3232c89af75a693182d300727fb28bb77622a3cad0228309544"), looks := false }, kinds := [], alts := [], laidByText := true, laidKinds := [.data, .pinned], laidTests := true, laidLooks := .later }
def QuotedJoinsCardSaid : Prop := Claim7.holds Tryd.pinned (.plain (OpenSpec.ofChange quotedJoinsSpec)) quotedJoinsCard

/-- THE TIED CARD OF 'emendlaw06.QuotedRaw'. -/
def quotedRawCard : Claim7 := { stood := { row := quotedRawRow, standIns := [], harness := (true, "851792d86327c3232c89af75a693182d300727fb28bb77622a3cad0228309544"), looks := false }, kinds := [], alts := [], laidByText := true, laidKinds := [.data, .pinned], laidTests := true, laidLooks := .later }
def QuotedRawCardSaid : Prop := Claim7.holds Tryd.pinned (.plain (OpenSpec.ofChange quotedRawSpec)) quotedRawCard

/-- THE TIED CARD OF 'emendlaw06.QuotedRunes'. -/
def quotedRunesCard : Claim7 := { stood := { row := quotedRunesRow, standIns := [], harness := (true, "851792d86327c3232c89af75a693182d300727fb28bb77622a3cad0228309544"), looks := false }, kinds := [], alts := [], laidByText := true, laidKinds := [.data, .pinned], laidTests := true, laidLooks := .later }
def QuotedRunesCardSaid : Prop := Claim7.holds Tryd.pinned (.plain (OpenSpec.ofChange quotedRunesSpec)) quotedRunesCard

/-- THE TIED CARD OF 'emendlaw06.QuotedFound'. -/
def quotedFoundCard : Claim7 := { stood := { row := quotedFoundRow, standIns := [], harness := (true, "851792d86327c3232c89af75a693182d300727fb28bb77622a3cad0228309544"), looks := false }, kinds := [], alts := [], laidByText := true, laidKinds := [.data, .pinned], laidTests := true, laidLooks := .later }
def QuotedFoundCardSaid : Prop := Claim7.holds Tryd.pinned (.plain (OpenSpec.ofChange quotedFoundSpec)) quotedFoundCard

/-- THE SECOND FORM's CARD OF 'emendlaw06.QuotedScans'. -/
def quotedScansUptoCard : Claim7 := { stood := { row := quotedScansUptoRow, standIns := [], harness := (true, "851792d86327c3232c89af75a693182d300727fb28bb77622a3cad0228309544"), looks := false }, kinds := [], alts := [], laidByText := true, laidKinds := [.data, .pinned], laidTests := true, laidLooks := .later }
def QuotedScansUptoCardSaid : Prop := Claim7.holds Tryd.pinned (.plain (OpenSpec.upto quotedScansSpec)) quotedScansUptoCard

/-- THE SECOND FORM's CARD OF 'emendlaw06.QuotedValues'. -/
def quotedValuesUptoCard : Claim7 := { stood := { row := quotedValuesUptoRow, standIns := [], harness := (true, "851792d86327c3232c89af75a693182d300727fb28bb77622a3cad0228309544"), looks := false }, kinds := [], alts := [], laidByText := true, laidKinds := [.data, .pinned], laidTests := true, laidLooks := .later }
def QuotedValuesUptoCardSaid : Prop := Claim7.holds Tryd.pinned (.plain (OpenSpec.upto quotedValuesSpec)) quotedValuesUptoCard

/-- THE SECOND FORM's CARD OF 'emendlaw06.QuotedQuotes'. -/
def quotedQuotesUptoCard : Claim7 := { stood := { row := quotedQuotesUptoRow, standIns := [], harness := (true, "851792d86327c3232c89af75a693182d300727fb28bb77622a3cad0228309544"), looks := false }, kinds := [], alts := [], laidByText := true, laidKinds := [.data, .pinned], laidTests := true, laidLooks := .later }
def QuotedQuotesUptoCardSaid : Prop := Claim7.holds Tryd.pinned (.plain (OpenSpec.upto quotedQuotesSpec)) quotedQuotesUptoCard

/-- THE SECOND FORM's CARD OF 'emendlaw06.QuotedJoins'. -/
def quotedJoinsUptoCard : Claim7 := { stood := { row := quotedJoinsUptoRow, standIns := [], harness := (true, "851792d86327c3232c89af75a693182d300727fb28bb77622a3cad0228309544"), looks := false }, kinds := [], alts := [], laidByText := true, laidKinds := [.data, .pinned], laidTests := true, laidLooks := .later }
def QuotedJoinsUptoCardSaid : Prop := Claim7.holds Tryd.pinned (.plain (OpenSpec.upto quotedJoinsSpec)) quotedJoinsUptoCard

/-- THE SECOND FORM's CARD OF 'emendlaw06.QuotedRaw'. -/
def quotedRawUptoCard : Claim7 := { stood := { row := quotedRawUptoRow, standIns := [], harness := (true, "851792d86327c3232c89af75a693182d300727fb28bb77622a3cad0228309544"), looks := false }, kinds := [], alts := [], laidByText := true, laidKinds := [.data, .pinned], laidTests := true, laidLooks := .later }
def QuotedRawUptoCardSaid : Prop := Claim7.holds Tryd.pinned (.plain (OpenSpec.upto quotedRawSpec)) quotedRawUptoCard

/-- THE SECOND FORM's CARD OF 'emendlaw06.QuotedRunes'. -/
def quotedRunesUptoCard : Claim7 := { stood := { row := quotedRunesUptoRow, standIns := [], harness := (true, "851792d86327c3232c89af75a693182d300727fb28bb77622a3cad0228309544"), looks := false }, kinds := [], alts := [], laidByText := true, laidKinds := [.data, .pinned], laidTests := true, laidLooks := .later }
def QuotedRunesUptoCardSaid : Prop := Claim7.holds Tryd.pinned (.plain (OpenSpec.upto quotedRunesSpec)) quotedRunesUptoCard

/-- THE SECOND FORM's CARD OF 'emendlaw06.QuotedFound'. -/
def quotedFoundUptoCard : Claim7 := { stood := { row := quotedFoundUptoRow, standIns := [], harness := (true, "851792d86327c3232c89af75a693182d300727fb28bb77622a3cad0228309544"), looks := false }, kinds := [], alts := [], laidByText := true, laidKinds := [.data, .pinned], laidTests := true, laidLooks := .later }
def QuotedFoundUptoCardSaid : Prop := Claim7.holds Tryd.pinned (.plain (OpenSpec.upto quotedFoundSpec)) quotedFoundUptoCard
end Rows
end Go.Proofs.YtnnfkdjmpbgkaaaDoor
