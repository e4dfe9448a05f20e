/-
  DERIVED. GIVEN WITH THE SEED: THE CARDS: each row of YtcnkcnalabjhgaaDoorRows.lean that lists a variable, with what it lists TIED to the program's text (the seventh form; the later family's looks); each row that meets fmt, with fmt's text TOLD by the authors' own Lean function (tested against real Go, not proved from fmt's source: count such statements apart). THE CARD IS WHAT COUNTS. Prove the row's statement (the work); the ties are given (YtcnkcnalabjhgaaDoorTie.lean); close each card by the builder's one call (the guide's Derived/Test/ToyasCard.lean, 'card_holds'). Laid BY PROGRAM, IN A SANDBOX (cutbox-door.mjs). By AI agents, Wed Nov 11 2026. No macro, syntax, notation, axiom, sorry.
-/
import Derived.Test.YtcnkcnalabjhgaaDoorRows
import GoSem.ClaimSeven
namespace Go.Proofs.YtcnkcnalabjhgaaDoor
namespace Rows

/-- THE TIED CARD OF 'emendlaw07.ScanCleans'. -/
def scanCleansCard : Claim7 := { stood := { row := scanCleansRow, standIns := [], harness := (true, "3e7548a2a76336be0c4989be95886f4e142068208b9424177e278e8de7f03deb"), looks := false }, kinds := [], alts := [], laidByText := true, laidKinds := [.data, .pinned], laidTests := true, laidLooks := .later }
def ScanCleansCardSaid : Prop := Claim7.holds Tryd.pinned (.plain (OpenSpec.ofChange scanCleansSpec)) scanCleansCard

/-- THE TIED CARD OF 'emendlaw07.ScanWhole'. -/
def scanWholeCard : Claim7 := { stood := { row := scanWholeRow, standIns := [], harness := (true, "3e7548a2a76336be0c4989be95886f4e142068208b9424177e278e8de7f03deb"), looks := false }, kinds := [], alts := [], laidByText := true, laidKinds := [.data, .pinned], laidTests := true, laidLooks := .later }
def ScanWholeCardSaid : Prop := Claim7.holds Tryd.pinned (.plain (OpenSpec.ofChange scanWholeSpec)) scanWholeCard

/-- THE TIED CARD OF 'emendlaw07.ScanApart'. -/
def scanApartCard : Claim7 := { stood := { row := scanApartRow, standIns := [], harness := (true, "3e7548a2a76336be0c4989be95886f4e142068208b9424177e278e8de7f03deb"), looks := false }, kinds := [], alts := [], laidByText := true, laidKinds := [.data, .pinned], laidTests := true, laidLooks := .later }
def ScanApartCardSaid : Prop := Claim7.holds Tryd.pinned (.plain (OpenSpec.ofChange scanApartSpec)) scanApartCard

/-- THE TIED CARD OF 'emendlaw07.ScanLong'. -/
def scanLongCard : Claim7 := { stood := { row := scanLongRow, standIns := [], harness := (true, "3e7548a2a76336be0c4989be95886f4e142068208b9424177e278e8de7f03deb"), looks := false }, kinds := [], alts := [], laidByText := true, laidKinds := [.data, .pinned], laidTests := true, laidLooks := .later }
def ScanLongCardSaid : Prop := Claim7.holds Tryd.pinned (.plain (OpenSpec.ofChange scanLongSpec)) scanLongCard

/-- THE TIED CARD OF 'emendlaw08.SemiEnds'. -/
def semiEndsCard : Claim7 := { stood := { row := semiEndsRow, standIns := [], harness := (true, "3e7548a2a76336be0c4989be95886f4e142068208b9424177e278e8de7f03deb"), looks := false }, kinds := [], alts := [], laidByText := true, laidKinds := [.data, .pinned], laidTests := true, laidLooks := .later }
def SemiEndsCardSaid : Prop := Claim7.holds Tryd.pinned (.plain (OpenSpec.ofChange semiEndsSpec)) semiEndsCard

/-- THE TIED CARD OF 'emendlaw08.SemiComments'. -/
def semiCommentsCard : Claim7 := { stood := { row := semiCommentsRow, standIns := [], harness := (true, "3e7548a2a76336be0c4989be95886f4e142068208b9424177e278e8de7f03deb"), looks := false }, kinds := [], alts := [], laidByText := true, laidKinds := [.data, .pinned], laidTests := true, laidLooks := .later }
def SemiCommentsCardSaid : Prop := Claim7.holds Tryd.pinned (.plain (OpenSpec.ofChange semiCommentsSpec)) semiCommentsCard

/-- THE TIED CARD OF 'emendlaw08.SemiWritten'. -/
def semiWrittenCard : Claim7 := { stood := { row := semiWrittenRow, standIns := [], harness := (true, "3e7548a2a76336be0c4989be95886f4e142068208b9424177e278e8de7f03deb"), looks := false }, kinds := [], alts := [], laidByText := true, laidKinds := [.data, .pinned], laidTests := true, laidLooks := .later }
def SemiWrittenCardSaid : Prop := Claim7.holds Tryd.pinned (.plain (OpenSpec.ofChange semiWrittenSpec)) semiWrittenCard

/-- THE TIED CARD OF 'emendlaw08.SemiTokens'. -/
def semiTokensCard : Claim7 := { stood := { row := semiTokensRow, standIns := [], harness := (true, "3e7548a2a76336be0c4989be95886f4e142068208b9424177e278e8de7f03deb"), looks := false }, kinds := [], alts := [], laidByText := true, laidKinds := [.data, .pinned], laidTests := true, laidLooks := .later }
def SemiTokensCardSaid : Prop := Claim7.holds Tryd.pinned (.plain (OpenSpec.ofChange semiTokensSpec)) semiTokensCard

/-- THE SECOND FORM's CARD OF 'emendlaw07.ScanCleans'. -/
def scanCleansUptoCard : Claim7 := { stood := { row := scanCleansUptoRow, standIns := [], harness := (true, "3e7548a2a76336be0c4989be95886f4e142068208b9424177e278e8de7f03deb"), looks := false }, kinds := [], alts := [], laidByText := true, laidKinds := [.data, .pinned], laidTests := true, laidLooks := .later }
def ScanCleansUptoCardSaid : Prop := Claim7.holds Tryd.pinned (.plain (OpenSpec.upto scanCleansSpec)) scanCleansUptoCard

/-- THE SECOND FORM's CARD OF 'emendlaw07.ScanWhole'. -/
def scanWholeUptoCard : Claim7 := { stood := { row := scanWholeUptoRow, standIns := [], harness := (true, "3e7548a2a76336be0c4989be95886f4e142068208b9424177e278e8de7f03deb"), looks := false }, kinds := [], alts := [], laidByText := true, laidKinds := [.data, .pinned], laidTests := true, laidLooks := .later }
def ScanWholeUptoCardSaid : Prop := Claim7.holds Tryd.pinned (.plain (OpenSpec.upto scanWholeSpec)) scanWholeUptoCard

/-- THE SECOND FORM's CARD OF 'emendlaw07.ScanApart'. -/
def scanApartUptoCard : Claim7 := { stood := { row := scanApartUptoRow, standIns := [], harness := (true, "3e7548a2a76336be0c4989be95886f4e142068208b9424177e278e8de7f03deb"), looks := false }, kinds := [], alts := [], laidByText := true, laidKinds := [.data, .pinned], laidTests := true, laidLooks := .later }
def ScanApartUptoCardSaid : Prop := Claim7.holds Tryd.pinned (.plain (OpenSpec.upto scanApartSpec)) scanApartUptoCard

/-- THE SECOND FORM's CARD OF 'emendlaw07.ScanLong'. -/
def scanLongUptoCard : Claim7 := { stood := { row := scanLongUptoRow, standIns := [], harness := (true, "3e7548a2a76336be0c4989be95886f4e142068208b9424177e278e8de7f03deb"), looks := false }, kinds := [], alts := [], laidByText := true, laidKinds := [.data, .pinned], laidTests := true, laidLooks := .later }
def ScanLongUptoCardSaid : Prop := Claim7.holds Tryd.pinned (.plain (OpenSpec.upto scanLongSpec)) scanLongUptoCard

/-- THE SECOND FORM's CARD OF 'emendlaw08.SemiEnds'. -/
def semiEndsUptoCard : Claim7 := { stood := { row := semiEndsUptoRow, standIns := [], harness := (true, "3e7548a2a76336be0c4989be95886f4e142068208b9424177e278e8de7f03deb"), looks := false }, kinds := [], alts := [], laidByText := true, laidKinds := [.data, .pinned], laidTests := true, laidLooks := .later }
def SemiEndsUptoCardSaid : Prop := Claim7.holds Tryd.pinned (.plain (OpenSpec.upto semiEndsSpec)) semiEndsUptoCard

/-- THE SECOND FORM's CARD OF 'emendlaw08.SemiComments'. -/
def semiCommentsUptoCard : Claim7 := { stood := { row := semiCommentsUptoRow, standIns := [], harness := (true, "3e7548a2a76336be0c4989be95886f4e142068208b9424177e278e8de7f03deb"), looks := false }, kinds := [], alts := [], laidByText := true, laidKinds := [.data, .pinned], laidTests := true, laidLooks := .later }
def SemiCommentsUptoCardSaid : Prop := Claim7.holds Tryd.pinned (.plain (OpenSpec.upto semiCommentsSpec)) semiCommentsUptoCard

/-- THE SECOND FORM's CARD OF 'emendlaw08.SemiWritten'. -/
def semiWrittenUptoCard : Claim7 := { stood := { row := semiWrittenUptoRow, standIns := [], harness := (true, "3e7548a2a76336be0c4989be95886f4e142068208b9424177e278e8de7f03deb"), looks := false }, kinds := [], alts := [], laidByText := true, laidKinds := [.data, .pinned], laidTests := true, laidLooks := .later }
def SemiWrittenUptoCardSaid : Prop := Claim7.holds Tryd.pinned (.plain (OpenSpec.upto semiWrittenSpec)) semiWrittenUptoCard

/-- THE SECOND FORM's CARD OF 'emendlaw08.SemiTokens'. -/
def semiTokensUptoCard : Claim7 := { stood := { row := semiTokensUptoRow, standIns := [], harness := (true, "3e7548a2a76336be0c4989be95886f4e142068208b9424177e278e8de7f03deb"), looks := false }, kinds := [], alts := [], laidByText := true, laidKinds := [.data, .pinned], laidTests := true, laidLooks := .later }
def SemiTokensUptoCardSaid : Prop := Claim7.holds Tryd.pinned (.plain (OpenSpec.upto semiTokensSpec)) semiTokensUptoCard
end Rows
end Go.Proofs.YtcnkcnalabjhgaaDoor
