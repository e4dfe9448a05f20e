/-
  DERIVED. GIVEN WITH THE SEED: THE CARDS: each row of YtcnkcnalabjhgaaGreatDoorRows.lean that lists a variable, with what it lists TIED to the program's text (the seventh form; the later family's looks); each row that meets fmt, with fmt's text TOLD by the authors' own Lean function (tested against real Go, not proved from fmt's source: count such statements apart). THE CARD IS WHAT COUNTS. Prove the row's statement (the work); the ties are given (YtcnkcnalabjhgaaGreatDoorTie.lean); close each card by the builder's one call (the guide's Derived/Test/ToyasCard.lean, 'card_holds'). Laid BY PROGRAM, IN A SANDBOX (cutbox-door.mjs). By AI agents, Wed Nov 11 2026. No macro, syntax, notation, axiom, sorry.
-/
import Derived.Test.YtcnkcnalabjhgaaGreatDoorRows
import GoSem.ClaimSeven
namespace Go.Proofs.YtcnkcnalabjhgaaGreatDoor
namespace Rows

/-- THE TIED CARD OF 'emendlaw07.ScanOnes'. -/
def scanOnesCard : Claim7 := { stood := { row := scanOnesRow, standIns := [], harness := (true, "62b642c2cd89d857c2639176ef050db2f788253ad9b5154b58e381a3335e8599"), looks := false }, kinds := [], alts := [], laidByText := true, laidKinds := [.data, .pinned], laidTests := true, laidLooks := .later }
def ScanOnesCardSaid : Prop := Claim7.holds Tryz.pinned (.plain (OpenSpec.ofChange scanOnesSpec)) scanOnesCard

/-- THE TIED CARD OF 'emendlaw07.ScanAlls'. -/
def scanAllsCard : Claim7 := { stood := { row := scanAllsRow, standIns := [], harness := (true, "62b642c2cd89d857c2639176ef050db2f788253ad9b5154b58e381a3335e8599"), looks := false }, kinds := [], alts := [], laidByText := true, laidKinds := [.data, .pinned], laidTests := true, laidLooks := .later }
def ScanAllsCardSaid : Prop := Claim7.holds Tryz.pinned (.plain (OpenSpec.ofChange scanAllsSpec)) scanAllsCard

/-- THE TIED CARD OF 'emendlaw07.ScanSigns'. -/
def scanSignsCard : Claim7 := { stood := { row := scanSignsRow, standIns := [], harness := (true, "62b642c2cd89d857c2639176ef050db2f788253ad9b5154b58e381a3335e8599"), looks := false }, kinds := [], alts := [], laidByText := true, laidKinds := [.data, .pinned], laidTests := true, laidLooks := .later }
def ScanSignsCardSaid : Prop := Claim7.holds Tryz.pinned (.plain (OpenSpec.ofChange scanSignsSpec)) scanSignsCard

/-- THE TIED CARD OF 'emendlaw08.SemiPuts'. -/
def semiPutsCard : Claim7 := { stood := { row := semiPutsRow, standIns := [], harness := (true, "62b642c2cd89d857c2639176ef050db2f788253ad9b5154b58e381a3335e8599"), looks := false }, kinds := [], alts := [], laidByText := true, laidKinds := [.data, .pinned], laidTests := true, laidLooks := .later }
def SemiPutsCardSaid : Prop := Claim7.holds Tryz.pinned (.plain (OpenSpec.ofChange semiPutsSpec)) semiPutsCard

/-- THE SECOND FORM's CARD OF 'emendlaw07.ScanOnes'. -/
def scanOnesUptoCard : Claim7 := { stood := { row := scanOnesUptoRow, standIns := [], harness := (true, "62b642c2cd89d857c2639176ef050db2f788253ad9b5154b58e381a3335e8599"), looks := false }, kinds := [], alts := [], laidByText := true, laidKinds := [.data, .pinned], laidTests := true, laidLooks := .later }
def ScanOnesUptoCardSaid : Prop := Claim7.holds Tryz.pinned (.plain (OpenSpec.upto scanOnesSpec)) scanOnesUptoCard

/-- THE SECOND FORM's CARD OF 'emendlaw07.ScanAlls'. -/
def scanAllsUptoCard : Claim7 := { stood := { row := scanAllsUptoRow, standIns := [], harness := (true, "62b642c2cd89d857c2639176ef050db2f788253ad9b5154b58e381a3335e8599"), looks := false }, kinds := [], alts := [], laidByText := true, laidKinds := [.data, .pinned], laidTests := true, laidLooks := .later }
def ScanAllsUptoCardSaid : Prop := Claim7.holds Tryz.pinned (.plain (OpenSpec.upto scanAllsSpec)) scanAllsUptoCard

/-- THE SECOND FORM's CARD OF 'emendlaw07.ScanSigns'. -/
def scanSignsUptoCard : Claim7 := { stood := { row := scanSignsUptoRow, standIns := [], harness := (true, "62b642c2cd89d857c2639176ef050db2f788253ad9b5154b58e381a3335e8599"), looks := false }, kinds := [], alts := [], laidByText := true, laidKinds := [.data, .pinned], laidTests := true, laidLooks := .later }
def ScanSignsUptoCardSaid : Prop := Claim7.holds Tryz.pinned (.plain (OpenSpec.upto scanSignsSpec)) scanSignsUptoCard

/-- THE SECOND FORM's CARD OF 'emendlaw08.SemiPuts'. -/
def semiPutsUptoCard : Claim7 := { stood := { row := semiPutsUptoRow, standIns := [], harness := (true, "62b642c2cd89d857c2639176ef050db2f788253ad9b5154b58e381a3335e8599"), looks := false }, kinds := [], alts := [], laidByText := true, laidKinds := [.data, .pinned], laidTests := true, laidLooks := .later }
def SemiPutsUptoCardSaid : Prop := Claim7.holds Tryz.pinned (.plain (OpenSpec.upto semiPutsSpec)) semiPutsUptoCard
end Rows
end Go.Proofs.YtcnkcnalabjhgaaGreatDoor
