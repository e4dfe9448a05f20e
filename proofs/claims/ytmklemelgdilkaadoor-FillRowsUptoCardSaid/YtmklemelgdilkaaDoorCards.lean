/-
  DERIVED. GIVEN WITH THE SEED: THE CARDS: each row of YtmklemelgdilkaaDoorRows.lean that lists a variable, with what it lists TIED to the program's text (the seventh form; the later family's looks); each row that meets fmt, with fmt's text TOLD by the authors' own Lean function (tested against real Go, not proved from fmt's source: count such statements apart). THE CARD IS WHAT COUNTS. Prove the row's statement (the work); the ties are given (YtmklemelgdilkaaDoorTie.lean); close each card by the builder's one call (the guide's Derived/Test/ToyasCard.lean, 'card_holds'). Laid BY PROGRAM, IN A SANDBOX (cutbox-door.mjs). By AI agents, Wed Nov 11 2026. No macro, syntax, notation, axiom, sorry.
-/
import Derived.Test.YtmklemelgdilkaaDoorRows
import GoSem.ClaimSeven
namespace Go.Proofs.YtmklemelgdilkaaDoor
namespace Rows

/-- THE TIED CARD OF 'emendlaw20.FillComes'. -/
def fillComesCard : Claim7 := { stood := { row := fillComesRow, standIns := [], harness := (true, "954b1cc63d3b4684eaafbbec7ff3502bf99a255f6d4e4b222a76beebccdbe418"), looks := false }, kinds := [], alts := [], laidByText := true, laidKinds := [.data, .pinned], laidTests := true, laidLooks := .later }
def FillComesCardSaid : Prop := Claim7.holds Tryd.pinned (.plain (OpenSpec.ofChange fillComesSpec)) fillComesCard

/-- THE TIED CARD OF 'emendlaw20.FillRows'. -/
def fillRowsCard : Claim7 := { stood := { row := fillRowsRow, standIns := [], harness := (true, "954b1cc63d3b4684eaafbbec7ff3502bf99a255f6d4e4b222a76beebccdbe418"), looks := false }, kinds := [], alts := [], laidByText := true, laidKinds := [.data, .pinned], laidTests := true, laidLooks := .later }
def FillRowsCardSaid : Prop := Claim7.holds Tryd.pinned (.plain (OpenSpec.ofChange fillRowsSpec)) fillRowsCard

/-- THE TIED CARD OF 'emendlaw20.FillFresh'. -/
def fillFreshCard : Claim7 := { stood := { row := fillFreshRow, standIns := [], harness := (true, "954b1cc63d3b4684eaafbbec7ff3502bf99a255f6d4e4b222a76beebccdbe418"), looks := false }, kinds := [], alts := [], laidByText := true, laidKinds := [.data, .pinned], laidTests := true, laidLooks := .later }
def FillFreshCardSaid : Prop := Claim7.holds Tryd.pinned (.plain (OpenSpec.ofChange fillFreshSpec)) fillFreshCard

/-- THE SECOND FORM's CARD OF 'emendlaw20.FillComes'. -/
def fillComesUptoCard : Claim7 := { stood := { row := fillComesUptoRow, standIns := [], harness := (true, "954b1cc63d3b4684eaafbbec7ff3502bf99a255f6d4e4b222a76beebccdbe418"), looks := false }, kinds := [], alts := [], laidByText := true, laidKinds := [.data, .pinned], laidTests := true, laidLooks := .later }
def FillComesUptoCardSaid : Prop := Claim7.holds Tryd.pinned (.plain (OpenSpec.upto fillComesSpec)) fillComesUptoCard

/-- THE SECOND FORM's CARD OF 'emendlaw20.FillRows'. -/
def fillRowsUptoCard : Claim7 := { stood := { row := fillRowsUptoRow, standIns := [], harness := (true, "954b1cc63d3b4684eaafbbec7ff3502bf99a255f6d4e4b222a76beebccdbe418"), looks := false }, kinds := [], alts := [], laidByText := true, laidKinds := [.data, .pinned], laidTests := true, laidLooks := .later }
def FillRowsUptoCardSaid : Prop := Claim7.holds Tryd.pinned (.plain (OpenSpec.upto fillRowsSpec)) fillRowsUptoCard

/-- THE SECOND FORM's CARD OF 'emendlaw20.FillFresh'. -/
def fillFreshUptoCard : Claim7 := { stood := { row := fillFreshUptoRow, standIns := [], harness := (true, "954b1cc63d3b4684eaafbbec7ff3502bf99a255f6d4e4b222a76beebccdbe418"), looks := false }, kinds := [], alts := [], laidByText := true, laidKinds := [.data, .pinned], laidTests := true, laidLooks := .later }
def FillFreshUptoCardSaid : Prop := Claim7.holds Tryd.pinned (.plain (OpenSpec.upto fillFreshSpec)) fillFreshUptoCard
end Rows
end Go.Proofs.YtmklemelgdilkaaDoor
