/-
  DERIVED. GIVEN WITH THE SEED: THE CARDS: each row of YtlkheofphafofaaGreatDoorRows.lean that lists a variable, with what it lists TIED to the program's text (the seventh form; the later family's looks); each row that meets fmt, with fmt's text TOLD by the authors' own Lean function (tested against real Go, not proved from fmt's source: count such statements apart). THE CARD IS WHAT COUNTS. Prove the row's statement (the work); the ties are given (YtlkheofphafofaaGreatDoorTie.lean); close each card by the builder's one call (the guide's Derived/Test/ToyasCard.lean, 'card_holds'). Laid BY PROGRAM, IN A SANDBOX (cutbox-door.mjs). By AI agents, Wed Nov 11 2026. No macro, syntax, notation, axiom, sorry.
-/
import Derived.Test.YtlkheofphafofaaGreatDoorRows
import GoSem.ClaimSeven
namespace Go.Proofs.YtlkheofphafofaaGreatDoor
namespace Rows

/-- THE TIED CARD OF 'emendlaw17.MatchAt'. -/
def matchAtCard : Claim7 := { stood := { row := matchAtRow, standIns := [], harness := (true, "722b14f3a55b67e7997a5471b12fab116df2c23595f980ff0026470b80b69523"), looks := false }, kinds := [], alts := [], laidByText := true, laidKinds := [.data, .pinned], laidTests := true, laidLooks := .later }
def MatchAtCardSaid : Prop := Claim7.holds Tryz.pinned (.plain (OpenSpec.ofChange matchAtSpec)) matchAtCard

/-- THE TIED CARD OF 'emendlaw17.MatchAll'. -/
def matchAllCard : Claim7 := { stood := { row := matchAllRow, standIns := [], harness := (true, "722b14f3a55b67e7997a5471b12fab116df2c23595f980ff0026470b80b69523"), looks := false }, kinds := [], alts := [], laidByText := true, laidKinds := [.data, .pinned], laidTests := true, laidLooks := .later }
def MatchAllCardSaid : Prop := Claim7.holds Tryz.pinned (.plain (OpenSpec.ofChange matchAllSpec)) matchAllCard

/-- THE TIED CARD OF 'emendlaw17.MatchInstance'. -/
def matchInstanceCard : Claim7 := { stood := { row := matchInstanceRow, standIns := [], harness := (true, "722b14f3a55b67e7997a5471b12fab116df2c23595f980ff0026470b80b69523"), looks := false }, kinds := [], alts := [], laidByText := true, laidKinds := [.data, .pinned], laidTests := true, laidLooks := .later }
def MatchInstanceCardSaid : Prop := Claim7.holds Tryz.pinned (.plain (OpenSpec.ofChange matchInstanceSpec)) matchInstanceCard

/-- THE TIED CARD OF 'emendlaw17.MatchMade'. -/
def matchMadeCard : Claim7 := { stood := { row := matchMadeRow, standIns := [], harness := (true, "722b14f3a55b67e7997a5471b12fab116df2c23595f980ff0026470b80b69523"), looks := false }, kinds := [], alts := [], laidByText := true, laidKinds := [.data, .pinned], laidTests := true, laidLooks := .later }
def MatchMadeCardSaid : Prop := Claim7.holds Tryz.pinned (.plain (OpenSpec.ofChange matchMadeSpec)) matchMadeCard

/-- THE TIED CARD OF 'emendlaw17.MatchPlain'. -/
def matchPlainCard : Claim7 := { stood := { row := matchPlainRow, standIns := [], harness := (true, "722b14f3a55b67e7997a5471b12fab116df2c23595f980ff0026470b80b69523"), looks := false }, kinds := [], alts := [], laidByText := true, laidKinds := [.data, .pinned], laidTests := true, laidLooks := .later }
def MatchPlainCardSaid : Prop := Claim7.holds Tryz.pinned (.plain (OpenSpec.ofChange matchPlainSpec)) matchPlainCard

/-- THE TIED CARD OF 'emendlaw18.FindAlls'. -/
def findAllsCard : Claim7 := { stood := { row := findAllsRow, standIns := [], harness := (true, "722b14f3a55b67e7997a5471b12fab116df2c23595f980ff0026470b80b69523"), looks := false }, kinds := [], alts := [], laidByText := true, laidKinds := [.data, .pinned], laidTests := true, laidLooks := .later }
def FindAllsCardSaid : Prop := Claim7.holds Tryz.pinned (.plain (OpenSpec.ofChange findAllsSpec)) findAllsCard

/-- THE SECOND FORM's CARD OF 'emendlaw17.MatchAt'. -/
def matchAtUptoCard : Claim7 := { stood := { row := matchAtUptoRow, standIns := [], harness := (true, "722b14f3a55b67e7997a5471b12fab116df2c23595f980ff0026470b80b69523"), looks := false }, kinds := [], alts := [], laidByText := true, laidKinds := [.data, .pinned], laidTests := true, laidLooks := .later }
def MatchAtUptoCardSaid : Prop := Claim7.holds Tryz.pinned (.plain (OpenSpec.upto matchAtSpec)) matchAtUptoCard

/-- THE SECOND FORM's CARD OF 'emendlaw17.MatchAll'. -/
def matchAllUptoCard : Claim7 := { stood := { row := matchAllUptoRow, standIns := [], harness := (true, "722b14f3a55b67e7997a5471b12fab116df2c23595f980ff0026470b80b69523"), looks := false }, kinds := [], alts := [], laidByText := true, laidKinds := [.data, .pinned], laidTests := true, laidLooks := .later }
def MatchAllUptoCardSaid : Prop := Claim7.holds Tryz.pinned (.plain (OpenSpec.upto matchAllSpec)) matchAllUptoCard

/-- THE SECOND FORM's CARD OF 'emendlaw17.MatchInstance'. -/
def matchInstanceUptoCard : Claim7 := { stood := { row := matchInstanceUptoRow, standIns := [], harness := (true, "722b14f3a55b67e7997a5471b12fab116df2c23595f980ff0026470b80b69523"), looks := false }, kinds := [], alts := [], laidByText := true, laidKinds := [.data, .pinned], laidTests := true, laidLooks := .later }
def MatchInstanceUptoCardSaid : Prop := Claim7.holds Tryz.pinned (.plain (OpenSpec.upto matchInstanceSpec)) matchInstanceUptoCard

/-- THE SECOND FORM's CARD OF 'emendlaw17.MatchMade'. -/
def matchMadeUptoCard : Claim7 := { stood := { row := matchMadeUptoRow, standIns := [], harness := (true, "722b14f3a55b67e7997a5471b12fab116df2c23595f980ff0026470b80b69523"), looks := false }, kinds := [], alts := [], laidByText := true, laidKinds := [.data, .pinned], laidTests := true, laidLooks := .later }
def MatchMadeUptoCardSaid : Prop := Claim7.holds Tryz.pinned (.plain (OpenSpec.upto matchMadeSpec)) matchMadeUptoCard

/-- THE SECOND FORM's CARD OF 'emendlaw17.MatchPlain'. -/
def matchPlainUptoCard : Claim7 := { stood := { row := matchPlainUptoRow, standIns := [], harness := (true, "722b14f3a55b67e7997a5471b12fab116df2c23595f980ff0026470b80b69523"), looks := false }, kinds := [], alts := [], laidByText := true, laidKinds := [.data, .pinned], laidTests := true, laidLooks := .later }
def MatchPlainUptoCardSaid : Prop := Claim7.holds Tryz.pinned (.plain (OpenSpec.upto matchPlainSpec)) matchPlainUptoCard

/-- THE SECOND FORM's CARD OF 'emendlaw18.FindAlls'. -/
def findAllsUptoCard : Claim7 := { stood := { row := findAllsUptoRow, standIns := [], harness := (true, "722b14f3a55b67e7997a5471b12fab116df2c23595f980ff0026470b80b69523"), looks := false }, kinds := [], alts := [], laidByText := true, laidKinds := [.data, .pinned], laidTests := true, laidLooks := .later }
def FindAllsUptoCardSaid : Prop := Claim7.holds Tryz.pinned (.plain (OpenSpec.upto findAllsSpec)) findAllsUptoCard
end Rows
end Go.Proofs.YtlkheofphafofaaGreatDoor
