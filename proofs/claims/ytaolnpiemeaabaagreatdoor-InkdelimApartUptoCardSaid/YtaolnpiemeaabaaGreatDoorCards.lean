/-
  DERIVED. GIVEN WITH THE SEED: THE CARDS: each row of YtaolnpiemeaabaaGreatDoorRows.lean that lists a variable, with what it lists TIED to the program's text (the seventh form; the later family's looks); each row that meets fmt, with fmt's text TOLD by the authors' own Lean function (tested against real Go, not proved from fmt's source: count such statements apart). THE CARD IS WHAT COUNTS. Prove the row's statement (the work); the ties are given (YtaolnpiemeaabaaGreatDoorTie.lean); close each card by the builder's one call (the guide's Derived/Test/ToyasCard.lean, 'card_holds'). Laid BY PROGRAM, IN A SANDBOX (cutbox-door.mjs). By AI agents, Wed Nov 11 2026. No macro, syntax, notation, axiom, sorry.
-/
import Derived.Test.YtaolnpiemeaabaaGreatDoorRows
import GoSem.ClaimSeven
namespace Go.Proofs.YtaolnpiemeaabaaGreatDoor
namespace Rows

/-- THE TIED CARD OF 'hexaplalaw18.InkdelimPrints'. -/
def inkdelimPrintsCard : Claim7 := { stood := { row := inkdelimPrintsRow, standIns := [], harness := (true, "8d82039ce52ec1a25ca60ed72d151d4075e38f78acb70e36c17a4cc1344e1239"), looks := true }, kinds := [], alts := [], laidByText := true, laidKinds := [.data, .data, .data, .data, .sentinel, .sentinel, .pinned, .pinned], laidTests := true, laidLooks := .later }
def InkdelimPrintsCardSaid : Prop := Claim7.holds Tryz.pinned (.plain (OpenSpec.ofChange inkdelimPrintsSpec)) inkdelimPrintsCard

/-- THE TIED CARD OF 'hexaplalaw18.InkdelimApart'. -/
def inkdelimApartCard : Claim7 := { stood := { row := inkdelimApartRow, standIns := [], harness := (true, "8d82039ce52ec1a25ca60ed72d151d4075e38f78acb70e36c17a4cc1344e1239"), looks := true }, kinds := [], alts := [], laidByText := true, laidKinds := [.data, .data, .data, .data, .sentinel, .sentinel, .pinned, .pinned], laidTests := true, laidLooks := .later }
def InkdelimApartCardSaid : Prop := Claim7.holds Tryz.pinned (.plain (OpenSpec.ofChange inkdelimApartSpec)) inkdelimApartCard

/-- THE TIED CARD OF 'hexaplalaw18.InkdelimStays'. -/
def inkdelimStaysCard : Claim7 := { stood := { row := inkdelimStaysRow, standIns := [], harness := (true, "8d82039ce52ec1a25ca60ed72d151d4075e38f78acb70e36c17a4cc1344e1239"), looks := true }, kinds := [], alts := [], laidByText := true, laidKinds := [.data, .data, .data, .data, .sentinel, .sentinel, .pinned, .pinned], laidTests := true, laidLooks := .later }
def InkdelimStaysCardSaid : Prop := Claim7.holds Tryz.pinned (.plain (OpenSpec.ofChange inkdelimStaysSpec)) inkdelimStaysCard

/-- THE TIED CARD OF 'hexaplalaw19.InkoutlinePrints'. -/
def inkoutlinePrintsCard : Claim7 := { stood := { row := inkoutlinePrintsRow, standIns := [], harness := (true, "8d82039ce52ec1a25ca60ed72d151d4075e38f78acb70e36c17a4cc1344e1239"), looks := true }, kinds := [], alts := [], laidByText := true, laidKinds := [.data, .data, .data, .data, .sentinel, .sentinel, .pinned, .pinned], laidTests := true, laidLooks := .later }
def InkoutlinePrintsCardSaid : Prop := Claim7.holds Tryz.pinned (.plain (OpenSpec.ofChange inkoutlinePrintsSpec)) inkoutlinePrintsCard

/-- THE TIED CARD OF 'hexaplalaw19.InkoutlineApart'. -/
def inkoutlineApartCard : Claim7 := { stood := { row := inkoutlineApartRow, standIns := [], harness := (true, "8d82039ce52ec1a25ca60ed72d151d4075e38f78acb70e36c17a4cc1344e1239"), looks := true }, kinds := [], alts := [], laidByText := true, laidKinds := [.data, .data, .data, .data, .sentinel, .sentinel, .pinned, .pinned], laidTests := true, laidLooks := .later }
def InkoutlineApartCardSaid : Prop := Claim7.holds Tryz.pinned (.plain (OpenSpec.ofChange inkoutlineApartSpec)) inkoutlineApartCard

/-- THE TIED CARD OF 'hexaplalaw19.InkoutlineStays'. -/
def inkoutlineStaysCard : Claim7 := { stood := { row := inkoutlineStaysRow, standIns := [], harness := (true, "8d82039ce52ec1a25ca60ed72d151d4075e38f78acb70e36c17a4cc1344e1239"), looks := true }, kinds := [], alts := [], laidByText := true, laidKinds := [.data, .data, .data, .data, .sentinel, .sentinel, .pinned, .pinned], laidTests := true, laidLooks := .later }
def InkoutlineStaysCardSaid : Prop := Claim7.holds Tryz.pinned (.plain (OpenSpec.ofChange inkoutlineStaysSpec)) inkoutlineStaysCard

/-- THE SECOND FORM's CARD OF 'hexaplalaw18.InkdelimPrints'. -/
def inkdelimPrintsUptoCard : Claim7 := { stood := { row := inkdelimPrintsUptoRow, standIns := [], harness := (true, "8d82039ce52ec1a25ca60ed72d151d4075e38f78acb70e36c17a4cc1344e1239"), looks := true }, kinds := [], alts := [], laidByText := true, laidKinds := [.data, .data, .data, .data, .sentinel, .sentinel, .pinned, .pinned], laidTests := true, laidLooks := .later }
def InkdelimPrintsUptoCardSaid : Prop := Claim7.holds Tryz.pinned (.plain (OpenSpec.upto inkdelimPrintsSpec)) inkdelimPrintsUptoCard

/-- THE SECOND FORM's CARD OF 'hexaplalaw18.InkdelimApart'. -/
def inkdelimApartUptoCard : Claim7 := { stood := { row := inkdelimApartUptoRow, standIns := [], harness := (true, "8d82039ce52ec1a25ca60ed72d151d4075e38f78acb70e36c17a4cc1344e1239"), looks := true }, kinds := [], alts := [], laidByText := true, laidKinds := [.data, .data, .data, .data, .sentinel, .sentinel, .pinned, .pinned], laidTests := true, laidLooks := .later }
def InkdelimApartUptoCardSaid : Prop := Claim7.holds Tryz.pinned (.plain (OpenSpec.upto inkdelimApartSpec)) inkdelimApartUptoCard

/-- THE SECOND FORM's CARD OF 'hexaplalaw18.InkdelimStays'. -/
def inkdelimStaysUptoCard : Claim7 := { stood := { row := inkdelimStaysUptoRow, standIns := [], harness := (true, "8d82039ce52ec1a25ca60ed72d151d4075e38f78acb70e36c17a4cc1344e1239"), looks := true }, kinds := [], alts := [], laidByText := true, laidKinds := [.data, .data, .data, .data, .sentinel, .sentinel, .pinned, .pinned], laidTests := true, laidLooks := .later }
def InkdelimStaysUptoCardSaid : Prop := Claim7.holds Tryz.pinned (.plain (OpenSpec.upto inkdelimStaysSpec)) inkdelimStaysUptoCard

/-- THE SECOND FORM's CARD OF 'hexaplalaw19.InkoutlinePrints'. -/
def inkoutlinePrintsUptoCard : Claim7 := { stood := { row := inkoutlinePrintsUptoRow, standIns := [], harness := (true, "8d82039ce52ec1a25ca60ed72d151d4075e38f78acb70e36c17a4cc1344e1239"), looks := true }, kinds := [], alts := [], laidByText := true, laidKinds := [.data, .data, .data, .data, .sentinel, .sentinel, .pinned, .pinned], laidTests := true, laidLooks := .later }
def InkoutlinePrintsUptoCardSaid : Prop := Claim7.holds Tryz.pinned (.plain (OpenSpec.upto inkoutlinePrintsSpec)) inkoutlinePrintsUptoCard

/-- THE SECOND FORM's CARD OF 'hexaplalaw19.InkoutlineApart'. -/
def inkoutlineApartUptoCard : Claim7 := { stood := { row := inkoutlineApartUptoRow, standIns := [], harness := (true, "8d82039ce52ec1a25ca60ed72d151d4075e38f78acb70e36c17a4cc1344e1239"), looks := true }, kinds := [], alts := [], laidByText := true, laidKinds := [.data, .data, .data, .data, .sentinel, .sentinel, .pinned, .pinned], laidTests := true, laidLooks := .later }
def InkoutlineApartUptoCardSaid : Prop := Claim7.holds Tryz.pinned (.plain (OpenSpec.upto inkoutlineApartSpec)) inkoutlineApartUptoCard

/-- THE SECOND FORM's CARD OF 'hexaplalaw19.InkoutlineStays'. -/
def inkoutlineStaysUptoCard : Claim7 := { stood := { row := inkoutlineStaysUptoRow, standIns := [], harness := (true, "8d82039ce52ec1a25ca60ed72d151d4075e38f78acb70e36c17a4cc1344e1239"), looks := true }, kinds := [], alts := [], laidByText := true, laidKinds := [.data, .data, .data, .data, .sentinel, .sentinel, .pinned, .pinned], laidTests := true, laidLooks := .later }
def InkoutlineStaysUptoCardSaid : Prop := Claim7.holds Tryz.pinned (.plain (OpenSpec.upto inkoutlineStaysSpec)) inkoutlineStaysUptoCard
end Rows
end Go.Proofs.YtaolnpiemeaabaaGreatDoor
