/-
  DERIVED. GIVEN WITH THE SEED: THE CARDS: each row of YtbokhmmhidgabaaDoorRows.lean that lists a variable, with what it lists TIED to the program's text (the seventh form; the later family's looks); each row that meets fmt, with fmt's text TOLD by the authors' own Lean function (tested against real Go, not proved from fmt's source: count such statements apart). THE CARD IS WHAT COUNTS. Prove the row's statement (the work); the ties are given (YtbokhmmhidgabaaDoorTie.lean); close each card by the builder's one call (the guide's Derived/Test/ToyasCard.lean, 'card_holds'). Laid BY PROGRAM, IN A SANDBOX (cutbox-door.mjs). By AI agents, Wed Nov 11 2026. No macro, syntax, notation, axiom, sorry.
-/
import Derived.Test.YtbokhmmhidgabaaDoorRows
import GoSem.ClaimSeven
namespace Go.Proofs.YtbokhmmhidgabaaDoor
namespace Rows

/-- THE TIED CARD OF 'hexaplalaw02.NumMay'. -/
def numMayCard : Claim7 := { stood := { row := numMayRow, standIns := [], harness := (true, "616cee5b6974f1f3aa25b26da14fedb923ff906bd4c4ccd3c9e77d27e10a2189"), looks := true }, kinds := [], alts := [], laidByText := true, laidKinds := [.data, .data, .data, .data, .sentinel, .sentinel, .pinned, .pinned], laidTests := true, laidLooks := .later }
def NumMayCardSaid : Prop := Claim7.holds Tryd.pinned (.plain (OpenSpec.ofChange numMaySpec)) numMayCard

/-- THE TIED CARD OF 'hexaplalaw02.NumGrows'. -/
def numGrowsCard : Claim7 := { stood := { row := numGrowsRow, standIns := [], harness := (true, "616cee5b6974f1f3aa25b26da14fedb923ff906bd4c4ccd3c9e77d27e10a2189"), looks := true }, kinds := [], alts := [], laidByText := true, laidKinds := [.data, .data, .data, .data, .sentinel, .sentinel, .pinned, .pinned], laidTests := true, laidLooks := .later }
def NumGrowsCardSaid : Prop := Claim7.holds Tryd.pinned (.plain (OpenSpec.ofChange numGrowsSpec)) numGrowsCard

/-- THE TIED CARD OF 'hexaplalaw02.NumStays'. -/
def numStaysCard : Claim7 := { stood := { row := numStaysRow, standIns := [], harness := (true, "616cee5b6974f1f3aa25b26da14fedb923ff906bd4c4ccd3c9e77d27e10a2189"), looks := true }, kinds := [], alts := [], laidByText := true, laidKinds := [.data, .data, .data, .data, .sentinel, .sentinel, .pinned, .pinned], laidTests := true, laidLooks := .later }
def NumStaysCardSaid : Prop := Claim7.holds Tryd.pinned (.plain (OpenSpec.ofChange numStaysSpec)) numStaysCard

/-- THE TIED CARD OF 'hexaplalaw02.NumOrder'. -/
def numOrderCard : Claim7 := { stood := { row := numOrderRow, standIns := [], harness := (true, "616cee5b6974f1f3aa25b26da14fedb923ff906bd4c4ccd3c9e77d27e10a2189"), looks := true }, kinds := [], alts := [], laidByText := true, laidKinds := [.data, .data, .data, .data, .sentinel, .sentinel, .pinned, .pinned], laidTests := true, laidLooks := .later }
def NumOrderCardSaid : Prop := Claim7.holds Tryd.pinned (.plain (OpenSpec.ofChange numOrderSpec)) numOrderCard

/-- THE SECOND FORM's CARD OF 'hexaplalaw02.NumMay'. -/
def numMayUptoCard : Claim7 := { stood := { row := numMayUptoRow, standIns := [], harness := (true, "616cee5b6974f1f3aa25b26da14fedb923ff906bd4c4ccd3c9e77d27e10a2189"), looks := true }, kinds := [], alts := [], laidByText := true, laidKinds := [.data, .data, .data, .data, .sentinel, .sentinel, .pinned, .pinned], laidTests := true, laidLooks := .later }
def NumMayUptoCardSaid : Prop := Claim7.holds Tryd.pinned (.plain (OpenSpec.upto numMaySpec)) numMayUptoCard

/-- THE SECOND FORM's CARD OF 'hexaplalaw02.NumGrows'. -/
def numGrowsUptoCard : Claim7 := { stood := { row := numGrowsUptoRow, standIns := [], harness := (true, "616cee5b6974f1f3aa25b26da14fedb923ff906bd4c4ccd3c9e77d27e10a2189"), looks := true }, kinds := [], alts := [], laidByText := true, laidKinds := [.data, .data, .data, .data, .sentinel, .sentinel, .pinned, .pinned], laidTests := true, laidLooks := .later }
def NumGrowsUptoCardSaid : Prop := Claim7.holds Tryd.pinned (.plain (OpenSpec.upto numGrowsSpec)) numGrowsUptoCard

/-- THE SECOND FORM's CARD OF 'hexaplalaw02.NumStays'. -/
def numStaysUptoCard : Claim7 := { stood := { row := numStaysUptoRow, standIns := [], harness := (true, "616cee5b6974f1f3aa25b26da14fedb923ff906bd4c4ccd3c9e77d27e10a2189"), looks := true }, kinds := [], alts := [], laidByText := true, laidKinds := [.data, .data, .data, .data, .sentinel, .sentinel, .pinned, .pinned], laidTests := true, laidLooks := .later }
def NumStaysUptoCardSaid : Prop := Claim7.holds Tryd.pinned (.plain (OpenSpec.upto numStaysSpec)) numStaysUptoCard

/-- THE SECOND FORM's CARD OF 'hexaplalaw02.NumOrder'. -/
def numOrderUptoCard : Claim7 := { stood := { row := numOrderUptoRow, standIns := [], harness := (true, "616cee5b6974f1f3aa25b26da14fedb923ff906bd4c4ccd3c9e77d27e10a2189"), looks := true }, kinds := [], alts := [], laidByText := true, laidKinds := [.data, .data, .data, .data, .sentinel, .sentinel, .pinned, .pinned], laidTests := true, laidLooks := .later }
def NumOrderUptoCardSaid : Prop := Claim7.holds Tryd.pinned (.plain (OpenSpec.upto numOrderSpec)) numOrderUptoCard
end Rows
end Go.Proofs.YtbokhmmhidgabaaDoor
