/-
  DERIVED. GIVEN WITH THE SEED: THE CARDS: each row of YtbokhmmhidgabaaGreatDoorRows.lean that lists a variable, with what it lists TIED to the program's text (the seventh form; the later family's looks); each row that meets fmt, with fmt's text TOLD by the authors' own Lean function (tested against real Go, not proved from fmt's source: count such statements apart). THE CARD IS WHAT COUNTS. Prove the row's statement (the work); the ties are given (YtbokhmmhidgabaaGreatDoorTie.lean); close each card by the builder's one call (the guide's Derived/Test/ToyasCard.lean, 'card_holds'). Laid BY PROGRAM, IN A SANDBOX (cutbox-door.mjs). By AI agents, Wed Nov 11 2026. No macro, syntax, notation, axiom, sorry.
-/
import Derived.Test.YtbokhmmhidgabaaGreatDoorRows
import GoSem.ClaimSeven
namespace Go.Proofs.YtbokhmmhidgabaaGreatDoor
namespace Rows

/-- THE TIED CARD OF 'hexaplalaw02.NumReads'. -/
def numReadsCard : Claim7 := { stood := { row := numReadsRow, standIns := [], harness := (true, "7ad0d32ebdf875e60ed7ce85c1bec77ac4ca569bf1c1a08b553ae5ec478f9a09"), looks := true }, kinds := [], alts := [], laidByText := true, laidKinds := [.data, .data, .data, .data, .sentinel, .sentinel, .pinned, .pinned], laidTests := true, laidLooks := .later }
def NumReadsCardSaid : Prop := Claim7.holds Tryz.pinned (.plain (OpenSpec.ofChange numReadsSpec)) numReadsCard

/-- THE TIED CARD OF 'hexaplalaw02.NumCompares'. -/
def numComparesCard : Claim7 := { stood := { row := numComparesRow, standIns := [], harness := (true, "7ad0d32ebdf875e60ed7ce85c1bec77ac4ca569bf1c1a08b553ae5ec478f9a09"), looks := true }, kinds := [], alts := [], laidByText := true, laidKinds := [.data, .data, .data, .data, .sentinel, .sentinel, .pinned, .pinned], laidTests := true, laidLooks := .later }
def NumComparesCardSaid : Prop := Claim7.holds Tryz.pinned (.plain (OpenSpec.ofChange numComparesSpec)) numComparesCard

/-- THE SECOND FORM's CARD OF 'hexaplalaw02.NumReads'. -/
def numReadsUptoCard : Claim7 := { stood := { row := numReadsUptoRow, standIns := [], harness := (true, "7ad0d32ebdf875e60ed7ce85c1bec77ac4ca569bf1c1a08b553ae5ec478f9a09"), looks := true }, kinds := [], alts := [], laidByText := true, laidKinds := [.data, .data, .data, .data, .sentinel, .sentinel, .pinned, .pinned], laidTests := true, laidLooks := .later }
def NumReadsUptoCardSaid : Prop := Claim7.holds Tryz.pinned (.plain (OpenSpec.upto numReadsSpec)) numReadsUptoCard

/-- THE SECOND FORM's CARD OF 'hexaplalaw02.NumCompares'. -/
def numComparesUptoCard : Claim7 := { stood := { row := numComparesUptoRow, standIns := [], harness := (true, "7ad0d32ebdf875e60ed7ce85c1bec77ac4ca569bf1c1a08b553ae5ec478f9a09"), looks := true }, kinds := [], alts := [], laidByText := true, laidKinds := [.data, .data, .data, .data, .sentinel, .sentinel, .pinned, .pinned], laidTests := true, laidLooks := .later }
def NumComparesUptoCardSaid : Prop := Claim7.holds Tryz.pinned (.plain (OpenSpec.upto numComparesSpec)) numComparesUptoCard
end Rows
end Go.Proofs.YtbokhmmhidgabaaGreatDoor
