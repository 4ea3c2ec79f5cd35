/-
  DERIVED. GIVEN WITH THE SEED: THE CARDS: each row of YtmniblcooficgaaGreatDoorRows.lean that lists a variable, with what it lists TIED to the program's text (the seventh form; the later family's looks); each row that meets fmt, with fmt's text TOLD by the authors' own Lean function (tested against real Go, not proved from fmt's source: count such statements apart). THE CARD IS WHAT COUNTS. Prove the row's statement (the work); the ties are given (YtmniblcooficgaaGreatDoorTie.lean); close each card by the builder's one call (the guide's Derived/Test/ToyasCard.lean, 'card_holds'). Laid BY PROGRAM, IN A SANDBOX (cutbox-door.mjs). By AI agents, Wed Nov 11 2026. No macro, syntax, notation, axiom, sorry.
-/
import Derived.Test.YtmniblcooficgaaGreatDoorRows
import GoSem.ClaimSeven
namespace Go.Proofs.YtmniblcooficgaaGreatDoor
namespace Rows

/-- THE TIED CARD OF 'hexaplalaw15.CarryOf'. -/
def carryOfCard : Claim7 := { stood := { row := carryOfRow, standIns := [], harness := (true, "c379c6195d99797c4a18433e0e9c5402e7535ba24bd3d39c5671807c39e55fdd"), looks := true }, kinds := [], alts := [], laidByText := true, laidKinds := [.data, .data, .data, .data, .sentinel, .sentinel, .pinned, .pinned], laidTests := true, laidLooks := .later }
def CarryOfCardSaid : Prop := Claim7.holds Tryz.pinned (.plain (OpenSpec.ofChange carryOfSpec)) carryOfCard

/-- THE TIED CARD OF 'hexaplalaw15.CarryAll'. -/
def carryAllCard : Claim7 := { stood := { row := carryAllRow, standIns := [], harness := (true, "c379c6195d99797c4a18433e0e9c5402e7535ba24bd3d39c5671807c39e55fdd"), looks := true }, kinds := [], alts := [], laidByText := true, laidKinds := [.data, .data, .data, .data, .sentinel, .sentinel, .pinned, .pinned], laidTests := true, laidLooks := .later }
def CarryAllCardSaid : Prop := Claim7.holds Tryz.pinned (.plain (OpenSpec.ofChange carryAllSpec)) carryAllCard

/-- THE SECOND FORM's CARD OF 'hexaplalaw15.CarryOf'. -/
def carryOfUptoCard : Claim7 := { stood := { row := carryOfUptoRow, standIns := [], harness := (true, "c379c6195d99797c4a18433e0e9c5402e7535ba24bd3d39c5671807c39e55fdd"), looks := true }, kinds := [], alts := [], laidByText := true, laidKinds := [.data, .data, .data, .data, .sentinel, .sentinel, .pinned, .pinned], laidTests := true, laidLooks := .later }
def CarryOfUptoCardSaid : Prop := Claim7.holds Tryz.pinned (.plain (OpenSpec.upto carryOfSpec)) carryOfUptoCard

/-- THE SECOND FORM's CARD OF 'hexaplalaw15.CarryAll'. -/
def carryAllUptoCard : Claim7 := { stood := { row := carryAllUptoRow, standIns := [], harness := (true, "c379c6195d99797c4a18433e0e9c5402e7535ba24bd3d39c5671807c39e55fdd"), looks := true }, kinds := [], alts := [], laidByText := true, laidKinds := [.data, .data, .data, .data, .sentinel, .sentinel, .pinned, .pinned], laidTests := true, laidLooks := .later }
def CarryAllUptoCardSaid : Prop := Claim7.holds Tryz.pinned (.plain (OpenSpec.upto carryAllSpec)) carryAllUptoCard
end Rows
end Go.Proofs.YtmniblcooficgaaGreatDoor
