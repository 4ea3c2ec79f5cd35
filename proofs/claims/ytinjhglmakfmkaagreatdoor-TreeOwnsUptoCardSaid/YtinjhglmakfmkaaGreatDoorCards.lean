/-
  DERIVED. GIVEN WITH THE SEED: THE CARDS: each row of YtinjhglmakfmkaaGreatDoorRows.lean that lists a variable, with what it lists TIED to the program's text (the seventh form; the later family's looks); each row that meets fmt, with fmt's text TOLD by the authors' own Lean function (tested against real Go, not proved from fmt's source: count such statements apart). THE CARD IS WHAT COUNTS. Prove the row's statement (the work); the ties are given (YtinjhglmakfmkaaGreatDoorTie.lean); close each card by the builder's one call (the guide's Derived/Test/ToyasCard.lean, 'card_holds'). Laid BY PROGRAM, IN A SANDBOX (cutbox-door.mjs). By AI agents, Wed Nov 11 2026. No macro, syntax, notation, axiom, sorry.
-/
import Derived.Test.YtinjhglmakfmkaaGreatDoorRows
import GoSem.ClaimSeven
namespace Go.Proofs.YtinjhglmakfmkaaGreatDoor
namespace Rows

/-- THE TIED CARD OF 'hexaplalaw05.EventsSteps'. -/
def eventsStepsCard : Claim7 := { stood := { row := eventsStepsRow, standIns := [], harness := (true, "56f9ae597669bb51ce347436a799fabbaa6b0ec3e52927eaa266adc4a1bf1018"), looks := true }, kinds := [], alts := [], laidByText := true, laidKinds := [.data, .data, .data, .data, .sentinel, .sentinel, .pinned, .pinned], laidTests := true, laidLooks := .later }
def EventsStepsCardSaid : Prop := Claim7.holds Tryz.pinned (.plain (OpenSpec.ofChange eventsStepsSpec)) eventsStepsCard

/-- THE TIED CARD OF 'hexaplalaw05.EventsWhole'. -/
def eventsWholeCard : Claim7 := { stood := { row := eventsWholeRow, standIns := [], harness := (true, "56f9ae597669bb51ce347436a799fabbaa6b0ec3e52927eaa266adc4a1bf1018"), looks := true }, kinds := [], alts := [], laidByText := true, laidKinds := [.data, .data, .data, .data, .sentinel, .sentinel, .pinned, .pinned], laidTests := true, laidLooks := .later }
def EventsWholeCardSaid : Prop := Claim7.holds Tryz.pinned (.plain (OpenSpec.ofChange eventsWholeSpec)) eventsWholeCard

/-- THE TIED CARD OF 'hexaplalaw06.TreeWalks'. -/
def treeWalksCard : Claim7 := { stood := { row := treeWalksRow, standIns := [], harness := (true, "56f9ae597669bb51ce347436a799fabbaa6b0ec3e52927eaa266adc4a1bf1018"), looks := true }, kinds := [], alts := [], laidByText := true, laidKinds := [.data, .data, .data, .data, .sentinel, .sentinel, .pinned, .pinned], laidTests := true, laidLooks := .later }
def TreeWalksCardSaid : Prop := Claim7.holds Tryz.pinned (.plain (OpenSpec.ofChange treeWalksSpec)) treeWalksCard

/-- THE TIED CARD OF 'hexaplalaw06.TreeBuilds'. -/
def treeBuildsCard : Claim7 := { stood := { row := treeBuildsRow, standIns := [], harness := (true, "56f9ae597669bb51ce347436a799fabbaa6b0ec3e52927eaa266adc4a1bf1018"), looks := true }, kinds := [], alts := [], laidByText := true, laidKinds := [.data, .data, .data, .data, .sentinel, .sentinel, .pinned, .pinned], laidTests := true, laidLooks := .later }
def TreeBuildsCardSaid : Prop := Claim7.holds Tryz.pinned (.plain (OpenSpec.ofChange treeBuildsSpec)) treeBuildsCard

/-- THE TIED CARD OF 'hexaplalaw06.TreeRound'. -/
def treeRoundCard : Claim7 := { stood := { row := treeRoundRow, standIns := [], harness := (true, "56f9ae597669bb51ce347436a799fabbaa6b0ec3e52927eaa266adc4a1bf1018"), looks := true }, kinds := [], alts := [], laidByText := true, laidKinds := [.data, .data, .data, .data, .sentinel, .sentinel, .pinned, .pinned], laidTests := true, laidLooks := .later }
def TreeRoundCardSaid : Prop := Claim7.holds Tryz.pinned (.plain (OpenSpec.ofChange treeRoundSpec)) treeRoundCard

/-- THE TIED CARD OF 'hexaplalaw06.TreeBack'. -/
def treeBackCard : Claim7 := { stood := { row := treeBackRow, standIns := [], harness := (true, "56f9ae597669bb51ce347436a799fabbaa6b0ec3e52927eaa266adc4a1bf1018"), looks := true }, kinds := [], alts := [], laidByText := true, laidKinds := [.data, .data, .data, .data, .sentinel, .sentinel, .pinned, .pinned], laidTests := true, laidLooks := .later }
def TreeBackCardSaid : Prop := Claim7.holds Tryz.pinned (.plain (OpenSpec.ofChange treeBackSpec)) treeBackCard

/-- THE TIED CARD OF 'hexaplalaw06.TreeSame'. -/
def treeSameCard : Claim7 := { stood := { row := treeSameRow, standIns := [], harness := (true, "56f9ae597669bb51ce347436a799fabbaa6b0ec3e52927eaa266adc4a1bf1018"), looks := true }, kinds := [], alts := [], laidByText := true, laidKinds := [.data, .data, .data, .data, .sentinel, .sentinel, .pinned, .pinned], laidTests := true, laidLooks := .later }
def TreeSameCardSaid : Prop := Claim7.holds Tryz.pinned (.plain (OpenSpec.ofChange treeSameSpec)) treeSameCard

/-- THE TIED CARD OF 'hexaplalaw06.TreePlaces'. -/
def treePlacesCard : Claim7 := { stood := { row := treePlacesRow, standIns := [], harness := (true, "56f9ae597669bb51ce347436a799fabbaa6b0ec3e52927eaa266adc4a1bf1018"), looks := true }, kinds := [], alts := [], laidByText := true, laidKinds := [.data, .data, .data, .data, .sentinel, .sentinel, .pinned, .pinned], laidTests := true, laidLooks := .later }
def TreePlacesCardSaid : Prop := Claim7.holds Tryz.pinned (.plain (OpenSpec.ofChange treePlacesSpec)) treePlacesCard

/-- THE TIED CARD OF 'hexaplalaw06.TreeOwns'. -/
def treeOwnsCard : Claim7 := { stood := { row := treeOwnsRow, standIns := [], harness := (true, "56f9ae597669bb51ce347436a799fabbaa6b0ec3e52927eaa266adc4a1bf1018"), looks := true }, kinds := [], alts := [], laidByText := true, laidKinds := [.data, .data, .data, .data, .sentinel, .sentinel, .pinned, .pinned], laidTests := true, laidLooks := .later }
def TreeOwnsCardSaid : Prop := Claim7.holds Tryz.pinned (.plain (OpenSpec.ofChange treeOwnsSpec)) treeOwnsCard

/-- THE TIED CARD OF 'hexaplalaw06.TreeApart'. -/
def treeApartCard : Claim7 := { stood := { row := treeApartRow, standIns := [], harness := (true, "56f9ae597669bb51ce347436a799fabbaa6b0ec3e52927eaa266adc4a1bf1018"), looks := true }, kinds := [], alts := [], laidByText := true, laidKinds := [.data, .data, .data, .data, .sentinel, .sentinel, .pinned, .pinned], laidTests := true, laidLooks := .later }
def TreeApartCardSaid : Prop := Claim7.holds Tryz.pinned (.plain (OpenSpec.ofChange treeApartSpec)) treeApartCard

/-- THE SECOND FORM's CARD OF 'hexaplalaw05.EventsSteps'. -/
def eventsStepsUptoCard : Claim7 := { stood := { row := eventsStepsUptoRow, standIns := [], harness := (true, "56f9ae597669bb51ce347436a799fabbaa6b0ec3e52927eaa266adc4a1bf1018"), looks := true }, kinds := [], alts := [], laidByText := true, laidKinds := [.data, .data, .data, .data, .sentinel, .sentinel, .pinned, .pinned], laidTests := true, laidLooks := .later }
def EventsStepsUptoCardSaid : Prop := Claim7.holds Tryz.pinned (.plain (OpenSpec.upto eventsStepsSpec)) eventsStepsUptoCard

/-- THE SECOND FORM's CARD OF 'hexaplalaw05.EventsWhole'. -/
def eventsWholeUptoCard : Claim7 := { stood := { row := eventsWholeUptoRow, standIns := [], harness := (true, "56f9ae597669bb51ce347436a799fabbaa6b0ec3e52927eaa266adc4a1bf1018"), looks := true }, kinds := [], alts := [], laidByText := true, laidKinds := [.data, .data, .data, .data, .sentinel, .sentinel, .pinned, .pinned], laidTests := true, laidLooks := .later }
def EventsWholeUptoCardSaid : Prop := Claim7.holds Tryz.pinned (.plain (OpenSpec.upto eventsWholeSpec)) eventsWholeUptoCard

/-- THE SECOND FORM's CARD OF 'hexaplalaw06.TreeWalks'. -/
def treeWalksUptoCard : Claim7 := { stood := { row := treeWalksUptoRow, standIns := [], harness := (true, "56f9ae597669bb51ce347436a799fabbaa6b0ec3e52927eaa266adc4a1bf1018"), looks := true }, kinds := [], alts := [], laidByText := true, laidKinds := [.data, .data, .data, .data, .sentinel, .sentinel, .pinned, .pinned], laidTests := true, laidLooks := .later }
def TreeWalksUptoCardSaid : Prop := Claim7.holds Tryz.pinned (.plain (OpenSpec.upto treeWalksSpec)) treeWalksUptoCard

/-- THE SECOND FORM's CARD OF 'hexaplalaw06.TreeBuilds'. -/
def treeBuildsUptoCard : Claim7 := { stood := { row := treeBuildsUptoRow, standIns := [], harness := (true, "56f9ae597669bb51ce347436a799fabbaa6b0ec3e52927eaa266adc4a1bf1018"), looks := true }, kinds := [], alts := [], laidByText := true, laidKinds := [.data, .data, .data, .data, .sentinel, .sentinel, .pinned, .pinned], laidTests := true, laidLooks := .later }
def TreeBuildsUptoCardSaid : Prop := Claim7.holds Tryz.pinned (.plain (OpenSpec.upto treeBuildsSpec)) treeBuildsUptoCard

/-- THE SECOND FORM's CARD OF 'hexaplalaw06.TreeRound'. -/
def treeRoundUptoCard : Claim7 := { stood := { row := treeRoundUptoRow, standIns := [], harness := (true, "56f9ae597669bb51ce347436a799fabbaa6b0ec3e52927eaa266adc4a1bf1018"), looks := true }, kinds := [], alts := [], laidByText := true, laidKinds := [.data, .data, .data, .data, .sentinel, .sentinel, .pinned, .pinned], laidTests := true, laidLooks := .later }
def TreeRoundUptoCardSaid : Prop := Claim7.holds Tryz.pinned (.plain (OpenSpec.upto treeRoundSpec)) treeRoundUptoCard

/-- THE SECOND FORM's CARD OF 'hexaplalaw06.TreeBack'. -/
def treeBackUptoCard : Claim7 := { stood := { row := treeBackUptoRow, standIns := [], harness := (true, "56f9ae597669bb51ce347436a799fabbaa6b0ec3e52927eaa266adc4a1bf1018"), looks := true }, kinds := [], alts := [], laidByText := true, laidKinds := [.data, .data, .data, .data, .sentinel, .sentinel, .pinned, .pinned], laidTests := true, laidLooks := .later }
def TreeBackUptoCardSaid : Prop := Claim7.holds Tryz.pinned (.plain (OpenSpec.upto treeBackSpec)) treeBackUptoCard

/-- THE SECOND FORM's CARD OF 'hexaplalaw06.TreeSame'. -/
def treeSameUptoCard : Claim7 := { stood := { row := treeSameUptoRow, standIns := [], harness := (true, "56f9ae597669bb51ce347436a799fabbaa6b0ec3e52927eaa266adc4a1bf1018"), looks := true }, kinds := [], alts := [], laidByText := true, laidKinds := [.data, .data, .data, .data, .sentinel, .sentinel, .pinned, .pinned], laidTests := true, laidLooks := .later }
def TreeSameUptoCardSaid : Prop := Claim7.holds Tryz.pinned (.plain (OpenSpec.upto treeSameSpec)) treeSameUptoCard

/-- THE SECOND FORM's CARD OF 'hexaplalaw06.TreePlaces'. -/
def treePlacesUptoCard : Claim7 := { stood := { row := treePlacesUptoRow, standIns := [], harness := (true, "56f9ae597669bb51ce347436a799fabbaa6b0ec3e52927eaa266adc4a1bf1018"), looks := true }, kinds := [], alts := [], laidByText := true, laidKinds := [.data, .data, .data, .data, .sentinel, .sentinel, .pinned, .pinned], laidTests := true, laidLooks := .later }
def TreePlacesUptoCardSaid : Prop := Claim7.holds Tryz.pinned (.plain (OpenSpec.upto treePlacesSpec)) treePlacesUptoCard

/-- THE SECOND FORM's CARD OF 'hexaplalaw06.TreeOwns'. -/
def treeOwnsUptoCard : Claim7 := { stood := { row := treeOwnsUptoRow, standIns := [], harness := (true, "56f9ae597669bb51ce347436a799fabbaa6b0ec3e52927eaa266adc4a1bf1018"), looks := true }, kinds := [], alts := [], laidByText := true, laidKinds := [.data, .data, .data, .data, .sentinel, .sentinel, .pinned, .pinned], laidTests := true, laidLooks := .later }
def TreeOwnsUptoCardSaid : Prop := Claim7.holds Tryz.pinned (.plain (OpenSpec.upto treeOwnsSpec)) treeOwnsUptoCard

/-- THE SECOND FORM's CARD OF 'hexaplalaw06.TreeApart'. -/
def treeApartUptoCard : Claim7 := { stood := { row := treeApartUptoRow, standIns := [], harness := (true, "56f9ae597669bb51ce347436a799fabbaa6b0ec3e52927eaa266adc4a1bf1018"), looks := true }, kinds := [], alts := [], laidByText := true, laidKinds := [.data, .data, .data, .data, .sentinel, .sentinel, .pinned, .pinned], laidTests := true, laidLooks := .later }
def TreeApartUptoCardSaid : Prop := Claim7.holds Tryz.pinned (.plain (OpenSpec.upto treeApartSpec)) treeApartUptoCard
end Rows
end Go.Proofs.YtinjhglmakfmkaaGreatDoor
