/-
  DERIVED. GIVEN WITH THE SEED: THE CARDS: each row of YtgipodgcenkckaaGreatDoorRows.lean that lists a variable, with what it lists TIED to the program's text (the seventh form; the later family's looks); each row that meets fmt, with fmt's text TOLD by the authors' own Lean function (tested against real Go, not proved from fmt's source: count such statements apart). THE CARD IS WHAT COUNTS. Prove the row's statement (the work); the ties are given (YtgipodgcenkckaaGreatDoorTie.lean); close each card by the builder's one call (the guide's Derived/Test/ToyasCard.lean, 'card_holds'). Laid BY PROGRAM, IN A SANDBOX (cutbox-door.mjs). By AI agents, Wed Nov 11 2026. No macro, syntax, notation, axiom, sorry.
-/
import Derived.Test.YtgipodgcenkckaaGreatDoorRows
import GoSem.ClaimSeven
namespace Go.Proofs.YtgipodgcenkckaaGreatDoor
namespace Rows

/-- THE TIED CARD OF 'hexaplalaw05.EventsSteps'. -/
def eventsStepsCard : Claim7 := { stood := { row := eventsStepsRow, standIns := [], harness := (true, "6a3803744a8fa905f2c2c3caea9f660f58f7697f831692cee555fbde1c840b60"), looks := true }, kinds := [], alts := [], laidByText := true, laidKinds := [.data, .data, .data, .data, .sentinel, .sentinel, .pinned, .pinned], laidTests := true, laidLooks := .later }
def EventsStepsCardSaid : Prop := Claim7.holds Tryz.pinned (.plain (OpenSpec.ofChange eventsStepsSpec)) eventsStepsCard

/-- THE TIED CARD OF 'hexaplalaw05.EventsDepth'. -/
def eventsDepthCard : Claim7 := { stood := { row := eventsDepthRow, standIns := [], harness := (true, "6a3803744a8fa905f2c2c3caea9f660f58f7697f831692cee555fbde1c840b60"), looks := true }, kinds := [], alts := [], laidByText := true, laidKinds := [.data, .data, .data, .data, .sentinel, .sentinel, .pinned, .pinned], laidTests := true, laidLooks := .later }
def EventsDepthCardSaid : Prop := Claim7.holds Tryz.pinned (.plain (OpenSpec.ofChange eventsDepthSpec)) eventsDepthCard

/-- THE TIED CARD OF 'hexaplalaw05.EventsWhole'. -/
def eventsWholeCard : Claim7 := { stood := { row := eventsWholeRow, standIns := [], harness := (true, "6a3803744a8fa905f2c2c3caea9f660f58f7697f831692cee555fbde1c840b60"), looks := true }, kinds := [], alts := [], laidByText := true, laidKinds := [.data, .data, .data, .data, .sentinel, .sentinel, .pinned, .pinned], laidTests := true, laidLooks := .later }
def EventsWholeCardSaid : Prop := Claim7.holds Tryz.pinned (.plain (OpenSpec.ofChange eventsWholeSpec)) eventsWholeCard

/-- THE TIED CARD OF 'hexaplalaw05.EventsGoes'. -/
def eventsGoesCard : Claim7 := { stood := { row := eventsGoesRow, standIns := [], harness := (true, "6a3803744a8fa905f2c2c3caea9f660f58f7697f831692cee555fbde1c840b60"), looks := true }, kinds := [], alts := [], laidByText := true, laidKinds := [.data, .data, .data, .data, .sentinel, .sentinel, .pinned, .pinned], laidTests := true, laidLooks := .later }
def EventsGoesCardSaid : Prop := Claim7.holds Tryz.pinned (.plain (OpenSpec.ofChange eventsGoesSpec)) eventsGoesCard

/-- THE TIED CARD OF 'hexaplalaw05.EventsBegins'. -/
def eventsBeginsCard : Claim7 := { stood := { row := eventsBeginsRow, standIns := [], harness := (true, "6a3803744a8fa905f2c2c3caea9f660f58f7697f831692cee555fbde1c840b60"), looks := true }, kinds := [], alts := [], laidByText := true, laidKinds := [.data, .data, .data, .data, .sentinel, .sentinel, .pinned, .pinned], laidTests := true, laidLooks := .later }
def EventsBeginsCardSaid : Prop := Claim7.holds Tryz.pinned (.plain (OpenSpec.ofChange eventsBeginsSpec)) eventsBeginsCard

/-- THE SECOND FORM's CARD OF 'hexaplalaw05.EventsSteps'. -/
def eventsStepsUptoCard : Claim7 := { stood := { row := eventsStepsUptoRow, standIns := [], harness := (true, "6a3803744a8fa905f2c2c3caea9f660f58f7697f831692cee555fbde1c840b60"), looks := true }, kinds := [], alts := [], laidByText := true, laidKinds := [.data, .data, .data, .data, .sentinel, .sentinel, .pinned, .pinned], laidTests := true, laidLooks := .later }
def EventsStepsUptoCardSaid : Prop := Claim7.holds Tryz.pinned (.plain (OpenSpec.upto eventsStepsSpec)) eventsStepsUptoCard

/-- THE SECOND FORM's CARD OF 'hexaplalaw05.EventsDepth'. -/
def eventsDepthUptoCard : Claim7 := { stood := { row := eventsDepthUptoRow, standIns := [], harness := (true, "6a3803744a8fa905f2c2c3caea9f660f58f7697f831692cee555fbde1c840b60"), looks := true }, kinds := [], alts := [], laidByText := true, laidKinds := [.data, .data, .data, .data, .sentinel, .sentinel, .pinned, .pinned], laidTests := true, laidLooks := .later }
def EventsDepthUptoCardSaid : Prop := Claim7.holds Tryz.pinned (.plain (OpenSpec.upto eventsDepthSpec)) eventsDepthUptoCard

/-- THE SECOND FORM's CARD OF 'hexaplalaw05.EventsWhole'. -/
def eventsWholeUptoCard : Claim7 := { stood := { row := eventsWholeUptoRow, standIns := [], harness := (true, "6a3803744a8fa905f2c2c3caea9f660f58f7697f831692cee555fbde1c840b60"), looks := true }, kinds := [], alts := [], laidByText := true, laidKinds := [.data, .data, .data, .data, .sentinel, .sentinel, .pinned, .pinned], laidTests := true, laidLooks := .later }
def EventsWholeUptoCardSaid : Prop := Claim7.holds Tryz.pinned (.plain (OpenSpec.upto eventsWholeSpec)) eventsWholeUptoCard

/-- THE SECOND FORM's CARD OF 'hexaplalaw05.EventsGoes'. -/
def eventsGoesUptoCard : Claim7 := { stood := { row := eventsGoesUptoRow, standIns := [], harness := (true, "6a3803744a8fa905f2c2c3caea9f660f58f7697f831692cee555fbde1c840b60"), looks := true }, kinds := [], alts := [], laidByText := true, laidKinds := [.data, .data, .data, .data, .sentinel, .sentinel, .pinned, .pinned], laidTests := true, laidLooks := .later }
def EventsGoesUptoCardSaid : Prop := Claim7.holds Tryz.pinned (.plain (OpenSpec.upto eventsGoesSpec)) eventsGoesUptoCard

/-- THE SECOND FORM's CARD OF 'hexaplalaw05.EventsBegins'. -/
def eventsBeginsUptoCard : Claim7 := { stood := { row := eventsBeginsUptoRow, standIns := [], harness := (true, "6a3803744a8fa905f2c2c3caea9f660f58f7697f831692cee555fbde1c840b60"), looks := true }, kinds := [], alts := [], laidByText := true, laidKinds := [.data, .data, .data, .data, .sentinel, .sentinel, .pinned, .pinned], laidTests := true, laidLooks := .later }
def EventsBeginsUptoCardSaid : Prop := Claim7.holds Tryz.pinned (.plain (OpenSpec.upto eventsBeginsSpec)) eventsBeginsUptoCard
end Rows
end Go.Proofs.YtgipodgcenkckaaGreatDoor
