/-
  DERIVED. GIVEN WITH THE SEED: THE CARDS: each row of YtkebohhogpenkaaGreatDoorRows.lean that lists a variable, with what it lists TIED to the program's text (the seventh form; the later family's looks); each row that meets fmt, with fmt's text TOLD by the authors' own Lean function (tested against real Go, not proved from fmt's source: count such statements apart). THE CARD IS WHAT COUNTS. Prove the row's statement (the work); the ties are given (YtkebohhogpenkaaGreatDoorTie.lean); close each card by the builder's one call (the guide's Derived/Test/ToyasCard.lean, 'card_holds'). Laid BY PROGRAM, IN A SANDBOX (cutbox-door.mjs). By AI agents, Wed Nov 11 2026. No macro, syntax, notation, axiom, sorry.
-/
import Derived.Test.YtkebohhogpenkaaGreatDoorRows
import GoSem.ClaimSeven
namespace Go.Proofs.YtkebohhogpenkaaGreatDoor
namespace Rows

/-- THE TIED CARD OF 'hexaplalaw17.InkparenPrints'. -/
def inkparenPrintsCard : Claim7 := { stood := { row := inkparenPrintsRow, standIns := [], harness := (true, "42bbf1bbdb14d6edacc894bcac251483e7b562d6b33cdec79819ffd8ffc1b236"), looks := true }, kinds := [], alts := [], laidByText := true, laidKinds := [.data, .data, .data, .data, .sentinel, .sentinel, .pinned, .pinned], laidTests := true, laidLooks := .later }
def InkparenPrintsCardSaid : Prop := Claim7.holds Tryz.pinned (.plain (OpenSpec.ofChange inkparenPrintsSpec)) inkparenPrintsCard

/-- THE TIED CARD OF 'hexaplalaw17.InkparenApart'. -/
def inkparenApartCard : Claim7 := { stood := { row := inkparenApartRow, standIns := [], harness := (true, "42bbf1bbdb14d6edacc894bcac251483e7b562d6b33cdec79819ffd8ffc1b236"), looks := true }, kinds := [], alts := [], laidByText := true, laidKinds := [.data, .data, .data, .data, .sentinel, .sentinel, .pinned, .pinned], laidTests := true, laidLooks := .later }
def InkparenApartCardSaid : Prop := Claim7.holds Tryz.pinned (.plain (OpenSpec.ofChange inkparenApartSpec)) inkparenApartCard

/-- THE TIED CARD OF 'hexaplalaw17.InkparenStays'. -/
def inkparenStaysCard : Claim7 := { stood := { row := inkparenStaysRow, standIns := [], harness := (true, "42bbf1bbdb14d6edacc894bcac251483e7b562d6b33cdec79819ffd8ffc1b236"), looks := true }, kinds := [], alts := [], laidByText := true, laidKinds := [.data, .data, .data, .data, .sentinel, .sentinel, .pinned, .pinned], laidTests := true, laidLooks := .later }
def InkparenStaysCardSaid : Prop := Claim7.holds Tryz.pinned (.plain (OpenSpec.ofChange inkparenStaysSpec)) inkparenStaysCard

/-- THE TIED CARD OF 'hexaplalaw16.InkbracePrints'. -/
def inkbracePrintsCard : Claim7 := { stood := { row := inkbracePrintsRow, standIns := [], harness := (true, "42bbf1bbdb14d6edacc894bcac251483e7b562d6b33cdec79819ffd8ffc1b236"), looks := true }, kinds := [], alts := [], laidByText := true, laidKinds := [.data, .data, .data, .data, .sentinel, .sentinel, .pinned, .pinned], laidTests := true, laidLooks := .later }
def InkbracePrintsCardSaid : Prop := Claim7.holds Tryz.pinned (.plain (OpenSpec.ofChange inkbracePrintsSpec)) inkbracePrintsCard

/-- THE TIED CARD OF 'hexaplalaw16.InkbraceApart'. -/
def inkbraceApartCard : Claim7 := { stood := { row := inkbraceApartRow, standIns := [], harness := (true, "42bbf1bbdb14d6edacc894bcac251483e7b562d6b33cdec79819ffd8ffc1b236"), looks := true }, kinds := [], alts := [], laidByText := true, laidKinds := [.data, .data, .data, .data, .sentinel, .sentinel, .pinned, .pinned], laidTests := true, laidLooks := .later }
def InkbraceApartCardSaid : Prop := Claim7.holds Tryz.pinned (.plain (OpenSpec.ofChange inkbraceApartSpec)) inkbraceApartCard

/-- THE TIED CARD OF 'hexaplalaw16.InkbraceStays'. -/
def inkbraceStaysCard : Claim7 := { stood := { row := inkbraceStaysRow, standIns := [], harness := (true, "42bbf1bbdb14d6edacc894bcac251483e7b562d6b33cdec79819ffd8ffc1b236"), looks := true }, kinds := [], alts := [], laidByText := true, laidKinds := [.data, .data, .data, .data, .sentinel, .sentinel, .pinned, .pinned], laidTests := true, laidLooks := .later }
def InkbraceStaysCardSaid : Prop := Claim7.holds Tryz.pinned (.plain (OpenSpec.ofChange inkbraceStaysSpec)) inkbraceStaysCard

/-- THE TIED CARD OF 'hexaplalaw15.CarryOf'. -/
def carryOfCard : Claim7 := { stood := { row := carryOfRow, standIns := [], harness := (true, "42bbf1bbdb14d6edacc894bcac251483e7b562d6b33cdec79819ffd8ffc1b236"), looks := true }, kinds := [], alts := [], laidByText := true, laidKinds := [.data, .data, .data, .data, .sentinel, .sentinel, .pinned, .pinned], laidTests := true, laidLooks := .later }
def CarryOfCardSaid : Prop := Claim7.holds Tryz.pinned (.plain (OpenSpec.ofChange carryOfSpec)) carryOfCard

/-- THE TIED CARD OF 'hexaplalaw15.CarryAll'. -/
def carryAllCard : Claim7 := { stood := { row := carryAllRow, standIns := [], harness := (true, "42bbf1bbdb14d6edacc894bcac251483e7b562d6b33cdec79819ffd8ffc1b236"), looks := true }, kinds := [], alts := [], laidByText := true, laidKinds := [.data, .data, .data, .data, .sentinel, .sentinel, .pinned, .pinned], laidTests := true, laidLooks := .later }
def CarryAllCardSaid : Prop := Claim7.holds Tryz.pinned (.plain (OpenSpec.ofChange carryAllSpec)) carryAllCard

/-- THE TIED CARD OF 'hexaplalaw15.CarryWords'. -/
def carryWordsCard : Claim7 := { stood := { row := carryWordsRow, standIns := [], harness := (true, "42bbf1bbdb14d6edacc894bcac251483e7b562d6b33cdec79819ffd8ffc1b236"), looks := true }, kinds := [], alts := [], laidByText := true, laidKinds := [.data, .data, .data, .data, .sentinel, .sentinel, .pinned, .pinned], laidTests := true, laidLooks := .later }
def CarryWordsCardSaid : Prop := Claim7.holds Tryz.pinned (.plain (OpenSpec.ofChange carryWordsSpec)) carryWordsCard

/-- THE TIED CARD OF 'hexaplalaw15.CarryRows'. -/
def carryRowsCard : Claim7 := { stood := { row := carryRowsRow, standIns := [], harness := (true, "42bbf1bbdb14d6edacc894bcac251483e7b562d6b33cdec79819ffd8ffc1b236"), looks := true }, kinds := [], alts := [], laidByText := true, laidKinds := [.data, .data, .data, .data, .sentinel, .sentinel, .pinned, .pinned], laidTests := true, laidLooks := .later }
def CarryRowsCardSaid : Prop := Claim7.holds Tryz.pinned (.plain (OpenSpec.ofChange carryRowsSpec)) carryRowsCard

/-- THE SECOND FORM's CARD OF 'hexaplalaw17.InkparenPrints'. -/
def inkparenPrintsUptoCard : Claim7 := { stood := { row := inkparenPrintsUptoRow, standIns := [], harness := (true, "42bbf1bbdb14d6edacc894bcac251483e7b562d6b33cdec79819ffd8ffc1b236"), looks := true }, kinds := [], alts := [], laidByText := true, laidKinds := [.data, .data, .data, .data, .sentinel, .sentinel, .pinned, .pinned], laidTests := true, laidLooks := .later }
def InkparenPrintsUptoCardSaid : Prop := Claim7.holds Tryz.pinned (.plain (OpenSpec.upto inkparenPrintsSpec)) inkparenPrintsUptoCard

/-- THE SECOND FORM's CARD OF 'hexaplalaw17.InkparenApart'. -/
def inkparenApartUptoCard : Claim7 := { stood := { row := inkparenApartUptoRow, standIns := [], harness := (true, "42bbf1bbdb14d6edacc894bcac251483e7b562d6b33cdec79819ffd8ffc1b236"), looks := true }, kinds := [], alts := [], laidByText := true, laidKinds := [.data, .data, .data, .data, .sentinel, .sentinel, .pinned, .pinned], laidTests := true, laidLooks := .later }
def InkparenApartUptoCardSaid : Prop := Claim7.holds Tryz.pinned (.plain (OpenSpec.upto inkparenApartSpec)) inkparenApartUptoCard

/-- THE SECOND FORM's CARD OF 'hexaplalaw17.InkparenStays'. -/
def inkparenStaysUptoCard : Claim7 := { stood := { row := inkparenStaysUptoRow, standIns := [], harness := (true, "42bbf1bbdb14d6edacc894bcac251483e7b562d6b33cdec79819ffd8ffc1b236"), looks := true }, kinds := [], alts := [], laidByText := true, laidKinds := [.data, .data, .data, .data, .sentinel, .sentinel, .pinned, .pinned], laidTests := true, laidLooks := .later }
def InkparenStaysUptoCardSaid : Prop := Claim7.holds Tryz.pinned (.plain (OpenSpec.upto inkparenStaysSpec)) inkparenStaysUptoCard

/-- THE SECOND FORM's CARD OF 'hexaplalaw16.InkbracePrints'. -/
def inkbracePrintsUptoCard : Claim7 := { stood := { row := inkbracePrintsUptoRow, standIns := [], harness := (true, "42bbf1bbdb14d6edacc894bcac251483e7b562d6b33cdec79819ffd8ffc1b236"), looks := true }, kinds := [], alts := [], laidByText := true, laidKinds := [.data, .data, .data, .data, .sentinel, .sentinel, .pinned, .pinned], laidTests := true, laidLooks := .later }
def InkbracePrintsUptoCardSaid : Prop := Claim7.holds Tryz.pinned (.plain (OpenSpec.upto inkbracePrintsSpec)) inkbracePrintsUptoCard

/-- THE SECOND FORM's CARD OF 'hexaplalaw16.InkbraceApart'. -/
def inkbraceApartUptoCard : Claim7 := { stood := { row := inkbraceApartUptoRow, standIns := [], harness := (true, "42bbf1bbdb14d6edacc894bcac251483e7b562d6b33cdec79819ffd8ffc1b236"), looks := true }, kinds := [], alts := [], laidByText := true, laidKinds := [.data, .data, .data, .data, .sentinel, .sentinel, .pinned, .pinned], laidTests := true, laidLooks := .later }
def InkbraceApartUptoCardSaid : Prop := Claim7.holds Tryz.pinned (.plain (OpenSpec.upto inkbraceApartSpec)) inkbraceApartUptoCard

/-- THE SECOND FORM's CARD OF 'hexaplalaw16.InkbraceStays'. -/
def inkbraceStaysUptoCard : Claim7 := { stood := { row := inkbraceStaysUptoRow, standIns := [], harness := (true, "42bbf1bbdb14d6edacc894bcac251483e7b562d6b33cdec79819ffd8ffc1b236"), looks := true }, kinds := [], alts := [], laidByText := true, laidKinds := [.data, .data, .data, .data, .sentinel, .sentinel, .pinned, .pinned], laidTests := true, laidLooks := .later }
def InkbraceStaysUptoCardSaid : Prop := Claim7.holds Tryz.pinned (.plain (OpenSpec.upto inkbraceStaysSpec)) inkbraceStaysUptoCard

/-- THE SECOND FORM's CARD OF 'hexaplalaw15.CarryOf'. -/
def carryOfUptoCard : Claim7 := { stood := { row := carryOfUptoRow, standIns := [], harness := (true, "42bbf1bbdb14d6edacc894bcac251483e7b562d6b33cdec79819ffd8ffc1b236"), looks := true }, kinds := [], alts := [], laidByText := true, laidKinds := [.data, .data, .data, .data, .sentinel, .sentinel, .pinned, .pinned], laidTests := true, laidLooks := .later }
def CarryOfUptoCardSaid : Prop := Claim7.holds Tryz.pinned (.plain (OpenSpec.upto carryOfSpec)) carryOfUptoCard

/-- THE SECOND FORM's CARD OF 'hexaplalaw15.CarryAll'. -/
def carryAllUptoCard : Claim7 := { stood := { row := carryAllUptoRow, standIns := [], harness := (true, "42bbf1bbdb14d6edacc894bcac251483e7b562d6b33cdec79819ffd8ffc1b236"), looks := true }, kinds := [], alts := [], laidByText := true, laidKinds := [.data, .data, .data, .data, .sentinel, .sentinel, .pinned, .pinned], laidTests := true, laidLooks := .later }
def CarryAllUptoCardSaid : Prop := Claim7.holds Tryz.pinned (.plain (OpenSpec.upto carryAllSpec)) carryAllUptoCard

/-- THE SECOND FORM's CARD OF 'hexaplalaw15.CarryWords'. -/
def carryWordsUptoCard : Claim7 := { stood := { row := carryWordsUptoRow, standIns := [], harness := (true, "42bbf1bbdb14d6edacc894bcac251483e7b562d6b33cdec79819ffd8ffc1b236"), looks := true }, kinds := [], alts := [], laidByText := true, laidKinds := [.data, .data, .data, .data, .sentinel, .sentinel, .pinned, .pinned], laidTests := true, laidLooks := .later }
def CarryWordsUptoCardSaid : Prop := Claim7.holds Tryz.pinned (.plain (OpenSpec.upto carryWordsSpec)) carryWordsUptoCard

/-- THE SECOND FORM's CARD OF 'hexaplalaw15.CarryRows'. -/
def carryRowsUptoCard : Claim7 := { stood := { row := carryRowsUptoRow, standIns := [], harness := (true, "42bbf1bbdb14d6edacc894bcac251483e7b562d6b33cdec79819ffd8ffc1b236"), looks := true }, kinds := [], alts := [], laidByText := true, laidKinds := [.data, .data, .data, .data, .sentinel, .sentinel, .pinned, .pinned], laidTests := true, laidLooks := .later }
def CarryRowsUptoCardSaid : Prop := Claim7.holds Tryz.pinned (.plain (OpenSpec.upto carryRowsSpec)) carryRowsUptoCard
end Rows
end Go.Proofs.YtkebohhogpenkaaGreatDoor
