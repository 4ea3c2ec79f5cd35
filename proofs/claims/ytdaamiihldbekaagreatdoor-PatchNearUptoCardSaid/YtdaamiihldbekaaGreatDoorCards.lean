/-
  DERIVED. GIVEN WITH THE SEED: THE CARDS: each row of YtdaamiihldbekaaGreatDoorRows.lean that lists a variable, with what it lists TIED to the program's text (the seventh form; the later family's looks); each row that meets fmt, with fmt's text TOLD by the authors' own Lean function (tested against real Go, not proved from fmt's source: count such statements apart). THE CARD IS WHAT COUNTS. Prove the row's statement (the work); the ties are given (YtdaamiihldbekaaGreatDoorTie.lean); close each card by the builder's one call (the guide's Derived/Test/ToyasCard.lean, 'card_holds'). Laid BY PROGRAM, IN A SANDBOX (cutbox-door.mjs). By AI agents, Wed Nov 11 2026. No macro, syntax, notation, axiom, sorry.
-/
import Derived.Test.YtdaamiihldbekaaGreatDoorRows
import GoSem.ClaimSeven
namespace Go.Proofs.YtdaamiihldbekaaGreatDoor
namespace Rows

/-- THE TIED CARD OF 'hexaplalaw23.PatchPlays'. -/
def patchPlaysCard : Claim7 := { stood := { row := patchPlaysRow, standIns := [], harness := (true, "c9d8ef92a6fe7e170ddf8f9d332fbfbd0a42d326f7ac56db732fadd073a5a306"), looks := true }, kinds := [], alts := [], laidByText := true, laidKinds := [.data, .data, .data, .data, .sentinel, .sentinel, .pinned, .pinned], laidTests := true, laidLooks := .later }
def PatchPlaysCardSaid : Prop := Claim7.holds Tryz.pinned (.plain (OpenSpec.ofChange patchPlaysSpec)) patchPlaysCard

/-- THE TIED CARD OF 'hexaplalaw23.PatchDiffs'. -/
def patchDiffsCard : Claim7 := { stood := { row := patchDiffsRow, standIns := [], harness := (true, "c9d8ef92a6fe7e170ddf8f9d332fbfbd0a42d326f7ac56db732fadd073a5a306"), looks := true }, kinds := [], alts := [], laidByText := true, laidKinds := [.data, .data, .data, .data, .sentinel, .sentinel, .pinned, .pinned], laidTests := true, laidLooks := .later }
def PatchDiffsCardSaid : Prop := Claim7.holds Tryz.pinned (.plain (OpenSpec.ofChange patchDiffsSpec)) patchDiffsCard

/-- THE TIED CARD OF 'hexaplalaw23.PatchNone'. -/
def patchNoneCard : Claim7 := { stood := { row := patchNoneRow, standIns := [], harness := (true, "c9d8ef92a6fe7e170ddf8f9d332fbfbd0a42d326f7ac56db732fadd073a5a306"), looks := true }, kinds := [], alts := [], laidByText := true, laidKinds := [.data, .data, .data, .data, .sentinel, .sentinel, .pinned, .pinned], laidTests := true, laidLooks := .later }
def PatchNoneCardSaid : Prop := Claim7.holds Tryz.pinned (.plain (OpenSpec.ofChange patchNoneSpec)) patchNoneCard

/-- THE TIED CARD OF 'hexaplalaw23.PatchNear'. -/
def patchNearCard : Claim7 := { stood := { row := patchNearRow, standIns := [], harness := (true, "c9d8ef92a6fe7e170ddf8f9d332fbfbd0a42d326f7ac56db732fadd073a5a306"), looks := true }, kinds := [], alts := [], laidByText := true, laidKinds := [.data, .data, .data, .data, .sentinel, .sentinel, .pinned, .pinned], laidTests := true, laidLooks := .later }
def PatchNearCardSaid : Prop := Claim7.holds Tryz.pinned (.plain (OpenSpec.ofChange patchNearSpec)) patchNearCard

/-- THE TIED CARD OF 'hexaplalaw23.PatchAll'. -/
def patchAllCard : Claim7 := { stood := { row := patchAllRow, standIns := [], harness := (true, "c9d8ef92a6fe7e170ddf8f9d332fbfbd0a42d326f7ac56db732fadd073a5a306"), looks := true }, kinds := [], alts := [], laidByText := true, laidKinds := [.data, .data, .data, .data, .sentinel, .sentinel, .pinned, .pinned], laidTests := true, laidLooks := .later }
def PatchAllCardSaid : Prop := Claim7.holds Tryz.pinned (.plain (OpenSpec.ofChange patchAllSpec)) patchAllCard

/-- THE TIED CARD OF 'hexaplalaw23.PatchOwns'. -/
def patchOwnsCard : Claim7 := { stood := { row := patchOwnsRow, standIns := [], harness := (true, "c9d8ef92a6fe7e170ddf8f9d332fbfbd0a42d326f7ac56db732fadd073a5a306"), looks := true }, kinds := [], alts := [], laidByText := true, laidKinds := [.data, .data, .data, .data, .sentinel, .sentinel, .pinned, .pinned], laidTests := true, laidLooks := .later }
def PatchOwnsCardSaid : Prop := Claim7.holds Tryz.pinned (.plain (OpenSpec.ofChange patchOwnsSpec)) patchOwnsCard

/-- THE TIED CARD OF 'hexaplalaw15.CarryOf'. -/
def carryOfCard : Claim7 := { stood := { row := carryOfRow, standIns := [], harness := (true, "c9d8ef92a6fe7e170ddf8f9d332fbfbd0a42d326f7ac56db732fadd073a5a306"), looks := true }, kinds := [], alts := [], laidByText := true, laidKinds := [.data, .data, .data, .data, .sentinel, .sentinel, .pinned, .pinned], laidTests := true, laidLooks := .later }
def CarryOfCardSaid : Prop := Claim7.holds Tryz.pinned (.plain (OpenSpec.ofChange carryOfSpec)) carryOfCard

/-- THE TIED CARD OF 'hexaplalaw15.CarryAll'. -/
def carryAllCard : Claim7 := { stood := { row := carryAllRow, standIns := [], harness := (true, "c9d8ef92a6fe7e170ddf8f9d332fbfbd0a42d326f7ac56db732fadd073a5a306"), looks := true }, kinds := [], alts := [], laidByText := true, laidKinds := [.data, .data, .data, .data, .sentinel, .sentinel, .pinned, .pinned], laidTests := true, laidLooks := .later }
def CarryAllCardSaid : Prop := Claim7.holds Tryz.pinned (.plain (OpenSpec.ofChange carryAllSpec)) carryAllCard

/-- THE TIED CARD OF 'hexaplalaw15.CarryWords'. -/
def carryWordsCard : Claim7 := { stood := { row := carryWordsRow, standIns := [], harness := (true, "c9d8ef92a6fe7e170ddf8f9d332fbfbd0a42d326f7ac56db732fadd073a5a306"), looks := true }, kinds := [], alts := [], laidByText := true, laidKinds := [.data, .data, .data, .data, .sentinel, .sentinel, .pinned, .pinned], laidTests := true, laidLooks := .later }
def CarryWordsCardSaid : Prop := Claim7.holds Tryz.pinned (.plain (OpenSpec.ofChange carryWordsSpec)) carryWordsCard

/-- THE TIED CARD OF 'hexaplalaw15.CarryRows'. -/
def carryRowsCard : Claim7 := { stood := { row := carryRowsRow, standIns := [], harness := (true, "c9d8ef92a6fe7e170ddf8f9d332fbfbd0a42d326f7ac56db732fadd073a5a306"), looks := true }, kinds := [], alts := [], laidByText := true, laidKinds := [.data, .data, .data, .data, .sentinel, .sentinel, .pinned, .pinned], laidTests := true, laidLooks := .later }
def CarryRowsCardSaid : Prop := Claim7.holds Tryz.pinned (.plain (OpenSpec.ofChange carryRowsSpec)) carryRowsCard

/-- THE SECOND FORM's CARD OF 'hexaplalaw23.PatchPlays'. -/
def patchPlaysUptoCard : Claim7 := { stood := { row := patchPlaysUptoRow, standIns := [], harness := (true, "c9d8ef92a6fe7e170ddf8f9d332fbfbd0a42d326f7ac56db732fadd073a5a306"), looks := true }, kinds := [], alts := [], laidByText := true, laidKinds := [.data, .data, .data, .data, .sentinel, .sentinel, .pinned, .pinned], laidTests := true, laidLooks := .later }
def PatchPlaysUptoCardSaid : Prop := Claim7.holds Tryz.pinned (.plain (OpenSpec.upto patchPlaysSpec)) patchPlaysUptoCard

/-- THE SECOND FORM's CARD OF 'hexaplalaw23.PatchDiffs'. -/
def patchDiffsUptoCard : Claim7 := { stood := { row := patchDiffsUptoRow, standIns := [], harness := (true, "c9d8ef92a6fe7e170ddf8f9d332fbfbd0a42d326f7ac56db732fadd073a5a306"), looks := true }, kinds := [], alts := [], laidByText := true, laidKinds := [.data, .data, .data, .data, .sentinel, .sentinel, .pinned, .pinned], laidTests := true, laidLooks := .later }
def PatchDiffsUptoCardSaid : Prop := Claim7.holds Tryz.pinned (.plain (OpenSpec.upto patchDiffsSpec)) patchDiffsUptoCard

/-- THE SECOND FORM's CARD OF 'hexaplalaw23.PatchNone'. -/
def patchNoneUptoCard : Claim7 := { stood := { row := patchNoneUptoRow, standIns := [], harness := (true, "c9d8ef92a6fe7e170ddf8f9d332fbfbd0a42d326f7ac56db732fadd073a5a306"), looks := true }, kinds := [], alts := [], laidByText := true, laidKinds := [.data, .data, .data, .data, .sentinel, .sentinel, .pinned, .pinned], laidTests := true, laidLooks := .later }
def PatchNoneUptoCardSaid : Prop := Claim7.holds Tryz.pinned (.plain (OpenSpec.upto patchNoneSpec)) patchNoneUptoCard

/-- THE SECOND FORM's CARD OF 'hexaplalaw23.PatchNear'. -/
def patchNearUptoCard : Claim7 := { stood := { row := patchNearUptoRow, standIns := [], harness := (true, "c9d8ef92a6fe7e170ddf8f9d332fbfbd0a42d326f7ac56db732fadd073a5a306"), looks := true }, kinds := [], alts := [], laidByText := true, laidKinds := [.data, .data, .data, .data, .sentinel, .sentinel, .pinned, .pinned], laidTests := true, laidLooks := .later }
def PatchNearUptoCardSaid : Prop := Claim7.holds Tryz.pinned (.plain (OpenSpec.upto patchNearSpec)) patchNearUptoCard

/-- THE SECOND FORM's CARD OF 'hexaplalaw23.PatchAll'. -/
def patchAllUptoCard : Claim7 := { stood := { row := patchAllUptoRow, standIns := [], harness := (true, "c9d8ef92a6fe7e170ddf8f9d332fbfbd0a42d326f7ac56db732fadd073a5a306"), looks := true }, kinds := [], alts := [], laidByText := true, laidKinds := [.data, .data, .data, .data, .sentinel, .sentinel, .pinned, .pinned], laidTests := true, laidLooks := .later }
def PatchAllUptoCardSaid : Prop := Claim7.holds Tryz.pinned (.plain (OpenSpec.upto patchAllSpec)) patchAllUptoCard

/-- THE SECOND FORM's CARD OF 'hexaplalaw23.PatchOwns'. -/
def patchOwnsUptoCard : Claim7 := { stood := { row := patchOwnsUptoRow, standIns := [], harness := (true, "c9d8ef92a6fe7e170ddf8f9d332fbfbd0a42d326f7ac56db732fadd073a5a306"), looks := true }, kinds := [], alts := [], laidByText := true, laidKinds := [.data, .data, .data, .data, .sentinel, .sentinel, .pinned, .pinned], laidTests := true, laidLooks := .later }
def PatchOwnsUptoCardSaid : Prop := Claim7.holds Tryz.pinned (.plain (OpenSpec.upto patchOwnsSpec)) patchOwnsUptoCard

/-- THE SECOND FORM's CARD OF 'hexaplalaw15.CarryOf'. -/
def carryOfUptoCard : Claim7 := { stood := { row := carryOfUptoRow, standIns := [], harness := (true, "c9d8ef92a6fe7e170ddf8f9d332fbfbd0a42d326f7ac56db732fadd073a5a306"), looks := true }, kinds := [], alts := [], laidByText := true, laidKinds := [.data, .data, .data, .data, .sentinel, .sentinel, .pinned, .pinned], laidTests := true, laidLooks := .later }
def CarryOfUptoCardSaid : Prop := Claim7.holds Tryz.pinned (.plain (OpenSpec.upto carryOfSpec)) carryOfUptoCard

/-- THE SECOND FORM's CARD OF 'hexaplalaw15.CarryAll'. -/
def carryAllUptoCard : Claim7 := { stood := { row := carryAllUptoRow, standIns := [], harness := (true, "c9d8ef92a6fe7e170ddf8f9d332fbfbd0a42d326f7ac56db732fadd073a5a306"), looks := true }, kinds := [], alts := [], laidByText := true, laidKinds := [.data, .data, .data, .data, .sentinel, .sentinel, .pinned, .pinned], laidTests := true, laidLooks := .later }
def CarryAllUptoCardSaid : Prop := Claim7.holds Tryz.pinned (.plain (OpenSpec.upto carryAllSpec)) carryAllUptoCard

/-- THE SECOND FORM's CARD OF 'hexaplalaw15.CarryWords'. -/
def carryWordsUptoCard : Claim7 := { stood := { row := carryWordsUptoRow, standIns := [], harness := (true, "c9d8ef92a6fe7e170ddf8f9d332fbfbd0a42d326f7ac56db732fadd073a5a306"), looks := true }, kinds := [], alts := [], laidByText := true, laidKinds := [.data, .data, .data, .data, .sentinel, .sentinel, .pinned, .pinned], laidTests := true, laidLooks := .later }
def CarryWordsUptoCardSaid : Prop := Claim7.holds Tryz.pinned (.plain (OpenSpec.upto carryWordsSpec)) carryWordsUptoCard

/-- THE SECOND FORM's CARD OF 'hexaplalaw15.CarryRows'. -/
def carryRowsUptoCard : Claim7 := { stood := { row := carryRowsUptoRow, standIns := [], harness := (true, "c9d8ef92a6fe7e170ddf8f9d332fbfbd0a42d326f7ac56db732fadd073a5a306"), looks := true }, kinds := [], alts := [], laidByText := true, laidKinds := [.data, .data, .data, .data, .sentinel, .sentinel, .pinned, .pinned], laidTests := true, laidLooks := .later }
def CarryRowsUptoCardSaid : Prop := Claim7.holds Tryz.pinned (.plain (OpenSpec.upto carryRowsSpec)) carryRowsUptoCard
end Rows
end Go.Proofs.YtdaamiihldbekaaGreatDoor
