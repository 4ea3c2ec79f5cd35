/- The law PatchOwns: true for every input. Its row, and its tied card; of arguments of bulk at most 1048576. -/
import Derived.Test.YtdaamiihldbekaaGreatDoorRows
import Derived.Test.YtdaamiihldbekaaGreatDoorCards
import Derived.Test.YtdaamiihldbekaaGreatDoorTie
import Derived.Test.YtdaamiihldbekaaGreatDoorPaDLE
import Derived.Lib.LaidU8T
import Derived.Carry
import Derived.Deep.DeepHandedRow
import Derived.Deep.DeepWitnessRowRef
import Derived.Lib.LaidIn
import Derived.Lib.LaidSlice
import Derived.Lib.LaidU8
import Derived.Stop.LaidErr
import Derived.ProofKit
import Derived.SizedLaws
import Derived.SevenTiedAt
import Derived.PinnedBridge
import Derived.Great.CaseRows
import Derived.OpenShut
import Derived.ShutString
import Derived.JoinedOf
import Derived.LaidLaws
import Derived.Test.YtdaamiihldbekaaGreatDoorRowPatchOwnsA
namespace Go.Proofs.YtdaamiihldbekaaGreatDoor.RowPatchOwnsU
open Go.ChangeShapes Go.WideShapes Go.ChangeAt Go.RowKit Go.Lib Go.Great Go.Proofs
open Go.ChangeMaps (open_string shut_string)
set_option linter.unusedVariables false
set_option linter.unusedSimpArgs false
theorem over : Rows.PatchOwnsUptoSaid :=
  OpenClaim.holds_of_cond 8 Tryz.f8 rfl rfl rfl rfl rfl rfl rfl ⟨rfl, rfl, rfl, rfl, rfl⟩ rfl rfl rfl rfl rfl (by kernel_rfl) Tryz.func8 (by kernel_rfl)
    (of_decide_eq_true (by kernel_rfl)) (by unfold Func.isWrapper; rw [if_neg (of_decide_eq_false (by kernel_rfl))]; exact ⟨rfl, rfl⟩)
    (fun os started H enc _ F => by rw [OpenClaim.pre_eq_preRow]; exact lifted os started H enc F)
theorem card : Rows.PatchOwnsUptoCardSaid :=
  Claim7.holds_tied_plain_at .later [] [.data, .data, .data, .data, .sentinel, .sentinel, .pinned, .pinned] true (true, "c9d8ef92a6fe7e170ddf8f9d332fbfbd0a42d326f7ac56db732fadd073a5a306") true
    over (fun _ h => by cases h) (by kernel_rfl) (fun _ h => by cases h) patchOwnsUpto_row_tie rfl ⟨rfl, rfl⟩ (by kernel_rfl) rfl
    (fun f fn hf hfn => by
      obtain rfl : f = 8 := Option.some.inj ((show Tryz.prog.funcNamed "hexapla/hexaplalaw23.PatchOwns" = some 8 by kernel_rfl).symm.trans hf) |>.symm
      obtain rfl : fn = Tryz.f8 := (Option.some.inj (Tryz.func8.symm.trans hfn)).symm
      exact ⟨by kernel_rfl, fun j t ht => by
        rw [Tryz.params8] at ht
        have h3 : t = 24 := by
          rcases j with _ | j
          · have h4 := ht.symm; simp at h4; simp [h4]
          rcases j with _ | j
          · have h4 := ht.symm; simp at h4; simp [h4]
          simp at ht
        rcases h3 with rfl
        · exact (show Tryz.prog.wantsStandIn 24 = false by kernel_rfl)⟩)
    (by kernel_rfl)
end Go.Proofs.YtdaamiihldbekaaGreatDoor.RowPatchOwnsU
namespace Go.Proofs.YtdaamiihldbekaaGreatDoor
/-- The card, under a short name, for the claim. -/
theorem patchOwnsUptoCard_holds : Rows.PatchOwnsUptoCardSaid := RowPatchOwnsU.card
#print axioms patchOwnsUptoCard_holds
end Go.Proofs.YtdaamiihldbekaaGreatDoor
