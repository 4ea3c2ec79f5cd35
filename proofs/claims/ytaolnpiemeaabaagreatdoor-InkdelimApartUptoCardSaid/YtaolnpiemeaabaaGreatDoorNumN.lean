/- The walk of the reference's Norm. -/
import Derived.Test.YtaolnpiemeaabaaGreatDoorNumU
import Derived.Test.YtaolnpiemeaabaaGreatDoorNumS
namespace Go.Proofs.YtaolnpiemeaabaaGreatDoor
open Go.RowKit Num2
set_option linter.unusedSimpArgs false
set_option linter.unusedVariables false
set_option linter.unnecessarySimpa false

set_option maxHeartbeats 1000000 in
theorem refNorm_any (s : ByteArray) (w : World) (hs : s.size ≤ 140737488351232) :
    Calls Tryz.prog 154 #[.string s] w fun e w' => e = .returned (.tuple #[.string ⟨(normP s.data.toList).1.toArray⟩, .int .i64 (normP s.data.toList).2]) ∧ Below w.heap.size w w' := by
  go_enter Tryz.func154, Tryz.ntmps154
  go_wp2_with fail
  refine (refRead_ex s _ hs).mono ?_
  rintro e w1 ⟨sg, sv, p, d, ok, rfl, hm, hc, hd, hdg, hp0, hp1, hb⟩
  have HB1 := Lib.hid hb; clear hb
  have HM := Lib.hid hm; clear hm
  have HC := Lib.hid (Cells.below hc ((Below.refl _ _).alloc (Nat.le_refl _) (.cells #[.bool sg, sv, .int .i64 p] 148)))
  have hbel : Below w.heap.size w (w1.alloc (.cells #[.bool sg, sv, .int .i64 p] 148)) := HB1.out.alloc HB1.out.size _
  have HBA := Lib.hid hbel; clear hbel
  obtain ⟨A, c, rfl, hc1, hc2, _⟩ := hc
  have HDG := Lib.hid hdg; clear hdg
  cases ok with
  | true =>
    have HN := Lib.hid (show normP s.data.toList = (formP (sg, d, p), 0) by unfold normP; rw [HM.out]; rfl)
    go_wp2_with fail
    refine (refForm_any sg _ d p _ (by omega) HDG.out (HC.out.mono (Nat.zero_le _)) (by omega) (by omega)).mono ?_
    rintro e w2 ⟨rfl, hb2⟩
    have HB2 := Lib.hid (below_then HBA.out hb2); clear hb2
    go_wp2_with fail
    go_ret2
    exact ⟨by rw [HN.out]; rfl, HB2.out⟩
  | false =>
    have HN := Lib.hid (show normP s.data.toList = ([], 8) by unfold normP; rw [HM.out]; rfl)
    go_wp2_with fail
    go_ret2
    exact ⟨by rw [HN.out]; rfl, HBA.out⟩
end Go.Proofs.YtaolnpiemeaabaaGreatDoor
