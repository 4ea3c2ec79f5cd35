/- The walk of the law NumReads. -/
import Derived.Test.YtbokhmmhidgabaaGreatDoorNumT
import Derived.Test.YtbokhmmhidgabaaGreatDoorNumN
namespace Go.Proofs.YtbokhmmhidgabaaGreatDoor
open Go.RowKit Num2
set_option linter.unusedSimpArgs false
set_option linter.unusedVariables false
set_option linter.unnecessarySimpa false

set_option maxHeartbeats 2000000 in
theorem numReads_walk (s : ByteArray) (w : World) (hE : Env w) (hs : s.size ≤ 140737488351232) :
    Calls Tryz.prog 3 #[.string s] w fun e w' => e = .returned (.bool true) ∧ Below w.heap.size w w' := by
  have HE := Lib.hid hE; clear hE
  go_enter Tryz.func3, Tryz.ntmps3
  go_wp2_with fail
  refine (read2_any s _ HE.out hs).mono ?_
  rintro e w1 ⟨rfl, hb⟩
  have HB1 := Lib.hid hb; clear hb
  go_wp2_with fail
  refine (refNorm_any s _ hs).mono ?_
  rintro e w2 ⟨rfl, hb⟩
  have HB2 := Lib.hid (below_then HB1.out hb); clear hb
  generalize hf : (⟨(normP s.data.toList).1.toArray⟩ : ByteArray) = f
  generalize (normP s.data.toList).2 = en
  clear hf
  have hff : (f.toList == f.toList) = true := by simp
  go_wp2_with fail
  refine (lives_any _ (HE.out.below HB2.out)).mono ?_
  rintro e w4 ⟨rfl, hb⟩
  have HB4 := Lib.hid (below_then HB2.out hb); clear hb
  go_wp2_with fail
  go_ret
  exact ⟨rfl, HB4.out⟩
end Go.Proofs.YtbokhmmhidgabaaGreatDoor
