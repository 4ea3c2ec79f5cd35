/- The walk of the law NumStays. -/
import Derived.Test.YtbokhmmhidgabaaDoorNumT
import Derived.Test.YtbokhmmhidgabaaDoorNumC
namespace Go.Proofs.YtbokhmmhidgabaaDoor
open Go.RowKit Num2
set_option linter.unusedSimpArgs false
set_option linter.unusedVariables false

set_option maxHeartbeats 2000000 in
theorem numStays_walk (s : ByteArray) (w : World) (hE : Env w) (hs : s.size ≤ 140737488351232) :
    Calls Tryd.prog 5 #[.string s] w fun e w' => e = .returned (.bool true) ∧ Below w.heap.size w w' := by
  have HE := Lib.hid hE; clear hE
  go_enter Tryd.func5, Tryd.ntmps5
  go_wp2_with fail
  refine (read2_any s _ HE.out hs).mono ?_
  rintro e w1 ⟨rfl, hb⟩
  have HB1 := Lib.hid hb; clear hb
  by_cases h : (mayP s.data.toList).2 = 0
  · obtain ⟨n1, n2, n3⟩ := norm_stays s.data.toList h
    rw [norm_ok h]
    obtain ⟨f, hf, hfs⟩ := named (formP (mayP s.data.toList).1)
    have hf2 : f.data.toList = formP (mayP s.data.toList).1 := by rw [hf]
    rw [← hf2] at n1 n2
    have e1 : (⟨(formP (mayP s.data.toList).1).toArray⟩ : ByteArray) = f := hf.symm
    simp only [] at e1 ⊢
    rw [e1]
    have hf30 : f.size ≤ 30 := by omega
    have N1 := Lib.hid n1; have N2 := Lib.hid n2; have HF := Lib.hid hf2
    clear n1 n2 n3 hf2 hf hfs e1 h
    go_wp2_with fail
    refine (read2_any f _ (HE.out.below HB1.out) (by omega)).mono ?_
    rintro e w2 ⟨rfl, hb⟩
    rw [N1.out]
    simp only []
    rw [mk_of f]
    have HB2 := Lib.hid (below_then HB1.out hb); clear hb
    go_wp2_with fail
    refine (may_any f _ (by omega)).mono ?_
    rintro e w3 ⟨rfl, hb⟩
    rw [N2.out]
    have HB3 := Lib.hid (below_then HB2.out hb); clear hb
    have hff : (f.toList == f.toList) = true := by simp
    go_wp2_with fail
    refine (lives_any _ (HE.out.below HB3.out)).mono ?_
    rintro e w4 ⟨rfl, hb⟩
    have HB4 := Lib.hid (below_then HB3.out hb); clear hb
    go_wp2_with fail
    go_ret
    exact ⟨rfl, HB4.out⟩
  · rw [norm_err h]
    clear h
    go_wp2_with fail
    refine (lives_any _ (HE.out.below HB1.out)).mono ?_
    rintro e w4 ⟨rfl, hb⟩
    have HB4 := Lib.hid (below_then HB1.out hb); clear hb
    go_wp2_with fail
    go_ret
    exact ⟨rfl, HB4.out⟩
end Go.Proofs.YtbokhmmhidgabaaDoor
