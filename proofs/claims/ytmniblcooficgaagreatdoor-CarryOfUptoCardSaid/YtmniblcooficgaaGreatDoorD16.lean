import Derived.Test.YtmniblcooficgaaGreatDoorD15
import Derived.Test.YtmniblcooficgaaGreatDoorD06
import Derived.Test.YtmniblcooficgaaGreatDoorD12
import Derived.Test.YtmniblcooficgaaGreatDoorD08
namespace Go.Proofs.YtmniblcooficgaaGreatDoor
open Go.RowKit Num2
set_option linter.unusedSimpArgs false
set_option linter.unusedVariables false
set_option linter.unnecessarySimpa false

set_option maxHeartbeats 1000000 in
theorem refNorm_any (s : ByteArray) (w : World) (hs : s.size ≤ 140737488351232) :
    Calls Tryz.prog 133 #[.string s] w fun e w' => e = .returned (.tuple #[.string ⟨(normP s.data.toList).1.toArray⟩, .int .i64 (normP s.data.toList).2]) ∧ Below w.heap.size w w' := by
  go_enter Tryz.func133, Tryz.ntmps133
  go_wp2_with fail
  refine (refRead_ex s _ hs).mono ?_
  rintro e w1 ⟨sg, sv, p, d, ok, rfl, hm, hc, hd, hdg, hp0, hp1, hb⟩
  have HB1 := Lib.hid hb; clear hb
  have HM := Lib.hid hm; clear hm
  have HC := Lib.hid (Cells.below hc ((Below.refl _ _).alloc (Nat.le_refl _) (.cells #[.bool sg, sv, .int .i64 p] 143)))
  have hbel : Below w.heap.size w (w1.alloc (.cells #[.bool sg, sv, .int .i64 p] 143)) := HB1.out.alloc HB1.out.size _
  have HBA := Lib.hid hbel; clear hbel
  obtain ⟨A, c, rfl, hc1, hc2, _⟩ := hc
  have HDG := Lib.hid hdg; clear hdg
  cases ok with
  | true =>
    have HN := Lib.hid (show normP s.data.toList = (formP (sg, d, p), 0) by unfold normP; rw [HM.out]; rfl)
    go_wp2_with fail
    refine (refForm_any sg _ d p _ (by omega) HDG.out (HC.out.mono (Nat.zero_le _)) (by omega) (by omega)).mono ?_
    rintro e w2 ⟨rfl, hb2⟩
    have HB2 := Lib.hid (below_then HBA.out hb2); clear hb2
    go_wp2_with fail
    go_ret2
    exact ⟨by rw [HN.out]; rfl, HB2.out⟩
  | false =>
    have HN := Lib.hid (show normP s.data.toList = ([], 8) by unfold normP; rw [HM.out]; rfl)
    go_wp2_with fail
    go_ret2
    exact ⟨by rw [HN.out]; rfl, HBA.out⟩
end Go.Proofs.YtmniblcooficgaaGreatDoor
namespace Go.Proofs.YtmniblcooficgaaGreatDoor
open Go.RowKit Ev5
set_option linter.unusedSimpArgs false
set_option linter.unusedVariables false

set_option maxRecDepth 100000 in
theorem refFull_any (s : ByteArray) (w : World) (hs : s.size ≤ 1048576) :
    Calls Tryz.prog 120 #[.string s] w fun e w' => e = .returned (.bool (fullP s.data.toList)) ∧ Below w.heap.size w w' := by
  have HC := Lib.hid (refCut_any s w hs)
  go_enter Tryz.func120, Tryz.ntmps120
  go_wp2_with fail
  refine HC.out.mono ?_
  rintro e w1 ⟨⟨A, B, rfl⟩, hb⟩
  go_wp2_with fail
  go_ret
  exact ⟨rfl, hb⟩
set_option maxRecDepth 100000 in
theorem refIs_any (s : ByteArray) (w : World) (hs : s.size ≤ 1048576) :
    Calls Tryz.prog 121 #[.string s] w fun e w' => e = .returned (.bool (decide ((Num2.normP s.data.toList).2 = 0) && decide ((Num2.normP s.data.toList).1 = s.data.toList))) ∧ Below w.heap.size w w' := by
  obtain ⟨R, hR, _⟩ := named (Num2.normP s.data.toList).1
  obtain ⟨E, hE⟩ : ∃ E, (Num2.normP s.data.toList).2 = E := ⟨_, rfl⟩
  have HV := Lib.hid (show (decide ((Num2.normP s.data.toList).2 = 0) && decide ((Num2.normP s.data.toList).1 = s.data.toList)) = ((E == 0) && (R.toList == s.toList)) by
    rw [hE, ByteArray.toList_eq, ByteArray.toList_eq, hR]
    congr 1
    by_cases h : (Num2.normP s.data.toList).1 = s.data.toList <;> simp [h])
  have cN := refNorm_any s w (by omega)
  rw [← hR, hE] at cN
  have HC := Lib.hid cN
  clear cN hR hE
  cases he0 : (E == 0)
  · rw [he0] at HV
    go_enter Tryz.func121, Tryz.ntmps121
    go_wp2_with fail
    refine HC.out.mono ?_
    rintro e w1 ⟨rfl, hb⟩
    go_wp2_with fail
    go_ret
    exact ⟨by rw [HV.out]; rfl, hb⟩
  · rw [he0] at HV
    cases hrt : (R.toList == s.toList)
    · rw [hrt] at HV
      go_enter Tryz.func121, Tryz.ntmps121
      go_wp2_with fail
      refine HC.out.mono ?_
      rintro e w1 ⟨rfl, hb⟩
      go_wp2_with fail
      go_ret
      exact ⟨by rw [HV.out]; rfl, hb⟩
    · rw [hrt] at HV
      go_enter Tryz.func121, Tryz.ntmps121
      go_wp2_with fail
      refine HC.out.mono ?_
      rintro e w1 ⟨rfl, hb⟩
      go_wp2_with fail
      go_ret
      exact ⟨by rw [HV.out]; rfl, hb⟩
set_option maxRecDepth 100000 in
theorem refMay5_any (s : ByteArray) (w : World) (hs : s.size ≤ 1048576) :
    Calls Tryz.prog 119 #[.string s] w fun e w' => e = .returned (.bool (mayP s.data.toList)) ∧ Below w.heap.size w w' := by
  have HM := Lib.hid (show mayP s.data.toList = (Lib.validD s.data.toList && decide (s.size ≤ 48)) by unfold mayP; rw [szl])
  have HV := Lib.hid (refValid_any s w hs)
  cases hv : Lib.validD s.data.toList
  · rw [hv] at HV HM; clear hv
    go_enter Tryz.func119, Tryz.ntmps119
    go_wp2_with fail
    refine HV.out.mono ?_
    rintro e w1 ⟨rfl, hb⟩
    go_wp2_with fail
    go_ret
    exact ⟨by rw [HM.out]; rfl, hb⟩
  · rw [hv] at HV HM; clear hv
    by_cases h48 : (s.size : Int) ≤ 48
    · have HR := Lib.hid (HM.out.trans (show _ = true by rw [decide_eq_true (by omega)]; rfl))
      go_enter Tryz.func119, Tryz.ntmps119
      go_wp2_with fail
      refine HV.out.mono ?_
      rintro e w1 ⟨rfl, hb⟩
      go_wp2_with fail
      go_ret
      exact ⟨by rw [HR.out]; rfl, hb⟩
    · have HR := Lib.hid (HM.out.trans (show _ = false by rw [decide_eq_false (by omega)]; rfl))
      have b48 : decide ((s.size : Int) ≤ 48) = false := decide_eq_false h48
      go_enter Tryz.func119, Tryz.ntmps119
      go_wp2_with fail
      refine HV.out.mono ?_
      rintro e w1 ⟨rfl, hb⟩
      go_wp2_with fail
      go_ret
      exact ⟨by rw [HR.out]; rfl, hb⟩

set_option maxRecDepth 1000000 in
set_option maxHeartbeats 8000000 in
theorem refRight_any (x : GoEv) (w : World) (ht : x.t.size ≤ 1048576) (hv : x.v.size ≤ 1048576) :
    Calls Tryz.prog 90 #[evV x] w fun e w' => e = .returned (.bool (RP x.ev)) ∧ Below w.heap.size w w' := by
  obtain ⟨xk, xt, xv⟩ := x
  have HT := Lib.hid (isE_l xt); have HVv := Lib.hid (isE_l xv)
  have htt : xt.size ≤ 1048576 := ht
  have hvv : xv.size ≤ 1048576 := hv
  clear ht hv
  show Calls Tryz.prog 90 #[.agg #[.int .i64 xk, .string xt, .string xv]] w _
  go_enter Tryz.func90, Tryz.ntmps90
  go_wp2_with fail
  refine (refMay5_any xt _ htt).mono ?_
  rintro e w1 ⟨rfl, hb⟩
  have hx1 := (hb.block _ (by simp)).trans (heap_alloc_new w (.cells (evC ⟨xk, xt, xv⟩) 85))
  have HB1 := Lib.hid (below_after hb); clear hb
  have HX1 := Lib.hid hx1
  obtain ⟨x0, x1, x2, x3⟩ := ev_cells hx1
  clear hx1
  generalize hma : mayP xt.data.toList = ma
  have HMA := Lib.hid hma; clear hma
  go_wp2_with fail
  refine (refMay5_any xv _ hvv).mono ?_
  rintro e w2 ⟨rfl, hb⟩
  have hx2 := (hb.block _ (lt_blk HX1.out)).trans HX1.out
  have HB2 := Lib.hid (below_then HB1.out hb); clear hb x0 x1 x2 x3 HX1
  have HX2 := Lib.hid hx2
  obtain ⟨x0, x1, x2, x3⟩ := ev_cells hx2
  clear hx2
  generalize hmb : mayP xv.data.toList = mb
  have HMB := Lib.hid hmb; clear hmb
  by_cases g11 : xk = 11
  · have q11 : (xk == 11) = true := by rw [g11]; rfl
    have HR := Lib.hid (show RP (GoEv.ev ⟨xk, xt, xv⟩) = (fullP xt.data.toList && mb) by
      rw [← HMB.out]
      exact (if_neg (by simp only [GoEv.ev]; omega)).trans ((if_neg (by simp only [GoEv.ev]; omega)).trans ((if_neg (by simp only [GoEv.ev]; omega)).trans ((if_neg (by simp only [GoEv.ev]; omega)).trans ((if_neg (by simp only [GoEv.ev]; omega)).trans (if_pos g11))))))
    clear g11
    go_wp2_with fail
    refine (refFull_any xt _ htt).mono ?_
    rintro e w3 ⟨rfl, hb⟩
    have HB3 := Lib.hid (below_then HB2.out hb); clear hb
    cases hf : fullP xt.data.toList
    · rw [hf] at HR
      go_wp2_with fail
      go_ret
      exact ⟨by rw [HR.out]; rfl, HB3.out⟩
    · rw [hf] at HR
      go_wp2_with fail
      go_ret
      exact ⟨by rw [HR.out]; rfl, HB3.out⟩
  have q11 : (xk == 11) = false := by simp; omega
  cases hev : xv.toList.isEmpty
  · have HR := Lib.hid (show RP (GoEv.ev ⟨xk, xt, xv⟩) = false by
      show rightP _ _ = false
      have e1 : xv.data.toList.isEmpty = false := by rw [HVv.out, hev]
      have e2 : (GoEv.ev ⟨xk, xt, xv⟩).val.isEmpty = false := e1
      have e3 : ¬ (GoEv.ev ⟨xk, xt, xv⟩).kind = 11 := g11
      unfold rightP
      rw [e2, if_neg e3]
      simp)
    clear g11
    go_wp2_with fail
    go_ret
    exact ⟨by rw [HR.out]; rfl, HB2.out⟩
  have HE1 := Lib.hid (HVv.out.trans hev)
  by_cases G1 : xk = 1 ∨ xk = 5 ∨ xk = 6 ∨ xk = 7 ∨ xk = 9 ∨ xk = 12
  · have HR := Lib.hid (show RP (GoEv.ev ⟨xk, xt, xv⟩) = xt.toList.isEmpty by
      have : RP (GoEv.ev ⟨xk, xt, xv⟩) = (xt.data.toList.isEmpty && xv.data.toList.isEmpty) := if_pos G1
      rw [this, HE1.out, HT.out, Bool.and_true])
    have hks : ((xk == 1) = true) ∨ ((xk == 1) = false ∧ (xk == 5) = true) ∨ ((xk == 1) = false ∧ (xk == 5) = false ∧ (xk == 6) = true) ∨ ((xk == 1) = false ∧ (xk == 5) = false ∧ (xk == 6) = false ∧ (xk == 7) = true) ∨ ((xk == 1) = false ∧ (xk == 5) = false ∧ (xk == 6) = false ∧ (xk == 7) = false ∧ (xk == 9) = true) ∨ ((xk == 1) = false ∧ (xk == 5) = false ∧ (xk == 6) = false ∧ (xk == 7) = false ∧ (xk == 9) = false ∧ (xk == 12) = true) := by
      rcases G1 with rfl | rfl | rfl | rfl | rfl | rfl <;> simp
    clear G1 g11
    rcases hks with q1 | ⟨q1, q5⟩ | ⟨q1, q5, q6⟩ | ⟨q1, q5, q6, q7⟩ | ⟨q1, q5, q6, q7, q9⟩ | ⟨q1, q5, q6, q7, q9, q12⟩
    all_goals
      go_wp2_with fail
      go_ret
      exact ⟨by rw [HR.out]; rfl, HB2.out⟩
  have q1 : (xk == 1) = false := by simp; omega
  have q5 : (xk == 5) = false := by simp; omega
  have q6 : (xk == 6) = false := by simp; omega
  have q7 : (xk == 7) = false := by simp; omega
  have q9 : (xk == 9) = false := by simp; omega
  have q12 : (xk == 12) = false := by simp; omega
  by_cases g2 : xk = 2
  · have q2 : (xk == 2) = true := by rw [g2]; rfl
    have HR := Lib.hid (show RP (GoEv.ev ⟨xk, xt, xv⟩) = ((xt.toList == [116, 114, 117, 101]) || (xt.toList == [102, 97, 108, 115, 101])) by
      have : RP (GoEv.ev ⟨xk, xt, xv⟩) = (xv.data.toList.isEmpty && (decide (xt.data.toList = trueL) || decide (xt.data.toList = falseL))) := (if_neg (by simp only [GoEv.ev]; omega)).trans (if_pos g2)
      rw [this, HE1.out, Bool.true_and, ← eqL, ← eqL]; rfl)
    clear g2 G1 g11
    cases htt2 : (xt.toList == [116, 114, 117, 101])
    · rw [htt2] at HR
      cases hff : (xt.toList == [102, 97, 108, 115, 101])
      · rw [hff] at HR
        go_wp2_with fail
        go_ret
        exact ⟨by rw [HR.out]; rfl, HB2.out⟩
      · rw [hff] at HR
        go_wp2_with fail
        go_ret
        exact ⟨by rw [HR.out]; rfl, HB2.out⟩
    · rw [htt2] at HR
      go_wp2_with fail
      go_ret
      exact ⟨by rw [HR.out]; rfl, HB2.out⟩
  have q2 : (xk == 2) = false := by simp; omega
  by_cases g3 : xk = 3
  · have q3 : (xk == 3) = true := by rw [g3]; rfl
    have HR := Lib.hid (show RP (GoEv.ev ⟨xk, xt, xv⟩) = (decide ((Num2.normP xt.data.toList).2 = 0) && decide ((Num2.normP xt.data.toList).1 = xt.data.toList)) by
      have : RP (GoEv.ev ⟨xk, xt, xv⟩) = (xv.data.toList.isEmpty && (decide ((Num2.normP xt.data.toList).2 = 0) && decide ((Num2.normP xt.data.toList).1 = xt.data.toList))) := (if_neg (by simp only [GoEv.ev]; omega)).trans ((if_neg (by simp only [GoEv.ev]; omega)).trans (if_pos g3))
      rw [this, HE1.out, Bool.true_and])
    clear g3 g2 G1 g11
    go_wp2_with fail
    refine (refIs_any xt _ htt).mono ?_
    rintro e w3 ⟨rfl, hb⟩
    have HB3 := Lib.hid (below_then HB2.out hb); clear hb
    rw [← HR.out]
    go_wp2_with fail
    go_ret
    exact ⟨rfl, HB3.out⟩
  have q3 : (xk == 3) = false := by simp; omega
  by_cases G4 : xk = 4 ∨ xk = 8
  · have HR := Lib.hid (show RP (GoEv.ev ⟨xk, xt, xv⟩) = ma by
      have : RP (GoEv.ev ⟨xk, xt, xv⟩) = (xv.data.toList.isEmpty && mayP xt.data.toList) := (if_neg (by simp only [GoEv.ev]; omega)).trans ((if_neg (by simp only [GoEv.ev]; omega)).trans ((if_neg (by simp only [GoEv.ev]; omega)).trans (if_pos G4)))
      rw [this, HE1.out, Bool.true_and, HMA.out])
    have hks : ((xk == 4) = true) ∨ ((xk == 4) = false ∧ (xk == 8) = true) := by rcases G4 with rfl | rfl <;> simp
    clear G4 g3 g2 G1 g11
    rcases hks with q4 | ⟨q4, q8⟩
    all_goals
      go_wp2_with fail
      go_ret
      exact ⟨by rw [HR.out]; rfl, HB2.out⟩
  have q4 : (xk == 4) = false := by simp; omega
  have q8 : (xk == 8) = false := by simp; omega
  by_cases g10 : xk = 10
  · have q10 : (xk == 10) = true := by rw [g10]; rfl
    have HR := Lib.hid (show RP (GoEv.ev ⟨xk, xt, xv⟩) = fullP xt.data.toList by
      have : RP (GoEv.ev ⟨xk, xt, xv⟩) = (xv.data.toList.isEmpty && fullP xt.data.toList) := (if_neg (by simp only [GoEv.ev]; omega)).trans ((if_neg (by simp only [GoEv.ev]; omega)).trans ((if_neg (by simp only [GoEv.ev]; omega)).trans ((if_neg (by simp only [GoEv.ev]; omega)).trans (if_pos g10))))
      rw [this, HE1.out, Bool.true_and])
    clear g10 G4 g3 g2 G1 g11
    go_wp2_with fail
    refine (refFull_any xt _ htt).mono ?_
    rintro e w3 ⟨rfl, hb⟩
    have HB3 := Lib.hid (below_then HB2.out hb); clear hb
    rw [← HR.out]
    go_wp2_with fail
    go_ret
    exact ⟨rfl, HB3.out⟩
  have q10 : (xk == 10) = false := by simp; omega
  have HR := Lib.hid (show RP (GoEv.ev ⟨xk, xt, xv⟩) = false by
    exact (if_neg (by simp only [GoEv.ev]; omega)).trans ((if_neg (by simp only [GoEv.ev]; omega)).trans ((if_neg (by simp only [GoEv.ev]; omega)).trans ((if_neg (by simp only [GoEv.ev]; omega)).trans ((if_neg (by simp only [GoEv.ev]; omega)).trans (if_neg (by simp only [GoEv.ev]; omega)))))))
  clear g10 G4 g3 g2 G1 g11
  go_wp2_with fail
  go_ret
  exact ⟨by rw [HR.out]; rfl, HB2.out⟩
end Go.Proofs.YtmniblcooficgaaGreatDoor
