import Derived.Test.YtmniblcooficgaaGreatDoorD06
namespace Go.Proofs.YtmniblcooficgaaGreatDoor
open Go.RowKit Ev5
set_option linter.unusedSimpArgs false
set_option linter.unusedVariables false

theorem szl (s : ByteArray) : s.data.toList.length = s.size := by rw [Array.length_toList]; rfl
theorem isE_l (t : ByteArray) : t.data.toList.isEmpty = t.toList.isEmpty := by rw [ByteArray.toList_eq]
set_option maxRecDepth 1000000 in
set_option maxHeartbeats 2000000 in
theorem evmay_any (s : ByteArray) (w : World) (hE : EnvU w) (hs : s.size ≤ 1048576) :
    Calls Tryz.prog 112 #[.string s] w fun e w' => e = .returned (.bool (mayP s.data.toList)) ∧ Below w.heap.size w w' := by
  have HM := Lib.hid (show mayP s.data.toList = (Lib.validD s.data.toList && decide (s.size ≤ 48)) by unfold mayP; rw [szl])
  have cR := runes_any s w hE hs
  have HV := Lib.hid cR; clear cR hE
  cases hv : Lib.validD s.data.toList
  · rw [hv] at HV HM; clear hv
    go_enter Tryz.func112, Tryz.ntmps112
    go_wp2_with fail
    refine HV.out.mono ?_
    rintro e w1 ⟨⟨v, rfl⟩, hb⟩
    go_wp2_with fail
    go_ret
    exact ⟨by rw [HM.out]; rfl, hb⟩
  · rw [hv] at HV HM; clear hv
    by_cases h48 : (s.size : Int) ≤ 48
    · have HR := Lib.hid (HM.out.trans (show _ = true by rw [decide_eq_true (by omega)]; rfl))
      go_enter Tryz.func112, Tryz.ntmps112
      go_wp2_with fail
      refine HV.out.mono ?_
      rintro e w1 ⟨⟨v, rfl⟩, hb⟩
      go_wp2_with fail
      go_ret
      exact ⟨by rw [HR.out]; rfl, hb⟩
    · have HR := Lib.hid (HM.out.trans (show _ = false by rw [decide_eq_false (by omega)]; rfl))
      have b48 : decide ((s.size : Int) ≤ 48) = false := decide_eq_false h48
      go_enter Tryz.func112, Tryz.ntmps112
      go_wp2_with fail
      refine HV.out.mono ?_
      rintro e w1 ⟨⟨v, rfl⟩, hb⟩
      go_wp2_with fail
      go_ret
      exact ⟨by rw [HR.out]; rfl, hb⟩
set_option maxRecDepth 1000000 in
theorem full_any (s : ByteArray) (w : World) (hE : EnvU w) (hs : s.size ≤ 1048576) :
    Calls Tryz.prog 110 #[.string s] w fun e w' => e = .returned (.bool (fullP s.data.toList)) ∧ Below w.heap.size w w' := by
  have HE := Lib.hid hE; clear hE
  have HF := Lib.hid (show fullP s.data.toList = (cutP s.data.toList).2.2 from rfl)
  go_enter Tryz.func110, Tryz.ntmps110
  go_wp2_with fail
  refine (cut_any s _ HE.out hs).mono ?_
  rintro e w1 ⟨rfl, hb⟩
  unfold cutV
  generalize str (cutP s.data.toList).1 = A
  generalize str (cutP s.data.toList).2.1 = B
  have HB := Lib.hid hb; clear hb
  rw [← HF.out]
  go_wp2_with fail
  go_ret
  exact ⟨rfl, HB.out⟩

theorem emptyE : (⟨#[]⟩ : ByteArray).toList.isEmpty = true := by rw [ByteArray.toList_eq]; rfl
theorem eqL (t : ByteArray) (l : List UInt8) : decide (t.data.toList = l) = (t.toList == l) := by
  rw [ByteArray.toList_eq]; by_cases h : t.data.toList = l <;> simp [h]
theorem notE (t : ByteArray) (h : ¬ t = ⟨#[]⟩) : t.toList.isEmpty = false := by
  rw [ByteArray.toList_eq]
  cases e : t.data.toList with
  | nil => exact absurd (by rw [← mk_of t, e]) h
  | cons a b => rfl
set_option maxRecDepth 1000000 in
set_option maxHeartbeats 4000000 in
theorem right_any (x : GoEv) (w : World) (hE : EnvU w) (ht : x.t.size ≤ 1048576) (hv : x.v.size ≤ 1048576) :
    Calls Tryz.prog 77 #[evV x] w fun e w' => e = .returned (.bool (rightP Num2.normP x.ev)) ∧ Below w.heap.size w w' := by
  obtain ⟨xk, xt, xv⟩ := x
  have hb0 : Below w.heap.size w (w.alloc (.cells (evC ⟨xk, xt, xv⟩) 85)) := (Below.refl _ _).alloc (Nat.le_refl _) _
  have HB0 := Lib.hid hb0; have HE0 := Lib.hid (hE.below hb0); clear hb0 hE
  have HT := Lib.hid (isE_l xt); have HVv := Lib.hid (isE_l xv)
  show Calls Tryz.prog 77 #[.agg #[.int .i64 xk, .string xt, .string xv]] w _
  by_cases G1 : xk = 1 ∨ xk = 5 ∨ xk = 6 ∨ xk = 7 ∨ xk = 9 ∨ xk = 12
  · have HR := Lib.hid (show rightP Num2.normP (GoEv.ev ⟨xk, xt, xv⟩) = (xt.toList.isEmpty && xv.toList.isEmpty) by rw [← HT.out, ← HVv.out]; exact if_pos G1)
    have hks : ((xk == 1) = true) ∨ ((xk == 1) = false ∧ (xk == 5) = true) ∨ ((xk == 1) = false ∧ (xk == 5) = false ∧ (xk == 6) = true) ∨ ((xk == 1) = false ∧ (xk == 5) = false ∧ (xk == 6) = false ∧ (xk == 7) = true) ∨ ((xk == 1) = false ∧ (xk == 5) = false ∧ (xk == 6) = false ∧ (xk == 7) = false ∧ (xk == 9) = true) ∨ ((xk == 1) = false ∧ (xk == 5) = false ∧ (xk == 6) = false ∧ (xk == 7) = false ∧ (xk == 9) = false ∧ (xk == 12) = true) := by
      rcases G1 with rfl | rfl | rfl | rfl | rfl | rfl <;> simp
    clear G1
    by_cases et : xt = ⟨#[]⟩
    · subst et
      by_cases ev : xv = ⟨#[]⟩
      · subst ev
        rcases hks with q1 | ⟨q1, q5⟩ | ⟨q1, q5, q6⟩ | ⟨q1, q5, q6, q7⟩ | ⟨q1, q5, q6, q7, q9⟩ | ⟨q1, q5, q6, q7, q9, q12⟩
        all_goals
          go_enter Tryz.func77, Tryz.ntmps77
          go_wp2_with fail
          go_ret
          exact ⟨by rw [HR.out, emptyE]; rfl, HB0.out⟩
      · have he : xv.toList.isEmpty = false := notE xv ev
        rcases hks with q1 | ⟨q1, q5⟩ | ⟨q1, q5, q6⟩ | ⟨q1, q5, q6, q7⟩ | ⟨q1, q5, q6, q7, q9⟩ | ⟨q1, q5, q6, q7, q9, q12⟩
        all_goals
          go_enter Tryz.func77, Tryz.ntmps77
          go_wp2_with fail
          go_ret
          exact ⟨by rw [HR.out, he, emptyE]; rfl, HB0.out⟩
    · have he : xt.toList.isEmpty = false := notE xt et
      rcases hks with q1 | ⟨q1, q5⟩ | ⟨q1, q5, q6⟩ | ⟨q1, q5, q6, q7⟩ | ⟨q1, q5, q6, q7, q9⟩ | ⟨q1, q5, q6, q7, q9, q12⟩
      all_goals
        go_enter Tryz.func77, Tryz.ntmps77
        go_wp2_with fail
        go_ret
        exact ⟨by rw [HR.out, he]; rfl, HB0.out⟩
  have q1 : (xk == 1) = false := by simp; omega
  have q5 : (xk == 5) = false := by simp; omega
  have q6 : (xk == 6) = false := by simp; omega
  have q7 : (xk == 7) = false := by simp; omega
  have q9 : (xk == 9) = false := by simp; omega
  have q12 : (xk == 12) = false := by simp; omega
  by_cases g2 : xk = 2
  · have q2 : (xk == 2) = true := by rw [g2]; rfl
    have HR := Lib.hid (show rightP Num2.normP (GoEv.ev ⟨xk, xt, xv⟩) = (xv.toList.isEmpty && ((xt.toList == [116, 114, 117, 101]) || (xt.toList == [102, 97, 108, 115, 101]))) by
      rw [← HVv.out, ← eqL, ← eqL]; exact (if_neg (by simp only [GoEv.ev]; omega)).trans (if_pos g2))
    clear g2
    cases hev : xv.toList.isEmpty
    · rw [hev] at HR
      go_enter Tryz.func77, Tryz.ntmps77
      go_wp2_with fail
      go_ret
      exact ⟨by rw [HR.out]; rfl, HB0.out⟩
    · rw [hev] at HR
      cases htt : (xt.toList == [116, 114, 117, 101])
      · rw [htt] at HR
        cases hff : (xt.toList == [102, 97, 108, 115, 101])
        · rw [hff] at HR
          go_enter Tryz.func77, Tryz.ntmps77
          go_wp2_with fail
          go_ret
          exact ⟨by rw [HR.out]; rfl, HB0.out⟩
        · rw [hff] at HR
          go_enter Tryz.func77, Tryz.ntmps77
          go_wp2_with fail
          go_ret
          exact ⟨by rw [HR.out]; rfl, HB0.out⟩
      · rw [htt] at HR
        go_enter Tryz.func77, Tryz.ntmps77
        go_wp2_with fail
        go_ret
        exact ⟨by rw [HR.out]; rfl, HB0.out⟩
  have q2 : (xk == 2) = false := by simp; omega
  by_cases g3 : xk = 3
  · have q3 : (xk == 3) = true := by rw [g3]; rfl
    obtain ⟨R, hR, _⟩ := named (Num2.normP xt.data.toList).1
    obtain ⟨E, hEE⟩ : ∃ E, (Num2.normP xt.data.toList).2 = E := ⟨_, rfl⟩
    have HR := Lib.hid (show rightP Num2.normP (GoEv.ev ⟨xk, xt, xv⟩) = (xv.toList.isEmpty && ((E == 0) && (R.toList == xt.toList))) by
      rw [← HVv.out, ByteArray.toList_eq, ByteArray.toList_eq, hR]
      have e2 : rightP Num2.normP (GoEv.ev ⟨xk, xt, xv⟩) = (xv.data.toList.isEmpty && (decide ((Num2.normP xt.data.toList).2 = 0) && decide ((Num2.normP xt.data.toList).1 = xt.data.toList))) := (if_neg (by simp only [GoEv.ev]; omega)).trans ((if_neg (by simp only [GoEv.ev]; omega)).trans (if_pos g3))
      rw [e2, hEE]
      congr 2
      by_cases h : (Num2.normP xt.data.toList).1 = xt.data.toList <;> simp [h])
    have cR := read2_any xt _ HE0.out.env (by have h : xt.size ≤ 1048576 := ht; omega)
    rw [← hR, hEE] at cR
    have HC := Lib.hid cR; clear cR hR hEE g3
    go_enter Tryz.func77, Tryz.ntmps77
    go_wp2_with fail
    refine HC.out.mono ?_
    rintro e w1 ⟨rfl, hb⟩
    have hx := (hb.block _ (by simp)).trans (heap_alloc_new w (.cells (evC ⟨xk, xt, xv⟩) 85))
    have HB1 := Lib.hid (below_after hb); clear hb
    obtain ⟨x0, x1, x2, x3⟩ := ev_cells hx
    clear hx
    cases hev : xv.toList.isEmpty
    · rw [hev] at HR
      go_wp2_with fail
      go_ret
      exact ⟨by rw [HR.out]; rfl, HB1.out⟩
    · rw [hev] at HR
      cases he0 : (E == 0)
      · rw [he0] at HR
        go_wp2_with fail
        go_ret
        exact ⟨by rw [HR.out]; rfl, HB1.out⟩
      · rw [he0] at HR
        cases hrt : (R.toList == xt.toList)
        · rw [hrt] at HR
          go_wp2_with fail
          go_ret
          exact ⟨by rw [HR.out]; rfl, HB1.out⟩
        · rw [hrt] at HR
          go_wp2_with fail
          go_ret
          exact ⟨by rw [HR.out]; rfl, HB1.out⟩
  have q3 : (xk == 3) = false := by simp; omega
  by_cases G4 : xk = 4 ∨ xk = 8
  · have HR := Lib.hid (show rightP Num2.normP (GoEv.ev ⟨xk, xt, xv⟩) = (xv.toList.isEmpty && mayP xt.data.toList) by
      rw [← HVv.out]; exact (if_neg (by simp only [GoEv.ev]; omega)).trans ((if_neg (by simp only [GoEv.ev]; omega)).trans ((if_neg (by simp only [GoEv.ev]; omega)).trans (if_pos G4))))
    have hks : ((xk == 4) = true) ∨ ((xk == 4) = false ∧ (xk == 8) = true) := by rcases G4 with rfl | rfl <;> simp
    clear G4
    rcases hks with q4 | ⟨q4, q8⟩
    all_goals
      cases hev : xv.toList.isEmpty
      · rw [hev] at HR
        go_enter Tryz.func77, Tryz.ntmps77
        go_wp2_with fail
        go_ret
        exact ⟨by rw [HR.out]; rfl, HB0.out⟩
      · rw [hev] at HR
        go_enter Tryz.func77, Tryz.ntmps77
        go_wp2_with fail
        refine (evmay_any xt _ HE0.out ht).mono ?_
        rintro e w1 ⟨rfl, hb⟩
        have HB1 := Lib.hid (below_after hb); clear hb
        go_wp2_with fail
        go_ret
        exact ⟨by rw [HR.out]; rfl, HB1.out⟩
  have q4 : (xk == 4) = false := by simp; omega
  have q8 : (xk == 8) = false := by simp; omega
  by_cases g10 : xk = 10
  · have q10 : (xk == 10) = true := by rw [g10]; rfl
    have HR := Lib.hid (show rightP Num2.normP (GoEv.ev ⟨xk, xt, xv⟩) = (xv.toList.isEmpty && fullP xt.data.toList) by
      rw [← HVv.out]; exact (if_neg (by simp only [GoEv.ev]; omega)).trans ((if_neg (by simp only [GoEv.ev]; omega)).trans ((if_neg (by simp only [GoEv.ev]; omega)).trans ((if_neg (by simp only [GoEv.ev]; omega)).trans (if_pos g10)))))
    clear g10
    cases hev : xv.toList.isEmpty
    · rw [hev] at HR
      go_enter Tryz.func77, Tryz.ntmps77
      go_wp2_with fail
      go_ret
      exact ⟨by rw [HR.out]; rfl, HB0.out⟩
    · rw [hev] at HR
      go_enter Tryz.func77, Tryz.ntmps77
      go_wp2_with fail
      refine (full_any xt _ HE0.out ht).mono ?_
      rintro e w1 ⟨rfl, hb⟩
      have HB1 := Lib.hid (below_after hb); clear hb
      go_wp2_with fail
      go_ret
      exact ⟨by rw [HR.out]; rfl, HB1.out⟩
  have q10 : (xk == 10) = false := by simp; omega
  by_cases g11 : xk = 11
  · have q11 : (xk == 11) = true := by rw [g11]; rfl
    have HR := Lib.hid (show rightP Num2.normP (GoEv.ev ⟨xk, xt, xv⟩) = (fullP xt.data.toList && mayP xv.data.toList) by
      exact (if_neg (by simp only [GoEv.ev]; omega)).trans ((if_neg (by simp only [GoEv.ev]; omega)).trans ((if_neg (by simp only [GoEv.ev]; omega)).trans ((if_neg (by simp only [GoEv.ev]; omega)).trans ((if_neg (by simp only [GoEv.ev]; omega)).trans (if_pos g11))))))
    clear g11
    go_enter Tryz.func77, Tryz.ntmps77
    go_wp2_with fail
    refine (full_any xt _ HE0.out ht).mono ?_
    rintro e w1 ⟨rfl, hb⟩
    have hx := (hb.block _ (by simp)).trans (heap_alloc_new w (.cells (evC ⟨xk, xt, xv⟩) 85))
    have HE1 := Lib.hid (HE0.out.below hb)
    have HB1 := Lib.hid (below_after hb); clear hb
    obtain ⟨x0, x1, x2, x3⟩ := ev_cells hx
    clear hx
    cases hf : fullP xt.data.toList
    · rw [hf] at HR
      go_wp2_with fail
      go_ret
      exact ⟨by rw [HR.out]; rfl, HB1.out⟩
    · rw [hf] at HR
      go_wp2_with fail
      refine (evmay_any xv _ HE1.out hv).mono ?_
      rintro e w2 ⟨rfl, hb⟩
      have HB2 := Lib.hid (below_then HB1.out hb); clear hb
      go_wp2_with fail
      go_ret
      exact ⟨by rw [HR.out]; rfl, HB2.out⟩
  have q11 : (xk == 11) = false := by simp; omega
  have HR := Lib.hid (show rightP Num2.normP (GoEv.ev ⟨xk, xt, xv⟩) = false by
    exact (if_neg (by simp only [GoEv.ev]; omega)).trans ((if_neg (by simp only [GoEv.ev]; omega)).trans ((if_neg (by simp only [GoEv.ev]; omega)).trans ((if_neg (by simp only [GoEv.ev]; omega)).trans ((if_neg (by simp only [GoEv.ev]; omega)).trans (if_neg (by simp only [GoEv.ev]; omega)))))))
  clear G1 G4 g2 g3 g10 g11
  go_enter Tryz.func77, Tryz.ntmps77
  go_wp2_with fail
  go_ret
  exact ⟨by rw [HR.out]; rfl, HB0.out⟩
end Go.Proofs.YtmniblcooficgaaGreatDoor
