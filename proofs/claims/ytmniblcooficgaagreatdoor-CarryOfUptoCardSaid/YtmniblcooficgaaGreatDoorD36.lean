import Derived.Test.YtmniblcooficgaaGreatDoorD35
namespace Go.Proofs.YtmniblcooficgaaGreatDoor
open Go.RowKit Ev5
set_option linter.unusedSimpArgs false
set_option linter.unusedVariables false

set_option maxRecDepth 100000 in
set_option maxHeartbeats 16000000 in
theorem refAngle_any (w : World) (S : Nat → Prop) (wv : Value) (way : List Nd) (hs : SlIn w S wv way) (hw : WayK way) (hl : way.length ≤ 200000) :
    Calls Tryz.prog 67 #[wv] w fun e w' => e = .returned (.bool (tpA way)) ∧ Below w.heap.size w w' := by
  have hne := wayC_ne hw.1
  obtain ⟨init, n, hway⟩ : ∃ l x, way = l ++ [x] := ⟨_, _, (List.dropLast_concat_getLast hne).symm⟩
  obtain ⟨wa, wc, rfl, hwc, hwm⟩ := hs.shape
  have hlen : way.length = init.length + 1 := by rw [hway, List.length_append, List.length_singleton]
  have hlast : init.length < way.length := by omega
  obtain ⟨bb, oo, ux, hao, hbw, c0, c1, c2, c3, hsx⟩ := hs.at_ init.length hlast
  subst hao
  have hget : way[init.length] = n := by simp [hway]
  rw [hget] at c0 c1 c2 hsx
  obtain ⟨ax, cx, rfl, hcx, hcm⟩ := hsx.shape
  have hnw := hw.2 n (by rw [hway]; simp)
  have HS := Lib.hid hs; have HSX := Lib.hid hsx.ltC
  have HT := Lib.hid (show tpA way = _ by rw [hway, tpA_last])
  have HIN := Lib.hid (fun (j : Nat) (hj : j < init.length) => show way[j]'(by omega) = init[j] by simp [hway, List.getElem_append_left hj])
  have HWI := Lib.hid (fun (j : Nat) (hj : j < init.length) => (hw.2 init[j] (by rw [hway]; simp)).1)
  obtain ⟨WK, hWK⟩ : ∃ WK, init.length = WK := ⟨_, rfl⟩
  rw [hWK] at hlen c0 c1 c2 c3
  have hw0 : (0 : Int) ≤ (WK : Int) := Int.natCast_nonneg _
  have HLEN := Lib.hid hlen; have HWK := Lib.hid hWK
  have hkl : n.kids.length ≤ 50000 := by have := sizes_len n.kids; have := kids_size n; omega
  have hnt : n.t.size ≤ 1048576 := by
    have h := hnw.1
    cases n with
    | mk a b c d => rw [ok_mk] at h; exact h.1.t
  have hnv : n.v.size ≤ 1048576 := by
    have h := hnw.1
    cases n with
    | mk a b c d => rw [ok_mk] at h; exact h.1.v
  have HNK := Lib.hid hnw.1
  have HB0 := Lib.hid (show Below w.heap.size w (w.alloc (.cells #[.int .i64 n.k, .string n.t, .string n.v, .slice ax n.kids.length cx] 24)) from (Below.refl _ _).alloc (Nat.le_refl _) _)
  have HX := Lib.hid (heap_alloc_new w (.cells #[.int .i64 n.k, .string n.t, .string n.v, .slice ax n.kids.length cx] 24))
  have HRT := Lib.hid (fun (W : World) => refRaw_any n.t W hnt)
  have HRV := Lib.hid (fun (W : World) => refRaw_any n.v W hnv)
  obtain ⟨A, hA, hAs⟩ : ∃ A : ByteArray, str (spA n.t) = .string A ∧ A.data.toList = spA n.t := ⟨⟨(spA n.t).toArray⟩, rfl, by simp⟩
  have HSPN := Lib.hid (fun (W : World) => (refSpaceA_any n.t W hnt).mono fun e w2 h => show e = .returned (.string A) ∧ Below W.heap.size W w2 from ⟨by rw [h.1, hA], h.2⟩)
  have HAS := Lib.hid hAs
  obtain ⟨M, hM⟩ : ∃ M, (bindA n.kids).length = M := ⟨_, rfl⟩
  have hMl : M ≤ 50000 := by have := bindA_len n.kids; omega
  have HM := Lib.hid hM
  have HBI := Lib.hid (fun (W : World) (S : Nat → Prop) (v : Value) (h : NdV W S v n) => (refBinds_any n hnw.1 (by omega) W S v h).mono fun e w2 h => show (∃ a c, e = .returned (.slice a M c)) ∧ Below W.heap.size W w2 from ⟨by rw [← hM]; exact h.1, h.2⟩)
  clear hs hne hsx hlast hget hw hnw hA hAs hM hnt hnv
  unfold maxLen at *
  have hwkI : ((WK + 1 : Nat) : Int) - 1 = (WK : Int) := by omega
  have hw2 : (WK : Int) < ((WK + 1 : Nat) : Int) := by omega
  rw [hlen] at hwc hl
  rw [hlen]
  clear hway hlen hWK
  obtain ⟨x0, x1, x2, x3, _, _, _, _, hxl⟩ := nd_cells HX.out
  by_cases hno : init = [] ∧ n.k ≠ 10
  · have hT := Lib.hid (show tpA way = false by rw [HT.out, if_pos hno])
    have hwz : ((WK : Int) == 0) = true := by have h := HWK.out; rw [hno.1] at h; simp at h; simp; omega
    have hw1 : (((WK + 1 : Nat) : Int) == 1) = true := by have h := HWK.out; rw [hno.1] at h; simp at h; simp; omega
    have hkb : (n.k != 10) = true := by simp [hno.2]
    clear hno HT
    go_enter Tryz.func67, Tryz.ntmps67
    go_wp2_with fail
    go_ret
    exact ⟨by rw [hT.out]; rfl, HB0.out⟩
  have HT2 := Lib.hid (HT.out.trans (if_neg hno))
  by_cases hW0 : WK = 0
  · have hi0 : init = [] := List.eq_nil_of_length_eq_zero (HWK.out.trans hW0)
    have h10 : n.k = 10 := by
      by_cases h : n.k = 10
      · exact h
      · exact absurd ⟨hi0, h⟩ hno
    have hk10 : (n.k != 10) = false := by simp [h10]
    have hk4 : (n.k == 4) = false := by simp [h10]
    have hk11 : (n.k == 11) = false := by simp [h10]
    have hT3 := Lib.hid (show tpA way = (decide (needA n [] ≤ 10) && decide (needA n [] + attA n.kids ≤ 20)) by
      rw [HT2.out, if_neg (by omega), if_neg (by omega), hi0]; rfl)
    obtain ⟨Q, hQe, hQ⟩ : ∃ Q : ByteArray, (⟨#[]⟩ : ByteArray) = Q ∧ Q.data.toList = [] := ⟨_, rfl, rfl⟩
    have hw1 : (((WK + 1 : Nat) : Int) == 1) = true := by simp; omega
    have hw3 : ¬ (1 : Int) < ((WK + 1 : Nat) : Int) := by omega
    subst hW0
    simp only [Nat.zero_mul, Nat.add_zero] at c0 c1 c2 c3
    clear hno hi0 h10 HT HT2
    go_enter Tryz.func67, Tryz.ntmps67
    go_wp2_with fail
    refine (HBI.out _ _ _ (.mk (HSX.out.below HB0.out))).mono ?_
    rintro e w4 ⟨⟨ba, bc, rfl⟩, hb⟩
    have HB4 := Lib.hid (bthen HB0.out hb)
    have HX4 := Lib.hid ((hb.block _ (lt_blk HX.out)).trans HX.out)
    clear hb x0 x1 x2 x3 hxl
    obtain ⟨x0, x1, x2, x3, _, _, _, _, hxl⟩ := nd_cells HX4.out
    go_wp2_with fail
    refine (HSPN.out _).mono ?_
    rintro e w6 ⟨rfl, hb⟩
    have HB6 := Lib.hid (bthen HB4.out hb)
    have HX6 := Lib.hid ((hb.block _ (lt_blk HX4.out)).trans HX4.out)
    clear hb x0 x1 x2 x3 hxl
    obtain ⟨x0, x1, x2, x3, _, _, _, _, hxl⟩ := nd_cells HX6.out
    skip
    by_cases hsq : spA n.t = []
    · have hq1 : (A.toList == Q.toList) = true := by rw [ByteArray.toList_eq, ByteArray.toList_eq, HAS.out, hQ, hsq]; simp
      have hq2 : (A.toList != Q.toList) = false := by rw [bne, hq1]; rfl
      have hq3 : A.toList.isEmpty = true := by rw [isE_nil HAS.out, hsq]; rfl
      have HNE := Lib.hid (show needA n [] = M by unfold needA; rw [if_pos hsq, HM.out]; rfl)
      clear hsq hQ
      go_wp2_with fail
      go_loopw [6, 7] (fun v6 v7 wr => ∃ i : Nat, i ≤ n.kids.length ∧ v7 = .int .i64 i ∧ v6 = .int .i64 (attA (n.kids.take i) : Int) ∧ Hid (wr.heap[w.heap.size]? = some (.cells #[.int .i64 n.k, .string n.t, .string n.v, .slice ax n.kids.length cx] 24 (0, 0))) ∧ Hid (Below w.heap.size w wr)) (fun _ v7 _ => n.kids.length - (intOf v7).toNat)
      case atStart => exact ⟨0, Nat.zero_le _, rfl, rfl, HX6.out, HB6.out⟩
      case round =>
        obtain ⟨i, hi, rfl, rfl, HXR, HBR⟩ := hrel
        have hal := attA_len (n.kids.take i)
        rw [List.length_take] at hal
        obtain ⟨Z, hZ⟩ : ∃ Z : Nat, attA (n.kids.take i) = Z := ⟨_, rfl⟩
        rw [hZ] at hal
        have hZl : Z ≤ 50000 := by omega
        rw [hZ]
        have HZ := Lib.hid hZ
        clear hZ hal
        obtain ⟨x0, x1, x2, x3, _, _, _, _, hxl⟩ := nd_cells HXR.out
        by_cases hlt : i < n.kids.length
        · have hi0 : (0 : Int) ≤ (i : Int) := Int.natCast_nonneg _
          have hi1 : (i : Int) < (n.kids.length : Int) := by omega
          obtain ⟨kb, ko, kx, hko, hkw, k0, k1, k2, k3, hkx⟩ := HSX.out.at_ i hlt
          subst hko
          have has := attA_step hlt
          obtain ⟨yk, hy⟩ : ∃ yk, n.kids[i].k = yk := ⟨_, rfl⟩
          rw [hy] at k0 has
          have d0 : wr.cell? ⟨kb, ko + i * 4, none⟩ = some (.int .i64 yk) := (HBR.out.cell (p := ⟨kb, ko + i * 4, none⟩) hkw).trans k0
          have hkl2 : kb < wr.heap.size := Nat.lt_of_lt_of_le hkw HBR.out.size
          have HAS2 := Lib.hid has
          clear k0 k1 k2 k3 hkx has hy
          by_cases h11 : yk = 11
          · have hkc : (yk == 11) = true := by simp [h11]
            have HN := Lib.hid (show attA (n.kids.take (i + 1)) = Z + 1 by rw [HAS2.out, if_pos h11, HZ.out])
            clear h11
            go_wp2_with fail
            go_roundw
            case rel => exact ⟨i + 1, by omega, by go_num, by rw [HN.out]; go_num, HXR.out, HBR.out⟩
            case measure => simp [intOf]; omega
          · have hkc : (yk == 11) = false := by simp [h11]
            have HN := Lib.hid (show attA (n.kids.take (i + 1)) = Z by rw [HAS2.out, if_neg h11, HZ.out]; rfl)
            clear h11
            go_wp2_with fail
            go_roundw
            case rel => exact ⟨i + 1, by omega, by go_num, by rw [HN.out], HXR.out, HBR.out⟩
            case measure => simp [intOf]; omega
        · obtain rfl : i = n.kids.length := by omega
          have hi1 : ¬ ((n.kids.length : Nat) : Int) < (n.kids.length : Int) := by omega
          have HZ2 := Lib.hid (show attA n.kids = Z by have h := HZ.out; rwa [List.take_length] at h)
          have HR := Lib.hid (show tpA way = (decide (M ≤ 10) && decide (M + Z ≤ 20)) by rw [hT3.out, HNE.out, HZ2.out])
          by_cases g1 : M ≤ 10
          · have g3 : decide ((M : Int) ≤ 10) = true := decide_eq_true (by omega)
            by_cases g2 : M + Z ≤ 20
            · have HR2 := Lib.hid (show tpA way = true by rw [HR.out, decide_eq_true g1, decide_eq_true g2]; rfl)
              have g4 : decide ((M : Int) + (Z : Int) ≤ 20) = true := decide_eq_true (by omega)
              go_wp2_with fail
              go_ret
              exact ⟨by rw [HR2.out]; rfl, HBR.out⟩
            · have HR2 := Lib.hid (show tpA way = false by rw [HR.out, decide_eq_false g2, Bool.and_false])
              have g4 : decide ((M : Int) + (Z : Int) ≤ 20) = false := decide_eq_false (by omega)
              go_wp2_with fail
              go_ret
              exact ⟨by rw [HR2.out]; rfl, HBR.out⟩
          · have HR2 := Lib.hid (show tpA way = false by rw [HR.out, decide_eq_false g1]; rfl)
            have g3 : decide ((M : Int) ≤ 10) = false := decide_eq_false (by omega)
            go_wp2_with fail
            go_ret
            exact ⟨by rw [HR2.out]; rfl, HBR.out⟩
    · have hq1 : (A.toList == Q.toList) = false := by rw [ByteArray.toList_eq, ByteArray.toList_eq, HAS.out, hQ, beq_eq_false_iff_ne]; exact hsq
      have hq2 : (A.toList != Q.toList) = true := by rw [bne, hq1]; rfl
      have hq3 : A.toList.isEmpty = false := by
        rw [isE_nil HAS.out]
        cases h : spA n.t with
        | nil => exact absurd h hsq
        | cons a b => rfl
      have HNE := Lib.hid (show needA n [] = M + 1 by unfold needA; rw [if_neg hsq, HM.out])
      clear hsq hQ
      go_wp2_with fail
      go_loopw [6, 7] (fun v6 v7 wr => ∃ i : Nat, i ≤ n.kids.length ∧ v7 = .int .i64 i ∧ v6 = .int .i64 (attA (n.kids.take i) : Int) ∧ Hid (wr.heap[w.heap.size]? = some (.cells #[.int .i64 n.k, .string n.t, .string n.v, .slice ax n.kids.length cx] 24 (0, 0))) ∧ Hid (Below w.heap.size w wr)) (fun _ v7 _ => n.kids.length - (intOf v7).toNat)
      case atStart => exact ⟨0, Nat.zero_le _, rfl, rfl, HX6.out, HB6.out⟩
      case round =>
        obtain ⟨i, hi, rfl, rfl, HXR, HBR⟩ := hrel
        have hal := attA_len (n.kids.take i)
        rw [List.length_take] at hal
        obtain ⟨Z, hZ⟩ : ∃ Z : Nat, attA (n.kids.take i) = Z := ⟨_, rfl⟩
        rw [hZ] at hal
        have hZl : Z ≤ 50000 := by omega
        rw [hZ]
        have HZ := Lib.hid hZ
        clear hZ hal
        obtain ⟨x0, x1, x2, x3, _, _, _, _, hxl⟩ := nd_cells HXR.out
        by_cases hlt : i < n.kids.length
        · have hi0 : (0 : Int) ≤ (i : Int) := Int.natCast_nonneg _
          have hi1 : (i : Int) < (n.kids.length : Int) := by omega
          obtain ⟨kb, ko, kx, hko, hkw, k0, k1, k2, k3, hkx⟩ := HSX.out.at_ i hlt
          subst hko
          have has := attA_step hlt
          obtain ⟨yk, hy⟩ : ∃ yk, n.kids[i].k = yk := ⟨_, rfl⟩
          rw [hy] at k0 has
          have d0 : wr.cell? ⟨kb, ko + i * 4, none⟩ = some (.int .i64 yk) := (HBR.out.cell (p := ⟨kb, ko + i * 4, none⟩) hkw).trans k0
          have hkl2 : kb < wr.heap.size := Nat.lt_of_lt_of_le hkw HBR.out.size
          have HAS2 := Lib.hid has
          clear k0 k1 k2 k3 hkx has hy
          by_cases h11 : yk = 11
          · have hkc : (yk == 11) = true := by simp [h11]
            have HN := Lib.hid (show attA (n.kids.take (i + 1)) = Z + 1 by rw [HAS2.out, if_pos h11, HZ.out])
            clear h11
            go_wp2_with fail
            go_roundw
            case rel => exact ⟨i + 1, by omega, by go_num, by rw [HN.out]; go_num, HXR.out, HBR.out⟩
            case measure => simp [intOf]; omega
          · have hkc : (yk == 11) = false := by simp [h11]
            have HN := Lib.hid (show attA (n.kids.take (i + 1)) = Z by rw [HAS2.out, if_neg h11, HZ.out]; rfl)
            clear h11
            go_wp2_with fail
            go_roundw
            case rel => exact ⟨i + 1, by omega, by go_num, by rw [HN.out], HXR.out, HBR.out⟩
            case measure => simp [intOf]; omega
        · obtain rfl : i = n.kids.length := by omega
          have hi1 : ¬ ((n.kids.length : Nat) : Int) < (n.kids.length : Int) := by omega
          have HZ2 := Lib.hid (show attA n.kids = Z by have h := HZ.out; rwa [List.take_length] at h)
          have HR := Lib.hid (show tpA way = (decide ((M + 1) ≤ 10) && decide ((M + 1) + Z ≤ 20)) by rw [hT3.out, HNE.out, HZ2.out])
          by_cases g1 : (M + 1) ≤ 10
          · have g3 : decide (((M : Int) + 1) ≤ 10) = true := decide_eq_true (by omega)
            by_cases g2 : (M + 1) + Z ≤ 20
            · have HR2 := Lib.hid (show tpA way = true by rw [HR.out, decide_eq_true g1, decide_eq_true g2]; rfl)
              have g4 : decide (((M : Int) + 1) + (Z : Int) ≤ 20) = true := decide_eq_true (by omega)
              go_wp2_with fail
              go_ret
              exact ⟨by rw [HR2.out]; rfl, HBR.out⟩
            · have HR2 := Lib.hid (show tpA way = false by rw [HR.out, decide_eq_false g2, Bool.and_false])
              have g4 : decide (((M : Int) + 1) + (Z : Int) ≤ 20) = false := decide_eq_false (by omega)
              go_wp2_with fail
              go_ret
              exact ⟨by rw [HR2.out]; rfl, HBR.out⟩
          · have HR2 := Lib.hid (show tpA way = false by rw [HR.out, decide_eq_false g1]; rfl)
            have g3 : decide (((M : Int) + 1) ≤ 10) = false := decide_eq_false (by omega)
            go_wp2_with fail
            go_ret
            exact ⟨by rw [HR2.out]; rfl, HBR.out⟩
  · have hwn : ((WK : Int) == 0) = false := by simp; omega
    have hw1 : (((WK + 1 : Nat) : Int) == 1) = false := by simp; omega
    have hw3 : (1 : Int) < ((WK + 1 : Nat) : Int) := by omega
    by_cases h4 : n.k = 4
    · have hk4 : (n.k == 4) = true := by simp [h4]
      have hT := Lib.hid (show tpA way = rawB n.t.data.toList by rw [HT2.out, if_pos h4])
      clear hno h4 HT HT2
      go_enter Tryz.func67, Tryz.ntmps67
      go_wp2_with fail
      refine (HRT.out _).mono ?_
      rintro e w5 ⟨rfl, hb⟩
      have HB5 := Lib.hid (bthen HB0.out hb)
      clear hb
      obtain ⟨RB, hRB⟩ : ∃ RB, rawB n.t.data.toList = RB := ⟨_, rfl⟩
      rw [hRB]
      have HRB := Lib.hid hRB
      clear hRB
      go_wp2_with fail
      go_ret
      exact ⟨by rw [hT.out, HRB.out]; rfl, HB5.out⟩
    · have hk4 : (n.k == 4) = false := by simp [h4]
      by_cases h11 : n.k = 11
      · have hk11 : (n.k == 11) = true := by simp [h11]
        have hT := Lib.hid (show tpA way = (decide (n.t.data.toList ≠ nsL) && rawB n.v.data.toList) by rw [HT2.out, if_neg h4, if_pos h11])
        by_cases hns : n.t.data.toList = nsL
        · have hT4 := Lib.hid (show tpA way = false by rw [hT.out, decide_eq_false (by simp [hns])]; rfl)
          have htq : (n.t.toList == [120, 109, 108, 110, 115]) = true := by rw [ByteArray.toList_eq, hns]; rfl
          have htq2 : (n.t.toList != [120, 109, 108, 110, 115]) = false := by rw [bne, htq]; rfl
          clear hno h4 h11 hns HT HT2 hT
          go_enter Tryz.func67, Tryz.ntmps67
          go_wp2_with fail
          go_ret
          exact ⟨by rw [hT4.out]; rfl, HB0.out⟩
        · have hT4 := Lib.hid (show tpA way = rawB n.v.data.toList by rw [hT.out, decide_eq_true hns, Bool.true_and])
          have htq : (n.t.toList == [120, 109, 108, 110, 115]) = false := by rw [ByteArray.toList_eq, beq_eq_false_iff_ne]; exact hns
          have htq2 : (n.t.toList != [120, 109, 108, 110, 115]) = true := by rw [bne, htq]; rfl
          clear hno h4 h11 hns HT HT2 hT
          go_enter Tryz.func67, Tryz.ntmps67
          go_wp2_with fail
          refine (HRV.out _).mono ?_
          rintro e w5 ⟨rfl, hb⟩
          have HB5 := Lib.hid (bthen HB0.out hb)
          clear hb
          obtain ⟨RB, hRB⟩ : ∃ RB, rawB n.v.data.toList = RB := ⟨_, rfl⟩
          rw [hRB]
          have HRB := Lib.hid hRB
          clear hRB
          go_wp2_with fail
          go_ret
          exact ⟨by rw [hT4.out, HRB.out]; rfl, HB5.out⟩
      · have hk11 : (n.k == 11) = false := by simp [h11]
        have hT3 := Lib.hid (show tpA way = (decide (needA n (outA init) ≤ 10) && decide (needA n (outA init) + attA n.kids ≤ 20)) by rw [HT2.out, if_neg h4, if_neg h11])
        clear hno h4 h11 HT HT2
        obtain ⟨i2, rfl⟩ : ∃ i2, WK = i2 + 1 := ⟨WK - 1, by omega⟩
        obtain ⟨rb, ro, rx, hro, hrw, r0, r1, r2, r3, hrx⟩ := HS.out.at_ i2 (by have := HLEN.out; omega)
        injection hro with hro
        injection hro with hro1 hro2 _
        subst hro1; subst hro2
        obtain ⟨ar, cr, rfl, _, _⟩ := hrx.shape
        have hup := HIN.out i2 (by have := HWK.out; omega)
        rw [hup] at r0 r1 r2 r3
        obtain ⟨up, hU⟩ : ∃ up, init[i2]'(by have := HWK.out; omega) = up := ⟨_, rfl⟩
        rw [hU] at r0 r1 r2 r3
        have HUP := Lib.hid (show outA init = spA up.t by
          unfold outA
          rw [show init.getLast? = some up by
            rw [List.getLast?_eq_getElem?, show init.length - 1 = i2 by have := HWK.out; omega, List.getElem?_eq_getElem (by have := HWK.out; omega), hU]])
        have hupt : up.t.size ≤ 1048576 := by
          have h := HWI.out i2 (by have := HWK.out; omega)
          rw [hU] at h
          cases up with
          | mk a b c d => rw [ok_mk] at h; exact h.1.t
        have d1 : (w.alloc (.cells #[.int .i64 n.k, .string n.t, .string n.v, .slice ax n.kids.length cx] 24)).cell? ⟨bb, oo + i2 * 4 + 1, none⟩ = some (.string up.t) := (HB0.out.cell (p := ⟨bb, oo + i2 * 4 + 1, none⟩) hbw).trans r1
        have hbl : bb < (w.alloc (.cells #[.int .i64 n.k, .string n.t, .string n.v, .slice ax n.kids.length cx] 24)).heap.size := Nat.lt_of_lt_of_le hbw HB0.out.size
        have hii : ((i2 + 1 + 1 : Nat) : Int) - 2 = (i2 : Int) := by omega
        have hi20 : (0 : Int) ≤ (i2 : Int) := Int.natCast_nonneg _
        have hi21 : (i2 : Int) < ((i2 + 1 + 1 : Nat) : Int) := by omega
        obtain ⟨Q, hQe, hQ⟩ : ∃ Q : ByteArray, str (spA up.t) = .string Q ∧ Q.data.toList = outA init := ⟨⟨(spA up.t).toArray⟩, rfl, by rw [HUP.out]⟩
        have HSPU := Lib.hid (fun (W : World) => (refSpaceA_any up.t W hupt).mono fun e w2 h => show e = .returned (.string Q) ∧ Below W.heap.size W w2 from ⟨by rw [h.1, hQe], h.2⟩)
        clear r0 r2 r3 hrx hup hU hupt hQe
        go_enter Tryz.func67, Tryz.ntmps67
        go_wp2_with fail
        refine (HSPU.out _).mono ?_
        rintro e w3 ⟨rfl, hb⟩
        have HB3 := Lib.hid (bthen HB0.out hb)
        have HX3 := Lib.hid ((hb.block _ (lt_blk HX.out)).trans HX.out)
        clear hb x0 x1 x2 x3 hxl d1 hbl
        obtain ⟨x0, x1, x2, x3, _, _, _, _, hxl⟩ := nd_cells HX3.out
        go_wp2_with fail
        refine (HBI.out _ _ _ (.mk (HSX.out.below HB3.out))).mono ?_
        rintro e w4 ⟨⟨ba, bc, rfl⟩, hb⟩
        have HB4 := Lib.hid (bthen HB3.out hb)
        have HX4 := Lib.hid ((hb.block _ (lt_blk HX3.out)).trans HX3.out)
        clear hb x0 x1 x2 x3 hxl
        obtain ⟨x0, x1, x2, x3, _, _, _, _, hxl⟩ := nd_cells HX4.out
        go_wp2_with fail
        refine (HSPN.out _).mono ?_
        rintro e w6 ⟨rfl, hb⟩
        have HB6 := Lib.hid (bthen HB4.out hb)
        have HX6 := Lib.hid ((hb.block _ (lt_blk HX4.out)).trans HX4.out)
        clear hb x0 x1 x2 x3 hxl
        obtain ⟨x0, x1, x2, x3, _, _, _, _, hxl⟩ := nd_cells HX6.out
        skip
        by_cases hsq : spA n.t = (outA init)
        · have hq1 : (A.toList == Q.toList) = true := by rw [ByteArray.toList_eq, ByteArray.toList_eq, HAS.out, hQ, hsq]; simp
          have hq2 : (A.toList != Q.toList) = false := by rw [bne, hq1]; rfl
          have HNE := Lib.hid (show needA n (outA init) = M by unfold needA; rw [if_pos hsq, HM.out]; rfl)
          clear hsq hQ
          go_wp2_with fail
          go_loopw [6, 7] (fun v6 v7 wr => ∃ i : Nat, i ≤ n.kids.length ∧ v7 = .int .i64 i ∧ v6 = .int .i64 (attA (n.kids.take i) : Int) ∧ Hid (wr.heap[w.heap.size]? = some (.cells #[.int .i64 n.k, .string n.t, .string n.v, .slice ax n.kids.length cx] 24 (0, 0))) ∧ Hid (Below w.heap.size w wr)) (fun _ v7 _ => n.kids.length - (intOf v7).toNat)
          case atStart => exact ⟨0, Nat.zero_le _, rfl, rfl, HX6.out, HB6.out⟩
          case round =>
            obtain ⟨i, hi, rfl, rfl, HXR, HBR⟩ := hrel
            have hal := attA_len (n.kids.take i)
            rw [List.length_take] at hal
            obtain ⟨Z, hZ⟩ : ∃ Z : Nat, attA (n.kids.take i) = Z := ⟨_, rfl⟩
            rw [hZ] at hal
            have hZl : Z ≤ 50000 := by omega
            rw [hZ]
            have HZ := Lib.hid hZ
            clear hZ hal
            obtain ⟨x0, x1, x2, x3, _, _, _, _, hxl⟩ := nd_cells HXR.out
            by_cases hlt : i < n.kids.length
            · have hi0 : (0 : Int) ≤ (i : Int) := Int.natCast_nonneg _
              have hi1 : (i : Int) < (n.kids.length : Int) := by omega
              obtain ⟨kb, ko, kx, hko, hkw, k0, k1, k2, k3, hkx⟩ := HSX.out.at_ i hlt
              subst hko
              have has := attA_step hlt
              obtain ⟨yk, hy⟩ : ∃ yk, n.kids[i].k = yk := ⟨_, rfl⟩
              rw [hy] at k0 has
              have d0 : wr.cell? ⟨kb, ko + i * 4, none⟩ = some (.int .i64 yk) := (HBR.out.cell (p := ⟨kb, ko + i * 4, none⟩) hkw).trans k0
              have hkl2 : kb < wr.heap.size := Nat.lt_of_lt_of_le hkw HBR.out.size
              have HAS2 := Lib.hid has
              clear k0 k1 k2 k3 hkx has hy
              by_cases h11 : yk = 11
              · have hkc : (yk == 11) = true := by simp [h11]
                have HN := Lib.hid (show attA (n.kids.take (i + 1)) = Z + 1 by rw [HAS2.out, if_pos h11, HZ.out])
                clear h11
                go_wp2_with fail
                go_roundw
                case rel => exact ⟨i + 1, by omega, by go_num, by rw [HN.out]; go_num, HXR.out, HBR.out⟩
                case measure => simp [intOf]; omega
              · have hkc : (yk == 11) = false := by simp [h11]
                have HN := Lib.hid (show attA (n.kids.take (i + 1)) = Z by rw [HAS2.out, if_neg h11, HZ.out]; rfl)
                clear h11
                go_wp2_with fail
                go_roundw
                case rel => exact ⟨i + 1, by omega, by go_num, by rw [HN.out], HXR.out, HBR.out⟩
                case measure => simp [intOf]; omega
            · obtain rfl : i = n.kids.length := by omega
              have hi1 : ¬ ((n.kids.length : Nat) : Int) < (n.kids.length : Int) := by omega
              have HZ2 := Lib.hid (show attA n.kids = Z by have h := HZ.out; rwa [List.take_length] at h)
              have HR := Lib.hid (show tpA way = (decide (M ≤ 10) && decide (M + Z ≤ 20)) by rw [hT3.out, HNE.out, HZ2.out])
              by_cases g1 : M ≤ 10
              · have g3 : decide ((M : Int) ≤ 10) = true := decide_eq_true (by omega)
                by_cases g2 : M + Z ≤ 20
                · have HR2 := Lib.hid (show tpA way = true by rw [HR.out, decide_eq_true g1, decide_eq_true g2]; rfl)
                  have g4 : decide ((M : Int) + (Z : Int) ≤ 20) = true := decide_eq_true (by omega)
                  go_wp2_with fail
                  go_ret
                  exact ⟨by rw [HR2.out]; rfl, HBR.out⟩
                · have HR2 := Lib.hid (show tpA way = false by rw [HR.out, decide_eq_false g2, Bool.and_false])
                  have g4 : decide ((M : Int) + (Z : Int) ≤ 20) = false := decide_eq_false (by omega)
                  go_wp2_with fail
                  go_ret
                  exact ⟨by rw [HR2.out]; rfl, HBR.out⟩
              · have HR2 := Lib.hid (show tpA way = false by rw [HR.out, decide_eq_false g1]; rfl)
                have g3 : decide ((M : Int) ≤ 10) = false := decide_eq_false (by omega)
                go_wp2_with fail
                go_ret
                exact ⟨by rw [HR2.out]; rfl, HBR.out⟩
        · have hq1 : (A.toList == Q.toList) = false := by rw [ByteArray.toList_eq, ByteArray.toList_eq, HAS.out, hQ, beq_eq_false_iff_ne]; exact hsq
          have hq2 : (A.toList != Q.toList) = true := by rw [bne, hq1]; rfl
          have HNE := Lib.hid (show needA n (outA init) = M + 1 by unfold needA; rw [if_neg hsq, HM.out])
          clear hsq hQ
          go_wp2_with fail
          go_loopw [6, 7] (fun v6 v7 wr => ∃ i : Nat, i ≤ n.kids.length ∧ v7 = .int .i64 i ∧ v6 = .int .i64 (attA (n.kids.take i) : Int) ∧ Hid (wr.heap[w.heap.size]? = some (.cells #[.int .i64 n.k, .string n.t, .string n.v, .slice ax n.kids.length cx] 24 (0, 0))) ∧ Hid (Below w.heap.size w wr)) (fun _ v7 _ => n.kids.length - (intOf v7).toNat)
          case atStart => exact ⟨0, Nat.zero_le _, rfl, rfl, HX6.out, HB6.out⟩
          case round =>
            obtain ⟨i, hi, rfl, rfl, HXR, HBR⟩ := hrel
            have hal := attA_len (n.kids.take i)
            rw [List.length_take] at hal
            obtain ⟨Z, hZ⟩ : ∃ Z : Nat, attA (n.kids.take i) = Z := ⟨_, rfl⟩
            rw [hZ] at hal
            have hZl : Z ≤ 50000 := by omega
            rw [hZ]
            have HZ := Lib.hid hZ
            clear hZ hal
            obtain ⟨x0, x1, x2, x3, _, _, _, _, hxl⟩ := nd_cells HXR.out
            by_cases hlt : i < n.kids.length
            · have hi0 : (0 : Int) ≤ (i : Int) := Int.natCast_nonneg _
              have hi1 : (i : Int) < (n.kids.length : Int) := by omega
              obtain ⟨kb, ko, kx, hko, hkw, k0, k1, k2, k3, hkx⟩ := HSX.out.at_ i hlt
              subst hko
              have has := attA_step hlt
              obtain ⟨yk, hy⟩ : ∃ yk, n.kids[i].k = yk := ⟨_, rfl⟩
              rw [hy] at k0 has
              have d0 : wr.cell? ⟨kb, ko + i * 4, none⟩ = some (.int .i64 yk) := (HBR.out.cell (p := ⟨kb, ko + i * 4, none⟩) hkw).trans k0
              have hkl2 : kb < wr.heap.size := Nat.lt_of_lt_of_le hkw HBR.out.size
              have HAS2 := Lib.hid has
              clear k0 k1 k2 k3 hkx has hy
              by_cases h11 : yk = 11
              · have hkc : (yk == 11) = true := by simp [h11]
                have HN := Lib.hid (show attA (n.kids.take (i + 1)) = Z + 1 by rw [HAS2.out, if_pos h11, HZ.out])
                clear h11
                go_wp2_with fail
                go_roundw
                case rel => exact ⟨i + 1, by omega, by go_num, by rw [HN.out]; go_num, HXR.out, HBR.out⟩
                case measure => simp [intOf]; omega
              · have hkc : (yk == 11) = false := by simp [h11]
                have HN := Lib.hid (show attA (n.kids.take (i + 1)) = Z by rw [HAS2.out, if_neg h11, HZ.out]; rfl)
                clear h11
                go_wp2_with fail
                go_roundw
                case rel => exact ⟨i + 1, by omega, by go_num, by rw [HN.out], HXR.out, HBR.out⟩
                case measure => simp [intOf]; omega
            · obtain rfl : i = n.kids.length := by omega
              have hi1 : ¬ ((n.kids.length : Nat) : Int) < (n.kids.length : Int) := by omega
              have HZ2 := Lib.hid (show attA n.kids = Z by have h := HZ.out; rwa [List.take_length] at h)
              have HR := Lib.hid (show tpA way = (decide ((M + 1) ≤ 10) && decide ((M + 1) + Z ≤ 20)) by rw [hT3.out, HNE.out, HZ2.out])
              by_cases g1 : (M + 1) ≤ 10
              · have g3 : decide (((M : Int) + 1) ≤ 10) = true := decide_eq_true (by omega)
                by_cases g2 : (M + 1) + Z ≤ 20
                · have HR2 := Lib.hid (show tpA way = true by rw [HR.out, decide_eq_true g1, decide_eq_true g2]; rfl)
                  have g4 : decide (((M : Int) + 1) + (Z : Int) ≤ 20) = true := decide_eq_true (by omega)
                  go_wp2_with fail
                  go_ret
                  exact ⟨by rw [HR2.out]; rfl, HBR.out⟩
                · have HR2 := Lib.hid (show tpA way = false by rw [HR.out, decide_eq_false g2, Bool.and_false])
                  have g4 : decide (((M : Int) + 1) + (Z : Int) ≤ 20) = false := decide_eq_false (by omega)
                  go_wp2_with fail
                  go_ret
                  exact ⟨by rw [HR2.out]; rfl, HBR.out⟩
              · have HR2 := Lib.hid (show tpA way = false by rw [HR.out, decide_eq_false g1]; rfl)
                have g3 : decide (((M : Int) + 1) ≤ 10) = false := decide_eq_false (by omega)
                go_wp2_with fail
                go_ret
                exact ⟨by rw [HR2.out]; rfl, HBR.out⟩
set_option maxRecDepth 100000 in
set_option maxHeartbeats 4000000 in
theorem tellsAngle : TellsAt 2 tpA WayK := by
  intro w S wv way hE hs hw hl
  obtain ⟨wa, wc, rfl, hwc, hwm⟩ := hs.shape
  have HS := Lib.hid hs; have HW := Lib.hid hw
  clear hs hE hw
  go_enter Tryz.func40, Tryz.ntmps40
  go_wp2_with fail
  refine (refAngle_any w _ _ way HS.out HW.out hl).mono ?_
  rintro e w1 ⟨rfl, hb⟩
  have HB := Lib.hid hb
  clear hb
  go_wp2_with fail
  go_ret
  exact ⟨rfl, HB.out⟩
theorem refOfAngle_any (n : Nd) (w : World) (S : Nat → Prop) (v : Value) (hE : EnvU w) (hv : NdV w S v n) (hok : n.ok) (hsz : n.size ≤ 50000) :
    Calls Tryz.prog 8 #[.int .i64 2, v] w (OfPost (ofP tpA n) w) :=
  refOf_any 2 _ _ (by omega) (by omega) tellsAngle (fun way n h i hi => wayK_snoc way n _ h (List.getElem_mem hi)) n w S v hE hv hok hsz (fun _ => ⟨trivial, fun x hx => by obtain rfl := List.mem_singleton.1 hx; exact ⟨hok, hsz⟩⟩)
end Go.Proofs.YtmniblcooficgaaGreatDoor
