import Derived.Test.YtmniblcooficgaaGreatDoorD34
namespace Go.Proofs.YtmniblcooficgaaGreatDoor
open Go.RowKit Ev5
set_option linter.unusedSimpArgs false
set_option linter.unusedVariables false

theorem SetS.below {w w' : World} {P : Program} {k : TypeId} {b n : Nat} {ks : List (List UInt8)} (h : SetS w P k b n ks) (hb : Below w.heap.size w w') : SetS w' P k b n ks :=
  h.kept (row := none) ⟨hb.os, hb.tape, hb.output, hb.size, fun k hk _ => hb.block k hk⟩ (by simp)
theorem cutV_of (t : ByteArray) : ∃ (A C : ByteArray) (D : Bool), cutV t.data.toList = .tuple #[.string A, .string C, .bool D] ∧ A.data.toList = spA t ∧ .string A = str (spA t) := ⟨⟨(spA t).toArray⟩, _, _, rfl, by simp, rfl⟩
theorem spA_len (t : ByteArray) : (spA t).length ≤ t.size := by
  have h : t.data.toList.length = t.size := Array.length_toList
  unfold spA cutP
  split
  · split
    · simp only [List.length_take, List.length_tail]; omega
    · exact Nat.zero_le _
  · split <;> exact Nat.zero_le _
theorem isE_nil {A : ByteArray} {l : List UInt8} (h : A.data.toList = l) : A.toList.isEmpty = l.isEmpty := by rw [ByteArray.toList_eq, h]
set_option maxRecDepth 100000 in
set_option maxHeartbeats 16000000 in
theorem elem_any : ∀ (N : Nat) (n : Nd) (way : List Nd), n.size ≤ N → Tf RP n → n.ok → n.k = 10 → n.size ≤ 100000 → ElemAt n way := by
  intro N
  induction N with
  | zero => intro n way hn; have := kids_size n; omega
  | succ N ih =>
  intro n way hn htf hok h10 hnz W B X v p S u hE hlk hv hSB hB hl
  obtain ⟨u2, e2, hs⟩ := hv
  obtain rfl : u = u2 := by simpa [ndV] using e2
  clear e2
  obtain ⟨ao, cap, rfl, hcap, hcm⟩ := hs.shape
  have hmf : ∀ (fn : Fn) (first cap : Array Value) (w : World), (Instr.makeFunc fn first cap).run Tryz.prog w = .ok (.func fn first cap) w := fun _ _ _ _ => rfl
  have hmm := @run_makeMap Tryz.prog
  have hkl : n.kids.length ≤ 100000 := by have := sizes_len n.kids; have := kids_size n; omega
  have hts : n.t.size ≤ 1048576 := by
    cases n with
    | mk a b c d => rw [ok_mk] at hok; exact hok.1.t
  have hkk : ∀ x ∈ n.kids, x.ok := by
    cases n with
    | mk a b c d => rw [ok_mk] at hok; exact (oks_iff _).1 hok.2
  obtain ⟨A, C, D, hcv, hA, hA2⟩ := cutV_of n.t
  obtain ⟨Q, hQ, hQ2⟩ : ∃ Q : ByteArray, str (outA way) = .string Q ∧ Q.data.toList = outA way := ⟨⟨(outA way).toArray⟩, rfl, by simp⟩
  rw [hQ]
  have H := Lib.hid hlk; have HS := Lib.hid hs; have HSB := Lib.hid hSB; have HBB := Lib.hid hB; have HE := Lib.hid hE; have HTF := Lib.hid htf; have HKK := Lib.hid hkk; have HIH := Lib.hid ih; have HNN := Lib.hid hn
  have HL := Lib.hid (two_first W (.cells #[.pointer (some ⟨X, 0, none⟩)] 41) (.cells #[.int .i64 n.k, .string n.t, .string n.v, .slice ao n.kids.length cap] 24))
  have HN := Lib.hid (two_last W (.cells #[.pointer (some ⟨X, 0, none⟩)] 41) (.cells #[.int .i64 n.k, .string n.t, .string n.v, .slice ao n.kids.length cap] 24))
  have HB0 := Lib.hid (show Below W.heap.size W ((W.alloc (.cells #[.pointer (some ⟨X, 0, none⟩)] 41)).alloc (.cells #[.int .i64 n.k, .string n.t, .string n.v, .slice ao n.kids.length cap] 24)) from ((Below.refl _ _).alloc (Nat.le_refl _) _).alloc (by simp) _)
  have HCUT := Lib.hid (fun (W' : World) (h : EnvU W') => show Calls Tryz.prog 53 #[.string n.t] W' fun e w' => e = .returned (.tuple #[.string A, .string C, .bool D]) ∧ Below W'.heap.size W' w' from hcv ▸ cut_any n.t W' h hts)
  have HA := Lib.hid hA; have HA2 := Lib.hid hA2; have HQ := Lib.hid hQ2
  have HTP := Lib.hid (show tpA (way ++ [n]) = (decide (needA n (outA way) ≤ 10) && decide (needA n (outA way) + attA n.kids ≤ 20)) by
    rw [tpA_last, if_neg (fun h => h.2 h10), if_neg (by omega), if_neg (by omega)])
  have H10 := Lib.hid h10
  have hpl : p.length + n.kids.length ≤ 100000 := by have := kids_size n; have := sizes_len n.kids; omega
  have HL2 := Lib.hid hl
  clear hlk hs hSB hB hE htf hok hkk ih hn hcv hA hA2 hQ hQ2 h10 hts hl
  unfold ndV
  go_enter Tryz.func30, Tryz.ntmps30
  go_wp2_with fail
  refine (HCUT.out _ (HE.out _ (HB0.out.mono HBB.out))).mono ?_
  rintro e w2 ⟨rfl, hb⟩
  have HB2 := Lib.hid (bthen HB0.out hb)
  have HN2 := Lib.hid ((hb.block _ (lt_blk HN.out)).trans HN.out)
  have HL3 := Lib.hid ((hb.block _ (lt_blk HL.out)).trans HL.out)
  clear hb
  obtain ⟨x0, x1, x2, x3, _, _, _, _, hxl⟩ := nd_cells HN2.out
  have hB3 : Below w2.heap.size w2 ((w2.alloc (.cells #[.string A] 9)).alloc (.map #[] 0)) := ((Below.refl _ _).alloc (Nat.le_refl _) _).alloc (by simp) _
  have HB3 := Lib.hid (bthen HB2.out hB3)
  have HO3 := Lib.hid (two_first w2 (.cells #[.string A] 9) (.map #[] 0))
  have HM3 := Lib.hid (show SetS ((w2.alloc (.cells #[.string A] 9)).alloc (.map #[] 0)) Tryz.prog 9 (w2.heap.size + 1) 0 [] by
    have h := setS_new (w2.alloc (.cells #[.string A] 9)) Tryz.prog 9
    simpa using h)
  have HN3 := Lib.hid ((hB3.block _ (lt_blk HN2.out)).trans HN2.out)
  have HL4 := Lib.hid ((hB3.block _ (lt_blk HL3.out)).trans HL3.out)
  clear hB3
  obtain ⟨y0, y1, y2, y3, _, _, _, _, hyl⟩ := nd_cells HN3.out
  go_wp2_with fail
  clear x0 x1 x2 x3 hxl y0 y1 y2 y3 hyl
  have hOB := lt_blk HO3.out
  have hMB := HM3.out.lt
  have hWB := HB2.out.size
  have hWB2 := lt_blk HN2.out
  go_loopw [10, 28] (fun v10 v28 wr => ∃ i : Nat, i ≤ n.kids.length ∧ v28 = .int .i64 i ∧ v10 = .int .i64 (attA (n.kids.take i) : Int) ∧ Hid (∃ c, c ≤ i ∧ SetS wr Tryz.prog 9 (w2.heap.size + 1) c (bindA (n.kids.take i))) ∧ Hid (wr.heap[W.heap.size + 1]? = some (.cells #[.int .i64 n.k, .string n.t, .string n.v, .slice ao n.kids.length cap] 24 (0, 0))) ∧ Hid (wr.heap[W.heap.size]? = some (.cells #[.pointer (some ⟨X, 0, none⟩)] 41 (0, 0))) ∧ Hid (wr.heap[w2.heap.size]? = some (.cells #[.string A] 9 (0, 0))) ∧ Hid (Below W.heap.size W wr)) (fun _ v28 _ => n.kids.length - (intOf v28).toNat)
  case atStart => exact ⟨0, Nat.zero_le _, rfl, rfl, ⟨0, Nat.le_refl _, HM3.out⟩, HN3.out, HL4.out, HO3.out, HB3.out⟩
  case round =>
    obtain ⟨i, hi, rfl, rfl, HM, HNR, HLR, HOR, HBR⟩ := hrel
    have hal := attA_len (n.kids.take i)
    rw [List.length_take] at hal
    obtain ⟨Z, hZ⟩ : ∃ Z : Nat, attA (n.kids.take i) = Z := ⟨_, rfl⟩
    rw [hZ] at hal
    have hZl : Z ≤ 100000 := by omega
    rw [hZ]
    have HZ := Lib.hid hZ
    clear hZ hal
    obtain ⟨x0, x1, x2, x3, _, _, _, _, hxl⟩ := nd_cells HNR.out
    by_cases hlt : i < n.kids.length
    · have hi0 : (0 : Int) ≤ (i : Int) := Int.natCast_nonneg _
      have hi1 : (i : Int) < (n.kids.length : Int) := by omega
      obtain ⟨kb, ko, kx, hko, hkw, k0, k1, k2, k3, hkx⟩ := HS.out.ltC.at_ i hlt
      obtain ⟨ay, cy, rfl, _, _⟩ := hkx.shape
      subst hko
      have hmem := List.getElem_mem hlt
      have hyok := HKK.out _ hmem
      have hbs := bindA_step hlt
      have has := attA_step hlt
      obtain ⟨y, hy⟩ : ∃ y, n.kids[i] = y := ⟨_, rfl⟩
      rw [hy] at k0 k1 k2 k3 hkx hyok hbs has
      have hbw := HBR.out
      have d0 : wr.cell? ⟨kb, ko + i * 4, none⟩ = some (.int .i64 y.k) := (hbw.cell (p := ⟨kb, ko + i * 4, none⟩) hkw).trans k0
      have d1 : wr.cell? ⟨kb, ko + i * 4 + 1, none⟩ = some (.string y.t) := (hbw.cell (p := ⟨kb, ko + i * 4 + 1, none⟩) hkw).trans k1
      have d2 : wr.cell? ⟨kb, ko + i * 4 + 2, none⟩ = some (.string y.v) := (hbw.cell (p := ⟨kb, ko + i * 4 + 2, none⟩) hkw).trans k2
      have d3 : wr.cell? ⟨kb, ko + i * 4 + 3, none⟩ = some (.slice ay y.kids.length cy) := (hbw.cell (p := ⟨kb, ko + i * 4 + 3, none⟩) hkw).trans k3
      have hkl2 : kb < wr.heap.size := Nat.lt_of_lt_of_le hkw hbw.size
      have hyt : y.t.size ≤ 1048576 := by
        cases y with
        | mk a b c d => rw [ok_mk] at hyok; exact hyok.1.t
      have hb1 : Below wr.heap.size wr (wr.alloc (.cells #[.int .i64 y.k, .string y.t, .string y.v, .slice ay y.kids.length cy] 24)) := (Below.refl _ _).alloc (Nat.le_refl _) _
      have HB1 := Lib.hid hb1
      have HM1 := Lib.hid (show ∃ c, c ≤ i ∧ SetS (wr.alloc (.cells #[.int .i64 y.k, .string y.t, .string y.v, .slice ay y.kids.length cy] 24)) Tryz.prog 9 (w2.heap.size + 1) c (bindA (n.kids.take i)) from by
        obtain ⟨c, h1, h2⟩ := HM.out
        exact ⟨c, h1, h2.below hb1⟩)
      have HN1 := Lib.hid ((hb1.block _ (lt_blk HNR.out)).trans HNR.out)
      have HL1 := Lib.hid ((hb1.block _ (lt_blk HLR.out)).trans HLR.out)
      have HO1 := Lib.hid ((hb1.block _ (lt_blk HOR.out)).trans HOR.out)
      have HBS := Lib.hid hbs; have HAS := Lib.hid has
      have HBR1 := Lib.hid (bthen HBR.out hb1)
      clear k0 k1 k2 k3 hkx hyok hbs has hbw hmem hb1 hy
      by_cases h11 : y.k = 11
      · have hkc : (y.k == 11) = true := by simp [h11]
        obtain ⟨A2, C2, D2, hcv, hA2, h9⟩ := cutV_of y.t
        clear h9
        have HCU2 := Lib.hid (fun (W' : World) (h : EnvU W') => show Calls Tryz.prog 53 #[.string y.t] W' fun e w' => e = .returned (.tuple #[.string A2, .string C2, .bool D2]) ∧ Below W'.heap.size W' w' from hcv ▸ cut_any y.t W' h hyt)
        have HAS2 := Lib.hid (show attA (n.kids.take (i + 1)) = Z + 1 by rw [HAS.out, if_pos h11, HZ.out])
        have hA2s : A2.size ≤ 1048576 := by
          have h1 := spA_len y.t
          have h2 : A2.data.toList.length = A2.size := Array.length_toList
          rw [hA2] at h2
          omega
        by_cases hsp : spA y.t = []
        · have HBN := Lib.hid (show bindA (n.kids.take (i + 1)) = bindA (n.kids.take i) by rw [HBS.out]; unfold bndA; rw [if_neg (fun h => h.2 hsp)])
          have he : A2.toList.isEmpty = true := by rw [isE_nil hA2, hsp]; rfl
          clear h11 hcv hA2 hsp
          go_wp2_with fail
          refine (HCU2.out _ (HE.out _ (HBR1.out.mono HBB.out))).mono ?_
          rintro e w4 ⟨rfl, hb⟩
          have HB4 := Lib.hid (bthen HBR1.out hb)
          have HM4 := Lib.hid (show ∃ c, c ≤ i + 1 ∧ SetS w4 Tryz.prog 9 (w2.heap.size + 1) c (bindA (n.kids.take (i + 1))) from by
            obtain ⟨c, h1, h2⟩ := HM1.out
            rw [HBN.out]
            exact ⟨c, by omega, h2.below hb⟩)
          have HN4 := Lib.hid ((hb.block _ (lt_blk HN1.out)).trans HN1.out)
          have HL5 := Lib.hid ((hb.block _ (lt_blk HL1.out)).trans HL1.out)
          have HO4 := Lib.hid ((hb.block _ (lt_blk HO1.out)).trans HO1.out)
          clear hb d0 d1 d2 d3 x0 x1 x2 x3 hxl
          go_wp2_with fail
          go_roundw
          case rel => exact ⟨i + 1, by omega, by go_num, by rw [HAS2.out]; go_num, HM4, HN4, HL5, HO4, HB4⟩
          case measure => simp [intOf]; omega
        · have he : A2.toList.isEmpty = false := by
            rw [isE_nil hA2]
            cases h : spA y.t with
            | nil => exact absurd h hsp
            | cons a b => rfl
          have HBN := Lib.hid (show bindA (n.kids.take (i + 1)) = insU (bindA (n.kids.take i)) (spA y.t) by rw [HBS.out]; unfold bndA; rw [if_pos ⟨h11, hsp⟩])
          have HKEY := Lib.hid (show keyOf Tryz.prog 9 (.string A2) = some (.string (spA y.t)) by rw [← hA2]; exact text_key A2 (by unfold maxLen; omega))
          clear h11 hcv hA2 hsp
          go_wp2_with fail
          refine (HCU2.out _ (HE.out _ (HBR1.out.mono HBB.out))).mono ?_
          rintro e w4 ⟨rfl, hb⟩
          have HB4 := Lib.hid (bthen HBR1.out hb)
          obtain ⟨c, hc1, hM4⟩ : ∃ c, c ≤ i ∧ SetS w4 Tryz.prog 9 (w2.heap.size + 1) c (bindA (n.kids.take i)) := by
            obtain ⟨c, h1, h2⟩ := HM1.out
            exact ⟨c, h1, h2.below hb⟩
          have HM4 := Lib.hid hM4
          have HN4 := Lib.hid ((hb.block _ (lt_blk HN1.out)).trans HN1.out)
          have HL5 := Lib.hid ((hb.block _ (lt_blk HL1.out)).trans HL1.out)
          have HO4 := Lib.hid ((hb.block _ (lt_blk HO1.out)).trans HO1.out)
          clear hb d0 d1 d2 d3 x0 x1 x2 x3 hxl hM4
          obtain ⟨w5, hrun, hm5, hg5⟩ := HM4.out.put (val := .agg #[]) (Go.Maps.string_keyed Tryz.underlying9) Tryz.underlying90 (by unfold maxLen; omega) HKEY.out
          have hbW : W.heap.size ≤ w2.heap.size + 1 := by omega
          have HB5 := Lib.hid (HB4.out.grown hg5 HB4.out.size (fun g e => by injection e with e; omega))
          have HM5 := Lib.hid (show ∃ c, c ≤ i + 1 ∧ SetS w5 Tryz.prog 9 (w2.heap.size + 1) c (bindA (n.kids.take (i + 1))) from ⟨c + 1, by omega, by rw [HBN.out]; exact hm5⟩)
          have HN5 := Lib.hid ((hg5.block _ (lt_blk HN4.out) (fun e => by injection e with e; omega)).trans HN4.out)
          have HL6 := Lib.hid ((hg5.block _ (lt_blk HL5.out) (fun e => by injection e with e; omega)).trans HL5.out)
          have HO5 := Lib.hid ((hg5.block _ (lt_blk HO4.out) (fun e => by injection e with e; omega)).trans HO4.out)
          clear hm5 hg5
          go_wp2_with fail
          go_roundw
          case rel => exact ⟨i + 1, by omega, by go_num, by rw [HAS2.out]; go_num, HM5, HN5, HL6, HO5, HB5⟩
          case measure => simp [intOf]; omega
      · have hkc : (y.k == 11) = false := by simp [h11]
        have HAS2 := Lib.hid (show attA (n.kids.take (i + 1)) = Z by rw [HAS.out, if_neg h11, HZ.out]; rfl)
        have HM2 := Lib.hid (show ∃ c, c ≤ i + 1 ∧ SetS (wr.alloc (.cells #[.int .i64 y.k, .string y.t, .string y.v, .slice ay y.kids.length cy] 24)) Tryz.prog 9 (w2.heap.size + 1) c (bindA (n.kids.take (i + 1))) from by
          obtain ⟨c, h1, h2⟩ := HM1.out
          rw [HBS.out]
          unfold bndA
          rw [if_neg (fun h => h11 h.1)]
          exact ⟨c, by omega, h2⟩)
        clear h11
        go_wp2_with fail
        go_roundw
        case rel => exact ⟨i + 1, by omega, by go_num, by rw [HAS2.out], HM2, HN1, HL1, HO1, HBR1⟩
        case measure => simp [intOf]; omega
    · obtain rfl : i = n.kids.length := by omega
      have hi1 : ¬ ((n.kids.length : Nat) : Int) < (n.kids.length : Int) := by omega
      have HZ2 := Lib.hid (show attA n.kids = Z by have h := HZ.out; rwa [List.take_length] at h)
      obtain ⟨cc, hcc, hmm9⟩ := HM.out
      rw [bindA_all] at hmm9
      have hbl := bindA_len n.kids
      obtain ⟨BK, hBK⟩ : ∃ BK, bindA n.kids = BK := ⟨_, rfl⟩
      rw [hBK] at hmm9 hbl
      obtain ⟨M, hM⟩ : ∃ M, BK.length = M := ⟨_, rfl⟩
      have HMM := Lib.hid hmm9
      have hMl : M ≤ 100000 := by omega
      have HBK := Lib.hid (show (bindA n.kids).length = M by rw [hBK, hM])
      obtain ⟨c0, f0⟩ := blk_cell HLR.out 0 (by simp)
      have hl0 := lt_blk HLR.out
      obtain ⟨c1, f1⟩ := blk_cell HOR.out 0 (by simp)
      have hl1 := lt_blk HOR.out
      clear hmm9 hBK hbl
      by_cases hsq : spA n.t = outA way
      · have hq1 : (A.toList == Q.toList) = true := by rw [ByteArray.toList_eq, ByteArray.toList_eq, HA.out, HQ.out, hsq]; simp
        have hq2 : (A.toList != Q.toList) = false := by rw [bne, hq1]; rfl
        have HNE := Lib.hid (show needA n (outA way) = M by unfold needA; rw [if_pos hsq, HBK.out]; rfl)
        clear hsq
        by_cases g1 : 10 < M
        · have HR := Lib.hid (show firstP tpA way n p = some p from firstP_no (by rw [HTP.out, HNE.out, decide_eq_false (by omega)]; rfl))
          go_wp2_with (first | (at_len; refine wpList_setS_len (by rfl) _ _ (by rfl) _ _ Tryz.underlying90 (w2.heap.size + 1) cc _ (by rfl) HMM.out ?_))
          refine (fails_any _ B X v p (H.out.below HBR.out) (by omega)).mono ?_
          intro e w6 he
          have he2 : LkEnd B X v p (some p) W e w6 := he.after HBR.out
          obtain ⟨hfar, a, c, rfl, hints⟩ := he2
          have HF2 := Lib.hid hfar; have HI := Lib.hid hints
          clear hfar hints he
          go_wp2_with fail
          exact ⟨rfl, by rw [HR.out]; exact ⟨HF2.out, a, c, rfl, HI.out⟩⟩
        · by_cases g2 : 20 < M + Z
          · have HR := Lib.hid (show firstP tpA way n p = some p from firstP_no (by rw [HTP.out, HNE.out, HZ2.out, decide_eq_false (show ¬ M + Z ≤ 20 by omega), Bool.and_false]))
            go_wp2_with (first | (at_len; refine wpList_setS_len (by rfl) _ _ (by rfl) _ _ Tryz.underlying90 (w2.heap.size + 1) cc _ (by rfl) HMM.out ?_))
            refine (fails_any _ B X v p (H.out.below HBR.out) (by omega)).mono ?_
            intro e w6 he
            have he2 : LkEnd B X v p (some p) W e w6 := he.after HBR.out
            obtain ⟨hfar, a, c, rfl, hints⟩ := he2
            have HF2 := Lib.hid hfar; have HI := Lib.hid hints
            clear hfar hints he
            go_wp2_with fail
            exact ⟨rfl, by rw [HR.out]; exact ⟨HF2.out, a, c, rfl, HI.out⟩⟩
          · have HR := Lib.hid (firstP_kids (tp := tpA) (way := way) (n := n) (p := p) (by rw [HTP.out, HNE.out, HZ2.out, decide_eq_true (show M ≤ 10 by omega), decide_eq_true (show M + Z ≤ 20 by omega)]; rfl))
            go_wp2_with (first | (at_len; refine wpList_setS_len (by rfl) _ _ (by rfl) _ _ Tryz.underlying90 (w2.heap.size + 1) cc _ (by rfl) HMM.out ?_))
            refine (kids_any 54 #[.pointer (some ⟨W.heap.size, 0, none⟩), .pointer (some ⟨w2.heap.size, 0, none⟩)] (fun args w => by rfl) _ B X v p S n _ (fun i => if hi : i < n.kids.length then firstP tpA (way ++ [n]) n.kids[i] (p ++ [(i : Int)]) else none) (H.out.below HBR.out) ⟨_, rfl, HS.out.below HBR.out⟩ HSB.out (Nat.le_trans HBB.out HBR.out.size) (by omega) (by omega) (fun W' v' j hj uu hfar hat hlkW hnW => ?_)).mono ?_
            · rw [dif_pos hj]
              have hks := kid_size (n := n) hj
              have hmem := List.getElem_mem hj
              have hxw := lt_blk H.out.blk
              have hBW : Below B W W' := (HBR.out.mono HBB.out).trans (hfar.below H.out.lo (fun g e => (H.out.row.lt g e).1) (Nat.le_trans HBB.out HBR.out.size))
              have hvw : ∀ g, v.ownBlock = some g → g < W.heap.size := fun g e => (H.out.row.lt g e).2
              have keep : ∀ b, W.heap.size ≤ b → b < wr.heap.size → W'.heap[b]? = wr.heap[b]? := fun b h1 h2 => hfar.oth b h2 (by omega) (fun e => by have := hvw b e; omega)
              obtain ⟨hk3, hk0⟩ := elem_kin HTF.out H10.out _ hmem
              have htk := HTF.out.kid hmem
              have hnn := HNN.out
              have hln := HL2.out
              refine elemK_any n n.kids[j] way hk3 hk0 (fun h4 => text_right htk h4) (fun h11 => attr_right htk h11) (fun h10 => HIH.out n.kids[j] (way ++ [n]) (by omega) htk (HKK.out _ hmem) h10 (by omega)) W' W.heap.size w2.heap.size X B v' _ S uu j (fun W2 h2 => HE.out _ (hBW.trans h2)) ?_ ?_ hlkW hnW HSB.out (Nat.le_trans HBB.out hBW.size) (by rw [List.length_append, List.length_singleton]; omega)
              · rw [keep _ (Nat.le_refl _) (lt_blk HLR.out)]; exact HLR.out
              · rw [keep _ hWB (lt_blk HOR.out), ← HA2.out]; exact HOR.out
            · intro e w6 he
              have he2 := he.after HBR.out
              rw [← HR.out] at he2
              cases hq : firstP tpA way n p with
              | none =>
                rw [hq] at he2
                obtain ⟨⟨rr, rfl⟩, v', hp⟩ := he2
                have HP := Lib.hid hp
                have HO := Lib.hid hq
                clear hp he
                go_wp2_with fail
                go_end0
                show LkEnd B X v p (firstP tpA way n p) W _ _
                rw [HO.out]
                exact ⟨⟨_, rfl⟩, _, HP.out⟩
              | some q =>
                rw [hq] at he2
                obtain ⟨hfar, a, c, rfl, hints⟩ := he2
                have HF2 := Lib.hid hfar; have HI := Lib.hid hints
                have HO := Lib.hid hq
                clear hfar hints he
                go_wp2_with fail
                exact ⟨rfl, HF2.out, a, c, rfl, HI.out⟩
      · have hq1 : (A.toList == Q.toList) = false := by rw [ByteArray.toList_eq, ByteArray.toList_eq, HA.out, HQ.out, beq_eq_false_iff_ne]; exact hsq
        have hq2 : (A.toList != Q.toList) = true := by rw [bne, hq1]; rfl
        have HNE := Lib.hid (show needA n (outA way) = M + 1 by unfold needA; rw [if_neg hsq, HBK.out])
        clear hsq
        by_cases g1 : 10 < (M + 1)
        · have HR := Lib.hid (show firstP tpA way n p = some p from firstP_no (by rw [HTP.out, HNE.out, decide_eq_false (by omega)]; rfl))
          go_wp2_with (first | (at_len; refine wpList_setS_len (by rfl) _ _ (by rfl) _ _ Tryz.underlying90 (w2.heap.size + 1) cc _ (by rfl) HMM.out ?_))
          refine (fails_any _ B X v p (H.out.below HBR.out) (by omega)).mono ?_
          intro e w6 he
          have he2 : LkEnd B X v p (some p) W e w6 := he.after HBR.out
          obtain ⟨hfar, a, c, rfl, hints⟩ := he2
          have HF2 := Lib.hid hfar; have HI := Lib.hid hints
          clear hfar hints he
          go_wp2_with fail
          exact ⟨rfl, by rw [HR.out]; exact ⟨HF2.out, a, c, rfl, HI.out⟩⟩
        · by_cases g2 : 20 < (M + 1) + Z
          · have HR := Lib.hid (show firstP tpA way n p = some p from firstP_no (by rw [HTP.out, HNE.out, HZ2.out, decide_eq_false (show ¬ (M + 1) + Z ≤ 20 by omega), Bool.and_false]))
            go_wp2_with (first | (at_len; refine wpList_setS_len (by rfl) _ _ (by rfl) _ _ Tryz.underlying90 (w2.heap.size + 1) cc _ (by rfl) HMM.out ?_))
            refine (fails_any _ B X v p (H.out.below HBR.out) (by omega)).mono ?_
            intro e w6 he
            have he2 : LkEnd B X v p (some p) W e w6 := he.after HBR.out
            obtain ⟨hfar, a, c, rfl, hints⟩ := he2
            have HF2 := Lib.hid hfar; have HI := Lib.hid hints
            clear hfar hints he
            go_wp2_with fail
            exact ⟨rfl, by rw [HR.out]; exact ⟨HF2.out, a, c, rfl, HI.out⟩⟩
          · have HR := Lib.hid (firstP_kids (tp := tpA) (way := way) (n := n) (p := p) (by rw [HTP.out, HNE.out, HZ2.out, decide_eq_true (show (M + 1) ≤ 10 by omega), decide_eq_true (show (M + 1) + Z ≤ 20 by omega)]; rfl))
            go_wp2_with (first | (at_len; refine wpList_setS_len (by rfl) _ _ (by rfl) _ _ Tryz.underlying90 (w2.heap.size + 1) cc _ (by rfl) HMM.out ?_))
            refine (kids_any 54 #[.pointer (some ⟨W.heap.size, 0, none⟩), .pointer (some ⟨w2.heap.size, 0, none⟩)] (fun args w => by rfl) _ B X v p S n _ (fun i => if hi : i < n.kids.length then firstP tpA (way ++ [n]) n.kids[i] (p ++ [(i : Int)]) else none) (H.out.below HBR.out) ⟨_, rfl, HS.out.below HBR.out⟩ HSB.out (Nat.le_trans HBB.out HBR.out.size) (by omega) (by omega) (fun W' v' j hj uu hfar hat hlkW hnW => ?_)).mono ?_
            · rw [dif_pos hj]
              have hks := kid_size (n := n) hj
              have hmem := List.getElem_mem hj
              have hxw := lt_blk H.out.blk
              have hBW : Below B W W' := (HBR.out.mono HBB.out).trans (hfar.below H.out.lo (fun g e => (H.out.row.lt g e).1) (Nat.le_trans HBB.out HBR.out.size))
              have hvw : ∀ g, v.ownBlock = some g → g < W.heap.size := fun g e => (H.out.row.lt g e).2
              have keep : ∀ b, W.heap.size ≤ b → b < wr.heap.size → W'.heap[b]? = wr.heap[b]? := fun b h1 h2 => hfar.oth b h2 (by omega) (fun e => by have := hvw b e; omega)
              obtain ⟨hk3, hk0⟩ := elem_kin HTF.out H10.out _ hmem
              have htk := HTF.out.kid hmem
              have hnn := HNN.out
              have hln := HL2.out
              refine elemK_any n n.kids[j] way hk3 hk0 (fun h4 => text_right htk h4) (fun h11 => attr_right htk h11) (fun h10 => HIH.out n.kids[j] (way ++ [n]) (by omega) htk (HKK.out _ hmem) h10 (by omega)) W' W.heap.size w2.heap.size X B v' _ S uu j (fun W2 h2 => HE.out _ (hBW.trans h2)) ?_ ?_ hlkW hnW HSB.out (Nat.le_trans HBB.out hBW.size) (by rw [List.length_append, List.length_singleton]; omega)
              · rw [keep _ (Nat.le_refl _) (lt_blk HLR.out)]; exact HLR.out
              · rw [keep _ hWB (lt_blk HOR.out), ← HA2.out]; exact HOR.out
            · intro e w6 he
              have he2 := he.after HBR.out
              rw [← HR.out] at he2
              cases hq : firstP tpA way n p with
              | none =>
                rw [hq] at he2
                obtain ⟨⟨rr, rfl⟩, v', hp⟩ := he2
                have HP := Lib.hid hp
                have HO := Lib.hid hq
                clear hp he
                go_wp2_with fail
                go_end0
                show LkEnd B X v p (firstP tpA way n p) W _ _
                rw [HO.out]
                exact ⟨⟨_, rfl⟩, _, HP.out⟩
              | some q =>
                rw [hq] at he2
                obtain ⟨hfar, a, c, rfl, hints⟩ := he2
                have HF2 := Lib.hid hfar; have HI := Lib.hid hints
                have HO := Lib.hid hq
                clear hfar hints he
                go_wp2_with fail
                exact ⟨rfl, HF2.out, a, c, rfl, HI.out⟩
end Go.Proofs.YtmniblcooficgaaGreatDoor
namespace Go.Proofs.YtmniblcooficgaaGreatDoor
open Go.RowKit Ev5
set_option linter.unusedSimpArgs false
set_option linter.unusedVariables false

set_option maxRecDepth 100000 in
set_option maxHeartbeats 2000000 in
theorem angle_any (n : Nd) (htf : Tf RP n) (hok : n.ok) (w : World) (B X : Nat) (v : Value) (p : List Int) (S : Nat → Prop) (nv : Value) (hE : ∀ W', Below B w W' → EnvU W') (hlk : Lk w B X v p) (hv : NdV w S nv n) (hSB : ∀ b, S b → b < B) (hB : B ≤ w.heap.size) (hl : p.length + n.size ≤ 100000) :
    Calls Tryz.prog 16 #[.pointer (some ⟨X, 0, none⟩), nv] w (LkEnd B X v p (firstP tpA [] n p) w) := by
  obtain ⟨u, rfl, hs⟩ := hv
  obtain ⟨ao, cap, rfl, hcap, hcm⟩ := hs.shape
  have HB := Lib.hid (show Below w.heap.size w (w.alloc (.cells #[.int .i64 n.k, .string n.t, .string n.v, .slice ao n.kids.length cap] 24)) from (Below.refl _ _).alloc (Nat.le_refl _) _)
  have H := Lib.hid hlk; have HS := Lib.hid hs; have HSB := Lib.hid hSB; have HBB := Lib.hid hB; have HE := Lib.hid hE
  by_cases h10 : n.k = 10
  · have HL := Lib.hid (show ∀ (W : World), Below w.heap.size w W → Calls Tryz.prog 30 #[.pointer (some ⟨X, 0, none⟩), .agg #[.int .i64 n.k, .string n.t, .string n.v, .slice ao n.kids.length cap], .string ⟨#[]⟩] W (LkEnd B X v p (firstP tpA [] n p) W) from
      fun W hb => elem_any n.size n [] (Nat.le_refl _) htf hok h10 (by omega) W B X v p S (.slice ao n.kids.length cap) (fun W' h2 => hE _ ((hb.mono hB).trans h2)) (hlk.below hb) (.mk (hs.below hb)) hSB (Nat.le_trans hB hb.size) hl)
    have hkb : (n.k != 10) = false := by simp [h10]
    clear hlk hs hSB hB hE htf h10
    unfold ndV
    go_enter Tryz.func16, Tryz.ntmps16
    go_wp2_with fail
    refine (HL.out _ HB.out).mono ?_
    intro e w3 he
    have he2 := he.after HB.out
    cases ho : firstP tpA [] n p with
    | none =>
      rw [ho] at he2
      obtain ⟨⟨rr, rfl⟩, v', hp⟩ := he2
      have HP := Lib.hid hp
      have HO := Lib.hid ho
      clear hp he
      go_wp2_with fail
      go_end0
      show LkEnd B X v p (firstP tpA [] n p) w _ _
      rw [HO.out]
      exact ⟨⟨_, rfl⟩, _, HP.out⟩
    | some q =>
      rw [ho] at he2
      obtain ⟨hfar, a, c, rfl, hints⟩ := he2
      have HF2 := Lib.hid hfar; have HI := Lib.hid hints
      have HO := Lib.hid ho
      clear hfar hints he
      go_wp2_with fail
      exact ⟨rfl, HF2.out, a, c, rfl, HI.out⟩
  · have HR := Lib.hid (show firstP tpA [] n p = some p from firstP_no (by rw [tpA_last, if_pos ⟨rfl, h10⟩]))
    have hkb : (n.k != 10) = true := by simp [h10]
    clear hlk hs hSB hB hE htf h10
    unfold ndV
    go_enter Tryz.func16, Tryz.ntmps16
    go_wp2_with fail
    refine (fails_any _ B X v p (H.out.below HB.out) (by omega)).mono ?_
    intro e w3 he
    have he2 : LkEnd B X v p (some p) w e w3 := he.after HB.out
    obtain ⟨hfar, a, c, rfl, hints⟩ := he2
    have HF2 := Lib.hid hfar; have HI := Lib.hid hints
    clear hfar hints he
    go_wp2_with fail
    exact ⟨rfl, by rw [HR.out]; exact ⟨HF2.out, a, c, rfl, HI.out⟩⟩
set_option maxRecDepth 100000 in
set_option maxHeartbeats 4000000 in
theorem carryAngle_any (n : Nd) (w : World) (S : Nat → Prop) (v : Value) (hE : EnvU w) (hv : NdV w S v n) (hok : n.ok) (hN : n.size ≤ 50000) :
    Calls Tryz.prog 7 #[.int .i64 2, v] w (OfPost (ofP tpA n) w) := by
  obtain ⟨u, rfl, hs⟩ := hv
  obtain ⟨ao, cap, rfl, hcap, hcm⟩ := hs.shape
  have HV := Lib.hid (NdV.mk hs.ltC); have HE := Lib.hid hE; have HOK := Lib.hid hok; have HN := Lib.hid hN
  have HWL := Lib.hid (show n.walk.length ≤ 100000 by have := walk_len n; omega)
  have hmf : ∀ (fn : Fn) (first cap : Array Value) (w : World), (Instr.makeFunc fn first cap).run Tryz.prog w = .ok (.func fn first cap) w := fun _ _ _ _ => rfl
  clear hs hE hok hN
  unfold ndV
  go_enter_defers Tryz.func7, Tryz.ntmps7
  have h3 := threeC w (.cells #[.int .i64 n.k, .string n.t, .string n.v, .slice ao n.kids.length cap] 24) (.cells #[.slice none 0 0] 27) (.cells #[.int .i64 0] 28)
  have H3 := Lib.hid h3
  clear h3
  go_wp2_with fail
  refine (treeMay_any n _ _ _ (HE.out.below H3.out.2.2.2) (HV.out.below H3.out.2.2.2) (fun b hb => Nat.lt_of_lt_of_le hb H3.out.2.2.2.size) HOK.out HWL.out).mono ?_
  rintro e w2 ⟨rfl, hb⟩
  have hx0 := (hb.block _ (lt_blk H3.out.1)).trans H3.out.1
  have hx1 := (hb.block _ (lt_blk H3.out.2.1)).trans H3.out.2.1
  have hx2 := (hb.block _ (lt_blk H3.out.2.2.1)).trans H3.out.2.2.1
  have HB2 := Lib.hid (bthen H3.out.2.2.2 hb)
  obtain ⟨x0, x1, x2, x3, _, _, _, _, hxl⟩ := nd_cells hx0
  obtain ⟨P5, h5⟩ : ∃ P5, w.heap.size + 1 + 1 = P5 := ⟨_, rfl⟩
  obtain ⟨P4, h4⟩ : ∃ P4, w.heap.size + 1 = P4 := ⟨_, rfl⟩
  have hne : P5 ≠ P4 := by omega
  have hne' : P4 ≠ P5 := by omega
  have HLO := Lib.hid (show w.heap.size ≤ P4 ∧ w.heap.size ≤ P5 by omega)
  rw [h5] at hx2
  rw [h4] at hx1
  rw [h5, h4]
  have HX := Lib.hid (And.intro hx1 hx2)
  have hl4 := lt_blk hx1
  have hl5 := lt_blk hx2
  obtain ⟨c4, g4⟩ := blk_cell hx1 0 (by simp)
  obtain ⟨c5, g5⟩ := blk_cell hx2 0 (by simp)
  obtain ⟨E, hE⟩ : ∃ E, (wholeP RP (n.walk.map GoEv.ev)).2 = E := ⟨_, rfl⟩
  have HEQ := Lib.hid (show n.wh = E from hE)
  rw [hE]
  clear hb hx0 hx1 hx2 hE h4 h5
  by_cases hz : E = 0
  · subst hz
    have HLK := Lib.hid (show ∀ W : World, Below w.heap.size w W → Lk (W.alloc (.cells #[.slice none 0 0] 42)) W.heap.size W.heap.size (.slice none 0 0) [] from fun W _ => ⟨heap_alloc_new W _, World.ownsRow_nil _ _ _ _, (by simp [Value.ownBlock]), Nat.le_refl _, fun x hx => by cases hx⟩)
    go_wp2_with fail
    have hlk := HLK.out w2 HB2.out
    have hbl : Below w2.heap.size w2 (w2.alloc (.cells #[.slice none 0 0] 42)) := (Below.refl _ _).alloc (Nat.le_refl _) _
    have hnv := HV.out.below (bthen HB2.out hbl)
    refine (angle_any n (tf_wh HEQ.out).1 HOK.out _ w2.heap.size w2.heap.size (.slice none 0 0) [] _ _ (fun W' hb => HE.out.below (bthen HB2.out (hbl.trans hb))) hlk hnv (fun b hb => Nat.lt_of_lt_of_le hb HB2.out.size) (by simp) (by have := HN.out; simp; omega)).mono ?_
    intro e w3 he
    have hfar : LkFar w2.heap.size (.slice none 0 0) (w2.alloc (.cells #[.slice none 0 0] 42)) w3 := by
      cases ho : firstP tpA [] n [] with
      | none => rw [ho] at he; obtain ⟨_, v', hp⟩ := he; exact hp.far
      | some q => rw [ho] at he; exact he.1
    have hb3 : Below w2.heap.size w2 w3 := by
      refine ⟨hfar.os, hfar.tape, hfar.output, Nat.le_trans hbl.size hfar.size, fun k hk => ?_⟩
      rw [hfar.oth k (Nat.lt_of_lt_of_le hk hbl.size) (by omega) (by simp [Value.ownBlock])]
      exact hbl.block k hk
    have HB3 := Lib.hid hb3
    have hx4 := (hb3.block _ hl4).trans HX.out.1
    have hx5 := (hb3.block _ hl5).trans HX.out.2
    have HX3 := Lib.hid (And.intro hx4 hx5)
    have hl43 := lt_blk hx4
    have hl53 := lt_blk hx5
    clear c4 g4 c5 g5 hl4 hl5 x0 x1 x2 x3 hxl hnv hlk hfar hb3
    obtain ⟨c4, g4⟩ := blk_cell hx4 0 (by simp)
    obtain ⟨c5, g5⟩ := blk_cell hx5 0 (by simp)
    clear hx4 hx5
    cases ho : firstP tpA [] n [] with
    | none =>
      rw [ho] at he
      obtain ⟨⟨rr, rfl⟩, v', hp⟩ := he
      have HP := Lib.hid (show ofP tpA n = (none, 0) by unfold ofP; rw [if_neg (by rw [HEQ.out]; simp), ho])
      clear hp
      go_wp2_with fail
      obtain ⟨W9, hW9⟩ : ∃ W9, (w3.setCell ⟨P4, 0, none⟩ (.slice none 0 0)).setCell ⟨P5, 0, none⟩ (.int .i64 0) = W9 := ⟨_, rfl⟩
      have hk := two_vars HX3.out.1 HX3.out.2 hne' (.slice none 0 0) (.int .i64 0)
      rw [hW9] at hk
      have k4 : W9.cell? ⟨P4, 0, none⟩ = some (.slice none 0 0) := (blk_cell hk.1 0 (by simp)).1
      have k5 : W9.cell? ⟨P5, 0, none⟩ = some (.int .i64 0) := (blk_cell hk.2 0 (by simp)).1
      have hbw : Below w.heap.size w W9 := by
        rw [← hW9]
        exact ((bthen HB2.out HB3.out).setCell (p := ⟨P4, 0, none⟩) HLO.out.1 _).setCell (p := ⟨P5, 0, none⟩) HLO.out.2 _
      rw [hW9]
      refine leaves_cons (f := 14) (args := #[.pointer (some ⟨P4, 0, none⟩), .pointer (some ⟨P5, 0, none⟩)]) (by simp) (by simp [go_sem]) ?_
      refine (of1_idle ⟨P4, 0, none⟩ ⟨P5, 0, none⟩ W9).mono ?_
      rintro e u' w'' ⟨rfl, rfl, hb⟩
      have m4 : w''.cell? ⟨P4, 0, none⟩ = some (.slice none 0 0) := by rw [hb.cell (p := ⟨P4, 0, none⟩) (cell_lt k4)]; exact k4
      have m5 : w''.cell? ⟨P5, 0, none⟩ = some (.int .i64 0) := by rw [hb.cell (p := ⟨P5, 0, none⟩) (cell_lt k5)]; exact k5
      have hbb := bthen hbw hb
      simp [Leaves, settle, results, Tryz.results7, go_sem, m4, m5]
      rw [HP.out]
      exact ⟨hbb, none, 0, 0, rfl, rfl⟩
    | some q =>
      rw [ho] at he
      obtain ⟨_, a, c, rfl, hints⟩ := he
      have HP := Lib.hid (show ofP tpA n = (some q, 20) by unfold ofP; rw [if_neg (by rw [HEQ.out]; simp), ho])
      have HI := Lib.hid hints
      clear hints
      go_wp2_with fail
      refine leaves_cons (f := 14) (args := #[.pointer (some ⟨P4, 0, none⟩), .pointer (some ⟨P5, 0, none⟩)]) (by simp) (by simp [go_sem]) ?_
      refine (of1_catch P4 P5 a q.length c [] w3 _ _ HX3.out.1 HX3.out.2 hne').mono ?_
      rintro e u' w'' ⟨rfl, rfl, hw⟩
      obtain ⟨W9, hW9⟩ : ∃ W9, (w3.setCell ⟨P4, 0, none⟩ (.slice a q.length c)).setCell ⟨P5, 0, none⟩ (.int .i64 20) = W9 := ⟨_, rfl⟩
      have hk := two_vars HX3.out.1 HX3.out.2 hne' (.slice a q.length c) (.int .i64 20)
      rw [hW9] at hk hw
      have hba : Below W9.heap.size W9 w'' := by rw [hw]; exact (Below.refl _ _).alloc (Nat.le_refl _) _
      have m4 : w''.cell? ⟨P4, 0, none⟩ = some (.slice a q.length c) := (blk_cell ((hba.block _ (lt_blk hk.1)).trans hk.1) 0 (by simp)).1
      have m5 : w''.cell? ⟨P5, 0, none⟩ = some (.int .i64 20) := (blk_cell ((hba.block _ (lt_blk hk.2)).trans hk.2) 0 (by simp)).1
      have hbw : Below w.heap.size w W9 := by
        rw [← hW9]
        exact ((bthen HB2.out HB3.out).setCell (p := ⟨P4, 0, none⟩) HLO.out.1 _).setCell (p := ⟨P5, 0, none⟩) HLO.out.2 _
      have hbb := bthen hbw hba
      have hii : IntsIn w'' (.slice a q.length c) q := by
        obtain ⟨ao, cp, e, h1, h2, h3⟩ := HI.out.ints.ex
        injection e with e1 e2 e3
        subst e1; subst e3
        refine ⟨⟨a, c, rfl, h1, h2, fun i hi => ?_⟩, HI.out.ints.ok⟩
        obtain ⟨b, o, e, hc⟩ := h3 i hi
        refine ⟨b, o, e, ?_⟩
        have hnew := HI.out.new _ e
        have hb1 : w2.heap.size < b := by have h := hnew; simp at h; omega
        have hp4 := lt_blk HX.out.1
        have hp5 := lt_blk HX.out.2
        have hlt := cell_lt hc
        have h9 : W9.cell? ⟨b, o + i, none⟩ = some (.int .i64 q[i]) := by
          rw [← hW9, World.cell?_setCell_other _ _ _ _ (fun e => by injection e with e; omega), World.cell?_setCell_other _ _ _ _ (fun e => by injection e with e; omega)]; exact hc
        rw [hba.cell (p := ⟨b, o + i, none⟩) (cell_lt h9)]
        exact h9
      simp [Leaves, settle, results, Tryz.results7, go_sem, m4, m5]
      rw [HP.out]
      exact ⟨hbb, a, q.length, c, rfl, rfl, hii⟩
  · have hzb : (E != 0) = true := by simp [hz]
    go_wp2_with fail
    obtain ⟨W9, hW9⟩ : ∃ W9, (w2.setCell ⟨P4, 0, none⟩ (.slice none 0 0)).setCell ⟨P5, 0, none⟩ (.int .i64 E) = W9 := ⟨_, rfl⟩
    have hk := two_vars HX.out.1 HX.out.2 hne' (.slice none 0 0) (.int .i64 E)
    rw [hW9] at hk
    have k4 : W9.cell? ⟨P4, 0, none⟩ = some (.slice none 0 0) := (blk_cell hk.1 0 (by simp)).1
    have k5 : W9.cell? ⟨P5, 0, none⟩ = some (.int .i64 E) := (blk_cell hk.2 0 (by simp)).1
    have hbw : Below w.heap.size w W9 := by
      rw [← hW9]
      exact (HB2.out.setCell (p := ⟨P4, 0, none⟩) HLO.out.1 _).setCell (p := ⟨P5, 0, none⟩) HLO.out.2 _
    rw [hW9]
    have hP := Lib.hid (show ofP tpA n = (none, E) by unfold ofP; rw [if_pos (by rw [HEQ.out]; exact hz), HEQ.out])
    simp [bodyPostD, Leaves, settle, results, Tryz.results7, go_sem, k4, k5]
    rw [hP.out]
    exact ⟨hbw, none, 0, 0, rfl, rfl⟩
end Go.Proofs.YtmniblcooficgaaGreatDoor
namespace Go.Proofs.YtmniblcooficgaaGreatDoor
open Go.RowKit Ev5
set_option linter.unusedSimpArgs false
set_option linter.unusedVariables false

theorem own_strR {w : World} {base : Nat} {v : Value} {l : List (List UInt8)} (h : w.ownsRow base 9 1 v l.length (strR l)) : ∃ (ao : Option Addr) (cap : Nat), v = .slice ao l.length cap ∧ l.length ≤ cap ∧ cap ≤ maxLen ∧
    ∀ (i : Nat) (h : i < l.length), ∃ b, ao = some ⟨b, 0, none⟩ ∧ w.cell? ⟨b, i, none⟩ = some (strV l[i]) := by
  rcases h.2 with ⟨rfl, h0⟩ | ⟨g, cap, cur, rfl, hb, hg, hc, hm, hs, ht⟩
  · exact ⟨none, 0, by rw [h0], by omega, by decide, fun i hi => by omega⟩
  · refine ⟨some ⟨g, 0, none⟩, cap, rfl, hc, hm, fun i hi => ⟨g, rfl, ?_⟩⟩
    rw [cell_of_row w g i _ _ _ hg]
    have h1 : cur.toList.take (l.length * 1) = strR l := ht
    have h2 : (cur.toList.take (l.length * 1))[i]? = some (strV l[i]) := by rw [h1]; simp [strR, hi]
    rw [List.getElem?_take_of_lt (by omega)] at h2
    simpa using h2
theorem contains_step {L : List (List UInt8)} {j : Nat} (h : j < L.length) (s : List UInt8) : (L.take (j + 1)).contains s = ((L.take j).contains s || decide (L[j] = s)) := by
  rw [List.take_add_one, List.getElem?_eq_getElem h, Bool.eq_iff_iff]
  simp only [List.contains_iff_mem, List.mem_append, Option.toList_some, List.mem_singleton, Bool.or_eq_true, decide_eq_true_eq]
  constructor
  · rintro (h | h)
    · exact .inl h
    · exact .inr h.symm
  · rintro (h | h)
    · exact .inl h
    · exact .inr h.symm
set_option maxRecDepth 100000 in
set_option maxHeartbeats 16000000 in
theorem refBinds_any (n : Nd) (hok : n.ok) (hkl : n.kids.length ≤ 100000) (w : World) (S : Nat → Prop) (nv : Value) (hv : NdV w S nv n) :
    Calls Tryz.prog 94 #[nv] w fun e w' => (∃ a c, e = .returned (.slice a (bindA n.kids).length c)) ∧ Below w.heap.size w w' := by
  obtain ⟨u, rfl, hs⟩ := hv
  obtain ⟨ao, cap, rfl, hcap, hcm⟩ := hs.shape
  obtain ⟨i0, hinf, hz0, hz1, hz2⟩ := info_parts infoT
  have HI := Lib.hid hinf; have HS := Lib.hid hs.ltC
  have HKK := Lib.hid (show ∀ x ∈ n.kids, x.ok from by
    cases n with
    | mk a b c d => rw [ok_mk] at hok; exact (oks_iff _).1 hok.2)
  have HX := Lib.hid (heap_alloc_new w (.cells #[.int .i64 n.k, .string n.t, .string n.v, .slice ao n.kids.length cap] 24))
  have HB0 := Lib.hid (show Below w.heap.size w (w.alloc (.cells #[.int .i64 n.k, .string n.t, .string n.v, .slice ao n.kids.length cap] 24)) from (Below.refl _ _).alloc (Nat.le_refl _) _)
  clear hinf hs hok
  unfold ndV
  unfold maxLen at *
  go_enter Tryz.func94, Tryz.ntmps94
  go_wp2_with fail
  go_loopw [3, 4] (fun v3 v4 wr => ∃ i : Nat, i ≤ n.kids.length ∧ v4 = .int .i64 i ∧ Hid (wr.ownsRow (w.heap.size + 1) 9 1 v3 (bindA (n.kids.take i)).length (strR (bindA (n.kids.take i)))) ∧ Hid (Below (w.heap.size + 1) (w.alloc (.cells #[.int .i64 n.k, .string n.t, .string n.v, .slice ao n.kids.length cap] 24)) wr)) (fun _ v4 _ => n.kids.length - (intOf v4).toNat)
  case atStart => exact ⟨0, Nat.zero_le _, rfl, World.ownsRow_nil _ _ _ _, Below.refl _ _⟩
  case round =>
    obtain ⟨i, hi, rfl, HO, HBW⟩ := hrel
    have HBR := Lib.hid (show Below w.heap.size w wr from HB0.out.trans (HBW.out.mono (by omega)))
    have HXR := Lib.hid ((HBW.out.block w.heap.size (by omega)).trans HX.out)
    have hLl : (bindA (n.kids.take i)).length ≤ i := by
      have := bindA_len (n.kids.take i)
      rw [List.length_take] at this
      omega
    obtain ⟨L, hL⟩ : ∃ L, bindA (n.kids.take i) = L := ⟨_, rfl⟩
    rw [hL] at HO hLl
    have HL := Lib.hid hL
    obtain ⟨va, vc, hva, hvc, hvm, _⟩ := own_strR HO.out
    subst hva
    clear hL
    obtain ⟨x0, x1, x2, x3, _, _, _, _, hxl⟩ := nd_cells HXR.out
    by_cases hlt : i < n.kids.length
    · have hi0 : (0 : Int) ≤ (i : Int) := Int.natCast_nonneg _
      have hi1 : (i : Int) < (n.kids.length : Int) := by omega
      obtain ⟨kb, ko, kx, hko, hkw, k0, k1, k2, k3, hkx⟩ := HS.out.at_ i hlt
      obtain ⟨ay, cy, rfl, _, _⟩ := hkx.shape
      subst hko
      have hmem := List.getElem_mem hlt
      have hyok := HKK.out _ hmem
      have hbs := bindA_step hlt
      rw [HL.out] at hbs
      obtain ⟨y, hy⟩ : ∃ y, n.kids[i] = y := ⟨_, rfl⟩
      rw [hy] at k0 k1 k2 k3 hkx hyok hbs
      have hyt : y.t.size ≤ 1048576 := by
        cases y with
        | mk a b c d => rw [ok_mk] at hyok; exact hyok.1.t
      have HKC := Lib.hid (show ∀ W : World, Below w.heap.size w W → W.cell? ⟨kb, ko + i * 4, none⟩ = some (.int .i64 y.k) ∧ W.cell? ⟨kb, ko + i * 4 + 1, none⟩ = some (.string y.t) from fun W hb => ⟨(hb.cell (p := ⟨kb, ko + i * 4, none⟩) hkw).trans k0, (hb.cell (p := ⟨kb, ko + i * 4 + 1, none⟩) hkw).trans k1⟩)
      have hkl2 : kb < wr.heap.size := Nat.lt_of_lt_of_le hkw HBR.out.size
      have HKW := Lib.hid hkw
      obtain ⟨A2, hA2, hAs⟩ : ∃ A2 : ByteArray, str (spA y.t) = .string A2 ∧ A2.data.toList = spA y.t := ⟨⟨(spA y.t).toArray⟩, rfl, by simp⟩
      have HSP := Lib.hid (fun (W : World) => (refSpaceA_any y.t W hyt).mono fun e w2 h => show e = .returned (.string A2) ∧ Below W.heap.size W w2 from ⟨by rw [h.1, hA2], h.2⟩)
      have HA2 := Lib.hid (show strV (spA y.t) = .string A2 from hA2)
      have HAS := Lib.hid hAs
      have HBS := Lib.hid hbs
      obtain ⟨d0, d1⟩ := HKC.out wr HBR.out
      clear k0 k1 k2 k3 hkx hyok hbs hmem hy hA2 hyt
      go_wp2_with fail
      refine (HSP.out _).mono ?_
      rintro e w2 ⟨rfl, hb⟩
      have HBW2 := Lib.hid (HBW.out.trans (hb.mono (by have := HBW.out.size; simp at this; omega)))
      have HB2 := Lib.hid (bthen HBR.out hb)
      have HO2 := Lib.hid (owns_below HO.out hb)
      have HX2 := Lib.hid ((hb.block _ (lt_blk HXR.out)).trans HXR.out)
      clear hb d0 d1 x0 x1 x2 x3 hxl hkl2
      obtain ⟨x0, x1, x2, x3, _, _, _, _, hxl⟩ := nd_cells HX2.out
      obtain ⟨d0, d1⟩ := HKC.out w2 HB2.out
      have hkl2 : kb < w2.heap.size := Nat.lt_of_lt_of_le HKW.out HB2.out.size
      by_cases h11 : y.k = 11
      · have hkc : (y.k != 11) = false := by simp [h11]
        by_cases hsp : spA y.t = []
        · have he : A2.toList.isEmpty = true := by rw [isE_nil hAs, hsp]; rfl
          have HN := Lib.hid (show bindA (n.kids.take (i + 1)) = L by rw [HBS.out]; unfold bndA; rw [if_neg (fun h => h.2 hsp)])
          clear h11 hsp hAs
          go_wp2_with fail
          go_roundw
          case rel => exact ⟨i + 1, by omega, by go_num, by rw [HN.out]; exact HO2.out, HBW2⟩
          case measure => simp [intOf]; omega
        · have he : A2.toList.isEmpty = false := by
            rw [isE_nil hAs]
            cases h : spA y.t with
            | nil => exact absurd h hsp
            | cons a b => rfl
          have HN := Lib.hid (show bindA (n.kids.take (i + 1)) = insU L (spA y.t) by rw [HBS.out]; unfold bndA; rw [if_pos ⟨h11, hsp⟩])
          clear h11 hsp hAs
          go_wp2_with fail
          go_loopw [6, 7] (fun v6 v7 wq => ∃ (j : Nat) (Bo : Bool), j ≤ L.length ∧ v7 = .int .i64 j ∧ v6 = .bool Bo ∧ Hid ((L.take j).contains (spA y.t) = Bo) ∧ wq = w2) (fun _ v7 _ => L.length - (intOf v7).toNat)
          case atStart => exact ⟨0, false, Nat.zero_le _, rfl, rfl, rfl, rfl⟩
          case round =>
            obtain ⟨j, Bo, hj, rfl, rfl, HBo, rfl⟩ := hrel
            by_cases hjl : j < L.length
            · have hj0 : (0 : Int) ≤ (j : Int) := Int.natCast_nonneg _
              have hj1 : (j : Int) < (L.length : Int) := by omega
              have hcs := contains_step hjl (spA y.t)
              rw [HBo.out] at hcs
              cases Bo with
              | true =>
                have HST := Lib.hid (show (L.take (j + 1)).contains (spA y.t) = true by rw [hcs]; rfl)
                clear hcs
                go_wp2_with fail
                go_roundw
                case rel => exact ⟨j + 1, true, by omega, by go_num, rfl, HST.out, trivial⟩
                case measure => simp [intOf]; omega
              | false =>
                obtain ⟨ao2, cap2, hsl, hc1, hc2, hcells⟩ := own_strR HO2.out
                obtain ⟨gb, hgb, hgc⟩ := hcells j hjl
                injection hsl with hs1 hs2 hs3
                subst hs1 hs3 hgb
                obtain ⟨E, hE1, hE2⟩ : ∃ E : ByteArray, strV L[j] = .string E ∧ E.data.toList = L[j] := ⟨⟨(L[j]).toArray⟩, rfl, by simp⟩
                rw [hE1] at hgc
                have hgl := cell_lt hgc
                by_cases heq : L[j] = spA y.t
                · have hq1 : (E.toList == A2.toList) = true := by rw [ByteArray.toList_eq, ByteArray.toList_eq, hE2, HAS.out, heq]; simp
                  have HST := Lib.hid (show (L.take (j + 1)).contains (spA y.t) = true by rw [hcs, decide_eq_true heq]; rfl)
                  clear hcs heq hE1 hE2 hcells
                  go_wp2_with fail
                  go_roundw
                  case rel => exact ⟨j + 1, true, by omega, by go_num, rfl, HST.out, trivial⟩
                  case measure => simp [intOf]; omega
                · have hq1 : (E.toList == A2.toList) = false := by rw [ByteArray.toList_eq, ByteArray.toList_eq, hE2, HAS.out, beq_eq_false_iff_ne]; exact heq
                  have HST := Lib.hid (show (L.take (j + 1)).contains (spA y.t) = false by rw [hcs, decide_eq_false heq]; rfl)
                  clear hcs heq hE1 hE2 hcells
                  go_wp2_with fail
                  go_roundw
                  case rel => exact ⟨j + 1, false, by omega, by go_num, rfl, HST.out, trivial⟩
                  case measure => simp [intOf]; omega
            · obtain rfl : j = L.length := by omega
              have hj1 : ¬ ((L.length : Nat) : Int) < (L.length : Int) := by omega
              have HCO := Lib.hid (show L.contains (spA y.t) = Bo by have h := HBo.out; rwa [List.take_length] at h)
              cases Bo with
              | true =>
                have HN2 := Lib.hid (show bindA (n.kids.take (i + 1)) = L by rw [HN.out]; unfold insU; rw [if_pos HCO.out])
                go_wp2_with fail
                go_roundw
                case rel => exact ⟨i + 1, by omega, by go_num, by rw [HN2.out]; exact HO2.out, HBW2⟩
                case measure => simp [intOf]; omega
              | false =>
                have HN2 := Lib.hid (show bindA (n.kids.take (i + 1)) = L ++ [spA y.t] by rw [HN.out]; unfold insU; rw [if_neg (by rw [HCO.out]; simp)])
                have HOW := Lib.hid (owns_below HO2.out (show Below _ _ (World.alloc _ (.cells #[.string A2] 9)) from (Below.refl _ _).alloc (Nat.le_refl _) _))
                have hwl : w.heap.size + 1 ≤ wr.heap.size := by have := HBW2.out.size; simp at this; omega
                go_wp2_with (at_builtin; refine wpList_append_own_at _ rfl _ _ 57 rfl (w.heap.size + 1) 9 i0 _ 1 16 Tryz.underlying57 HI.out hz0 hz1 hz2 rfl (by omega) _ L.length (strR L) (by rfl) HOW.out ⟨wr.heap.size, 0, none⟩ 1 1 [.string A2] (by rfl) (by rfl) (World.news_of_block (heap_alloc_new wr _)) (by intro u hu; rw [List.mem_singleton.1 hu]; rfl) (by unfold maxLen; omega) (by omega) (by simp; omega) ?_)
                intro v1 w4 hown hgrow _ hat
                have hlo : ∀ g, (Value.slice va L.length vc).ownBlock = some g → w.heap.size + 1 ≤ g := fun g e => (HO.out.lt g e).1
                have HOW4 := Lib.hid (show w4.ownsRow (w.heap.size + 1) 9 1 v1 (bindA (n.kids.take (i + 1))).length (strR (bindA (n.kids.take (i + 1)))) by
                  rw [HN2.out, List.length_append, List.length_singleton, strR_app, show strR [spA y.t] = [.string A2] by rw [← HA2.out]; rfl]; exact hown)
                have HB4 := Lib.hid ((HBW2.out.alloc (by omega) _).grown hgrow (by simp; omega) hlo)
                clear hown hgrow hat hlo
                go_wp2_with fail
                go_roundw
                case rel => exact ⟨i + 1, by omega, by go_num, HOW4, HB4⟩
                case measure => simp [intOf]; omega
      · have hkc : (y.k != 11) = true := by simp [h11]
        have HN := Lib.hid (show bindA (n.kids.take (i + 1)) = L by rw [HBS.out]; unfold bndA; rw [if_neg (fun h => h11 h.1)])
        clear h11 hAs
        go_wp2_with fail
        go_roundw
        case rel => exact ⟨i + 1, by omega, by go_num, by rw [HN.out]; exact HO2.out, HBW2⟩
        case measure => simp [intOf]; omega
    · obtain rfl : i = n.kids.length := by omega
      have hi1 : ¬ ((n.kids.length : Nat) : Int) < (n.kids.length : Int) := by omega
      have HLE := Lib.hid (show (bindA n.kids).length = L.length by rw [← HL.out, bindA_all])
      go_wp2_with fail
      go_ret
      exact ⟨⟨_, _, by rw [HLE.out]; rfl⟩, HBR.out⟩
end Go.Proofs.YtmniblcooficgaaGreatDoor
