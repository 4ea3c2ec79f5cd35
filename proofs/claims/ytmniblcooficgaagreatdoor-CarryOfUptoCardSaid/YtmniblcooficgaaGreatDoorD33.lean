import Derived.Test.YtmniblcooficgaaGreatDoorD32
namespace Go.Proofs.YtmniblcooficgaaGreatDoor
open Go.RowKit Ev5
set_option linter.unusedSimpArgs false
set_option linter.unusedVariables false

theorem row_end {n : Nd} (h : n.kids = []) : rowF n.k n.t n.v [] = n.txt rowF := by
  cases n with
  | mk a b c d => simp only [Nd.kids] at h; subst h; rw [txt_mk, txts_nil]; rfl
def WayK (l : List Nd) : Prop := WayC l ∧ ∀ x ∈ l, x.ok ∧ x.size ≤ 50000
theorem wayK_snoc (way : List Nd) (n x : Nd) (h : WayK (way ++ [n])) (hx : x ∈ n.kids) : WayK (way ++ [n] ++ [x]) := by
  refine ⟨wayC_snoc way n x h.1 hx, fun y hy => ?_⟩
  rcases List.mem_append.1 hy with hy | hy
  · exact h.2 y hy
  · obtain rfl := List.mem_singleton.1 hy
    obtain ⟨h1, h2⟩ := h.2 n (by simp)
    cases n with
    | mk a b c d =>
      rw [ok_mk] at h1
      refine ⟨(oks_iff _).1 h1.2 _ hx, ?_⟩
      have h3 := size_mem hx
      rw [size_mk] at h2
      simp only [Nd.kids] at h3
      omega
set_option maxRecDepth 100000 in
set_option maxHeartbeats 8000000 in
theorem refOutline_any (w : World) (S : Nat → Prop) (wv : Value) (way : List Nd) (hs : SlIn w S wv way) (hw : WayK way) (hl : way.length ≤ 200000) :
    Calls Tryz.prog 69 #[wv] w fun e w' => e = .returned (.bool (tpO way)) ∧ Below w.heap.size w w' := by
  have hne := wayC_ne hw.1
  obtain ⟨init, n, hway⟩ : ∃ l x, way = l ++ [x] := ⟨_, _, (List.dropLast_concat_getLast hne).symm⟩
  obtain ⟨wa, wc, rfl, hwc, hwm⟩ := hs.shape
  have hlen : way.length = init.length + 1 := by rw [hway, List.length_append, List.length_singleton]
  have hlast : init.length < way.length := by omega
  obtain ⟨bb, oo, ux, hao, hbw, c0, c1, c2, c3, hsx⟩ := hs.at_ init.length hlast
  subst hao
  have hget : way[init.length] = n := by simp [hway]
  rw [hget] at c0 c1 c2 hsx
  obtain ⟨ax, cx, rfl, hcx, hcm⟩ := hsx.shape
  have HS := Lib.hid hs; have HSX := Lib.hid hsx.ltC; have HW := Lib.hid hw
  have HT := Lib.hid (show tpO way = if n.k = 10 then false else if n.k = 8 then true else decide (aheadO init + szO n ≤ 160) by rw [hway, tpO_last])
  have HIN := Lib.hid (fun (j : Nat) (hj : j < init.length) => show way[j]'(by omega) = init[j] by simp [hway, List.getElem_append_left hj])
  obtain ⟨WK, hWK⟩ : ∃ WK, init.length = WK := ⟨_, rfl⟩
  rw [hWK] at hlen c0 c1 c2 c3
  have hw0 : (0 : Int) ≤ (WK : Int) := Int.natCast_nonneg _
  have HLEN := Lib.hid hlen; have HWK := Lib.hid hWK
  have HB0 := Lib.hid (show Below w.heap.size w (w.alloc (.cells #[.int .i64 n.k, .string n.t, .string n.v, .slice ax n.kids.length cx] 24)) from (Below.refl _ _).alloc (Nat.le_refl _) _)
  have HX := Lib.hid (heap_alloc_new w (.cells #[.int .i64 n.k, .string n.t, .string n.v, .slice ax n.kids.length cx] 24))
  have HNW := Lib.hid (hw.2 n (by rw [hway]; simp))
  have HWI := Lib.hid (fun (j : Nat) (hj : j < init.length) => hw.2 init[j] (by rw [hway]; simp))
  clear hs hne hsx hlast hget hw
  unfold maxLen at *
  have hwkI : ((WK + 1 : Nat) : Int) - 1 = (WK : Int) := by omega
  have hw2 : (WK : Int) < ((WK + 1 : Nat) : Int) := by omega
  rw [hlen] at hwc hl
  rw [hlen]
  clear hway hlen hWK
  by_cases h10 : n.k = 10
  · have hT := Lib.hid (show tpO way = false by rw [HT.out, if_pos h10])
    have hkb : (n.k == 10) = true := by simp [h10]
    clear h10 HT
    obtain ⟨x0, x1, x2, x3, _, _, _, _, hxl⟩ := nd_cells HX.out
    go_enter Tryz.func69, Tryz.ntmps69
    go_wp2_with fail
    go_ret
    exact ⟨by rw [hT.out]; rfl, HB0.out⟩
  have hkb : (n.k == 10) = false := by simp [h10]
  by_cases h8 : n.k = 8
  · have hT := Lib.hid (show tpO way = true by rw [HT.out, if_neg h10, if_pos h8])
    have hkb8 : (n.k == 8) = true := by simp [h8]
    clear h10 h8 HT
    obtain ⟨x0, x1, x2, x3, _, _, _, _, hxl⟩ := nd_cells HX.out
    go_enter Tryz.func69, Tryz.ntmps69
    go_wp2_with fail
    go_ret
    exact ⟨by rw [hT.out]; rfl, HB0.out⟩
  have hkb8 : (n.k == 8) = false := by simp [h8]
  have hT := Lib.hid (show tpO way = decide (aheadO init + szO n ≤ 160) by rw [HT.out, if_neg h10, if_neg h8])
  clear h10 h8 HT
  obtain ⟨x0, x1, x2, x3, _, _, _, _, hxl⟩ := nd_cells HX.out
  go_enter Tryz.func69, Tryz.ntmps69
  go_wp2_with fail
  go_loopw [5, 6] (fun v5 v6 wr => ∃ i : Nat, i ≤ WK ∧ v6 = .int .i64 i ∧ v5 = .int .i64 ((inO (init.take i) : Nat) : Int) ∧ Hid (wr.heap[w.heap.size]? = some (.cells #[.int .i64 n.k, .string n.t, .string n.v, .slice ax n.kids.length cx] 24 (0, 0))) ∧ Hid (Below w.heap.size w wr)) (fun _ v6 _ => WK - (intOf v6).toNat)
  case atStart => exact ⟨0, Nat.zero_le _, rfl, by rw [List.take_zero]; rfl, HX, HB0⟩
  case round =>
    obtain ⟨i, hi, rfl, hv5, HXR, HBR⟩ := hrel
    obtain ⟨x0, x1, x2, x3, _, _, _, _, hxl⟩ := nd_cells HXR.out
    have hil := inO_le (init.take i)
    rw [List.length_take] at hil
    obtain ⟨J, hJ⟩ : ∃ J, inO (init.take i) = J := ⟨_, rfl⟩
    rw [hJ] at hil hv5
    subst hv5
    have HJ := Lib.hid hJ
    by_cases hlt : i < WK
    · have hi0 : (0 : Int) ≤ (i : Int) := Int.natCast_nonneg _
      have hi1 : (i : Int) + 1 < ((WK + 1 : Nat) : Int) := by omega
      have hi2 : (i : Int) < ((WK + 1 : Nat) : Int) := by omega
      obtain ⟨rb, ro, rx, hro, hrw, r0, r1, r2, r3, hrx⟩ := HS.out.at_ i (by have := HLEN.out; omega)
      injection hro with hro
      injection hro with hro1 hro2 _
      subst hro1; subst hro2
      rw [HIN.out i (by have := HWK.out; omega)] at r0
      have htk : inO (init.take (i + 1)) = J + if (init[i]'(by have := HWK.out; omega)).k = 8 then 0 else 1 := by
        rw [List.take_add_one, List.getElem?_eq_getElem (by have := HWK.out; omega), inO_app, hJ, ← inO_one]; rfl
      obtain ⟨K, hK⟩ : ∃ K, (init[i]'(by have := HWK.out; omega)).k = K := ⟨_, rfl⟩
      rw [hK] at r0 htk
      have d0 : wr.cell? ⟨bb, oo + i * 4, none⟩ = some (.int .i64 K) := (HBR.out.cell (p := ⟨bb, oo + i * 4, none⟩) hbw).trans r0
      have hbl : bb < wr.heap.size := Nat.lt_of_lt_of_le hbw HBR.out.size
      have HTK := Lib.hid htk
      clear r0 r1 r2 r3 hrx htk hK hJ
      by_cases hK8 : K = 8
      · have hk9 : (K != 8) = false := by simp [hK8]
        have HN := Lib.hid (show inO (init.take (i + 1)) = J by rw [HTK.out, if_pos hK8]; rfl)
        clear hK8
        go_wp2_with fail
        go_roundw
        case rel => exact ⟨i + 1, by omega, by go_num, by rw [HN.out], HXR, HBR⟩
        case measure => simp [intOf]; omega
      · have hk9 : (K != 8) = true := by simp [hK8]
        have HN := Lib.hid (show inO (init.take (i + 1)) = J + 1 by rw [HTK.out, if_neg hK8])
        clear hK8
        go_wp2_with fail
        go_roundw
        case rel => exact ⟨i + 1, by omega, by go_num, by rw [HN.out]; go_num, HXR, HBR⟩
        case measure => simp [intOf]; omega
    · obtain rfl : i = WK := by omega
      have hi1 : ¬ ((i : Int) + 1 < ((i + 1 : Nat) : Int)) := by omega
      have HJ2 := Lib.hid (show inO init = J by rw [← hJ, List.take_of_length_le (by have := HWK.out; omega)])
      clear hJ
      obtain ⟨Y, hY, hYL⟩ : ∃ Y : ByteArray, strV (n.txt rowF) = .string Y ∧ Y.size = (n.txt rowF).length := ⟨_, rfl, rfl⟩
      have HYL := Lib.hid hYL
      have HRW := Lib.hid (fun (w' : World) (hb : Below w.heap.size w w') => show Calls Tryz.prog 96 #[.agg #[.int .i64 n.k, .string n.t, .string n.v, .slice ax n.kids.length cx]] w' fun e w2 => e = .returned (.string Y) ∧ Below w'.heap.size w' w2 from
        (refRow15_any n HNW.out.1 HNW.out.2 w' _ _ (.mk (HSX.out.below hb))).mono fun e w2 h => ⟨by rw [h.1, hY], h.2⟩)
      have hyb := txt_len textF_row n HNW.out.1
      have hnsz := HNW.out.2
      have hYs : Y.size ≤ 1050000 * 50000 := by omega
      clear hY hYL hyb hnsz
      by_cases hJ0 : J = 0
      · have hj0 : ¬ (0 : Int) < (J : Int) := by omega
        have HA := Lib.hid (show aheadO init = 0 by unfold aheadO; rw [if_pos (by rw [HJ2.out, hJ0])])
        clear hJ0
        by_cases hk0 : n.kids = []
        · have hki : ¬ (0 : Int) < (n.kids.length : Int) := by rw [hk0]; simp
          have hlz : n.kids.length = 0 := by rw [hk0]; rfl
          have HSZ := Lib.hid (show szO n = (Y.size : Int) by unfold szO; rw [if_pos hk0, HYL.out]; exact congrArg _ (congrArg List.length (row_end hk0)))
          clear hk0 hlz
          go_wp2_with fail
          refine (HRW.out _ HBR.out).mono ?_
          rintro e w5 ⟨rfl, hb⟩
          have HB5 := Lib.hid (bthen HBR.out hb)
          clear hb
          go_wp2_with fail
          go_ret
          exact ⟨by rw [hT.out, HA.out, HSZ.out]; first | rfl | exact congrArg Ending.returned (congrArg Value.bool (decide_eq_decide.2 (by omega))), HB5.out⟩
        · have hki : (0 : Int) < (n.kids.length : Int) := by have := List.length_pos_iff.2 hk0; omega
          have HSZ := Lib.hid (show szO n = -1 by unfold szO; rw [if_neg hk0])
          clear hk0
          go_wp2_with fail
          go_ret
          exact ⟨by rw [hT.out, HA.out, HSZ.out]; first | rfl | exact congrArg Ending.returned (congrArg Value.bool (decide_eq_decide.2 (by omega))), HBR.out⟩
      · have hj0 : (0 : Int) < (J : Int) := by omega
        have hJ1 : 1 ≤ J := by omega
        have hW1 : 1 ≤ i := by omega
        obtain ⟨i2, rfl⟩ : ∃ i2, i = i2 + 1 := ⟨i - 1, by omega⟩
        obtain ⟨rb, ro, rx, hro, hrw, r0, r1, r2, r3, hrx⟩ := HS.out.at_ i2 (by have := HLEN.out; omega)
        injection hro with hro
        injection hro with hro1 hro2 _
        subst hro1; subst hro2
        obtain ⟨ar, cr, rfl, _, _⟩ := hrx.shape
        have hup := HIN.out i2 (by have := HWK.out; omega)
        rw [hup] at r0 r1 r2 r3
        obtain ⟨up, hU⟩ : ∃ up, init[i2]'(by have := HWK.out; omega) = up := ⟨_, rfl⟩
        rw [hU] at r0 r1 r2 r3
        have HUP := Lib.hid (show init.getLast? = some up by
          rw [List.getLast?_eq_getElem?, show init.length - 1 = i2 by have := HWK.out; omega, List.getElem?_eq_getElem (by have := HWK.out; omega), hU])
        have hupt : up.t.size ≤ 1048576 := by
          have h := (HWI.out i2 (by have := HWK.out; omega)).1
          rw [hU] at h
          cases up with
          | mk a b c d => rw [ok_mk] at h; exact h.1.t
        have d0 : wr.cell? ⟨bb, oo + i2 * 4, none⟩ = some (.int .i64 up.k) := (HBR.out.cell (p := ⟨bb, oo + i2 * 4, none⟩) hbw).trans r0
        have d1 : wr.cell? ⟨bb, oo + i2 * 4 + 1, none⟩ = some (.string up.t) := (HBR.out.cell (p := ⟨bb, oo + i2 * 4 + 1, none⟩) hbw).trans r1
        have d2 : wr.cell? ⟨bb, oo + i2 * 4 + 2, none⟩ = some (.string up.v) := (HBR.out.cell (p := ⟨bb, oo + i2 * 4 + 2, none⟩) hbw).trans r2
        have d3 : wr.cell? ⟨bb, oo + i2 * 4 + 3, none⟩ = some (.slice ar up.kids.length cr) := (HBR.out.cell (p := ⟨bb, oo + i2 * 4 + 3, none⟩) hbw).trans r3
        have hbl : bb < wr.heap.size := Nat.lt_of_lt_of_le hbw HBR.out.size
        have HBX := Lib.hid (show Below wr.heap.size wr (wr.alloc (.cells #[.int .i64 up.k, .string up.t, .string up.v, .slice ar up.kids.length cr] 24)) from (Below.refl _ _).alloc (Nat.le_refl _) _)
        have hii : ((i2 + 1 + 1 : Nat) : Int) - 2 = (i2 : Int) := by omega
        have hi20 : (0 : Int) ≤ (i2 : Int) := Int.natCast_nonneg _
        have hi21 : (i2 : Int) < ((i2 + 1 + 1 : Nat) : Int) := by omega
        clear r0 r1 r2 r3 hrx hup hU
        by_cases hk8 : up.k = 8
        · have hu8 : (up.k == 8) = true := by simp [hk8]
          have HWD := Lib.hid (fun w' : World => refWord_any up.t w' hupt)
          have hwl := word_len up.t hupt
          have HA := Lib.hid (show aheadO init = 2 * (J : Int) + ((wordP up.t).1.size : Int) by unfold aheadO; rw [if_neg (by rw [HJ2.out]; omega), HJ2.out, HUP.out]; simp only []; rw [if_pos hk8])
          obtain ⟨Q, hQ⟩ : ∃ Q, (wordP up.t).1 = Q := ⟨_, rfl⟩
          rw [hQ] at HWD HA hwl
          have hQs : Q.size ≤ 1048576 := hwl
          clear hk8 hQ hwl
          by_cases hk0 : n.kids = []
          · have hki : ¬ (0 : Int) < (n.kids.length : Int) := by rw [hk0]; simp
            have HSZ := Lib.hid (show szO n = (Y.size : Int) by unfold szO; rw [if_pos hk0, HYL.out]; exact congrArg _ (congrArg List.length (row_end hk0)))
            clear hk0
            go_wp2_with fail
            refine (HWD.out _).mono ?_
            rintro e w6 ⟨rfl, hb6⟩
            have HXU := Lib.hid ((hb6.block _ (by simp; omega)).trans ((HBX.out.block _ hxl).trans HXR.out))
            have HBU := Lib.hid (bthen (bthen HBR.out HBX.out) hb6)
            clear hb6 x0 x1 x2 x3 hxl
            obtain ⟨x0, x1, x2, x3, _, _, _, _, hxl⟩ := nd_cells HXU.out
            go_wp2_with fail
            refine (HRW.out _ HBU.out).mono ?_
            rintro e w5 ⟨rfl, hb⟩
            have HB5 := Lib.hid (bthen HBU.out hb)
            clear hb
            go_wp2_with fail
            go_ret
            exact ⟨by rw [hT.out, HA.out, HSZ.out]; first | rfl | exact congrArg Ending.returned (congrArg Value.bool (decide_eq_decide.2 (by omega))), HB5.out⟩
          · have hki : (0 : Int) < (n.kids.length : Int) := by have := List.length_pos_iff.2 hk0; omega
            have HSZ := Lib.hid (show szO n = -1 by unfold szO; rw [if_neg hk0])
            clear hk0
            go_wp2_with fail
            refine (HWD.out _).mono ?_
            rintro e w6 ⟨rfl, hb6⟩
            have HXU := Lib.hid ((hb6.block _ (by simp; omega)).trans ((HBX.out.block _ hxl).trans HXR.out))
            have HBU := Lib.hid (bthen (bthen HBR.out HBX.out) hb6)
            clear hb6 x0 x1 x2 x3 hxl
            obtain ⟨x0, x1, x2, x3, _, _, _, _, hxl⟩ := nd_cells HXU.out
            go_wp2_with fail
            go_ret
            exact ⟨by rw [hT.out, HA.out, HSZ.out]; first | rfl | exact congrArg Ending.returned (congrArg Value.bool (decide_eq_decide.2 (by omega))), HBU.out⟩
        · have hu8 : (up.k == 8) = false := by simp [hk8]
          have HA := Lib.hid (show aheadO init = 2 * (J : Int) by unfold aheadO; rw [if_neg (by rw [HJ2.out]; omega), HJ2.out, HUP.out]; simp only []; rw [if_neg hk8]; omega)
          clear hk8
          by_cases hk0 : n.kids = []
          · have hki : ¬ (0 : Int) < (n.kids.length : Int) := by rw [hk0]; simp
            have HSZ := Lib.hid (show szO n = (Y.size : Int) by unfold szO; rw [if_pos hk0, HYL.out]; exact congrArg _ (congrArg List.length (row_end hk0)))
            clear hk0
            go_wp2_with fail
            have HBU := Lib.hid (bthen HBR.out HBX.out)
            refine (HRW.out _ HBU.out).mono ?_
            rintro e w5 ⟨rfl, hb⟩
            have HB5 := Lib.hid (bthen HBU.out hb)
            clear hb
            go_wp2_with fail
            go_ret
            exact ⟨by rw [hT.out, HA.out, HSZ.out]; first | rfl | exact congrArg Ending.returned (congrArg Value.bool (decide_eq_decide.2 (by omega))), HB5.out⟩
          · have hki : (0 : Int) < (n.kids.length : Int) := by have := List.length_pos_iff.2 hk0; omega
            have HSZ := Lib.hid (show szO n = -1 by unfold szO; rw [if_neg hk0])
            clear hk0
            go_wp2_with fail
            have HBU := Lib.hid (bthen HBR.out HBX.out)
            go_ret
            exact ⟨by rw [hT.out, HA.out, HSZ.out]; first | rfl | exact congrArg Ending.returned (congrArg Value.bool (decide_eq_decide.2 (by omega))), HBU.out⟩
set_option maxRecDepth 100000 in
set_option maxHeartbeats 4000000 in
theorem tellsOutline : TellsAt 3 tpO WayK := by
  intro w S wv way hE hs hw hl
  obtain ⟨wa, wc, rfl, hwc, hwm⟩ := hs.shape
  have HS := Lib.hid hs; have HW := Lib.hid hw
  clear hs hE hw
  go_enter Tryz.func40, Tryz.ntmps40
  go_wp2_with fail
  refine (refOutline_any w _ _ way HS.out HW.out hl).mono ?_
  rintro e w1 ⟨rfl, hb⟩
  have HB := Lib.hid hb
  clear hb
  go_wp2_with fail
  go_ret
  exact ⟨rfl, HB.out⟩
theorem refOfOutline_any (n : Nd) (w : World) (S : Nat → Prop) (v : Value) (hE : EnvU w) (hv : NdV w S v n) (hok : n.ok) (hsz : n.size ≤ 50000) :
    Calls Tryz.prog 8 #[.int .i64 3, v] w (OfPost (ofP tpO n) w) :=
  refOf_any 3 _ _ (by omega) (by omega) tellsOutline (fun way n h i hi => wayK_snoc way n _ h (List.getElem_mem hi)) n w S v hE hv hok hsz (fun _ => ⟨trivial, fun x hx => by obtain rfl := List.mem_singleton.1 hx; exact ⟨hok, hsz⟩⟩)
end Go.Proofs.YtmniblcooficgaaGreatDoor
