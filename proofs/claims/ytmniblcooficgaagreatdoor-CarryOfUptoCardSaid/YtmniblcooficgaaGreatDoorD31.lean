import Derived.Test.YtmniblcooficgaaGreatDoorD30
namespace Go.Proofs.YtmniblcooficgaaGreatDoor
open Go.RowKit Ev5
set_option linter.unusedSimpArgs false
set_option linter.unusedVariables false

def WayC : List Nd → Prop
  | [] => False
  | [_] => True
  | a :: b :: r => b ∈ a.kids ∧ WayC (b :: r)
theorem wayC_snoc : ∀ (way : List Nd) (n x : Nd), WayC (way ++ [n]) → x ∈ n.kids → WayC (way ++ [n] ++ [x])
  | [], n, x, _, hx => ⟨hx, trivial⟩
  | [a], n, x, h, hx => ⟨h.1, hx, trivial⟩
  | a :: b :: r, n, x, h, hx => ⟨h.1, wayC_snoc (b :: r) n x h.2 hx⟩
theorem wayC_ne {l : List Nd} (h : WayC l) : l ≠ [] := by rintro rfl; exact h
set_option maxRecDepth 100000 in
set_option maxHeartbeats 8000000 in
theorem refDelim_any (w : World) (S : Nat → Prop) (wv : Value) (way : List Nd) (hs : SlIn w S wv way) (hw : WayC way) (hl : way.length ≤ 200000) :
    Calls Tryz.prog 68 #[wv] w fun e w' => e = .returned (.bool (tpD way)) ∧ Below w.heap.size w w' := by
  have hne := wayC_ne hw
  obtain ⟨init, n, hway⟩ : ∃ l x, way = l ++ [x] := ⟨_, _, (List.dropLast_concat_getLast hne).symm⟩
  obtain ⟨wa, wc, rfl, hwc, hwm⟩ := hs.shape
  have hlen : way.length = init.length + 1 := by rw [hway, List.length_append, List.length_singleton]
  have hlast : init.length < way.length := by omega
  obtain ⟨bb, oo, ux, hao, hbw, c0, c1, c2, c3, hsx⟩ := hs.at_ init.length hlast
  subst hao
  have hget : way[init.length] = n := by simp [hway]
  rw [hget] at c0 c1 c2 hsx
  obtain ⟨ax, cx, rfl, hcx, hcm⟩ := hsx.shape
  have HS := Lib.hid hs; have HSX := Lib.hid hsx.ltC; have HW := Lib.hid hw
  obtain ⟨WK, hWK⟩ : ∃ WK, init.length = WK := ⟨_, rfl⟩
  rw [hWK] at hlen c0 c1 c2 c3
  have hw0 : (0 : Int) ≤ (WK : Int) := Int.natCast_nonneg _
  have HLEN := Lib.hid hlen
  have HB0 := Lib.hid (show Below w.heap.size w (w.alloc (.cells #[.int .i64 n.k, .string n.t, .string n.v, .slice ax n.kids.length cx] 24)) from (Below.refl _ _).alloc (Nat.le_refl _) _)
  have HX := Lib.hid (heap_alloc_new w (.cells #[.int .i64 n.k, .string n.t, .string n.v, .slice ax n.kids.length cx] 24))
  clear hs hne hsx hlast hget hw
  unfold maxLen at *
  have hwkI : ((WK + 1 : Nat) : Int) - 1 = (WK : Int) := by omega
  have hw2 : (WK : Int) < ((WK + 1 : Nat) : Int) := by omega
  rw [hlen] at hwc hl
  rw [hlen]
  by_cases h1 : WK = 0
  · subst h1
    obtain rfl : init = [] := List.eq_nil_of_length_eq_zero hWK
    obtain rfl := hway
    have HT := Lib.hid (show tpD [n] = (n.k == 5) by simp only [tpD]; rfl)
    rw [Nat.zero_mul, Nat.add_zero] at c0 c1 c2 c3
    obtain ⟨x0, x1, x2, x3, _, _, _, _, hxl⟩ := nd_cells HX.out
    go_enter Tryz.func68, Tryz.ntmps68
    go_wp2_with fail
    go_ret
    exact ⟨by rw [HT.out]; rfl, HB0.out⟩
  by_cases h2 : WK = 1
  · subst h2
    obtain ⟨r, rfl⟩ : ∃ r, init = [r] := by
      match init, hWK with
      | [r], _ => exact ⟨r, rfl⟩
    obtain rfl := hway
    simp only [Nat.reduceMul] at c0 c1 c2 c3
    obtain ⟨rb, ro, rx, hro, hrw, r0, r1, r2, r3, hrx⟩ := HS.out.at_ 0 (by simp)
    obtain ⟨ar, cr, rfl, hcr, hcrm⟩ := hrx.shape
    injection hro with hro
    injection hro with hro1 hro2 _
    subst hro1; subst hro2
    rw [Nat.zero_mul, Nat.add_zero] at r0 r1 r2 r3
    simp only [List.cons_append, List.getElem_cons_zero] at r0 r1 r2 r3 hrx hcr
    have hr0 : 0 < r.kids.length := List.length_pos_iff.2 (fun e => by have h := HW.out.1; rw [e] at h; cases h)
    obtain ⟨yb, yo, yx, hyo, hyw, y0, y1, y2, y3, hyx⟩ := hrx.at_ 0 hr0
    obtain ⟨ay, cy, rfl, hcy, hcym⟩ := hyx.shape
    subst hyo
    obtain ⟨y, hy⟩ : ∃ y, r.kids[0] = y := ⟨_, rfl⟩
    rw [hy] at y0 y1 y2 y3 hyx hcy
    rw [Nat.zero_mul, Nat.add_zero] at y0 y1 y2 y3
    have HSY := Lib.hid hyx.ltC
    have HYK := Lib.hid (show (r.kids.headD n).keys = y.keys by
      match h : r.kids, hr0 with
      | z :: q, _ =>
        simp only [h, List.getElem_cons_zero] at hy
        rw [hy]; rfl)
    clear hrx hyx hy
    have HB1 := Lib.hid (show Below w.heap.size w ((w.alloc (.cells #[.int .i64 n.k, .string n.t, .string n.v, .slice ax n.kids.length cx] 24)).alloc (.cells #[.int .i64 y.k, .string y.t, .string y.v, .slice ay y.kids.length cy] 24)) from HB0.out.alloc (by simp) _)
    have HX1 := Lib.hid (two_first w (.cells #[.int .i64 n.k, .string n.t, .string n.v, .slice ax n.kids.length cx] 24) (.cells #[.int .i64 y.k, .string y.t, .string y.v, .slice ay y.kids.length cy] 24))
    have HY1 := Lib.hid (two_last w (.cells #[.int .i64 n.k, .string n.t, .string n.v, .slice ax n.kids.length cx] 24) (.cells #[.int .i64 y.k, .string y.t, .string y.v, .slice ay y.kids.length cy] 24))
    have HTP := Lib.hid (show tpD [r, n] = (decide (n.k = 7) && decide (n.kids ≠ []) && decide (n.kids.length ≤ 8) && decide (n.keys = y.keys)) by
      show (decide (n.k = 7) && decide (n.kids ≠ []) && decide (n.kids.length ≤ 8) && decide (n.keys = (r.kids.headD n).keys)) = _
      rw [HYK.out])
    by_cases h7 : ¬ n.k = 7
    · have HT := Lib.hid (show tpD [r, n] = false by rw [HTP.out]; simp [h7])
      have hk7 : (n.k != 7) = true := by simp [h7]
      clear h7
      go_enter Tryz.func68, Tryz.ntmps68
      go_wp2_with fail
      go_ret
      exact ⟨by rw [HT.out]; rfl, HB1.out⟩
    have h7 : n.k = 7 := Decidable.not_not.1 h7
    have hk7 : (n.k != 7) = false := by simp [h7]
    by_cases h0 : n.kids = []
    · have HT := Lib.hid (show tpD [r, n] = false by rw [HTP.out]; simp [h0])
      have hk1 : ((n.kids.length : Int) == 0) = true := by simp [h0]
      clear h7 h0
      go_enter Tryz.func68, Tryz.ntmps68
      go_wp2_with fail
      go_ret
      exact ⟨by rw [HT.out]; rfl, HB1.out⟩
    have hk0 : 0 < n.kids.length := List.length_pos_iff.2 h0
    have hk1 : ((n.kids.length : Int) == 0) = false := by simp; omega
    by_cases h8 : ¬ n.kids.length ≤ 8
    · have HT := Lib.hid (show tpD [r, n] = false by rw [HTP.out]; simp [h8])
      have hk8 : decide (8 < (n.kids.length : Int)) = true := decide_eq_true (by omega)
      clear h7 h0
      go_enter Tryz.func68, Tryz.ntmps68
      go_wp2_with fail
      go_ret
      exact ⟨by rw [HT.out]; rfl, HB1.out⟩
    have h8 : n.kids.length ≤ 8 := Decidable.not_not.1 h8
    have hk8 : decide (8 < (n.kids.length : Int)) = false := decide_eq_false (by omega)
    by_cases h9 : ¬ n.kids.length = y.kids.length
    · have HT := Lib.hid (show tpD [r, n] = false by
        have h10 : ¬ n.keys = y.keys := fun e => h9 (by have := congrArg List.length e; simpa [Nd.keys] using this)
        rw [HTP.out]; simp [h10])
      have hk9 : ((n.kids.length : Int) != (y.kids.length : Int)) = true := by simp; omega
      clear h7 h0
      go_enter Tryz.func68, Tryz.ntmps68
      go_wp2_with fail
      go_ret
      exact ⟨by rw [HT.out]; rfl, HB1.out⟩
    have h9 : n.kids.length = y.kids.length := Decidable.not_not.1 h9
    have hk9 : ((n.kids.length : Int) != (y.kids.length : Int)) = false := by simp; omega
    have HT := Lib.hid (show tpD [r, n] = decide (n.keys = y.keys) by rw [HTP.out]; simp [h7, h0, h8])
    have HNL := Lib.hid (show n.keys.length = n.kids.length from List.length_map ..)
    have HYL := Lib.hid (show y.keys.length = y.kids.length from List.length_map ..)
    have H9 := Lib.hid h9
    clear h7 h0 h9
    go_enter Tryz.func68, Tryz.ntmps68
    go_wp2_with fail
    obtain ⟨W2, hW2⟩ : ∃ W2, (w.alloc (.cells #[.int .i64 n.k, .string n.t, .string n.v, .slice ax n.kids.length cx] 24)).alloc (.cells #[.int .i64 y.k, .string y.t, .string y.v, .slice ay y.kids.length cy] 24) = W2 := ⟨_, rfl⟩
    rw [hW2] at HB1 HX1 HY1
    rw [hW2]
    clear hW2
    go_loopw [5] (fun v5 wr => ∃ i : Nat, i ≤ n.kids.length ∧ v5 = .int .i64 i ∧ Hid (n.keys.take i = y.keys.take i) ∧ Hid (Below W2.heap.size W2 wr)) (fun v5 _ => n.kids.length - (intOf v5).toNat)
    case atStart => exact ⟨0, Nat.zero_le _, rfl, by show _ = _; simp, Below.refl _ _⟩
    case round =>
      obtain ⟨i, hi, rfl, HTI, HBR⟩ := hrel
      have HBW := Lib.hid (bthen HB1.out HBR.out)
      obtain ⟨x0, x1, x2, x3, _, _, _, _, hxl⟩ := nd_cells ((HBR.out.block _ (lt_blk HX1.out)).trans HX1.out)
      obtain ⟨w0, w1, w2, w3, _, _, _, _, hwl⟩ := nd_cells ((HBR.out.block _ (lt_blk HY1.out)).trans HY1.out)
      by_cases hlt : i < n.kids.length
      · have hlt2 : i < y.kids.length := by have := H9.out; omega
        have hi0 : (0 : Int) ≤ (i : Int) := Int.natCast_nonneg _
        have hi1 : (i : Int) < (n.kids.length : Int) := by omega
        have hi2 : (i : Int) < (y.kids.length : Int) := by omega
        obtain ⟨pb, po, px, hpo, hpw, p0, p1, p2, p3, hpx⟩ := HSX.out.at_ i hlt
        obtain ⟨qb, qo, qx, hqo, hqw, q0, q1, q2, q3, hqx⟩ := HSY.out.at_ i hlt2
        subst hpo; subst hqo
        have hnk : n.keys[i]'(by rw [HNL.out]; exact hlt) = n.kids[i].t := by simp [Nd.keys]
        have hyk : y.keys[i]'(by rw [HYL.out]; exact hlt2) = y.kids[i].t := by simp [Nd.keys]
        have HST := Lib.hid (fun he : n.kids[i].t = y.kids[i].t => show n.keys.take (i + 1) = y.keys.take (i + 1) by
          rw [List.take_add_one, List.take_add_one, List.getElem?_eq_getElem (by rw [HNL.out]; exact hlt), List.getElem?_eq_getElem (by rw [HYL.out]; exact hlt2), HTI.out, hnk, hyk, he])
        have HNE := Lib.hid (show n.kids[i].t ≠ y.kids[i].t → ¬ n.keys = y.keys from fun hne e => hne (by rw [← hnk, ← hyk]; congr 1))
        obtain ⟨s, hs⟩ : ∃ s, n.kids[i].t = s := ⟨_, rfl⟩
        obtain ⟨z, hz⟩ : ∃ z, y.kids[i].t = z := ⟨_, rfl⟩
        rw [hs] at p1
        rw [hz] at q1
        rw [hs, hz] at HST HNE
        have hbw := HBW.out
        have d1 : wr.cell? ⟨pb, po + i * 4 + 1, none⟩ = some (.string s) := (hbw.cell (p := ⟨pb, po + i * 4 + 1, none⟩) hpw).trans p1
        have e1 : wr.cell? ⟨qb, qo + i * 4 + 1, none⟩ = some (.string z) := (hbw.cell (p := ⟨qb, qo + i * 4 + 1, none⟩) hqw).trans q1
        have hpl : pb < wr.heap.size := Nat.lt_of_lt_of_le hpw hbw.size
        have hql : qb < wr.heap.size := Nat.lt_of_lt_of_le hqw hbw.size
        have HD := Lib.hid (show ∀ w' : World, Below wr.heap.size wr w' → (w'.cell? ⟨w.heap.size, 3, none⟩ = some (.slice (some ⟨pb, po, none⟩) n.kids.length cx) ∧ w'.cell? ⟨w.heap.size + 1, 3, none⟩ = some (.slice (some ⟨qb, qo, none⟩) y.kids.length cy)) ∧ w'.cell? ⟨pb, po + i * 4 + 1, none⟩ = some (.string s) ∧ w'.cell? ⟨qb, qo + i * 4 + 1, none⟩ = some (.string z) from fun w' hb => ⟨⟨(hb.cell (p := ⟨w.heap.size, 3, none⟩) hxl).trans x3, (hb.cell (p := ⟨w.heap.size + 1, 3, none⟩) hwl).trans w3⟩, (hb.cell (p := ⟨pb, po + i * 4 + 1, none⟩) hpl).trans d1, (hb.cell (p := ⟨qb, qo + i * 4 + 1, none⟩) hql).trans e1⟩)
        clear p0 p1 p2 p3 q0 q1 q2 q3 hpx hqx hnk hyk hs hz hbw
        by_cases hxy : s = z
        · subst hxy
          have HT2 := Lib.hid (HST.out rfl)
          go_wp2_with fail
          go_region_held3 (fun w' => (w'.cell? ⟨w.heap.size, 3, none⟩ = some (.slice (some ⟨pb, po, none⟩) n.kids.length cx) ∧ w'.cell? ⟨w.heap.size + 1, 3, none⟩ = some (.slice (some ⟨qb, qo, none⟩) y.kids.length cy)) ∧ w'.cell? ⟨pb, po + i * 4 + 1, none⟩ = some (.string s) ∧ w'.cell? ⟨qb, qo + i * 4 + 1, none⟩ = some (.string s)) (first | exact HD.out _ (Below.refl _ _).drew | go_keep) ((first | fail))
          go_wp2_with fail
          go_roundw
          case rel => exact ⟨i + 1, by omega, by go_num, HT2, Lib.hid (bthen HBR.out (Below.refl _ wr).drew)⟩
          case measure => simp [intOf]; omega
        · have HN := Lib.hid (HNE.out hxy)
          have hne : (s.toList != z.toList) = true := by rw [bne_iff_ne]; exact fun e => hxy (toL_inj e)
          have hne2 : (s.toList == z.toList) = false := by rw [beq_eq_false_iff_ne]; exact fun e => hxy (toL_inj e)
          clear hxy
          go_wp2_with fail
          go_region_held3 (fun w' => (w'.cell? ⟨w.heap.size, 3, none⟩ = some (.slice (some ⟨pb, po, none⟩) n.kids.length cx) ∧ w'.cell? ⟨w.heap.size + 1, 3, none⟩ = some (.slice (some ⟨qb, qo, none⟩) y.kids.length cy)) ∧ w'.cell? ⟨pb, po + i * 4 + 1, none⟩ = some (.string s) ∧ w'.cell? ⟨qb, qo + i * 4 + 1, none⟩ = some (.string z)) (first | exact HD.out _ (Below.refl _ _).drew | go_keep) ((first | fail))
          go_wp2_with fail
          go_ret
          exact ⟨by rw [HT.out, decide_eq_false HN.out]; rfl, bthen HBW.out (Below.refl _ wr).drew⟩
      · obtain rfl : i = n.kids.length := by omega
        have hi1 : ¬ ((n.kids.length : Nat) : Int) < (n.kids.length : Int) := by omega
        have HE := Lib.hid (show n.keys = y.keys by
          have h := HTI.out
          rw [List.take_of_length_le (by rw [HNL.out]; exact Nat.le_refl _), List.take_of_length_le (by rw [HYL.out, H9.out]; exact Nat.le_refl _)] at h
          exact h)
        go_wp2_with fail
        go_ret
        exact ⟨by rw [HT.out, decide_eq_true HE.out]; rfl, HBW.out⟩
  by_cases h4 : WK = 3
  · subst h4
    have HT := Lib.hid (show tpD way = (n.k == 4) by
      match init, hWK with
      | [a, b, c], _ => rw [hway]; simp only [tpD, List.cons_append, List.nil_append]; rfl)
    simp only [Nat.reduceMul] at c0 c1 c2 c3
    obtain ⟨x0, x1, x2, x3, _, _, _, _, hxl⟩ := nd_cells HX.out
    go_enter Tryz.func68, Tryz.ntmps68
    go_wp2_with fail
    go_ret
    exact ⟨by rw [HT.out]; rfl, HB0.out⟩
  · have HT := Lib.hid (show tpD way = true by
      rw [hway]
      match init, hWK with
      | [], h => exact absurd h.symm h1
      | [a], h => exact absurd h.symm h2
      | [a, b], h => rfl
      | [a, b, c], h => exact absurd h.symm h4
      | a :: b :: c :: d :: q, h => simp [tpD])
    have e1 : (((WK + 1 : Nat) : Int) == 1) = false := by rw [beq_eq_false_iff_ne]; omega
    have e2 : (((WK + 1 : Nat) : Int) == 2) = false := by rw [beq_eq_false_iff_ne]; omega
    have e4 : (((WK + 1 : Nat) : Int) == 4) = false := by rw [beq_eq_false_iff_ne]; omega
    obtain ⟨x0, x1, x2, x3, _, _, _, _, hxl⟩ := nd_cells HX.out
    go_enter Tryz.func68, Tryz.ntmps68
    go_wp2_with fail
    go_ret
    exact ⟨by rw [HT.out]; rfl, HB0.out⟩
set_option maxRecDepth 100000 in
set_option maxHeartbeats 4000000 in
theorem tellsDelim : TellsAt 5 tpD WayC := by
  intro w S wv way hE hs hw hl
  obtain ⟨wa, wc, rfl, hwc, hwm⟩ := hs.shape
  have HS := Lib.hid hs; have HW := Lib.hid hw
  clear hs hE hw
  go_enter Tryz.func40, Tryz.ntmps40
  go_wp2_with fail
  refine (refDelim_any w _ _ way HS.out HW.out hl).mono ?_
  rintro e w1 ⟨rfl, hb⟩
  have HB := Lib.hid hb
  clear hb
  go_wp2_with fail
  go_ret
  exact ⟨rfl, HB.out⟩
theorem refOfDelim_any (n : Nd) (w : World) (S : Nat → Prop) (v : Value) (hE : EnvU w) (hv : NdV w S v n) (hok : n.ok) (hsz : n.size ≤ 50000) :
    Calls Tryz.prog 8 #[.int .i64 5, v] w (OfPost (ofP tpD n) w) :=
  refOf_any 5 _ _ (by omega) (by omega) tellsDelim (fun way n h i hi => wayC_snoc way n _ h (List.getElem_mem hi)) n w S v hE hv hok hsz (fun _ => trivial)
end Go.Proofs.YtmniblcooficgaaGreatDoor
