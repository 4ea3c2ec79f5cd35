/- The walk of the law TreeApart. -/
import Derived.Test.YtinjhglmakfmkaaGreatDoorTrLawZ
import Derived.Deep.RegionHeld3
namespace Go.Proofs.YtinjhglmakfmkaaGreatDoor
open Go.RowKit Ev5
set_option linter.unusedSimpArgs false
set_option linter.unusedVariables false

theorem gev_ne {x y : GoEv} (h : x ≠ y) : ((x.k == y.k) = false) ∨ (x.k = y.k ∧ (x.t.toList == y.t.toList) = false) ∨ (x.k = y.k ∧ x.t = y.t ∧ (x.v.toList == y.v.toList) = false) := by
  obtain ⟨k, t, v⟩ := x
  obtain ⟨k', t', v'⟩ := y
  by_cases hk : k = k'
  · by_cases ht : t = t'
    · by_cases hv : v = v'
      · subst hk; subst ht; subst hv; exact absurd rfl h
      · exact .inr (.inr ⟨hk, ht, by rw [beq_eq_false_iff_ne]; exact fun e => hv (toL_inj e)⟩)
    · exact .inr (.inl ⟨hk, by rw [beq_eq_false_iff_ne]; exact fun e => ht (toL_inj e)⟩)
  · exact .inl (by simpa using hk)

set_option maxRecDepth 100000 in
set_option maxHeartbeats 4000000 in
theorem refRowEq_any (w : World) (va vb : Value) (l m : List GoEv) (ha : EvIn w va l) (hb : EvIn w vb m) :
    Calls Tryz.prog 26 #[va, vb] w (BoolP (l = m) w) := by
  have HA := Lib.hid ha; have HB := Lib.hid hb
  obtain ⟨ao, cap, rfl, hcap, hcm, hca⟩ := ha.ex
  obtain ⟨ao', cap', rfl, hcap', hcm', hcb⟩ := hb.ex
  have HCA := Lib.hid hca; have HCB := Lib.hid hcb
  have hlen := ha.len
  have hlen' := hb.len
  clear ha hb hca hcb
  unfold maxLen at hcm hcm'
  by_cases hlm : l.length = m.length
  · have HLM := Lib.hid hlm
    have hll : (((l.length : Nat) : Int) != ((m.length : Nat) : Int)) = false := by simp [hlm]
    clear hlm
    go_enter Tryz.func26, Tryz.ntmps26
    go_wp2_with fail
    clear hll
    go_loopw [5] (fun vi wr => ∃ i : Nat, i ≤ l.length ∧ vi = .int .i64 i ∧ Hid (l.take i = m.take i) ∧ Hid (Below w.heap.size w wr))
      (fun vi _ => l.length - (intOf vi).toNat)
    case atStart => exact ⟨0, Nat.zero_le _, rfl, by show _ = _; simp, Below.refl _ _⟩
    case round =>
      obtain ⟨i, hi, rfl, HT, HW⟩ := hrel
      by_cases hlt : i < l.length
      · have hlt' : i < m.length := by have := HLM.out; omega
        obtain ⟨b, o, hao, c0, c1, c2⟩ := HCA.out i hlt
        obtain ⟨b', o', hao', c0', c1', c2'⟩ := HCB.out i hlt'
        subst hao; subst hao'
        have hbw : b < w.heap.size := cell_lt c0
        have hbw' : b' < w.heap.size := cell_lt c0'
        have HST := Lib.hid (fun he => take_eq_step hlt hlt' HT.out he)
        have HNE := Lib.hid (show l[i] ≠ m[i] → l ≠ m from fun hne e => by subst e; exact hne rfl)
        obtain ⟨x, hx⟩ : ∃ x, l[i] = x := ⟨_, rfl⟩
        obtain ⟨y, hy⟩ : ∃ y, m[i] = y := ⟨_, rfl⟩
        rw [hx] at c0 c1 c2
        rw [hy] at c0' c1' c2'
        rw [hx, hy] at HST HNE
        have hD : ∀ w' : World, Below wr.heap.size wr w' → (w'.cell? ⟨b, o + i * 3, none⟩ = some (.int .i64 x.k) ∧ w'.cell? ⟨b, o + i * 3 + 1, none⟩ = some (.string x.t) ∧ w'.cell? ⟨b, o + i * 3 + 2, none⟩ = some (.string x.v)) ∧
            w'.cell? ⟨b', o' + i * 3, none⟩ = some (.int .i64 y.k) ∧ w'.cell? ⟨b', o' + i * 3 + 1, none⟩ = some (.string y.t) ∧ w'.cell? ⟨b', o' + i * 3 + 2, none⟩ = some (.string y.v) := by
          intro w' hb
          have hb0 : Below w.heap.size w w' := bthen HW.out hb
          exact ⟨⟨by rw [hb0.cell (p := ⟨b, o + i * 3, none⟩) hbw]; exact c0, by rw [hb0.cell (p := ⟨b, o + i * 3 + 1, none⟩) hbw]; exact c1, by rw [hb0.cell (p := ⟨b, o + i * 3 + 2, none⟩) hbw]; exact c2⟩,
            by rw [hb0.cell (p := ⟨b', o' + i * 3, none⟩) hbw']; exact c0', by rw [hb0.cell (p := ⟨b', o' + i * 3 + 1, none⟩) hbw']; exact c1', by rw [hb0.cell (p := ⟨b', o' + i * 3 + 2, none⟩) hbw']; exact c2'⟩
        have HD := Lib.hid hD
        have hsz := HW.out.size
        have hbr : b < wr.heap.size := by omega
        have hbr' : b' < wr.heap.size := by omega
        have hcl : i < cap := by omega
        have hcl' : i < cap' := by omega
        have hi64 : (i : Int) ≤ 9223372036854775807 := by omega
        have hil' : (i : Int) < (m.length : Int) := by omega
        clear c0 c1 c2 c0' c1' c2' hx hy hD
        have hcs : x = y ∨ ((x.k == y.k) = false) ∨ (x.k = y.k ∧ (x.t.toList == y.t.toList) = false) ∨ (x.k = y.k ∧ x.t = y.t ∧ (x.v.toList == y.v.toList) = false) := by
          by_cases h : x = y
          · exact .inl h
          · exact .inr (gev_ne h)
        by_cases hxy : x = y
        · subst hxy
          have ht : (x.t.toList == x.t.toList) = true := by simp
          have hv : (x.v.toList == x.v.toList) = true := by simp
          clear hcs
          obtain ⟨⟨c0, c1, c2⟩, c0', c1', c2'⟩ := HD.out wr (Below.refl _ _)
          have HT2 := Lib.hid (HST.out rfl)
          go_wp2_with fail
          go_region_held3? (fun w' => (w'.cell? ⟨b, o + i * 3, none⟩ = some (.int .i64 x.k) ∧ w'.cell? ⟨b, o + i * 3 + 1, none⟩ = some (.string x.t) ∧ w'.cell? ⟨b, o + i * 3 + 2, none⟩ = some (.string x.v)) ∧
              w'.cell? ⟨b', o' + i * 3, none⟩ = some (.int .i64 x.k) ∧ w'.cell? ⟨b', o' + i * 3 + 1, none⟩ = some (.string x.t) ∧ w'.cell? ⟨b', o' + i * 3 + 2, none⟩ = some (.string x.v)) (first | exact HD.out _ (Below.refl _ _).drew | go_keep) ((first | fail))
          go_wp2_with fail
          go_roundw
          case rel => exact ⟨i + 1, by omega, by go_num, HT2.out, bthen HW.out (Below.refl _ wr).drew⟩
          case measure => simp [intOf]; omega
        · have HN := Lib.hid (HNE.out hxy)
          have hc3 := hcs.resolve_left hxy
          clear hcs hxy HST HNE
          obtain ⟨⟨c0, c1, c2⟩, c0', c1', c2'⟩ := HD.out wr (Below.refl _ _)
          have hc4 : ((x.k == y.k) = false) ∨ ((x.k == y.k) = true ∧ (x.t.toList == y.t.toList) = false) ∨ ((x.k == y.k) = true ∧ (x.t.toList == y.t.toList) = true ∧ (x.v.toList == y.v.toList) = false) := by
            rcases hc3 with h1 | ⟨h1, h2⟩ | ⟨h1, h2, h3⟩
            · exact .inl h1
            · exact .inr (.inl ⟨by simp [h1], h2⟩)
            · exact .inr (.inr ⟨by simp [h1], by simp [h2], h3⟩)
          clear hc3
          rcases hc4 with h1 | ⟨h1, h2⟩ | ⟨h1, h2, h3⟩
          all_goals
            go_wp2_with fail
            go_region_held3? (fun w' => (w'.cell? ⟨b, o + i * 3, none⟩ = some (.int .i64 x.k) ∧ w'.cell? ⟨b, o + i * 3 + 1, none⟩ = some (.string x.t) ∧ w'.cell? ⟨b, o + i * 3 + 2, none⟩ = some (.string x.v)) ∧
                w'.cell? ⟨b', o' + i * 3, none⟩ = some (.int .i64 y.k) ∧ w'.cell? ⟨b', o' + i * 3 + 1, none⟩ = some (.string y.t) ∧ w'.cell? ⟨b', o' + i * 3 + 2, none⟩ = some (.string y.v)) (first | exact HD.out _ (Below.refl _ _).drew | go_keep) ((first | fail))
            go_wp2_with fail
            go_ret
            exact ⟨false, by simp, ⟨fun h => (by cases h), fun h => absurd h HN.out⟩, bthen HW.out (Below.refl _ wr).drew⟩
      · obtain rfl : i = l.length := by omega
        have HE := Lib.hid (show l = m by have := HT.out; have hl := HLM.out; rw [List.take_length, hl, List.take_length] at this; exact this)
        go_wp2_with fail
        go_ret
        exact ⟨true, rfl, ⟨fun _ => HE.out, fun _ => rfl⟩, HW.out⟩
  · have HN := Lib.hid (show l ≠ m from fun e => hlm (by rw [e]))
    have hll : (((l.length : Nat) : Int) != ((m.length : Nat) : Int)) = true := by simp; omega
    clear hlm
    go_enter Tryz.func26, Tryz.ntmps26
    go_wp2_with fail
    go_ret
    exact ⟨false, rfl, ⟨fun h => (by cases h), fun h => absurd h HN.out⟩, Below.refl _ _⟩

set_option maxRecDepth 1000000 in
set_option maxHeartbeats 8000000 in
theorem treeApart_law (va : Value) (m : Nd) (vb : Value) (n : Nd) (w : World) (hE : EnvU w) (hva : NdV w (fun b => b < w.heap.size) va m ∧ m.ok ∧ m.size ≤ 1048576) (hvb : NdV w (fun b => b < w.heap.size) vb n ∧ n.ok ∧ n.size ≤ 1048576) :
    Calls Tryz.prog 12 #[va, vb] w fun e w' => e = .returned (.bool true) ∧ Below w.heap.size w w' := by
  obtain ⟨⟨u, rfl, hs⟩, hok, _⟩ := hva
  obtain ⟨⟨u', rfl, hs'⟩, hok', _⟩ := hvb
  obtain ⟨ao, cap, rfl, hcap, hcm⟩ := hs.shape
  obtain ⟨ao', cap', rfl, hcap', hcm'⟩ := hs'.shape
  have HE := Lib.hid hE; have HOK := Lib.hid hok; have HOK' := Lib.hid hok'
  have HV := Lib.hid (show NdV w (fun b => b < w.heap.size) (.agg #[.int .i64 m.k, .string m.t, .string m.v, .slice ao m.kids.length cap]) m from ⟨_, rfl, hs⟩)
  have HV' := Lib.hid (show NdV w (fun b => b < w.heap.size) (.agg #[.int .i64 n.k, .string n.t, .string n.v, .slice ao' n.kids.length cap']) n from ⟨_, rfl, hs'⟩)
  have HB1 := Lib.hid (show Below w.heap.size w ((w.alloc (.cells #[.int .i64 m.k, .string m.t, .string m.v, .slice ao m.kids.length cap] 39)).alloc (.cells #[.int .i64 n.k, .string n.t, .string n.v, .slice ao' n.kids.length cap'] 39)) from ((Below.refl _ _).alloc (Nat.le_refl _) _).alloc (by simp) _)
  have HX := Lib.hid (two_first w (.cells #[.int .i64 m.k, .string m.t, .string m.v, .slice ao m.kids.length cap] 39) (.cells #[.int .i64 n.k, .string n.t, .string n.v, .slice ao' n.kids.length cap'] 39))
  have HY := Lib.hid (two_last w (.cells #[.int .i64 m.k, .string m.t, .string m.v, .slice ao m.kids.length cap] 39) (.cells #[.int .i64 n.k, .string n.t, .string n.v, .slice ao' n.kids.length cap'] 39))
  clear hs hs' hE hok hok'
  unfold ndV
  go_enter Tryz.func12, Tryz.ntmps12
  go_wp2_with fail
  refine (fewB_any m _ _ _ (HV.out.below HB1.out)).mono ?_
  rintro e w2 ⟨rfl, hb⟩
  have HX2 := Lib.hid ((hb.block _ (by simp; omega)).trans HX.out)
  have HY2 := Lib.hid ((hb.block _ (by simp)).trans HY.out)
  obtain ⟨x0, x1, x2, x3, p0, p1, p2, p3, hxl⟩ := nd_cells HX2.out
  obtain ⟨y0, y1, y2, y3, q0, q1, q2, q3, hyl⟩ := nd_cells HY2.out
  have HB2 := Lib.hid (bthen HB1.out hb)
  clear hb
  obtain ⟨F, hF⟩ : ∃ F, decide (0 ≤ m.few 300 20) = F := ⟨_, rfl⟩
  rw [hF]
  have HF1' := Lib.hid hF; clear hF
  go_wp2_with fail
  refine (fewB_any n _ _ _ (HV'.out.below HB2.out)).mono ?_
  rintro e w3 ⟨rfl, hb⟩
  have HX3 := Lib.hid ((hb.block _ hxl).trans HX2.out)
  have HY3 := Lib.hid ((hb.block _ hyl).trans HY2.out)
  have HB3 := Lib.hid (bthen HB2.out hb)
  clear hb x0 x1 x2 x3 p0 p1 p2 p3 hxl y0 y1 y2 y3 q0 q1 q2 q3 hyl
  obtain ⟨x0, x1, x2, x3, p0, p1, p2, p3, hxl⟩ := nd_cells HX3.out
  obtain ⟨y0, y1, y2, y3, q0, q1, q2, q3, hyl⟩ := nd_cells HY3.out
  obtain ⟨F', hF⟩ : ∃ F, decide (0 ≤ n.few 300 20) = F := ⟨_, rfl⟩
  rw [hF]
  have HF2' := Lib.hid hF; clear hF
  by_cases hF : F = true ∧ F' = true
  · obtain ⟨rfl, rfl⟩ := hF
    have HF1 := Lib.hid HF1'.out; have HF2 := Lib.hid HF2'.out
    have HSZ := Lib.hid HF1.out
    have HLM := Lib.hid (show m.walk.length ≤ 100000 by have := walk_le m; have := few_size (of_decide_eq_true HF1.out); omega)
    have HLN := Lib.hid (show n.walk.length ≤ 100000 by have := walk_le n; have := few_size (of_decide_eq_true HF2.out); omega)
    go_wp2_with fail
    refine (treeWalk_any m w3 _ _ (HE.out.below HB3.out) (HV.out.below HB3.out) (fun b hb => Nat.lt_of_lt_of_le hb HB3.out.size) HOK.out HLM.out).mono ?_
    intro e w4 hp
    obtain ⟨la, rfl, hb, hr⟩ := hp.row HOK.out HLM.out
    have HX4 := Lib.hid ((hb.block _ hxl).trans HX3.out)
    have HY4 := Lib.hid ((hb.block _ hyl).trans HY3.out)
    have HB4 := Lib.hid (bthen HB3.out hb)
    have HRA := Lib.hid hr
    clear hp hb hr x0 x1 x2 x3 p0 p1 p2 p3 hxl y0 y1 y2 y3 q0 q1 q2 q3 hyl
    obtain ⟨x0, x1, x2, x3, p0, p1, p2, p3, hxl⟩ := nd_cells HX4.out
    obtain ⟨y0, y1, y2, y3, q0, q1, q2, q3, hyl⟩ := nd_cells HY4.out
    obtain ⟨E, hE⟩ : ∃ E, (wholeP RP (m.walk.map GoEv.ev)).2 = E := ⟨_, rfl⟩
    rw [hE]
    have HEQ := Lib.hid hE; clear hE
    obtain ⟨sa, na, ca, hla⟩ : ∃ a n c, la = .slice a n c := by obtain ⟨a, c, e, _⟩ := HRA.out.ex; exact ⟨_, _, _, e⟩
    subst hla
    go_wp2_with fail
    refine (treeWalk_any n w4 _ _ (HE.out.below HB4.out) (HV'.out.below HB4.out) (fun b hb => Nat.lt_of_lt_of_le hb HB4.out.size) HOK'.out HLN.out).mono ?_
    intro e w5 hp
    obtain ⟨lb, rfl, hb, hr⟩ := hp.row HOK'.out HLN.out
    have HX5 := Lib.hid ((hb.block _ hxl).trans HX4.out)
    have HY5 := Lib.hid ((hb.block _ hyl).trans HY4.out)
    have HB5 := Lib.hid (bthen HB4.out hb)
    have HRA5 := Lib.hid (HRA.out.below hb)
    have HRB := Lib.hid hr
    clear hp hb hr x0 x1 x2 x3 p0 p1 p2 p3 hxl y0 y1 y2 y3 q0 q1 q2 q3 hyl
    obtain ⟨x0, x1, x2, x3, p0, p1, p2, p3, hxl⟩ := nd_cells HX5.out
    obtain ⟨y0, y1, y2, y3, q0, q1, q2, q3, hyl⟩ := nd_cells HY5.out
    obtain ⟨E', hE'⟩ : ∃ E, (wholeP RP (n.walk.map GoEv.ev)).2 = E := ⟨_, rfl⟩
    rw [hE']
    have HEQ' := Lib.hid hE'; clear hE'
    obtain ⟨sb, nb, cb, hlb⟩ : ∃ a n c, lb = .slice a n c := by obtain ⟨a, c, e, _⟩ := HRB.out.ex; exact ⟨_, _, _, e⟩
    subst hlb
    by_cases hz : E = 0
    · by_cases hz' : E' = 0
      · subst hz; subst hz'
        have HG := Lib.hid (good_of_whole (rk_right _) m HEQ.out)
        have HG' := Lib.hid (good_of_whole (rk_right _) n HEQ'.out)
        have h1 := HRA5.out
        have h2 := HRB.out
        rw [HEQ.out, if_pos rfl] at h1
        rw [HEQ'.out, if_pos rfl] at h2
        have H1 := Lib.hid h1; have H2 := Lib.hid h2
        clear h1 h2 HRA HRA5 HRB
        go_wp2_with fail
        refine (refRowEq_any w5 _ _ _ _ H1.out H2.out).mono ?_
        rintro e w6 ⟨R, rfl, hR, hb⟩
        have HX6 := Lib.hid ((hb.block _ hxl).trans HX5.out)
        have HY6 := Lib.hid ((hb.block _ hyl).trans HY5.out)
        have HB6 := Lib.hid (bthen HB5.out hb)
        have HR := Lib.hid hR
        clear hb hR x0 x1 x2 x3 p0 p1 p2 p3 hxl y0 y1 y2 y3 q0 q1 q2 q3 hyl
        obtain ⟨x0, x1, x2, x3, p0, p1, p2, p3, hxl⟩ := nd_cells HX6.out
        obtain ⟨y0, y1, y2, y3, q0, q1, q2, q3, hyl⟩ := nd_cells HY6.out
        go_wp2_with fail
        refine (refSame_any m _ _ _ _ _ n (HV.out.below HB6.out) (HV'.out.below HB6.out)).mono ?_
        rintro e w7 ⟨R', rfl, hR', hb⟩
        have hqr : R' = R := by
          rw [Bool.eq_iff_iff]
          refine hR'.trans (Iff.trans ⟨fun h => by rw [h], fun h => ?_⟩ HR.out.symm)
          exact (walk_inj m n [] [] HG.out HG'.out (by rw [h])).1
        rw [hqr]
        have HB7 := Lib.hid (bthen HB6.out hb)
        have hrr : (R == R) = true := by cases R <;> rfl
        clear hb hR' hqr
        go_wp2_with fail
        refine (lives_any _ (HE.out.below HB7.out)).mono ?_
        rintro e w8 ⟨rfl, hb⟩
        have HB8 := Lib.hid (bthen HB7.out hb)
        clear hb
        go_wp2_with fail
        go_ret
        exact ⟨rfl, HB8.out⟩
      · subst hz
        have hzb : (E' != 0) = true := by simp [hz']
        clear hz'
        go_wp2_with fail
        refine (lives_any _ (HE.out.below HB5.out)).mono ?_
        rintro e w6 ⟨rfl, hb⟩
        have HB6 := Lib.hid (bthen HB5.out hb)
        clear hb
        go_wp2_with fail
        go_ret
        exact ⟨rfl, HB6.out⟩
    · have hzb : (E != 0) = true := by simp [hz]
      clear hz
      go_wp2_with fail
      refine (lives_any _ (HE.out.below HB5.out)).mono ?_
      rintro e w6 ⟨rfl, hb⟩
      have HB6 := Lib.hid (bthen HB5.out hb)
      clear hb
      go_wp2_with fail
      go_ret
      exact ⟨rfl, HB6.out⟩
  · have hFF : (F = false) ∨ (F = true ∧ F' = false) := by cases F <;> cases F' <;> simp_all
    clear hF
    rcases hFF with rfl | ⟨rfl, rfl⟩
    all_goals
      go_wp2_with fail
      refine (lives_any _ (HE.out.below HB3.out)).mono ?_
      rintro e w6 ⟨rfl, hb⟩
      have HB6 := Lib.hid (bthen HB3.out hb)
      clear hb
      go_wp2_with fail
      go_ret
      exact ⟨rfl, HB6.out⟩
end Go.Proofs.YtinjhglmakfmkaaGreatDoor
