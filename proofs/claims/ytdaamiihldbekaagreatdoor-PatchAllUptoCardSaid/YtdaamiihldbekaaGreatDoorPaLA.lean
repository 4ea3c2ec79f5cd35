/- The walks of the laws PatchNone and PatchAll. -/
import Derived.Test.YtdaamiihldbekaaGreatDoorPaN3
namespace Go.Proofs.YtdaamiihldbekaaGreatDoor
open Go.RowKit Ev5
set_option linter.unusedSimpArgs false
set_option linter.unusedVariables false

theorem few23_walk {x : Nd} (h : 0 ≤ x.few 150 20) : x.walk.length ≤ 100000 := by have := few23_size h; have := walk_len x; omega

set_option maxRecDepth 100000 in
set_option maxHeartbeats 8000000 in
theorem patchNone_law (v : Value) (n : Nd) (w : World) (hE : EnvU w) (h : NdV w (fun b => b < w.heap.size) v n ∧ n.ok ∧ 5 * n.size ≤ 1048576) :
    Calls Tryz.prog 5 #[v] w fun e w' => e = .returned (.bool true) ∧ Below w.heap.size w w' := by
  obtain ⟨hv, hok, _⟩ := h
  obtain ⟨u, rfl, hs⟩ := hv
  obtain ⟨ao, cap, rfl, hcap, hcm⟩ := hs.shape
  have HV := Lib.hid (NdV.mk hs)
  have HE := Lib.hid hE; have HOK := Lib.hid hok
  have HB1 := Lib.hid (show Below w.heap.size w (w.alloc (.cells #[.int .i64 n.k, .string n.t, .string n.v, .slice ao n.kids.length cap] 24)) from (Below.refl _ _).alloc (Nat.le_refl _) _)
  clear hs hE hok
  unfold ndV
  go_enter Tryz.func5, Tryz.ntmps5
  go_wp2_with fail
  refine (few23_any n _ _ _ (HV.out.below HB1.out)).mono ?_
  rintro e w2 ⟨rfl, hb⟩
  have HB2 := Lib.hid (bthen HB1.out hb)
  have hx := (hb.block w.heap.size (by simp)).trans (heap_alloc_new w (.cells #[.int .i64 n.k, .string n.t, .string n.v, .slice ao n.kids.length cap] 24))
  obtain ⟨x0, x1, x2, x3, _, _, _, _, hxl⟩ := nd_cells hx
  clear hb hx
  by_cases hf : 0 ≤ n.few 150 20
  · rw [decide_eq_true hf]
    have HN := Lib.hid (few23_walk hf)
    clear hf
    go_wp2_with fail
    refine (diffEq_any n _ _ _ _ _ (HE.out.below HB2.out) (HV.out.below HB2.out) (HV.out.below HB2.out) HOK.out HN.out).mono ?_
    rintro e w3 ⟨rfl, hb⟩
    have HB3 := Lib.hid (bthen HB2.out hb)
    generalize n.wh = E
    clear hb x0 x1 x2 x3 hxl
    go_wp2_with fail
    refine (lives23_any _ (HE.out.below HB3.out)).mono ?_
    rintro e w4 ⟨rfl, hb⟩
    have HB4 := Lib.hid (bthen HB3.out hb)
    clear hb
    go_wp2_with fail
    go_ret
    exact ⟨rfl, HB4.out⟩
  · rw [decide_eq_false hf]
    clear hf
    go_wp2_with fail
    refine (lives23_any _ (HE.out.below HB2.out)).mono ?_
    rintro e w4 ⟨rfl, hb⟩
    have HB4 := Lib.hid (bthen HB2.out hb)
    clear hb
    go_wp2_with fail
    go_ret
    exact ⟨rfl, HB4.out⟩
theorem opsSize_small {l : List GoOp} (h : ∀ o ∈ l, 0 ≤ o.node.few 150 20) : opsSize l ≤ 150 * l.length := by
  induction l with
  | nil => simp [opsSize]
  | cons x r ih =>
    have h1 := few23_size (h x (by simp))
    have h2 := ih fun o ho => h o (by simp [ho])
    have h3 : opsSize (x :: r) = x.node.size + opsSize r := by simp [opsSize]
    rw [h3, List.length_cons]; omega
theorem play_same {x : Nd} {l : List GoOp} : playP x (l.take (playP x l).2.1) = ((playP x (l.take (playP x l).2.1)).1, (playP x l).2.1, 0) := by
  have h1 := play_take x l
  have h2 := (play_count x (l.take (playP x l).2.1)).2.1 h1
  have h3 := (play_count x l).1
  rw [List.length_take, Nat.min_eq_left h3] at h2
  exact Prod.ext rfl (Prod.ext h2 h1)

set_option maxRecDepth 100000 in
set_option maxHeartbeats 8000000 in
theorem patchAll_law (v : Value) (n : Nd) (lv : Value) (l : List GoOp) (w : World) (hE : EnvU w) (h : NdV w (fun b => b < w.heap.size) v n ∧ n.ok ∧ 5 * n.size ≤ 1048576) (hl : OpsIn w lv l ∧ ∀ o ∈ l, o.ok) :
    Calls Tryz.prog 7 #[v, lv] w fun e w' => e = .returned (.bool true) ∧ Below w.heap.size w w' := by
  obtain ⟨hv, hok, hsz⟩ := h
  obtain ⟨u, rfl, hs⟩ := hv
  obtain ⟨ao, cap, rfl, hcap, hcm⟩ := hs.shape
  obtain ⟨hl, hlo⟩ := hl
  obtain ⟨la, lc, rfl, hlc, hlm, _⟩ := hl.ex
  have HV := Lib.hid (NdV.mk hs)
  have HE := Lib.hid hE; have HOK := Lib.hid hok; have HSZ := Lib.hid hsz; have HL := Lib.hid hl
  have HLO := Lib.hid (show ∀ o ∈ l.take 20, o.ok from fun o ho => hlo o (List.mem_of_mem_take ho))
  have HB1 := Lib.hid (show Below w.heap.size w (w.alloc (.cells #[.int .i64 n.k, .string n.t, .string n.v, .slice ao n.kids.length cap] 24)) from (Below.refl _ _).alloc (Nat.le_refl _) _)
  clear hs hE hok hsz hl hlo
  unfold ndV
  go_enter Tryz.func7, Tryz.ntmps7
  go_wp2_with fail
  refine (few23_any n _ _ _ (HV.out.below HB1.out)).mono ?_
  rintro e w2 ⟨rfl, hb⟩
  have HB2 := Lib.hid (bthen HB1.out hb)
  have hx := (hb.block w.heap.size (by simp)).trans (heap_alloc_new w (.cells #[.int .i64 n.k, .string n.t, .string n.v, .slice ao n.kids.length cap] 24))
  have HX2 := Lib.hid hx
  obtain ⟨fw, hfw⟩ : ∃ fw, decide (0 ≤ n.few 150 20) = fw := ⟨_, rfl⟩
  rw [hfw]
  have HF := Lib.hid hfw
  clear hb hx hfw
  go_wp2_with fail
  refine (small_any _ _ l (HL.out.below HB2.out)).mono ?_
  rintro e w3 ⟨hb, hcase⟩
  have HB3 := Lib.hid (bthen HB2.out hb)
  have hx := (hb.block _ (lt_blk HX2.out)).trans HX2.out
  have HX3 := Lib.hid hx
  obtain ⟨x0, x1, x2, x3, _, _, _, _, hxl⟩ := nd_cells hx
  have HWL := Lib.hid (show n.walk.length ≤ 450000 by have := walk_len n; have := HSZ.out; omega)
  clear hb hx
  obtain ⟨lv2, ok2, rfl, hlv⟩ : ∃ lv2 ok2, e = .returned (.tuple #[lv2, .bool ok2]) ∧ Hid ((ok2 = true → OpsIn w3 lv2 (l.take 20) ∧ ∀ o ∈ l.take 20, 0 ≤ o.node.few 150 20)) := by
    rcases hcase with ⟨lv2, rfl, h1, h2⟩ | rfl
    · exact ⟨lv2, true, rfl, by show _ → _; exact fun _ => ⟨h1, h2⟩⟩
    · exact ⟨_, false, rfl, by show _ → _; exact fun h => by cases h⟩
  clear hcase
  go_wp2_with fail
  refine (refTreeWalk_any n _ _ _ (HV.out.below HB3.out) (fun b hb => Nat.lt_of_lt_of_le hb HB3.out.size) HOK.out HWL.out).mono ?_
  rintro e w4 ⟨rv, rfl, hb, _, _⟩
  have HB4 := Lib.hid (bthen HB3.out hb)
  have hx := (hb.block _ (lt_blk HX3.out)).trans HX3.out
  have HX4 := Lib.hid hx
  obtain ⟨WH, hWH⟩ : ∃ WH, (wholeP RP (n.walk.map GoEv.ev)).2 = WH := ⟨_, rfl⟩
  rw [hWH]
  have HWH := Lib.hid (show n.wh = WH from hWH)
  have HLV := Lib.hid (show ok2 = true → OpsIn w4 lv2 (l.take 20) ∧ ∀ o ∈ l.take 20, 0 ≤ o.node.few 150 20 from fun h => ⟨(hlv.out h).1.below hb, (hlv.out h).2⟩)
  clear hb hx x0 x1 x2 x3 hxl hWH hlv
  have out : ∀ w5, Below w4.heap.size w4 w5 → Calls Tryz.prog 15 #[] w5 fun e w' => e = .returned (.bool true) ∧ Below w.heap.size w w' := fun w5 hb =>
    (lives23_any _ (HE.out.below (bthen HB4.out hb))).mono fun e w' h => ⟨h.1, bthen (bthen HB4.out hb) h.2⟩
  have HOUT := Lib.hid out
  clear out
  cases fw
  · go_wp2_with fail
    refine (HOUT.out _ (Below.refl _ _)).mono ?_
    rintro e w6 ⟨rfl, hb⟩
    have HB6 := Lib.hid hb
    clear hb
    go_wp2_with fail
    go_ret
    exact ⟨rfl, HB6.out⟩
  · cases ok2
    · go_wp2_with fail
      refine (HOUT.out _ (Below.refl _ _)).mono ?_
      rintro e w6 ⟨rfl, hb⟩
      have HB6 := Lib.hid hb
      clear hb
      go_wp2_with fail
      go_ret
      exact ⟨rfl, HB6.out⟩
    · by_cases hz : WH = 0
      · subst hz
        obtain ⟨hops, hfew⟩ := HLV.out rfl
        obtain ⟨la2, lc2, rfl, hlc2, hlm2, _⟩ := hops.ex
        have HOPS := Lib.hid hops
        have HFEW := Lib.hid (show n.size + opsSize (l.take 20) ≤ 40000 from by
          have h1 := few23_size (of_decide_eq_true HF.out)
          have h2 := opsSize_small hfew
          have h3 : (l.take 20).length ≤ 20 := by rw [List.length_take]; omega
          omega)
        obtain ⟨L, hL⟩ : ∃ L, l.take 20 = L := ⟨_, rfl⟩
        rw [hL] at HOPS HFEW HLO hlc2
        rw [hL]
        unfold maxLen at hlm2
        obtain ⟨x0, x1, x2, x3, _, _, _, _, hxl⟩ := nd_cells HX4.out
        clear hops hfew hL HLV
        go_wp2_with fail
        refine (apply_any _ _ _ _ n L (HE.out.below HB4.out) (HV.out.below HB4.out) HOPS.out HOK.out HLO.out HFEW.out).mono ?_
        rintro e w5 ⟨a5, c5, rfl, hrk, hb⟩
        have HB5 := Lib.hid hb
        have hx := (hb.block _ hxl).trans HX4.out
        have HX5 := Lib.hid hx
        have HK5 := Lib.hid hrk.1
        clear hb hx hrk x0 x1 x2 x3 hxl
        by_cases hE2 : (playP n L).2.2 = 0
        · have happ : applyP n L = ((playP n L).1, L.length, 0) := by unfold applyP; rw [if_neg (by rw [HWH.out]; simp), if_neg (by rw [hE2]; simp)]
          rw [happ]
          obtain ⟨R, hR⟩ : ∃ R, (playP n L).1 = R := ⟨_, rfl⟩
          rw [happ, hR] at HK5
          rw [hR]
          clear happ hE2 hR
          have hb6 : Below w5.heap.size w5 (w5.alloc (.cells #[.int .i64 R.k, .string R.t, .string R.v, .slice a5 R.kids.length c5] 24)) := (Below.refl _ _).alloc (Nat.le_refl _) _
          have HB6 := Lib.hid (bthen HB5.out hb6)
          clear hb6
          go_wp2_with fail
          refine (HOUT.out _ HB6.out).mono ?_
          rintro e w6 ⟨rfl, hb⟩
          have HB7 := Lib.hid hb
          clear hb
          go_wp2_with fail
          go_ret
          exact ⟨rfl, HB7.out⟩
        · obtain ⟨E2, hE2e⟩ : ∃ E2, (playP n L).2.2 = E2 := ⟨_, rfl⟩
          obtain ⟨k, hke⟩ : ∃ k, (playP n L).2.1 = k := ⟨_, rfl⟩
          have hkl : k < L.length := by rw [← hke]; exact (play_count n L).2.2 hE2
          have happ : applyP n L = (n, k, E2) := by unfold applyP; rw [if_neg (by rw [HWH.out]; simp), if_pos hE2, hke, hE2e]
          rw [hE2e] at hE2
          obtain ⟨R2, hR2⟩ : ∃ R2, (playP n (L.take k)).1 = R2 := ⟨_, rfl⟩
          have HSM := Lib.hid (show applyP n (L.take k) = (R2, k, 0) from by
            have h1 := play_same (x := n) (l := L)
            rw [hke] at h1
            unfold applyP
            rw [if_neg (by rw [HWH.out]; simp), h1, if_neg (by simp), List.length_take, Nat.min_eq_left (by omega), hR2])
          clear hR2
          rw [happ] at HK5
          rw [happ]
          have hzb : (E2 == 0) = false := by simp [hE2]
          have hzb2 : (E2 != 0) = true := by simp [hE2]
          have HKC := Lib.hid (HOPS.out.cut k (by omega))
          have hkI : (k : Int) < (L.length : Int) := by omega
          have hkg : ¬ (L.length : Int) ≤ (k : Int) := by omega
          have hkc : (k : Int) ≤ (lc2 : Int) := by omega
          have hk0 : (0 : Int) ≤ (k : Int) := by omega
          have hkc2 : k ≤ lc2 := by omega
          have HLK := Lib.hid (show (∀ o ∈ L.take k, o.ok) ∧ n.size + opsSize (L.take k) ≤ 40000 from ⟨fun o ho => HLO.out o (List.mem_of_mem_take ho), by have := ops_take L k; have := HFEW.out; omega⟩)
          clear happ hke hE2e hE2
          have hr6 := heap_alloc_new w5 (.cells #[.int .i64 n.k, .string n.t, .string n.v, .slice a5 n.kids.length c5] 24)
          have hb6 : Below w5.heap.size w5 (w5.alloc (.cells #[.int .i64 n.k, .string n.t, .string n.v, .slice a5 n.kids.length c5] 24)) := (Below.refl _ _).alloc (Nat.le_refl _) _
          go_upto_region 11 with (fail)
          obtain ⟨W6, hW6⟩ : ∃ W6, w5.alloc (.cells #[.int .i64 n.k, .string n.t, .string n.v, .slice a5 n.kids.length c5] 24) = W6 := ⟨_, rfl⟩
          rw [hW6] at hr6 hb6
          rw [hW6]
          have HB6 := Lib.hid (bthen HB5.out hb6)
          have HR6 := Lib.hid hr6
          have HX6 := Lib.hid ((hb6.block _ (lt_blk HX5.out)).trans HX5.out)
          have HK6 := Lib.hid (HK5.out.below hb6)
          have HG := Lib.hid (show ∀ W', Below W6.heap.size W6 W' → NdCells W' w.heap.size n.k n.t n.v (.slice ao n.kids.length cap) ∧ NdCells W' w5.heap.size n.k n.t n.v (.slice a5 n.kids.length c5) from fun W' hb => ⟨nd_cells ((hb.block _ (lt_blk HX6.out)).trans HX6.out), nd_cells ((hb.block _ (lt_blk HR6.out)).trans HR6.out)⟩)
          obtain ⟨⟨x0, x1, x2, x3, _, _, _, _, hxl⟩, y0, y1, y2, y3, _, _, _, _, hyl⟩ := HG.out _ (Below.refl _ _).drew
          clear hr6 hb6 hW6
          have hbd : Below W6.heap.size W6 W6.drew := (Below.refl _ _).drew
          have hbz : Below W6.heap.size W6 (W6.alloc (.cells #[.int .i64 0, .string ⟨#[]⟩, .string ⟨#[]⟩, .slice none 0 0] 24)).drew := ((Below.refl _ _).alloc (Nat.le_refl _) _).drew
          have hz6 : (W6.alloc (.cells #[.int .i64 0, .string ⟨#[]⟩, .string ⟨#[]⟩, .slice none 0 0] 24)).drew.heap[W6.heap.size]? = some (.cells #[.int .i64 0, .string ⟨#[]⟩, .string ⟨#[]⟩, .slice none 0 0] 24 (0, 0)) := heap_alloc_new W6 _
          obtain ⟨⟨x0', x1', x2', x3', _, _, _, _, hxl'⟩, _⟩ := HG.out _ hbz
          go_region_law ((go_simp; go_at_call 16; (first
            | (refine (apply_any W6.drew _ _ _ n (L.take k) (HE.out.below (bthen (bthen HB4.out HB6.out) hbd)) (HV.out.below (bthen (bthen HB4.out HB6.out) hbd)) (HKC.out.below (bthen HB6.out hbd)) HOK.out HLK.out.1 HLK.out.2).mono ?_; rintro e w7 ⟨a7, c7, he7, hrk7, hb7⟩; have hb8 : Below W6.heap.size W6 w7 := bthen hbd hb7)
            | (refine (apply_any (W6.alloc (.cells #[.int .i64 0, .string ⟨#[]⟩, .string ⟨#[]⟩, .slice none 0 0] 24)).drew _ _ _ n (L.take k) (HE.out.below (bthen (bthen HB4.out HB6.out) hbz)) (HV.out.below (bthen (bthen HB4.out HB6.out) hbz)) (HKC.out.below (bthen HB6.out hbz)) HOK.out HLK.out.1 HLK.out.2).mono ?_; rintro e w7 ⟨a7, c7, he7, hrk7, hb7⟩; have hb8 : Below W6.heap.size W6 w7 := bthen hbz hb7; have hz7 := (hb7.block _ (lt_blk hz6)).trans hz6; obtain ⟨z0, z1, z2, z3, v0, v1, v2, v3, hzl⟩ := nd_cells hz7)); rw [HSM.out] at he7; have he8 : e = .returned (.tuple #[.agg #[.int .i64 R2.k, .string R2.t, .string R2.v, .slice a7 R2.kids.length c7], .int .i64 k, .int .i64 0]) := he7; subst he8; clear he7 hrk7))
          all_goals
            first
            | (obtain ⟨hf, hgr⟩ := fill4 (.int .i64 R2.k) (.string R2.t) (.string R2.v) (.slice a7 R2.kids.length c7) hz7
               have hb9 := hb8.grown hgr hb8.size (fun b hb => by injection hb; omega)
               obtain ⟨W9, hW9⟩ : ∃ W9, ((((w7.setCell ⟨W6.heap.size, 0, none⟩ (.int .i64 R2.k)).setCell ⟨W6.heap.size, 1, none⟩ (.string R2.t)).setCell ⟨W6.heap.size, 2, none⟩ (.string R2.v)).setCell ⟨W6.heap.size, 3, none⟩ (.slice a7 R2.kids.length c7)) = W9 := ⟨_, rfl⟩
               rw [hW9] at hf hgr hb9
               rw [hW9]
               clear hW9 hf hgr
               have HB9 := Lib.hid hb9
               obtain ⟨⟨p0, p1, p2, p3, _, _, _, _, hpl⟩, q0, q1, q2, q3, _, _, _, _, hql⟩ := HG.out _ hb9
               clear z0 z1 z2 z3 v0 v1 v2 v3 hzl hz7
               clear x0 x1 x2 x3 hxl y0 y1 y2 y3 hyl x0' x1' x2' x3' hxl' hb8 hb9 hbd hbz hz6
               have hs9 := HK6.out.below HB9.out
               have hv9 := HV.out.below (bthen (bthen HB4.out HB6.out) HB9.out)
               go_wp2_with fail
               refine (refSame_any n W9 _ _ _ _ n (NdV.mk hs9) hv9).mono ?_
               rintro e w10 ⟨r, rfl, hr, hb⟩
               obtain rfl : r = true := hr.2 rfl
               have HB10 := Lib.hid (bthen (bthen HB6.out HB9.out) hb)
               clear hr hb hs9 hv9 p0 p1 p2 p3 hpl q0 q1 q2 q3 hql
               go_wp2_with fail
               refine (HOUT.out _ HB10.out).mono ?_
               rintro e w11 ⟨rfl, hb⟩
               have HB11 := Lib.hid hb
               clear hb
               go_wp2_with fail
               go_ret
               exact ⟨rfl, HB11.out⟩)
            | (have hb9 := hb8.alloc hb8.size (.cells #[.int .i64 R2.k, .string R2.t, .string R2.v, .slice a7 R2.kids.length c7] 24)
               obtain ⟨W9, hW9⟩ : ∃ W9, w7.alloc (.cells #[.int .i64 R2.k, .string R2.t, .string R2.v, .slice a7 R2.kids.length c7] 24) = W9 := ⟨_, rfl⟩
               rw [hW9] at hb9
               rw [hW9]
               clear hW9
               have HB9 := Lib.hid hb9
               obtain ⟨⟨p0, p1, p2, p3, _, _, _, _, hpl⟩, q0, q1, q2, q3, _, _, _, _, hql⟩ := HG.out _ hb9
               clear x0 x1 x2 x3 hxl y0 y1 y2 y3 hyl x0' x1' x2' x3' hxl' hb8 hb9 hbd hbz hz6
               have hs9 := HK6.out.below HB9.out
               have hv9 := HV.out.below (bthen (bthen HB4.out HB6.out) HB9.out)
               go_wp2_with fail
               refine (refSame_any n W9 _ _ _ _ n (NdV.mk hs9) hv9).mono ?_
               rintro e w10 ⟨r, rfl, hr, hb⟩
               obtain rfl : r = true := hr.2 rfl
               have HB10 := Lib.hid (bthen (bthen HB6.out HB9.out) hb)
               clear hr hb hs9 hv9 p0 p1 p2 p3 hpl q0 q1 q2 q3 hql
               go_wp2_with fail
               refine (HOUT.out _ HB10.out).mono ?_
               rintro e w11 ⟨rfl, hb⟩
               have HB11 := Lib.hid hb
               clear hb
               go_wp2_with fail
               go_ret
               exact ⟨rfl, HB11.out⟩)
      · have hzb : (WH != 0) = true := by simp [hz]
        go_wp2_with fail
        refine (HOUT.out _ (Below.refl _ _)).mono ?_
        rintro e w6 ⟨rfl, hb⟩
        have HB6 := Lib.hid hb
        clear hb
        go_wp2_with fail
        go_ret
        exact ⟨rfl, HB6.out⟩
end Go.Proofs.YtdaamiihldbekaaGreatDoor
