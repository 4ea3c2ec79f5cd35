/- The walk of the law PatchPlays. -/
import Derived.Test.YtdaamiihldbekaaGreatDoorPaN4
namespace Go.Proofs.YtdaamiihldbekaaGreatDoor
open Go.RowKit Ev5
set_option linter.unusedSimpArgs false
set_option linter.unusedVariables false

theorem opsSize_smallB {l : List GoOp} (h : ∀ o ∈ l, 0 ≤ o.node.few 150 20) : opsSize l ≤ 150 * l.length := by
  induction l with
  | nil => simp [opsSize]
  | cons x r ih =>
    have h1 := few23_size (h x (by simp))
    have h2 := ih fun o ho => h o (by simp [ho])
    have h3 : opsSize (x :: r) = x.node.size + opsSize r := by simp [opsSize]
    rw [h3, List.length_cons]; omega
set_option maxRecDepth 100000 in
set_option maxHeartbeats 8000000 in
theorem patchPlays_law (v : Value) (n : Nd) (lv : Value) (l : List GoOp) (w : World) (hE : EnvU w) (h : NdV w (fun b => b < w.heap.size) v n ∧ n.ok ∧ 5 * n.size ≤ 1048576) (hl : OpsIn w lv l ∧ ∀ o ∈ l, o.ok) :
    Calls Tryz.prog 3 #[v, lv] w fun e w' => e = .returned (.bool true) ∧ Below w.heap.size w w' := by
  obtain ⟨hv, hok, hsz⟩ := h
  obtain ⟨u, rfl, hs⟩ := hv
  obtain ⟨ao, cap, rfl, hcap, hcm⟩ := hs.shape
  obtain ⟨hl, hlo⟩ := hl
  obtain ⟨la, lc, rfl, hlc, hlm, _⟩ := hl.ex
  have HV := Lib.hid (NdV.mk hs)
  have HE := Lib.hid hE; have HOK := Lib.hid hok; have HSZ := Lib.hid hsz; have HL := Lib.hid hl
  have HLO := Lib.hid (show ∀ o ∈ l.take 20, o.ok from fun o ho => hlo o (List.mem_of_mem_take ho))
  have HB1 := Lib.hid (show Below w.heap.size w (w.alloc (.cells #[.int .i64 n.k, .string n.t, .string n.v, .slice ao n.kids.length cap] 24)) from (Below.refl _ _).alloc (Nat.le_refl _) _)
  clear hs hE hok hsz hl hlo
  unfold ndV
  go_enter Tryz.func3, Tryz.ntmps3
  go_wp2_with fail
  refine (few23_any n _ _ _ (HV.out.below HB1.out)).mono ?_
  rintro e w2 ⟨rfl, hb⟩
  have HB2 := Lib.hid (bthen HB1.out hb)
  have hx := (hb.block w.heap.size (by simp)).trans (heap_alloc_new w (.cells #[.int .i64 n.k, .string n.t, .string n.v, .slice ao n.kids.length cap] 24))
  have HX2 := Lib.hid hx
  obtain ⟨fw, hfw⟩ : ∃ fw, decide (0 ≤ n.few 150 20) = fw := ⟨_, rfl⟩
  rw [hfw]
  have HF := Lib.hid hfw
  clear hb hx hfw
  go_wp2_with fail
  refine (small_any _ _ l (HL.out.below HB2.out)).mono ?_
  rintro e w3 ⟨hb, hcase⟩
  have HB3 := Lib.hid (bthen HB2.out hb)
  have hx := (hb.block _ (lt_blk HX2.out)).trans HX2.out
  have HX3 := Lib.hid hx
  obtain ⟨x0, x1, x2, x3, _, _, _, _, hxl⟩ := nd_cells hx
  clear hb hx
  obtain ⟨lv2, ok2, rfl, hlv⟩ : ∃ lv2 ok2, e = .returned (.tuple #[lv2, .bool ok2]) ∧ Hid ((ok2 = true → OpsIn w3 lv2 (l.take 20) ∧ ∀ o ∈ l.take 20, 0 ≤ o.node.few 150 20)) := by
    rcases hcase with ⟨lv2, rfl, h1, h2⟩ | rfl
    · exact ⟨lv2, true, rfl, by show _ → _; exact fun _ => ⟨h1, h2⟩⟩
    · exact ⟨_, false, rfl, by show _ → _; exact fun h => by cases h⟩
  clear hcase
  have out : ∀ w5, Below w3.heap.size w3 w5 → Calls Tryz.prog 15 #[] w5 fun e w' => e = .returned (.bool true) ∧ Below w.heap.size w w' := fun w5 hb =>
    (lives23_any _ (HE.out.below (bthen HB3.out hb))).mono fun e w' h => ⟨h.1, bthen (bthen HB3.out hb) h.2⟩
  have HOUT := Lib.hid out
  clear out
  cases fw
  · go_wp2_with fail
    refine (HOUT.out _ (Below.refl _ _)).mono ?_
    rintro e w6 ⟨rfl, hb⟩
    have HB6 := Lib.hid hb
    clear hb
    go_wp2_with fail
    go_ret
    exact ⟨rfl, HB6.out⟩
  · cases ok2
    · go_wp2_with fail
      refine (HOUT.out _ (Below.refl _ _)).mono ?_
      rintro e w6 ⟨rfl, hb⟩
      have HB6 := Lib.hid hb
      clear hb
      go_wp2_with fail
      go_ret
      exact ⟨rfl, HB6.out⟩
    · obtain ⟨hops, hfew⟩ := hlv.out rfl
      obtain ⟨la2, lc2, rfl, hlc2, hlm2, _⟩ := hops.ex
      have HOPS := Lib.hid hops
      have HFEW := Lib.hid (show n.size + opsSize (l.take 20) ≤ 40000 from by
        have h1 := few23_size (of_decide_eq_true HF.out)
        have h2 := opsSize_smallB hfew
        have h3 : (l.take 20).length ≤ 20 := by rw [List.length_take]; omega
        omega)
      obtain ⟨L, hL⟩ : ∃ L, l.take 20 = L := ⟨_, rfl⟩
      rw [hL] at HOPS HFEW HLO hlc2
      rw [hL]
      unfold maxLen at hlm2
      obtain ⟨T, hT⟩ : ∃ T, (applyP n L).1 = T := ⟨_, rfl⟩
      obtain ⟨K, hK⟩ : ∃ K, (applyP n L).2.1 = K := ⟨_, rfl⟩
      obtain ⟨E, hE'⟩ : ∃ E, (applyP n L).2.2 = E := ⟨_, rfl⟩
      have HAP := Lib.hid (show applyP n L = (T, K, E) from Prod.ext hT (Prod.ext hK hE'))
      clear hops hfew hL hlv hT hK hE'
      go_wp2_with fail
      refine (apply_any _ _ _ _ n L (HE.out.below HB3.out) (HV.out.below HB3.out) HOPS.out HOK.out HLO.out HFEW.out).mono ?_
      rintro e w5 ⟨a5, c5, he5, hrk, hb⟩
      rw [HAP.out] at he5 hrk
      have he6 : e = .returned (.tuple #[.agg #[.int .i64 T.k, .string T.t, .string T.v, .slice a5 T.kids.length c5], .int .i64 K, .int .i64 E]) := he5
      subst he6
      have hb6 : Below w5.heap.size w5 (w5.alloc (.cells #[.int .i64 T.k, .string T.t, .string T.v, .slice a5 T.kids.length c5] 24)) := (Below.refl _ _).alloc (Nat.le_refl _) _
      have HB6 := Lib.hid (bthen hb hb6)
      have HY6 := Lib.hid (heap_alloc_new w5 (.cells #[.int .i64 T.k, .string T.t, .string T.v, .slice a5 T.kids.length c5] 24))
      have HX6 := Lib.hid ((hb6.block _ (Nat.lt_of_lt_of_le (lt_blk HX3.out) hb.size)).trans ((hb.block _ (lt_blk HX3.out)).trans HX3.out))
      have HK6 := Lib.hid (hrk.1.below hb6)
      clear he5 hrk x0 x1 x2 x3 hxl
      obtain ⟨x0, x1, x2, x3, _, _, _, _, hxl⟩ := nd_cells ((hb.block _ (lt_blk HX3.out)).trans HX3.out)
      clear hb hb6
      go_wp2_with fail
      obtain ⟨w6, hw6⟩ : ∃ w6, w5.alloc (.cells #[.int .i64 T.k, .string T.t, .string T.v, .slice a5 T.kids.length c5] 24) = w6 := ⟨_, rfl⟩
      obtain ⟨Y, hY⟩ : ∃ Y, w5.heap.size = Y := ⟨_, rfl⟩
      rw [hw6] at HB6 HY6 HX6 HK6
      rw [hY] at HY6
      try rw [hw6]
      try rw [hY]
      clear hw6 hY
      refine (refApply_any _ _ _ _ n L (HV.out.below (bthen HB3.out HB6.out)) (HOPS.out.below HB6.out) HOK.out HLO.out HFEW.out).mono ?_
      rintro e w7 ⟨a7, c7, he7, hs7, hb⟩
      rw [HAP.out] at he7 hs7
      have he8 : e = .returned (.tuple #[.agg #[.int .i64 T.k, .string T.t, .string T.v, .slice a7 T.kids.length c7], .int .i64 K, .int .i64 E]) := he7
      subst he8
      have hb8 : Below w7.heap.size w7 (w7.alloc (.cells #[.int .i64 T.k, .string T.t, .string T.v, .slice a7 T.kids.length c7] 24)) := (Below.refl _ _).alloc (Nat.le_refl _) _
      have HB8 := Lib.hid (bthen HB6.out (bthen hb hb8))
      have HS8 := Lib.hid (NdV.mk (hs7.below hb8))
      have HK8 := Lib.hid (NdV.mk ((HK6.out.below hb).below hb8))
      obtain ⟨y0, y1, y2, y3, _, _, _, _, hyl⟩ := nd_cells ((hb.block _ (lt_blk HY6.out)).trans HY6.out)
      clear he7 hs7 hb hb8 x0 x1 x2 x3 hxl
      go_wp2_with fail
      refine (refSame_any T _ _ _ _ _ T HK8.out HS8.out).mono ?_
      rintro e w10 ⟨r, rfl, hr, hb⟩
      obtain rfl : r = true := hr.2 rfl
      have HB10 := Lib.hid (bthen HB8.out hb)
      clear hr hb y0 y1 y2 y3 hyl
      go_wp2_with fail
      refine (HOUT.out _ HB10.out).mono ?_
      rintro e w11 ⟨rfl, hb⟩
      have HB11 := Lib.hid hb
      clear hb
      go_wp2_with fail
      go_ret
      exact ⟨rfl, HB11.out⟩
end Go.Proofs.YtdaamiihldbekaaGreatDoor
