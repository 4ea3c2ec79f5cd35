/- The walk of the law TreeSame. -/
import Derived.Test.YtinjhglmakfmkaaGreatDoorTrLawZ
namespace Go.Proofs.YtinjhglmakfmkaaGreatDoor
open Go.RowKit Ev5
set_option linter.unusedSimpArgs false
set_option linter.unusedVariables false

theorem tSame (m n : Nd) (w : World) (S S' : Nat → Prop) (va vb : Value) (h1 : NdV w S va m) (h2 : NdV w S' vb n) : Calls Tryz.prog 31 #[va, vb] w (BoolP (m = n) w) := same_any m w S S' va vb n h1 h2
theorem rSame (m n : Nd) (w : World) (S S' : Nat → Prop) (va vb : Value) (h1 : NdV w S va m) (h2 : NdV w S' vb n) : Calls Tryz.prog 30 #[va, vb] w (BoolP (m = n) w) := refSame_any m w S S' va vb n h1 h2

set_option maxRecDepth 1000000 in
set_option maxHeartbeats 8000000 in
theorem treeSame_law (va : Value) (m : Nd) (vb : Value) (n : Nd) (w : World) (hE : EnvU w) (hva : NdV w (fun b => b < w.heap.size) va m ∧ m.ok ∧ m.size ≤ 1048576) (hvb : NdV w (fun b => b < w.heap.size) vb n ∧ n.ok ∧ n.size ≤ 1048576) :
    Calls Tryz.prog 9 #[va, vb] w fun e w' => e = .returned (.bool true) ∧ Below w.heap.size w w' := by
  obtain ⟨⟨u, rfl, hs⟩, _, _⟩ := hva
  obtain ⟨⟨u', rfl, hs'⟩, _, _⟩ := hvb
  obtain ⟨ao, cap, rfl, hcap, hcm⟩ := hs.shape
  obtain ⟨ao', cap', rfl, hcap', hcm'⟩ := hs'.shape
  have HE := Lib.hid hE
  have HV := Lib.hid (show NdV w (fun b => b < w.heap.size) (.agg #[.int .i64 m.k, .string m.t, .string m.v, .slice ao m.kids.length cap]) m from ⟨_, rfl, hs⟩)
  have HV' := Lib.hid (show NdV w (fun b => b < w.heap.size) (.agg #[.int .i64 n.k, .string n.t, .string n.v, .slice ao' n.kids.length cap']) n from ⟨_, rfl, hs'⟩)
  have HB1 := Lib.hid (show Below w.heap.size w ((w.alloc (.cells #[.int .i64 m.k, .string m.t, .string m.v, .slice ao m.kids.length cap] 39)).alloc (.cells #[.int .i64 n.k, .string n.t, .string n.v, .slice ao' n.kids.length cap'] 39)) from ((Below.refl _ _).alloc (Nat.le_refl _) _).alloc (by simp) _)
  have HX := Lib.hid (two_first w (.cells #[.int .i64 m.k, .string m.t, .string m.v, .slice ao m.kids.length cap] 39) (.cells #[.int .i64 n.k, .string n.t, .string n.v, .slice ao' n.kids.length cap'] 39))
  have HY := Lib.hid (two_last w (.cells #[.int .i64 m.k, .string m.t, .string m.v, .slice ao m.kids.length cap] 39) (.cells #[.int .i64 n.k, .string n.t, .string n.v, .slice ao' n.kids.length cap'] 39))
  clear hs hs' hE
  unfold ndV
  go_enter Tryz.func9, Tryz.ntmps9
  go_wp2_with fail
  refine (fewB_any m _ _ _ (HV.out.below HB1.out)).mono ?_
  rintro e w2 ⟨rfl, hb⟩
  have HX2 := Lib.hid ((hb.block _ (by simp; omega)).trans HX.out)
  have HY2 := Lib.hid ((hb.block _ (by simp)).trans HY.out)
  obtain ⟨x0, x1, x2, x3, p0, p1, p2, p3, hxl⟩ := nd_cells HX2.out
  obtain ⟨y0, y1, y2, y3, q0, q1, q2, q3, hyl⟩ := nd_cells HY2.out
  have HB2 := Lib.hid (bthen HB1.out hb)
  clear hb
  generalize decide (0 ≤ m.few 300 20) = F
  go_wp2_with fail
  refine (fewB_any n _ _ _ (HV'.out.below HB2.out)).mono ?_
  rintro e w3 ⟨rfl, hb⟩
  have HX3 := Lib.hid ((hb.block _ hxl).trans HX2.out)
  have HY3 := Lib.hid ((hb.block _ hyl).trans HY2.out)
  have HB3 := Lib.hid (bthen HB2.out hb)
  clear hb x0 x1 x2 x3 p0 p1 p2 p3 hxl y0 y1 y2 y3 q0 q1 q2 q3 hyl
  obtain ⟨x0, x1, x2, x3, p0, p1, p2, p3, hxl⟩ := nd_cells HX3.out
  obtain ⟨y0, y1, y2, y3, q0, q1, q2, q3, hyl⟩ := nd_cells HY3.out
  generalize decide (0 ≤ n.few 300 20) = F'
  by_cases hF : F = true ∧ F' = true
  · obtain ⟨rfl, rfl⟩ := hF
    have HV3 := Lib.hid (HV.out.below HB3.out)
    have HW3 := Lib.hid (HV'.out.below HB3.out)
    have HD := Lib.hid (show ∀ w' : World, Below w3.heap.size w3 w' → (w'.cell? ⟨w.heap.size, 0, none⟩ = some (.int .i64 m.k) ∧ w'.cell? ⟨w.heap.size, 1, none⟩ = some (.string m.t) ∧ w'.cell? ⟨w.heap.size, 2, none⟩ = some (.string m.v) ∧ w'.cell? ⟨w.heap.size, 3, none⟩ = some (.slice ao m.kids.length cap)) ∧
        w'.cell? ⟨w.heap.size + 1, 0, none⟩ = some (.int .i64 n.k) ∧ w'.cell? ⟨w.heap.size + 1, 1, none⟩ = some (.string n.t) ∧ w'.cell? ⟨w.heap.size + 1, 2, none⟩ = some (.string n.v) ∧ w'.cell? ⟨w.heap.size + 1, 3, none⟩ = some (.slice ao' n.kids.length cap') from fun w' hb => by
      obtain ⟨x0, x1, x2, x3, _⟩ := nd_cells ((hb.block _ (lt_blk HX3.out)).trans HX3.out)
      obtain ⟨y0, y1, y2, y3, _⟩ := nd_cells ((hb.block _ (lt_blk HY3.out)).trans HY3.out)
      exact ⟨⟨x0, x1, x2, x3⟩, y0, y1, y2, y3⟩)
    obtain ⟨R, hR⟩ : ∃ R : Bool, (R = true ↔ m = n) := by
      by_cases h : m = n
      · exact ⟨true, by simp [h]⟩
      · exact ⟨false, by simp [h]⟩
    have HR := Lib.hid hR
    have hRR : (R == R) = true := by cases R <;> rfl
    clear hR x0 x1 x2 x3 p0 p1 p2 p3 y0 y1 y2 y3 q0 q1 q2 q3
    obtain ⟨⟨x0, x1, x2, x3⟩, y0, y1, y2, y3⟩ := HD.out _ (Below.refl _ w3)
    have hbr : Below w3.heap.size w3 w3.drew := (Below.refl _ w3).drew
    have hxl9 : w.heap.size < w3.heap.size := hxl
    have hyl9 : w.heap.size + 1 < w3.heap.size := hyl
    go_wp2_with fail
    go_region_held3? (fun w' => (w'.cell? ⟨w.heap.size, 0, none⟩ = some (.int .i64 m.k) ∧ w'.cell? ⟨w.heap.size, 1, none⟩ = some (.string m.t) ∧ w'.cell? ⟨w.heap.size, 2, none⟩ = some (.string m.v) ∧ w'.cell? ⟨w.heap.size, 3, none⟩ = some (.slice ao m.kids.length cap)) ∧
        w'.cell? ⟨w.heap.size + 1, 0, none⟩ = some (.int .i64 n.k) ∧ w'.cell? ⟨w.heap.size + 1, 1, none⟩ = some (.string n.t) ∧ w'.cell? ⟨w.heap.size + 1, 2, none⟩ = some (.string n.v) ∧ w'.cell? ⟨w.heap.size + 1, 3, none⟩ = some (.slice ao' n.kids.length cap')) (first | exact HD.out _ hbr | go_keep) ((first
      | (go_at_call 31
         first
           | with_reducible refine (tSame m n _ _ _ _ _ (HV3.out.below hbr) (HW3.out.below hbr)).mono ?_
             rintro e wq ⟨rq, rfl, hrq, hbn⟩
             have hqr : rq = R := by rw [Bool.eq_iff_iff]; exact hrq.trans HR.out.symm
             rw [hqr]
             clear hqr
             have hbo := hbr
             clear hbr
             have hbr := bthen hbo hbn
             clear hbo hbn hrq
           | with_reducible refine (tSame n m _ _ _ _ _ (HW3.out.below hbr) (HV3.out.below hbr)).mono ?_
             rintro e wq ⟨rq, rfl, hrq, hbn⟩
             have hqr : rq = R := by rw [Bool.eq_iff_iff]; exact (hrq.trans ⟨Eq.symm, Eq.symm⟩).trans HR.out.symm
             rw [hqr]
             clear hqr
             have hbo := hbr
             clear hbr
             have hbr := bthen hbo hbn
             clear hbo hbn hrq
           | with_reducible refine (tSame m m _ _ _ _ _ (HV3.out.below hbr) (HV3.out.below hbr)).mono ?_
             rintro e wq ⟨rq, rfl, hrq, hbn⟩
             obtain rfl : rq = true := hrq.2 rfl
             have hbo := hbr
             clear hbr
             have hbr := bthen hbo hbn
             clear hbo hbn hrq)
      | (go_at_call 30
         first
           | with_reducible refine (rSame m n _ _ _ _ _ (HV3.out.below hbr) (HW3.out.below hbr)).mono ?_
             rintro e wq ⟨rq, rfl, hrq, hbn⟩
             have hqr : rq = R := by rw [Bool.eq_iff_iff]; exact hrq.trans HR.out.symm
             rw [hqr]
             clear hqr
             have hbo := hbr
             clear hbr
             have hbr := bthen hbo hbn
             clear hbo hbn hrq)
      | (go_at_call 23
         refine (lives_any _ (HE.out.below (bthen HB3.out hbr))).mono ?_
         rintro e wq ⟨rfl, hbn⟩
         have hbo := hbr
         clear hbr
         have hbr := bthen hbo hbn
         clear hbo hbn)))
    all_goals
      go_wp2_with fail
      go_ret
      exact ⟨by simp, bthen HB3.out hbr⟩
  · have hFF : (F = false) ∨ (F = true ∧ F' = false) := by cases F <;> cases F' <;> simp_all
    clear hF
    rcases hFF with rfl | ⟨rfl, rfl⟩
    all_goals
      go_wp2_with fail
      refine (lives_any _ (HE.out.below HB3.out)).mono ?_
      rintro e w6 ⟨rfl, hb⟩
      have HB6 := Lib.hid (bthen HB3.out hb)
      clear hb
      go_wp2_with fail
      go_ret
      exact ⟨rfl, HB6.out⟩
end Go.Proofs.YtinjhglmakfmkaaGreatDoor
