/- The walk of the law TreeBack. -/
import Derived.Test.YtinjhglmakfmkaaGreatDoorTrLawZ
namespace Go.Proofs.YtinjhglmakfmkaaGreatDoor
open Go.RowKit Ev5
set_option linter.unusedSimpArgs false
set_option linter.unusedVariables false

set_option maxRecDepth 1000000 in
set_option maxHeartbeats 8000000 in
theorem treeBack_law (val : Value) (n : Nd) (w : World) (hE : EnvU w) (hvv : NdV w (fun b => b < w.heap.size) val n ∧ n.ok ∧ n.size ≤ 1048576) :
    Calls Tryz.prog 8 #[val] w fun e w' => e = .returned (.bool true) ∧ Below w.heap.size w w' := by
  obtain ⟨⟨u, rfl, hs⟩, hok, _⟩ := hvv
  obtain ⟨ao, cap, rfl, hcap, hcm⟩ := hs.shape
  have HE := Lib.hid hE; have HOK := Lib.hid hok
  have HV := Lib.hid (show NdV w (fun b => b < w.heap.size) (.agg #[.int .i64 n.k, .string n.t, .string n.v, .slice ao n.kids.length cap]) n from ⟨_, rfl, hs⟩)
  have HB1 := Lib.hid (show Below w.heap.size w (w.alloc (.cells #[.int .i64 n.k, .string n.t, .string n.v, .slice ao n.kids.length cap] 39)) from (Below.refl _ _).alloc (Nat.le_refl _) _)
  have HX := Lib.hid (heap_alloc_new w (.cells #[.int .i64 n.k, .string n.t, .string n.v, .slice ao n.kids.length cap] 39))
  clear hs hE hok
  unfold ndV
  go_enter Tryz.func8, Tryz.ntmps8
  go_wp2_with fail
  refine (fewB_any n _ _ _ (HV.out.below HB1.out)).mono ?_
  rintro e w2 ⟨rfl, hb⟩
  have hx := (hb.block _ (by simp)).trans HX.out
  obtain ⟨x0, x1, x2, x3, y0, y1, y2, y3, hxl⟩ := nd_cells hx
  have HX2 := Lib.hid hx
  have HB2 := Lib.hid (bthen HB1.out hb)
  clear hb hx
  by_cases hf : 0 ≤ n.few 300 20
  · have HSZ := Lib.hid (few_size hf)
    have hfd : decide (0 ≤ n.few 300 20) = true := decide_eq_true hf
    rw [hfd]
    clear hf hfd
    have HLN := Lib.hid (show n.walk.length ≤ 1000 by have := walk_le n; have := HSZ.out; omega)
    go_wp2_with fail
    refine (treeWalk_any n w2 _ _ (HE.out.below HB2.out) (HV.out.below HB2.out) (fun b hb => Nat.lt_of_lt_of_le hb HB2.out.size) HOK.out (by have := HLN.out; omega)).mono ?_
    intro e w3 hp
    obtain ⟨lv, rfl, hb, hr⟩ := hp.row HOK.out (by have := HLN.out; omega)
    have hx := (hb.block _ hxl).trans HX2.out
    have HB3 := Lib.hid (bthen HB2.out hb)
    have HX3 := Lib.hid hx
    clear x0 x1 x2 x3 y0 y1 y2 y3 hp hb
    obtain ⟨x0, x1, x2, x3, y0, y1, y2, y3, hxl3⟩ := nd_cells hx
    clear hx
    by_cases hz : (wholeP RP (n.walk.map GoEv.ev)).2 = 0
    · have HG := Lib.hid (good_of_whole (rk_right _) n hz)
      rw [if_pos hz] at hr
      rw [hz]
      have HZ := Lib.hid hz
      have HR := Lib.hid hr
      obtain ⟨la, lc, rfl, _⟩ := hr.ex
      obtain ⟨N, hN⟩ : ∃ N, n.walk.length = N := ⟨_, rfl⟩
      have HR2 := Lib.hid (show EvIn w3 (.slice la N lc) n.walk by rw [← hN]; exact hr)
      rw [hN]
      clear hr hz HR
      go_wp2_with fail
      refine (build_any _ (HE.out.below HB3.out) _ n.walk HR2.out).mono ?_
      rintro e w4 ⟨hb, _, hq⟩
      obtain ⟨a2, c2, rfl, hsl⟩ := hq n HG.out rfl HZ.out
      have hx := (hb.block _ hxl3).trans HX3.out
      have HB4 := Lib.hid (bthen HB3.out hb)
      have HX4 := Lib.hid hx
      have HN := Lib.hid (show NdV w4 _ (.agg #[.int .i64 n.k, .string n.t, .string n.v, .slice a2 n.kids.length c2]) n from NdV.lt (S := fun b => w3.heap.size ≤ b) ⟨_, rfl, hsl⟩)
      clear x0 x1 x2 x3 y0 y1 y2 y3 hb hq hsl
      have HBA := Lib.hid (show Below w4.heap.size w4 (w4.alloc (.cells #[.int .i64 n.k, .string n.t, .string n.v, .slice a2 n.kids.length c2] 39)) from (Below.refl _ _).alloc (Nat.le_refl _) _)
      obtain ⟨x0, x1, x2, x3, y0, y1, y2, y3, hxl4⟩ := nd_cells ((HBA.out.block _ (lt_blk hx)).trans hx)
      have hxl5 := lt_blk hx
      clear hx
      go_wp2_with fail
      refine (refSame_any n _ _ _ _ _ n ((HV.out.below HB4.out).below HBA.out) (HN.out.below HBA.out)).mono ?_
      rintro e w5 ⟨r, rfl, hr, hb⟩
      obtain rfl : r = true := hr.2 rfl
      have HB5 := Lib.hid (bthen (bthen HB4.out HBA.out) hb)
      clear hb hr
      go_wp2_with fail
      refine (lives_any _ (HE.out.below HB5.out)).mono ?_
      rintro e w6 ⟨rfl, hb⟩
      have HB6 := Lib.hid (bthen HB5.out hb)
      clear hb
      go_wp2_with fail
      go_ret
      exact ⟨rfl, HB6.out⟩
    · rw [if_neg hz] at hr
      obtain ⟨la, lc, rfl, _⟩ := hr.ex
      obtain ⟨E, hE⟩ : ∃ E, (wholeP RP (n.walk.map GoEv.ev)).2 = E := ⟨_, rfl⟩
      rw [hE] at hz ⊢
      have hzb : (E != 0) = true := by simp [hz]
      clear hr hE hz
      rw [List.length_nil]
      go_wp2_with fail
      refine (lives_any _ (HE.out.below HB3.out)).mono ?_
      rintro e w6 ⟨rfl, hb⟩
      have HB6 := Lib.hid (bthen HB3.out hb)
      clear hb
      go_wp2_with fail
      go_ret
      exact ⟨rfl, HB6.out⟩
  · have hfd : decide (0 ≤ n.few 300 20) = false := decide_eq_false hf
    rw [hfd]
    clear hf hfd
    go_wp2_with fail
    refine (lives_any w2 (HE.out.below HB2.out)).mono ?_
    rintro e w3 ⟨rfl, hb⟩
    have HB3 := Lib.hid (bthen HB2.out hb)
    clear hb
    go_wp2_with fail
    go_ret
    exact ⟨rfl, HB3.out⟩
end Go.Proofs.YtinjhglmakfmkaaGreatDoor
