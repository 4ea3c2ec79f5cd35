/- The walk of the law TreeBuilds. -/
import Derived.Test.YtinjhglmakfmkaaGreatDoorTrLawZ
import Derived.Test.YtinjhglmakfmkaaGreatDoorTrU
namespace Go.Proofs.YtinjhglmakfmkaaGreatDoor
open Go.RowKit Ev5
set_option linter.unusedSimpArgs false
set_option linter.unusedVariables false

/-- What Build hands back, whichever it is. -/
theorem build_nd (l : List GoEv) : ∃ y : Nd, ∀ w e w', BuildPost l w e w' → ∃ a c, e = .returned (.tuple #[.agg #[.int .i64 y.k, .string y.t, .string y.v, .slice a y.kids.length c], .int .i64 (wholeP RP (l.map GoEv.ev)).2]) ∧
    NdV w' (fun b => b < w'.heap.size) (.agg #[.int .i64 y.k, .string y.t, .string y.v, .slice a y.kids.length c]) y ∧ Below w.heap.size w w' := by
  by_cases hz : (wholeP RP (l.map GoEv.ev)).2 = 0
  · obtain ⟨x, hg, hw⟩ := doc_walk (rk_right _) l hz
    refine ⟨x, fun w e w' h => ?_⟩
    obtain ⟨a, c, rfl, hsl⟩ := h.2.2 x hg hw hz
    exact ⟨a, c, by rw [hz], NdV.lt (S := fun b => w.heap.size ≤ b) ⟨_, rfl, hsl⟩, h.1⟩
  · refine ⟨.mk 0 ⟨#[]⟩ ⟨#[]⟩ [], fun w e w' h => ⟨none, 0, h.2.1 hz, ⟨.slice none 0 0, rfl, none, 0, rfl, Nat.le_refl _, by decide, .inl rfl⟩, h.1⟩⟩

set_option maxRecDepth 1000000 in
set_option maxHeartbeats 8000000 in
theorem treeBuilds_law (v : Value) (l : List GoEv) (w : World) (hE : EnvU w) (hin : EvIn w v l) :
    Calls Tryz.prog 6 #[v] w fun e w' => e = .returned (.bool true) ∧ Below w.heap.size w w' := by
  have HE := Lib.hid hE
  have HIN := Lib.hid hin
  obtain ⟨ao, cap, rfl, hcap, hcm, _⟩ := hin.ex
  have hlen := hin.len
  clear hE hin
  go_enter Tryz.func6, Tryz.ntmps6
  go_upto_if 10 with (fail)
  go_cut [0] (fun u wc => ∃ (ao : Option Addr) (L : List GoEv) (cap : Nat), u = .slice ao L.length cap ∧ L.length ≤ 200 ∧ Hid (EvIn w (.slice ao L.length cap) L) ∧ w = wc)
  case first =>
    by_cases h120 : (200 : Int) < l.length
    · obtain ⟨_, _, b, o, rfl⟩ := HIN.out.some (by omega)
      have h2 := HIN.out.take 200 (by omega)
      have hl2 : (l.take 200).length = 200 := by rw [List.length_take]; omega
      have H2 := Lib.hid h2; have HL2 := Lib.hid hl2; clear h2 hl2
      have hk : (200 : Int) ≤ (cap : Int) := by omega
      go_wp2
      go_meet
      case rel => exact ⟨_, l.take 200, cap, by rw [HL2.out], by rw [HL2.out]; omega, H2.out, rfl⟩
    · go_wp2
      go_meet
      case rel => exact ⟨_, l, cap, rfl, by omega, HIN.out, rfl⟩
  case rest =>
  obtain ⟨ao2, L, cap2, rfl, hL200, HL, rfl⟩ := hcut
  clear hcap hcm hlen HIN hL200
  obtain ⟨y, hy⟩ := build_nd L
  have HY := Lib.hid hy; clear hy
  go_wp2_with fail
  refine (build_any _ HE.out _ L HL.out).mono ?_
  intro e w1 hp
  obtain ⟨a, c, rfl, hv, hb⟩ := HY.out _ _ _ hp
  have HB1 := Lib.hid hb; have HV1 := Lib.hid hv
  obtain ⟨E, hE⟩ : ∃ E, (wholeP RP (L.map GoEv.ev)).2 = E := ⟨_, rfl⟩
  rw [hE]
  have HEQ := Lib.hid hE
  clear hp hb hv hE
  go_wp2_with fail
  have hb2 : Below w1.heap.size w1 (w1.alloc (.cells #[.int .i64 y.k, .string y.t, .string y.v, .slice a y.kids.length c] 39)) := (Below.refl _ _).alloc (Nat.le_refl _) _
  have hx := heap_alloc_new w1 (.cells #[.int .i64 y.k, .string y.t, .string y.v, .slice a y.kids.length c] 39)
  have HB2 := Lib.hid (bthen HB1.out hb2)
  refine (refBuild_any _ _ L (HL.out.below HB2.out)).mono ?_
  intro e w3 hp
  obtain ⟨a2, c2, rfl, hv, hb⟩ := HY.out _ _ _ hp
  rw [HEQ.out]
  have hx3 := (hb.block w1.heap.size (by simp)).trans hx
  have HB3 := Lib.hid (bthen HB2.out hb); have HV3 := Lib.hid hv
  have HV13 := Lib.hid (HV1.out.below (bthen hb2 hb))
  have HBA := Lib.hid (show Below w3.heap.size w3 (w3.alloc (.cells #[.int .i64 y.k, .string y.t, .string y.v, .slice a2 y.kids.length c2] 39)) from (Below.refl _ _).alloc (Nat.le_refl _) _)
  obtain ⟨x0, x1, x2, x3, y0, y1, y2, y3, hxl⟩ := nd_cells ((HBA.out.block _ (lt_blk hx3)).trans hx3)
  have hxl3 := lt_blk hx3
  clear hp hb hv hb2 hx hx3
  go_wp2_with fail
  refine (refSame_any y _ _ _ _ _ y (HV13.out.below HBA.out) (HV3.out.below HBA.out)).mono ?_
  rintro e w5 ⟨r, rfl, hr, hb⟩
  obtain rfl : r = true := hr.2 rfl
  have HB5 := Lib.hid (bthen (bthen HB3.out HBA.out) hb)
  have hee : (E == E) = true := by simp
  clear hb hr
  go_wp2_with fail
  refine (lives_any _ (HE.out.below HB5.out)).mono ?_
  rintro e w6 ⟨rfl, hb⟩
  have HB6 := Lib.hid (bthen HB5.out hb)
  clear hb
  go_wp2_with fail
  go_ret
  exact ⟨rfl, HB6.out⟩
end Go.Proofs.YtinjhglmakfmkaaGreatDoor
