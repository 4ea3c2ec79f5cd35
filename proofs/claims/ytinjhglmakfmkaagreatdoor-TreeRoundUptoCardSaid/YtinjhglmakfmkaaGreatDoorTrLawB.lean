/- The walk of the law TreeRound. -/
import Derived.Test.YtinjhglmakfmkaaGreatDoorTrLawZ
namespace Go.Proofs.YtinjhglmakfmkaaGreatDoor
open Go.RowKit Ev5
set_option linter.unusedSimpArgs false
set_option linter.unusedVariables false

set_option maxRecDepth 1000000 in
set_option maxHeartbeats 8000000 in
theorem treeRound_law (v : Value) (l : List GoEv) (w : World) (hE : EnvU w) (hin : EvIn w v l) :
    Calls Tryz.prog 7 #[v] w fun e w' => e = .returned (.bool true) ∧ Below w.heap.size w w' := by
  have HE := Lib.hid hE
  have HIN := Lib.hid hin
  obtain ⟨ao, cap, rfl, hcap, hcm, _⟩ := hin.ex
  have hlen := hin.len
  clear hE hin
  go_enter Tryz.func7, Tryz.ntmps7
  go_upto_if 10 with (fail)
  go_cut [0] (fun u wc => ∃ (ao : Option Addr) (L : List GoEv) (cap : Nat), u = .slice ao L.length cap ∧ L.length ≤ 200 ∧ Hid (EvIn w (.slice ao L.length cap) L) ∧ w = wc)
  case first =>
    by_cases h120 : (200 : Int) < l.length
    · obtain ⟨_, _, b, o, rfl⟩ := HIN.out.some (by omega)
      have h2 := HIN.out.take 200 (by omega)
      have hl2 : (l.take 200).length = 200 := by rw [List.length_take]; omega
      have H2 := Lib.hid h2; have HL2 := Lib.hid hl2; clear h2 hl2
      have hk : (200 : Int) ≤ (cap : Int) := by omega
      go_wp2
      go_meet
      case rel => exact ⟨_, l.take 200, cap, by rw [HL2.out], by rw [HL2.out]; omega, H2.out, rfl⟩
    · go_wp2
      go_meet
      case rel => exact ⟨_, l, cap, rfl, by omega, HIN.out, rfl⟩
  case rest =>
  obtain ⟨ao2, L, cap2, rfl, hL200, HL, rfl⟩ := hcut
  clear hcap hcm hlen HIN
  have HL200 := Lib.hid hL200
  go_wp2_with fail
  refine (build_any _ HE.out _ L HL.out).mono ?_
  rintro e w1 ⟨hb, hx1, hx2⟩
  have HB1 := Lib.hid hb; clear hb
  by_cases hz : (wholeP RP (L.map GoEv.ev)).2 = 0
  · obtain ⟨x, hg, hw⟩ := doc_walk (rk_right _) L hz
    obtain ⟨a, c, rfl, hsl⟩ := hx2 x hg hw hz
    have HV := Lib.hid (show NdV w1 _ (.agg #[.int .i64 x.k, .string x.t, .string x.v, .slice a x.kids.length c]) x from NdV.lt (S := fun b => w.heap.size ≤ b) ⟨_, rfl, hsl⟩)
    have HW := Lib.hid hw
    have HZ := Lib.hid hz
    have HOK := Lib.hid (ok_of_walk x hg (by rw [hw]; exact HL.out.ok))
    clear hx1 hx2 hg hw hz hsl
    go_wp2_with fail
    have hb2 : Below w1.heap.size w1 (w1.alloc (.cells #[.int .i64 x.k, .string x.t, .string x.v, .slice a x.kids.length c] 39)) := (Below.refl _ _).alloc (Nat.le_refl _) _
    have HB2 := Lib.hid (bthen HB1.out hb2)
    refine (treeWalk_any x _ _ _ (HE.out.below HB2.out) (HV.out.below hb2) (fun b hb => by simp; omega) HOK.out (by rw [HW.out]; have := HL200.out; omega)).mono ?_
    intro e w3 hp
    obtain ⟨lv, rfl, hb, hr⟩ := hp.row HOK.out (by rw [HW.out]; have := HL200.out; omega)
    rw [HW.out, HZ.out] at hr ⊢
    rw [if_pos rfl] at hr
    have HB3 := Lib.hid (bthen HB2.out hb)
    have HR := Lib.hid hr
    obtain ⟨la, lc, rfl, _⟩ := hr.ex
    clear hp hb hr hb2
    go_wp2_with fail
    refine (refRow_any w3 _ _ _ HR.out (HL.out.below HB3.out)).mono ?_
    rintro e w4 ⟨rfl, hb⟩
    have HB4 := Lib.hid (bthen HB3.out hb)
    clear hb
    go_wp2_with fail
    refine (lives_any w4 (HE.out.below HB4.out)).mono ?_
    rintro e w5 ⟨rfl, hb⟩
    have HB5 := Lib.hid (bthen HB4.out hb)
    clear hb
    go_wp2_with fail
    go_ret
    exact ⟨rfl, HB5.out⟩
  · obtain rfl := hx1 hz
    obtain ⟨E, hE⟩ : ∃ E, (wholeP RP (L.map GoEv.ev)).2 = E := ⟨_, rfl⟩
    rw [hE] at hz ⊢
    have hzb : (E != 0) = true := by simp [hz]
    clear hx1 hx2 hE hz
    go_wp2_with fail
    have hb2 : Below w1.heap.size w1 (w1.alloc (.cells #[.int .i64 0, .string ⟨#[]⟩, .string ⟨#[]⟩, .slice none 0 0] 39)) := (Below.refl _ _).alloc (Nat.le_refl _) _
    have HB2 := Lib.hid (bthen HB1.out hb2)
    clear hb2
    refine (lives_any _ (HE.out.below HB2.out)).mono ?_
    rintro e w5 ⟨rfl, hb⟩
    have HB5 := Lib.hid (bthen HB2.out hb)
    clear hb
    go_wp2_with fail
    go_ret
    exact ⟨rfl, HB5.out⟩
end Go.Proofs.YtinjhglmakfmkaaGreatDoor
