/- The walk of the reference's Build. -/
import Derived.Test.YtinjhglmakfmkaaGreatDoorTrN3
import Derived.Test.YtinjhglmakfmkaaGreatDoorTrS
import Derived.Test.YtinjhglmakfmkaaGreatDoorEvK
namespace Go.Proofs.YtinjhglmakfmkaaGreatDoor
open Go.RowKit Ev5
set_option linter.unusedSimpArgs false
set_option linter.unusedVariables false

set_option maxRecDepth 1000000 in
set_option maxHeartbeats 8000000 in
theorem refBuild_any (w : World) (lv : Value) (l : List GoEv) (hin : EvIn w lv l) : Calls Tryz.prog 29 #[lv] w (BuildPost l w) := by
  have HIN := Lib.hid hin
  obtain ⟨ao, cap, rfl, hcap, hcm, _⟩ := hin.ex
  clear hin
  have HB1 := Lib.hid (show Below w.heap.size w (w.alloc (.cells #[.int .i64 0, .string ⟨#[]⟩, .string ⟨#[]⟩, .slice none 0 0] 39)) from (Below.refl _ _).alloc (Nat.le_refl _) _)
  have HRS := Lib.hid (heap_alloc_new w (.cells #[.int .i64 0, .string ⟨#[]⟩, .string ⟨#[]⟩, .slice none 0 0] 39))
  go_enter Tryz.func29, Tryz.ntmps29
  go_wp2_with fail
  refine (refWhole_any _ _ l (HIN.out.below HB1.out)).mono ?_
  rintro e w2 ⟨rfl, hb⟩
  rw [ref_whole]
  have HB2 := Lib.hid (bthen HB1.out hb)
  have hr := (hb.block w.heap.size (by simp)).trans HRS.out
  have HR2 := Lib.hid hr
  obtain ⟨r0, r1, r2, r3, s0, s1, s2, s3, hrl⟩ := nd_cells hr
  clear hb hr
  obtain ⟨E, hE⟩ : ∃ E, (wholeP RP (l.map GoEv.ev)).2 = E := ⟨_, rfl⟩
  have HEQ := Lib.hid hE
  rw [hE]
  generalize (wholeP RP (l.map GoEv.ev)).1 = n0
  by_cases hz : E = 0
  · subst hz
    obtain ⟨x, hg, hw⟩ := doc_walk (rk_right _) l hE
    have HG := Lib.hid hg; have HW := Lib.hid hw
    clear hE hg hw
    go_wp2_with fail
    refine (one_nd x HG.out _ _ [] (by rw [HW.out, List.append_nil]; exact HIN.out.below HB2.out)).mono ?_
    rintro e w3 ⟨a, c, rfl, hsl, hb3⟩
    have HB3 := Lib.hid (bthen HB2.out hb3)
    have hr := (hb3.block w.heap.size hrl).trans HR2.out
    have HR3 := Lib.hid hr
    have HSL := Lib.hid hsl
    clear r0 r1 r2 r3 s0 s1 s2 s3
    obtain ⟨r0, r1, r2, r3, s0, s1, s2, s3, hrl3⟩ := nd_cells hr
    have HSZ := Lib.hid hb3.size
    clear hr hsl hb3
    go_wp2_with fail
    obtain ⟨hf, hgr⟩ := fill4 (.int .i64 x.k) (.string x.t) (.string x.v) (.slice a x.kids.length c) HR3.out
    have hbe := HB3.out.grown hgr HB3.out.size (fun b hb => by injection hb; omega)
    have hsl : SlIn _ (fun b => w.heap.size ≤ b) (.slice a x.kids.length c) x.kids := HSL.out.alike ⟨hgr.size, fun b hb hl => hgr.block b hl (fun e => by injection e with e; have := HB2.out.size; have := HB1.out.size; simp at this; omega)⟩ fun b hb _ => by have := HB2.out.size; omega
    obtain ⟨w5, hw5⟩ : ∃ w5, ((((w3.setCell ⟨w.heap.size, 0, none⟩ (.int .i64 x.k)).setCell ⟨w.heap.size, 1, none⟩ (.string x.t)).setCell ⟨w.heap.size, 2, none⟩ (.string x.v)).setCell ⟨w.heap.size, 3, none⟩ (.slice a x.kids.length c)) = w5 := ⟨_, rfl⟩
    rw [hw5] at hf hbe hsl
    rw [hw5]
    obtain ⟨q0, q1, q2, q3, _, _, _, _, hql⟩ := nd_cells hf
    refine bodyPost_ret (v := .tuple #[.agg #[.int .i64 x.k, .string x.t, .string x.v, .slice a x.kids.length c], .int .i64 0]) (by simp [results, Tryz.results29, go_sem, q0, q1, q2, q3, hql]) rfl ⟨hbe.alloc (by have := HB3.out.size; omega) _, fun h => absurd HEQ.out h, fun y hy hyw _ => ?_⟩
    obtain ⟨rfl, _⟩ := walk_inj x y [] [] HG.out hy (by rw [hyw, HW.out])
    exact ⟨a, c, rfl, hsl.below ((Below.refl w5.heap.size w5).alloc (Nat.le_refl _) _)⟩
  · have hzb : (E != 0) = true := by simp [hz]
    have HZ := Lib.hid hz
    clear hz hE
    go_wp2_with fail
    obtain ⟨hf, hgr⟩ := fill4 (.int .i64 0) (.string ⟨#[]⟩) (.string ⟨#[]⟩) (.slice none 0 0) HR2.out
    have hbe := HB2.out.grown hgr HB2.out.size (fun b hb => by injection hb; omega)
    obtain ⟨w5, hw5⟩ : ∃ w5, ((((w2.setCell ⟨w.heap.size, 0, none⟩ (.int .i64 0)).setCell ⟨w.heap.size, 1, none⟩ (.string ⟨#[]⟩)).setCell ⟨w.heap.size, 2, none⟩ (.string ⟨#[]⟩)).setCell ⟨w.heap.size, 3, none⟩ (.slice none 0 0)) = w5 := ⟨_, rfl⟩
    rw [hw5] at hf hbe
    rw [hw5]
    obtain ⟨q0, q1, q2, q3, _, _, _, _, hql⟩ := nd_cells hf
    exact bodyPost_ret (v := .tuple #[.agg #[.int .i64 0, .string ⟨#[]⟩, .string ⟨#[]⟩, .slice none 0 0], .int .i64 E]) (by simp [results, Tryz.results29, go_sem, q0, q1, q2, q3]) rfl ⟨hbe, fun _ => by rw [HEQ.out], fun y _ _ h => absurd (HEQ.out.symm.trans h) HZ.out⟩
end Go.Proofs.YtinjhglmakfmkaaGreatDoor
