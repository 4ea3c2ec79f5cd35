/- A slice of whole numbers that is handed in. -/
import Derived.Test.YtinjhglmakfmkaaGreatDoorTrN4
import Derived.Test.YtinjhglmakfmkaaGreatDoorEvO
import Derived.ChangeSlices
namespace Go.Proofs.YtinjhglmakfmkaaGreatDoor
open Go.RowKit Ev5
set_option linter.unusedSimpArgs false
set_option linter.unusedVariables false

theorem ints_open {H : Type} {enc : TypeId × Value → H} {w : World} {v : Value} {d : DataW H} {p : List MemPlace} (hv : ∃ a n c, v = .slice a n c) (h : DataW.Trod enc Tryz.prog w 0 (fun _ => true) true 48 v d p) (hbk : Rows.uptoBulk d ≤ 1048576) :
    ∃ l : List Int, IntsIn w v l := by
  obtain ⟨a0, n0, c0, rfl⟩ := hv
  obtain ⟨fuel, hf⟩ := h
  rcases Go.ChangeShapes.open_ints Tryz.underlying48 Tryz.underlying3 (by kernel_rfl) hf with ⟨hcs, hx⟩ | ⟨a, len, cap, zs, hcs, _, hl, hm, hmm, hx, hi, hwf⟩
  · simp [Value.cells] at hcs
    obtain ⟨rfl, rfl, rfl⟩ := hcs
    exact ⟨[], ⟨none, 0, rfl, Nat.le_refl _, by decide, fun i h => by simp at h⟩, fun x hx => by cases hx⟩
  · simp [Value.cells] at hcs
    obtain ⟨rfl, rfl, rfl⟩ := hcs
    simp only [if_true] at hmm
    have hlen : (zs.take n0).length = n0 := by rw [List.length_take]; omega
    refine ⟨zs.take n0, ⟨some a, c0, by rw [hlen], by omega, hm, fun i hin => ?_⟩, fun x hx => hwf x (List.mem_of_mem_take hx)⟩
    rw [hlen] at hin
    have hc := hi i (by omega)
    have hc0 := hi 0 (by omega)
    have hspot : a.spot = none := by
      have h := World.cell?_spot hc0
      simpa [Addr.add] using h
    obtain ⟨b, o, s⟩ := a
    simp only at hspot
    subst hspot
    refine ⟨b, o, rfl, ?_⟩
    have ha : (⟨b, o, none⟩ : Addr).add i = ⟨b, o + i, none⟩ := by
      unfold Addr.add; split
      · subst_vars; rfl
      · rfl
    rw [ha] at hc
    rw [hc, List.getElem_take, List.getD_eq_getElem?_getD, List.getElem?_eq_getElem (by omega)]
    rfl
end Go.Proofs.YtinjhglmakfmkaaGreatDoor
