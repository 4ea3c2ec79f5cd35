/- What the laws of trees share. -/
import Derived.Test.YtinjhglmakfmkaaGreatDoorTrN4
namespace Go.Proofs.YtinjhglmakfmkaaGreatDoor
open Go.RowKit Ev5
set_option linter.unusedSimpArgs false
set_option linter.unusedVariables false

theorem walk_le (x : Nd) : x.walk.length ≤ 2 * x.size := by
  refine Nd.ind (C := fun x => x.walk.length ≤ 2 * x.size) ?_ x
  intro k t v ks ih
  have hk : ∀ (l : List Nd), (∀ y ∈ l, y ∈ ks) → (Nd.walks l).length ≤ 2 * Nd.sizes l := by
    intro l
    induction l with
    | nil => intro _; rw [walks_nil]; simp
    | cons y r ihr =>
      intro h
      rw [walks_cons, sizes_cons, List.length_append]
      have h1 := ih y (h y (by simp))
      have h2 := ihr (fun z hz => h z (by simp [hz]))
      omega
  have hks := hk ks (fun _ h => h)
  rw [walk_mk, size_mk]
  split
  · simp; omega
  · rw [List.length_cons, List.length_append]
    have : (if endK k = 0 then [] else [endEv k]).length ≤ 1 := by split <;> simp
    omega
theorem few_size {x : Nd} (h : 0 ≤ x.few 300 20) : x.size ≤ 300 := by
  have := (few_says x 300 20 (by omega)).2.2 h
  omega
theorem evIn_nil (w : World) : EvIn w (.slice none 0 0) [] := (show EvOwn w 0 (.slice none 0 0) [] from World.ownsRow_nil _ _ _ _).evIn (by simp) (by simp)
/-- What a walk hands back, as a row. -/
theorem WalkPost.row {x : Nd} {w w' : World} {e : Ending} (h : WalkPost x w e w') (hok : x.ok) (hl : x.walk.length ≤ 100000) : ∃ lv : Value, e = .returned (.tuple #[lv, .int .i64 (wholeP RP (x.walk.map GoEv.ev)).2]) ∧ Below w.heap.size w w' ∧ EvIn w' lv (if (wholeP RP (x.walk.map GoEv.ev)).2 = 0 then x.walk else []) := by
  obtain ⟨lv, he, hb, h0, h1⟩ := h
  refine ⟨lv, he, hb, ?_⟩
  split
  · exact (h1 (by assumption)).evIn (walk_ok x hok) (by omega)
  · rw [h0 (by assumption)]; exact evIn_nil _
end Go.Proofs.YtinjhglmakfmkaaGreatDoor
