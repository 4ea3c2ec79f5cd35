/- Small laws on memory: what lies below, blocks of three cells. -/
import Derived.Test.YtaolnpiemeaabaaGreatDoorProg
import Derived.WalkKit
import Derived.Lib.Hide
import Derived.Lib.ConvBytes
import Derived.BigQuiet
import Derived.Deep.QuietTactic
namespace Go.Proofs.YtaolnpiemeaabaaGreatDoor
open Go.RowKit
set_option linter.unusedSimpArgs false
set_option linter.unusedVariables false

theorem below_bytesWorld (w : World) (e : TypeId) (s : ByteArray) : Below w.heap.size w (Lib.bytesWorld w e s) :=
  (Below.refl _ w).trans ⟨rfl, rfl, rfl, by rw [Lib.bytesWorld_size]; omega, fun i hi => Lib.bytesWorld_at_old w e s i (by omega)⟩
theorem drewN_heap (w : World) (k : Nat) : (w.drewN k).heap = w.heap := by
  induction k generalizing w with
  | zero => rfl
  | succ k ih => rw [← World.drew_drewN, ]; simp [ih, World.drew, -World.drew_eq]
theorem below_drewN (w : World) (k : Nat) : Below w.heap.size w (w.drewN k) := by
  induction k with
  | zero => exact Below.refl _ _
  | succ k ih => rw [← World.drew_drewN]; exact ih.drew
theorem bcell {W w1 : World} (hb : Below W.heap.size W w1) : (∀ b o, b < W.heap.size → w1.cell? ⟨b, o, none⟩ = W.cell? ⟨b, o, none⟩) ∧ (∀ b o, b < W.heap.size → w1.frozen? ⟨b, o, none⟩ = W.frozen? ⟨b, o, none⟩) :=
  ⟨fun b o h => hb.cell (p := ⟨b, o, none⟩) h, fun b o h => hb.frozen (p := ⟨b, o, none⟩) h⟩
theorem below_after {w w' : World} {o : Obj} (h : Below (w.alloc o).heap.size (w.alloc o) w') : Below w.heap.size w w' :=
  ((Below.refl _ _).alloc (Nat.le_refl _) _).trans (h.mono (by simp))
theorem below_after2 {w w' : World} {o o' : Obj} (h : Below ((w.alloc o).alloc o').heap.size ((w.alloc o).alloc o') w') : Below w.heap.size w w' :=
  (((Below.refl _ _).alloc (Nat.le_refl _) _).alloc (by simp) _).trans (h.mono (by simp; omega))
structure Three (w : World) (b : Nat) (v0 v1 v2 : Value) : Prop where
  c0 : w.cell? ⟨b, 0, none⟩ = some v0
  c1 : w.cell? ⟨b, 1, none⟩ = some v1
  c2 : w.cell? ⟨b, 2, none⟩ = some v2
  f0 : w.frozen? ⟨b, 0, none⟩ = false
  f1 : w.frozen? ⟨b, 1, none⟩ = false
  f2 : w.frozen? ⟨b, 2, none⟩ = false
  lt : b < w.heap.size
theorem three_new (w : World) (v0 v1 v2 : Value) (t : TypeId) : Three (w.alloc (.cells #[v0, v1, v2] t)) w.heap.size v0 v1 v2 := by
  refine ⟨by simp, by simp, by simp, by simp, by simp, by simp, by simp⟩
theorem Three.below {w w' : World} {b : Nat} {v0 v1 v2 : Value} (h : Three w b v0 v1 v2) (hb : Below w.heap.size w w') : Three w' b v0 v1 v2 := by
  have hlt := h.lt
  refine ⟨?_, ?_, ?_, ?_, ?_, ?_, Nat.lt_of_lt_of_le hlt hb.size⟩
  · rw [hb.cell (p := ⟨b, 0, none⟩) hlt]; exact h.c0
  · rw [hb.cell (p := ⟨b, 1, none⟩) hlt]; exact h.c1
  · rw [hb.cell (p := ⟨b, 2, none⟩) hlt]; exact h.c2
  · rw [hb.frozen (p := ⟨b, 0, none⟩) hlt]; exact h.f0
  · rw [hb.frozen (p := ⟨b, 1, none⟩) hlt]; exact h.f1
  · rw [hb.frozen (p := ⟨b, 2, none⟩) hlt]; exact h.f2
theorem Three.alloc {w : World} {b : Nat} {v0 v1 v2 : Value} (h : Three w b v0 v1 v2) (o : Obj) : Three (w.alloc o) b v0 v1 v2 :=
  h.below ((Below.refl _ _).alloc (Nat.le_refl _) _)
theorem Three.drewN {w : World} {b : Nat} {v0 v1 v2 : Value} (h : Three w b v0 v1 v2) (n : Nat) : Three (w.drewN n) b v0 v1 v2 := h.below (below_drewN w n)
theorem Three.far {w : World} {b : Nat} {v0 v1 v2 : Value} (h : Three w b v0 v1 v2) {a : Addr} (ha : a.block ≠ b) (v : Value) : Three (w.setCell a v) b v0 v1 v2 := by
  obtain ⟨h0, h1, h2, f0, f1, f2, hl⟩ := h
  have hb : (w.setCell a v).heap[b]? = w.heap[b]? := Below.heap_setCell w a v b (Ne.symm ha)
  refine ⟨?_, ?_, ?_, ?_, ?_, ?_, by simp; exact hl⟩
  · exact (World.cell?_of_block (w := w) hb).trans h0
  · exact (World.cell?_of_block (w := w) hb).trans h1
  · exact (World.cell?_of_block (w := w) hb).trans h2
  · exact (World.frozen?_of_block (w := w) hb).trans f0
  · exact (World.frozen?_of_block (w := w) hb).trans f1
  · exact (World.frozen?_of_block (w := w) hb).trans f2
theorem Three.set0 {w : World} {b : Nat} {v0 v1 v2 : Value} (h : Three w b v0 v1 v2) (v : Value) : Three (w.setCell ⟨b, 0, none⟩ v) b v v1 v2 := by
  obtain ⟨h0, h1, h2, f0, f1, f2, hl⟩ := h
  refine ⟨by go_simp, by go_simp, by go_simp, by go_simp, by go_simp, by go_simp, by simp; exact hl⟩
theorem Three.set1 {w : World} {b : Nat} {v0 v1 v2 : Value} (h : Three w b v0 v1 v2) (v : Value) : Three (w.setCell ⟨b, 1, none⟩ v) b v0 v v2 := by
  obtain ⟨h0, h1, h2, f0, f1, f2, hl⟩ := h
  refine ⟨by go_simp, by go_simp, by go_simp, by go_simp, by go_simp, by go_simp, by simp; exact hl⟩
theorem Three.set2 {w : World} {b : Nat} {v0 v1 v2 : Value} (h : Three w b v0 v1 v2) (v : Value) : Three (w.setCell ⟨b, 2, none⟩ v) b v0 v1 v := by
  obtain ⟨h0, h1, h2, f0, f1, f2, hl⟩ := h
  refine ⟨by go_simp, by go_simp, by go_simp, by go_simp, by go_simp, by go_simp, by simp; exact hl⟩
theorem Three.grown {w w' : World} {b : Nat} {v0 v1 v2 : Value} {row : Option Nat} (h : Three w b v0 v1 v2) (hg : w.grownBy w' row) (hne : some b ≠ row) : Three w' b v0 v1 v2 := by
  obtain ⟨h0, h1, h2, f0, f1, f2, hl⟩ := h
  have hb : w'.heap[b]? = w.heap[b]? := hg.block b hl hne
  refine ⟨?_, ?_, ?_, ?_, ?_, ?_, Nat.lt_of_lt_of_le hl hg.size⟩
  · exact (World.cell?_of_block (w := w) hb).trans h0
  · exact (World.cell?_of_block (w := w) hb).trans h1
  · exact (World.cell?_of_block (w := w) hb).trans h2
  · exact (World.frozen?_of_block (w := w) hb).trans f0
  · exact (World.frozen?_of_block (w := w) hb).trans f1
  · exact (World.frozen?_of_block (w := w) hb).trans f2
end Go.Proofs.YtaolnpiemeaabaaGreatDoor
