import Derived.Test.YtmniblcooficgaaGreatDoorProg
import Derived.WalkKit
import Derived.Lib.Hide
import Derived.Lib.ConvBytes
import Derived.BigQuiet
import Derived.Deep.QuietTactic
import Derived.Test.YtmniblcooficgaaGreatDoorD00
namespace Go.Proofs.YtmniblcooficgaaGreatDoor
open Go.RowKit
set_option linter.unusedSimpArgs false
set_option linter.unusedVariables false

theorem below_bytesWorld (w : World) (e : TypeId) (s : ByteArray) : Below w.heap.size w (Lib.bytesWorld w e s) :=
  (Below.refl _ w).trans ⟨rfl, rfl, rfl, by rw [Lib.bytesWorld_size]; omega, fun i hi => Lib.bytesWorld_at_old w e s i (by omega)⟩
theorem below_drewN (w : World) (k : Nat) : Below w.heap.size w (w.drewN k) := by
  induction k with
  | zero => exact Below.refl _ _
  | succ k ih => rw [← World.drew_drewN]; exact ih.drew
theorem bcell {W w1 : World} (hb : Below W.heap.size W w1) : (∀ b o, b < W.heap.size → w1.cell? ⟨b, o, none⟩ = W.cell? ⟨b, o, none⟩) ∧ (∀ b o, b < W.heap.size → w1.frozen? ⟨b, o, none⟩ = W.frozen? ⟨b, o, none⟩) :=
  ⟨fun b o h => hb.cell (p := ⟨b, o, none⟩) h, fun b o h => hb.frozen (p := ⟨b, o, none⟩) h⟩
theorem below_after {w w' : World} {o : Obj} (h : Below (w.alloc o).heap.size (w.alloc o) w') : Below w.heap.size w w' :=
  ((Below.refl _ _).alloc (Nat.le_refl _) _).trans (h.mono (by simp))
structure Three (w : World) (b : Nat) (v0 v1 v2 : Value) : Prop where
  c0 : w.cell? ⟨b, 0, none⟩ = some v0
  c1 : w.cell? ⟨b, 1, none⟩ = some v1
  c2 : w.cell? ⟨b, 2, none⟩ = some v2
  f0 : w.frozen? ⟨b, 0, none⟩ = false
  f1 : w.frozen? ⟨b, 1, none⟩ = false
  f2 : w.frozen? ⟨b, 2, none⟩ = false
  lt : b < w.heap.size
theorem three_new (w : World) (v0 v1 v2 : Value) (t : TypeId) : Three (w.alloc (.cells #[v0, v1, v2] t)) w.heap.size v0 v1 v2 := by
  refine ⟨by simp, by simp, by simp, by simp, by simp, by simp, by simp⟩
theorem Three.below {w w' : World} {b : Nat} {v0 v1 v2 : Value} (h : Three w b v0 v1 v2) (hb : Below w.heap.size w w') : Three w' b v0 v1 v2 := by
  have hlt := h.lt
  refine ⟨?_, ?_, ?_, ?_, ?_, ?_, Nat.lt_of_lt_of_le hlt hb.size⟩
  · rw [hb.cell (p := ⟨b, 0, none⟩) hlt]; exact h.c0
  · rw [hb.cell (p := ⟨b, 1, none⟩) hlt]; exact h.c1
  · rw [hb.cell (p := ⟨b, 2, none⟩) hlt]; exact h.c2
  · rw [hb.frozen (p := ⟨b, 0, none⟩) hlt]; exact h.f0
  · rw [hb.frozen (p := ⟨b, 1, none⟩) hlt]; exact h.f1
  · rw [hb.frozen (p := ⟨b, 2, none⟩) hlt]; exact h.f2
theorem Three.alloc {w : World} {b : Nat} {v0 v1 v2 : Value} (h : Three w b v0 v1 v2) (o : Obj) : Three (w.alloc o) b v0 v1 v2 :=
  h.below ((Below.refl _ _).alloc (Nat.le_refl _) _)
theorem Three.drewN {w : World} {b : Nat} {v0 v1 v2 : Value} (h : Three w b v0 v1 v2) (n : Nat) : Three (w.drewN n) b v0 v1 v2 := h.below (below_drewN w n)
theorem Three.far {w : World} {b : Nat} {v0 v1 v2 : Value} (h : Three w b v0 v1 v2) {a : Addr} (ha : a.block ≠ b) (v : Value) : Three (w.setCell a v) b v0 v1 v2 := by
  obtain ⟨h0, h1, h2, f0, f1, f2, hl⟩ := h
  have hb : (w.setCell a v).heap[b]? = w.heap[b]? := Below.heap_setCell w a v b (Ne.symm ha)
  refine ⟨?_, ?_, ?_, ?_, ?_, ?_, by simp; exact hl⟩
  · exact (World.cell?_of_block (w := w) hb).trans h0
  · exact (World.cell?_of_block (w := w) hb).trans h1
  · exact (World.cell?_of_block (w := w) hb).trans h2
  · exact (World.frozen?_of_block (w := w) hb).trans f0
  · exact (World.frozen?_of_block (w := w) hb).trans f1
  · exact (World.frozen?_of_block (w := w) hb).trans f2
theorem Three.set0 {w : World} {b : Nat} {v0 v1 v2 : Value} (h : Three w b v0 v1 v2) (v : Value) : Three (w.setCell ⟨b, 0, none⟩ v) b v v1 v2 := by
  obtain ⟨h0, h1, h2, f0, f1, f2, hl⟩ := h
  refine ⟨by go_simp, by go_simp, by go_simp, by go_simp, by go_simp, by go_simp, by simp; exact hl⟩
theorem Three.set1 {w : World} {b : Nat} {v0 v1 v2 : Value} (h : Three w b v0 v1 v2) (v : Value) : Three (w.setCell ⟨b, 1, none⟩ v) b v0 v v2 := by
  obtain ⟨h0, h1, h2, f0, f1, f2, hl⟩ := h
  refine ⟨by go_simp, by go_simp, by go_simp, by go_simp, by go_simp, by go_simp, by simp; exact hl⟩
theorem Three.set2 {w : World} {b : Nat} {v0 v1 v2 : Value} (h : Three w b v0 v1 v2) (v : Value) : Three (w.setCell ⟨b, 2, none⟩ v) b v0 v1 v := by
  obtain ⟨h0, h1, h2, f0, f1, f2, hl⟩ := h
  refine ⟨by go_simp, by go_simp, by go_simp, by go_simp, by go_simp, by go_simp, by simp; exact hl⟩
theorem Three.grown {w w' : World} {b : Nat} {v0 v1 v2 : Value} {row : Option Nat} (h : Three w b v0 v1 v2) (hg : w.grownBy w' row) (hne : some b ≠ row) : Three w' b v0 v1 v2 := by
  obtain ⟨h0, h1, h2, f0, f1, f2, hl⟩ := h
  have hb : w'.heap[b]? = w.heap[b]? := hg.block b hl hne
  refine ⟨?_, ?_, ?_, ?_, ?_, ?_, Nat.lt_of_lt_of_le hl hg.size⟩
  · exact (World.cell?_of_block (w := w) hb).trans h0
  · exact (World.cell?_of_block (w := w) hb).trans h1
  · exact (World.cell?_of_block (w := w) hb).trans h2
  · exact (World.frozen?_of_block (w := w) hb).trans f0
  · exact (World.frozen?_of_block (w := w) hb).trans f1
  · exact (World.frozen?_of_block (w := w) hb).trans f2
end Go.Proofs.YtmniblcooficgaaGreatDoor
namespace Go.Proofs.YtmniblcooficgaaGreatDoor
open Go.RowKit Ev5 Go.Maps
set_option linter.unusedSimpArgs false
set_option linter.unusedVariables false

structure GoEv where
  k : Int
  t : ByteArray
  v : ByteArray
def GoEv.ev (x : GoEv) : Ev := ⟨x.k, x.t.data.toList, x.v.data.toList⟩
def evV (x : GoEv) : Value := .agg #[.int .i64 x.k, .string x.t, .string x.v]
def evC (x : GoEv) : Array Value := #[.int .i64 x.k, .string x.t, .string x.v]
def opC (o : Ev5.Op) (m : Nat) : Array Value := #[.int .i64 o.kind, .bool o.key, .bool o.text, .bool o.full, .map (some m)]
def pV (p : Nat × Nat) : Value := .pointer (some ⟨p.1, 0, none⟩)
def ptrs (ps : List (Nat × Nat)) : List Value := (ps.map pV).reverse
def headPtr : List (Nat × Nat) → Value
  | [] => .pointer none
  | p :: _ => pV p

def Opens (w : World) (base : Nat) : List (Nat × Nat) → List Ev5.Op → Prop
  | [], [] => True
  | p :: ps, o :: os => w.heap[p.1]? = some (.cells (opC o p.2) 109 (0, 0)) ∧ Names w Tryz.prog 9 4 p.2 o.had ∧ base ≤ p.1 ∧ base ≤ p.2 ∧ p.1 ∉ ps.map (·.1) ∧ p.2 ∉ ps.map (·.2) ∧ Opens w base ps os
  | _, _ => False
structure Chk (w : World) (base c : Nat) (v : Value) (ps : List (Nat × Nat)) (st : St) : Prop where
  low : base ≤ c
  blk : w.heap[c]? = some (.cells #[v, .bool st.over] 101 (0, 0))
  row : w.ownsRow base 104 1 v ps.length (ptrs ps)
  opens : Opens w base ps st.opn

theorem Names.same {w w' : World} {P : Program} {k e : TypeId} {b : Nat} {ks : List (List UInt8)} (h : Names w P k e b ks) (hb : w'.heap[b]? = w.heap[b]?) : Names w' P k e b ks := by
  obtain ⟨D, ⟨es, clock, h1, h2⟩, h3⟩ := h
  exact ⟨D, ⟨es, clock, hb.trans h1, h2⟩, h3⟩
theorem Names.is_map {w : World} {P : Program} {k e : TypeId} {b : Nat} {ks : List (List UInt8)} (h : Names w P k e b ks) : ∃ es clock, w.heap[b]? = some (.map es clock) := by
  obtain ⟨D, ⟨es, clock, h1, _⟩, _⟩ := h
  exact ⟨es, clock, h1⟩
theorem Opens.same {w w' : World} {base : Nat} : ∀ {ps : List (Nat × Nat)} {os : List Ev5.Op}, Opens w base ps os → (∀ k ∈ ps.map (·.1) ++ ps.map (·.2), w'.heap[k]? = w.heap[k]?) → Opens w' base ps os
  | [], [], h, _ => h
  | p :: ps, o :: os, h, hk => by
    obtain ⟨h1, h2, h3, h4, h5, h6, h7⟩ := h
    refine ⟨(hk p.1 (by simp)).trans h1, h2.same (hk p.2 (by simp)), h3, h4, h5, h6, Opens.same h7 fun k hm => hk k ?_⟩
    simp only [List.map_cons, List.cons_append, List.mem_cons, List.mem_append] at hm ⊢
    rcases hm with hm | hm
    · exact .inr (.inl hm)
    · exact .inr (.inr (.inr hm))
  | [], _ :: _, h, _ => h
  | _ :: _, [], h, _ => h
theorem Opens.len {w : World} {base : Nat} : ∀ {ps : List (Nat × Nat)} {os : List Ev5.Op}, Opens w base ps os → ps.length = os.length
  | [], [], _ => rfl
  | p :: ps, o :: os, h => by have := Opens.len h.2.2.2.2.2.2; simp [this]
  | [], _ :: _, h => h.elim
  | _ :: _, [], h => h.elim
theorem Opens.fst {w : World} {base : Nat} : ∀ {ps : List (Nat × Nat)} {os : List Ev5.Op}, Opens w base ps os → ∀ k ∈ ps.map (·.1), ∃ cs, w.heap[k]? = some (.cells cs 109 (0, 0))
  | p :: ps, o :: os, h, k, hk => by
    rcases List.mem_cons.1 hk with rfl | hk
    · exact ⟨_, h.1⟩
    · exact Opens.fst h.2.2.2.2.2.2 k hk
  | [], [], _, k, hk => by cases hk
  | [], _ :: _, h, _, _ => h.elim
  | _ :: _, [], h, _, _ => h.elim
theorem Opens.snd {w : World} {base : Nat} : ∀ {ps : List (Nat × Nat)} {os : List Ev5.Op}, Opens w base ps os → ∀ k ∈ ps.map (·.2), ∃ es clock, w.heap[k]? = some (.map es clock)
  | p :: ps, o :: os, h, k, hk => by
    rcases List.mem_cons.1 hk with rfl | hk
    · exact h.2.1.is_map
    · exact Opens.snd h.2.2.2.2.2.2 k hk
  | [], [], _, k, hk => by cases hk
  | [], _ :: _, h, _, _ => h.elim
  | _ :: _, [], h, _, _ => h.elim

def mine : Obj → Bool
  | .map _ _ => true
  | .cells _ t _ => t == 101 || t == 109 || t == 104
  | _ => false
def Keeps (w w' : World) : Prop := ∀ (k : Nat) (o : Obj), w.heap[k]? = some o → mine o = false → w'.heap[k]? = some o
theorem Keeps.refl (w : World) : Keeps w w := fun _ _ h _ => h
theorem Keeps.trans {a b c : World} (h : Keeps a b) (k : Keeps b c) : Keeps a c := fun i o hi hm => k i o (h i o hi hm) hm
theorem Keeps.below {w w' : World} (h : Below w.heap.size w w') : Keeps w w' := fun k o hk _ => by
  rw [h.block k (Array.getElem?_eq_some_iff.1 hk).1]; exact hk

theorem lt_blk {w : World} {b : Nat} {o : Obj} (h : w.heap[b]? = some o) : b < w.heap.size := (Array.getElem?_eq_some_iff.1 h).1
theorem Chk.below {w w' : World} {base c : Nat} {v : Value} {ps : List (Nat × Nat)} {st : St} (h : Chk w base c v ps st) (hb : Below w.heap.size w w') : Chk w' base c v ps st := by
  refine ⟨h.low, (hb.block c (lt_blk h.blk)).trans h.blk, ?_, h.opens.same fun k hk => hb.block k ?_⟩
  · exact h.row.kept (row := none) ⟨hb.os, hb.tape, hb.output, hb.size, fun k hk _ => hb.block k hk⟩ (by cases hv : v.ownBlock <;> simp)
  · rcases List.mem_append.1 hk with hk | hk
    · obtain ⟨cs, hc⟩ := h.opens.fst k hk; exact lt_blk hc
    · obtain ⟨es, cl, hc⟩ := h.opens.snd k hk; exact lt_blk hc

theorem blk_cell {w : World} {b : Nat} {cs : Array Value} {t : TypeId} (h : w.heap[b]? = some (.cells cs t (0, 0))) (j : Nat) (hj : j < cs.size) : w.cell? ⟨b, j, none⟩ = some cs[j] ∧ w.frozen? ⟨b, j, none⟩ = false := by
  simp [World.cell?, World.frozen?, h, hj]

theorem check_cells {w : World} {c : Nat} {v : Value} {b : Bool} (h : w.heap[c]? = some (.cells #[v, .bool b] 101 (0, 0))) :
    w.cell? ⟨c, 0, none⟩ = some v ∧ w.cell? ⟨c, 1, none⟩ = some (.bool b) ∧ w.frozen? ⟨c, 0, none⟩ = false ∧ w.frozen? ⟨c, 1, none⟩ = false ∧ c < w.heap.size :=
  ⟨(blk_cell h 0 (by simp)).1, (blk_cell h 1 (by simp)).1, (blk_cell h 0 (by simp)).2, (blk_cell h 1 (by simp)).2, lt_blk h⟩
structure OpenCells (w : World) (b : Nat) (o : Ev5.Op) (m : Nat) : Prop where
  c0 : w.cell? ⟨b, 0, none⟩ = some (.int .i64 o.kind)
  c1 : w.cell? ⟨b, 1, none⟩ = some (.bool o.key)
  c2 : w.cell? ⟨b, 2, none⟩ = some (.bool o.text)
  c3 : w.cell? ⟨b, 3, none⟩ = some (.bool o.full)
  c4 : w.cell? ⟨b, 4, none⟩ = some (.map (some m))
  f0 : w.frozen? ⟨b, 0, none⟩ = false
  f1 : w.frozen? ⟨b, 1, none⟩ = false
  f2 : w.frozen? ⟨b, 2, none⟩ = false
  f3 : w.frozen? ⟨b, 3, none⟩ = false
  f4 : w.frozen? ⟨b, 4, none⟩ = false
  lt : b < w.heap.size
theorem open_cells {w : World} {b m : Nat} {o : Ev5.Op} (h : w.heap[b]? = some (.cells (opC o m) 109 (0, 0))) : OpenCells w b o m :=
  ⟨(blk_cell h 0 (by simp [opC])).1, (blk_cell h 1 (by simp [opC])).1, (blk_cell h 2 (by simp [opC])).1, (blk_cell h 3 (by simp [opC])).1, (blk_cell h 4 (by simp [opC])).1,
   (blk_cell h 0 (by simp [opC])).2, (blk_cell h 1 (by simp [opC])).2, (blk_cell h 2 (by simp [opC])).2, (blk_cell h 3 (by simp [opC])).2, (blk_cell h 4 (by simp [opC])).2, lt_blk h⟩

theorem Chk.slice {w : World} {base c : Nat} {v : Value} {ps : List (Nat × Nat)} {st : St} (h : Chk w base c v ps st) :
    (ps = [] ∧ ∃ a cap, v = .slice a 0 cap) ∨ (∃ p r g cap, ps = p :: r ∧ v = .slice (some ⟨g, 0, none⟩) (r.length + 1) cap ∧ w.cell? ⟨g, r.length, none⟩ = some (pV p) ∧ g < w.heap.size ∧ r.length + 1 ≤ cap) := by
  cases ps with
  | nil =>
    refine .inl ⟨rfl, ?_⟩
    rcases h.row.2 with ⟨rfl, _⟩ | ⟨g, cap, cur, rfl, _⟩
    · exact ⟨_, _, rfl⟩
    · exact ⟨_, _, rfl⟩
  | cons p r =>
    refine .inr ⟨p, r, ?_⟩
    have hrow := h.row
    rcases hrow.2 with ⟨_, h0⟩ | ⟨g, cap, cur, rfl, hb, hg, hc, _⟩
    · simp at h0
    · refine ⟨g, cap, rfl, by simp, ?_, lt_blk hg, by simpa using hc⟩
      have := hrow.cells (g := g) (by simp [Value.ownBlock]) r.length (pV p) (by simp [ptrs])
      have e : (⟨g, 0, none⟩ : Addr).add r.length = ⟨g, r.length, none⟩ := by unfold Addr.add; split <;> simp_all
      rw [← e]; exact this

theorem ev_cells {w : World} {b : Nat} {x : GoEv} (h : w.heap[b]? = some (.cells (evC x) 85 (0, 0))) :
    w.cell? ⟨b, 0, none⟩ = some (.int .i64 x.k) ∧ w.cell? ⟨b, 1, none⟩ = some (.string x.t) ∧ w.cell? ⟨b, 2, none⟩ = some (.string x.v) ∧ b < w.heap.size :=
  ⟨(blk_cell h 0 (by simp [evC])).1, (blk_cell h 1 (by simp [evC])).1, (blk_cell h 2 (by simp [evC])).1, lt_blk h⟩

structure Mv (base : Nat) (w w' : World) : Prop where
  bel : Below base w w'
  keep : Keeps w w'
theorem Mv.refl (base : Nat) (w : World) : Mv base w w := ⟨Below.refl _ _, Keeps.refl _⟩
theorem Mv.trans {base : Nat} {a b c : World} (h : Mv base a b) (k : Mv base b c) : Mv base a c := ⟨h.bel.trans k.bel, h.keep.trans k.keep⟩
theorem Mv.of {base : Nat} {w w' : World} (h : Below w.heap.size w w') (hb : base ≤ w.heap.size) : Mv base w w' := ⟨h.mono hb, Keeps.below h⟩
theorem Chk.base_le {w : World} {base c : Nat} {v : Value} {ps : List (Nat × Nat)} {st : St} (h : Chk w base c v ps st) : base ≤ w.heap.size := by have := h.low; have := lt_blk h.blk; omega

theorem Chk.head {w w' : World} {base c : Nat} {v : Value} {p : Nat × Nat} {r : List (Nat × Nat)} {l l' : Ev5.Op} {os : List Ev5.Op} {ov : Bool} (h : Chk w base c v (p :: r) ⟨l :: os, ov⟩)
    (hg : w.grownBy w' (some p.1)) (hb : w'.heap[p.1]? = some (.cells (opC l' p.2) 109 (0, 0))) (hh : l'.had = l.had) : Chk w' base c v (p :: r) ⟨l' :: os, ov⟩ ∧ Mv base w w' := by
  obtain ⟨h1, h2, h3, h4, h5, h6, h7⟩ := h.opens
  have hmap := h2.is_map
  have other : ∀ k, k < w.heap.size → k ≠ p.1 → w'.heap[k]? = w.heap[k]? := fun k hk hne => hg.block k hk (fun e => hne (by injection e))
  refine ⟨⟨h.low, ?_, ?_, hb, ?_, h3, h4, h5, h6, ?_⟩, ⟨hg.os, hg.tape, hg.output, hg.size, fun k hk => other k (Nat.lt_of_lt_of_le hk h.base_le) (by omega)⟩, ?_⟩
  · rw [other c (lt_blk h.blk) (fun e => by have := h.blk; rw [e, h1] at this; simp at this)]; exact h.blk
  · refine h.row.kept hg ?_
    rcases h.row.2 with ⟨rfl, _⟩ | ⟨g, cap, cur, rfl, _, hgg, _⟩
    · exact .inl rfl
    · exact .inr (by simp [Value.ownBlock]; rintro rfl; rw [h1] at hgg; simp at hgg)
  · rw [hh]
    obtain ⟨es, cl, hm⟩ := hmap
    exact h2.same (other p.2 (lt_blk hm) (fun e => by rw [e, h1] at hm; cases hm))
  · refine h7.same fun k hk => ?_
    rcases List.mem_append.1 hk with hk | hk
    · obtain ⟨cs, hc⟩ := h7.fst k hk
      exact other k (lt_blk hc) (fun e => h5 (e ▸ hk))
    · obtain ⟨es, cl, hc⟩ := h7.snd k hk
      exact other k (lt_blk hc) (fun e => by rw [e, h1] at hc; cases hc)
  · intro k o hk hm
    rw [other k (lt_blk hk) (fun e => by rw [e, h1] at hk; injection hk with hk; rw [← hk] at hm; simp [mine] at hm)]
    exact hk
theorem Chk.named {w w' : World} {base c : Nat} {v : Value} {p : Nat × Nat} {r : List (Nat × Nat)} {l : Ev5.Op} {os : List Ev5.Op} {ov : Bool} {ks : List (List UInt8)} (h : Chk w base c v (p :: r) ⟨l :: os, ov⟩)
    (hg : w.grownBy w' (some p.2)) (hb : Names w' Tryz.prog 9 4 p.2 ks) : Chk w' base c v (p :: r) ⟨{ l with had := ks } :: os, ov⟩ ∧ Mv base w w' := by
  obtain ⟨h1, h2, h3, h4, h5, h6, h7⟩ := h.opens
  obtain ⟨es, cl, hm⟩ := h2.is_map
  have other : ∀ k, k < w.heap.size → k ≠ p.2 → w'.heap[k]? = w.heap[k]? := fun k hk hne => hg.block k hk (fun e => hne (by injection e))
  refine ⟨⟨h.low, ?_, ?_, ?_, hb, h3, h4, h5, h6, ?_⟩, ⟨hg.os, hg.tape, hg.output, hg.size, fun k hk => other k (Nat.lt_of_lt_of_le hk h.base_le) (by omega)⟩, ?_⟩
  · rw [other c (lt_blk h.blk) (fun e => by have := h.blk; rw [e, hm] at this; cases this)]; exact h.blk
  · refine h.row.kept hg ?_
    rcases h.row.2 with ⟨rfl, _⟩ | ⟨g, cap, cur, rfl, _, hgg, _⟩
    · exact .inl rfl
    · exact .inr (by simp [Value.ownBlock]; rintro rfl; rw [hm] at hgg; cases hgg)
  · rw [other p.1 (lt_blk h1) (fun e => by rw [e, hm] at h1; cases h1)]; exact h1
  · refine h7.same fun k hk => ?_
    rcases List.mem_append.1 hk with hk | hk
    · obtain ⟨cs, hc⟩ := h7.fst k hk
      exact other k (lt_blk hc) (fun e => by rw [e, hm] at hc; cases hc)
    · obtain ⟨es, cl, hc⟩ := h7.snd k hk
      exact other k (lt_blk hc) (fun e => h6 (e ▸ hk))
  · intro k o hk hmm
    rw [other k (lt_blk hk) (fun e => by rw [e, hm] at hk; injection hk with hk; rw [← hk] at hmm; simp [mine] at hmm)]
    exact hk
theorem Chk.own {w w' : World} {base c : Nat} {v v' : Value} {ps ps' : List (Nat × Nat)} {st st' : St} (h : Chk w base c v ps st)
    (hg : w.grownBy w' (some c)) (hb : w'.heap[c]? = some (.cells #[v', .bool st'.over] 101 (0, 0))) (hr : w.ownsRow base 104 1 v' ps'.length (ptrs ps')) (ho : Opens w base ps' st'.opn) : Chk w' base c v' ps' st' ∧ Mv base w w' := by
  have other : ∀ k, k < w.heap.size → k ≠ c → w'.heap[k]? = w.heap[k]? := fun k hk hne => hg.block k hk (fun e => hne (by injection e))
  refine ⟨⟨h.low, hb, ?_, ?_⟩, ⟨hg.os, hg.tape, hg.output, hg.size, fun k hk => other k (Nat.lt_of_lt_of_le hk h.base_le) (by have := h.low; omega)⟩, ?_⟩
  · refine hr.kept hg ?_
    rcases hr.2 with ⟨rfl, _⟩ | ⟨g, cap, cur, rfl, _, hgg, _⟩
    · exact .inl rfl
    · exact .inr (by simp [Value.ownBlock]; rintro rfl; rw [h.blk] at hgg; simp at hgg)
  · refine ho.same fun k hk => ?_
    rcases List.mem_append.1 hk with hk | hk
    · obtain ⟨cs, hc⟩ := ho.fst k hk
      exact other k (lt_blk hc) (fun e => by rw [e, h.blk] at hc; simp at hc)
    · obtain ⟨es, cl, hc⟩ := ho.snd k hk
      exact other k (lt_blk hc) (fun e => by rw [e, h.blk] at hc; cases hc)
  · intro k o hk hmm
    rw [other k (lt_blk hk) (fun e => by rw [e, h.blk] at hk; injection hk with hk; rw [← hk] at hmm; simp [mine] at hmm)]
    exact hk
theorem grown_set (W : World) (b i : Nat) (v : Value) : W.grownBy (W.setCell ⟨b, i, none⟩ v) (some b) :=
  ⟨rfl, rfl, rfl, by simp, fun k _ hne => Below.heap_setCell W _ v k (fun e => hne (by rw [e]))⟩
theorem grown_trans {a b c : World} {r : Option Nat} (h : a.grownBy b r) (k : b.grownBy c r) : a.grownBy c r :=
  ⟨k.os.trans h.os, k.tape.trans h.tape, k.output.trans h.output, Nat.le_trans h.size k.size, fun i hi hne => (k.block i (Nat.lt_of_lt_of_le hi h.size) hne).trans (h.block i hi hne)⟩
theorem grown_drew {a b : World} {r : Option Nat} (h : a.grownBy b r) : a.grownBy b.drew r := ⟨h.os, h.tape, h.output, h.size, h.block⟩

set_option maxHeartbeats 1000000 in
theorem last_any (w : World) {base c : Nat} {v : Value} {ps : List (Nat × Nat)} {st : St} (h : Chk w base c v ps st) (h6 : ps.length ≤ 6) :
    Calls Tryz.prog 78 #[.pointer (some ⟨c, 0, none⟩)] w fun e w' => e = .returned (headPtr ps) ∧ Below w.heap.size w w' := by
  obtain ⟨k0, k1, k2, k3, k4⟩ := check_cells h.blk
  rcases h.slice with ⟨rfl, a, cap, rfl⟩ | ⟨p, r, g, cap, rfl, rfl, hc, hg, hcap⟩
  · clear h
    go_enter Tryz.func78, Tryz.ntmps78
    go_wp2
    go_ret
    exact ⟨rfl, Below.refl _ _⟩
  · clear h
    have hr : r.length ≤ 5 := by simpa using h6
    clear h6
    generalize r.length = k at *
    go_enter Tryz.func78, Tryz.ntmps78
    go_wp2
    go_region
    all_goals (try go_wp2)
    all_goals go_ret
    all_goals exact ⟨rfl, (Below.refl _ _).drew⟩

theorem done_any (w : World) {base c : Nat} {v : Value} {ps : List (Nat × Nat)} {st : St} (h : Chk w base c v ps st) :
    Calls Tryz.prog 51 #[.pointer (some ⟨c, 0, none⟩)] w fun e w' => e = .returned (.bool st.done) ∧ w' = w := by
  obtain ⟨k0, k1, k2, k3, k4⟩ := check_cells h.blk
  have hl := h.opens.len
  unfold St.done
  rcases h.slice with ⟨rfl, a, cap, rfl⟩ | ⟨p, r, g, cap, rfl, rfl, _⟩
  · have ho : st.opn.isEmpty = true := by rw [List.isEmpty_iff]; exact List.eq_nil_of_length_eq_zero (by simpa using hl.symm)
    rw [ho]
    clear h hl ho
    generalize st.over = ov at *
    cases ov <;>
    · go_enter Tryz.func51, Tryz.ntmps51
      go_wp2
      go_ret
      exact ⟨rfl, rfl⟩
  · have ho : st.opn.isEmpty = false := by cases e : st.opn with | nil => rw [e] at hl; simp at hl | cons x y => rfl
    rw [ho]
    clear h hl ho
    generalize r.length = n at *
    generalize st.over = ov at *
    cases ov <;>
    · go_enter Tryz.func51, Tryz.ntmps51
      go_wp2
      go_ret
      exact ⟨rfl, rfl⟩
theorem new_any (w : World) :
    Calls Tryz.prog 48 #[] w fun e w' => e = .returned (.pointer (some ⟨w.heap.size, 0, none⟩)) ∧ Below w.heap.size w w' ∧ Chk w' w.heap.size w.heap.size (.slice none 0 0) [] St.new := by
  go_enter Tryz.func48, Tryz.ntmps48
  go_wp2
  go_ret
  exact ⟨rfl, (Below.refl _ _).alloc (Nat.le_refl _) _, Nat.le_refl _, heap_alloc_new w _, World.ownsRow_nil _ _ _ _, trivial⟩

end Go.Proofs.YtmniblcooficgaaGreatDoor
