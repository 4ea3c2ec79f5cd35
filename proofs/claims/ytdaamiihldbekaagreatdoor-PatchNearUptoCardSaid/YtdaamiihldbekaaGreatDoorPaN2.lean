import Derived.Test.YtdaamiihldbekaaGreatDoorPaN1
import Derived.Deep.RegionHeld3
import Derived.Deep.QuietTactic
import Derived.BigQuiet
/- What is done to a node: the closures of replace, test, rename, add and remove. -/
namespace Go.Proofs.YtdaamiihldbekaaGreatDoor
open Go.RowKit Ev5
set_option linter.unusedSimpArgs false
set_option linter.unusedVariables false

/-- An operation's cells: its place's slice pv, its node's kids' slice u. -/
def opL (o : GoOp) (pv u : Value) : Array Value := #[.int .i64 o.k, pv, .int .i64 o.node.k, .string o.node.t, .string o.node.v, u, .string o.t]
structure OpCells (w : World) (X : Nat) (o : GoOp) (pv u : Value) : Prop where
  c0 : w.cell? ⟨X, 0, none⟩ = some (.int .i64 o.k)
  c1 : w.cell? ⟨X, 1, none⟩ = some pv
  c2 : w.cell? ⟨X, 2, none⟩ = some (.int .i64 o.node.k)
  c3 : w.cell? ⟨X, 3, none⟩ = some (.string o.node.t)
  c4 : w.cell? ⟨X, 4, none⟩ = some (.string o.node.v)
  c5 : w.cell? ⟨X, 5, none⟩ = some u
  c6 : w.cell? ⟨X, 6, none⟩ = some (.string o.t)
  lt : X < w.heap.size
theorem op_cells {w : World} {X : Nat} {o : GoOp} {pv u : Value} (h : w.heap[X]? = some (.cells (opL o pv u) 45 (0, 0))) : OpCells w X o pv u := by
  have c : ∀ j u', (opL o pv u)[j]? = some u' → w.cell? ⟨X, j, none⟩ = some u' := fun j u' hu => by rw [cell_of_row w X j _ _ _ h]; exact hu
  exact ⟨c 0 _ rfl, c 1 _ rfl, c 2 _ rfl, c 3 _ rfl, c 4 _ rfl, c 5 _ rfl, c 6 _ rfl, lt_blk h⟩
/-- A node is written over. -/
theorem np_fill {w : World} {B g o : Nat} {m : Nd} (h : Np w B g o m) (k : Int) (t v : ByteArray) (u : Value) (ks : List Nd) (hs : SlIn w (fun b => b ≠ g ∧ b ≠ B) u ks) :
    Far w ((((w.setCell ⟨g, o, none⟩ (.int .i64 k)).setCell ⟨g, o + 1, none⟩ (.string t)).setCell ⟨g, o + 2, none⟩ (.string v)).setCell ⟨g, o + 3, none⟩ u) g o ∧
    NdAt ((((w.setCell ⟨g, o, none⟩ (.int .i64 k)).setCell ⟨g, o + 1, none⟩ (.string t)).setCell ⟨g, o + 2, none⟩ (.string v)).setCell ⟨g, o + 3, none⟩ u) (fun b => b ≠ B) g o (.mk k t v ks) := by
  obtain ⟨cs, ty, hg, hz⟩ := h.blk
  have hf : Far w ((((w.setCell ⟨g, o, none⟩ (.int .i64 k)).setCell ⟨g, o + 1, none⟩ (.string t)).setCell ⟨g, o + 2, none⟩ (.string v)).setCell ⟨g, o + 3, none⟩ u) g o :=
    (((Far.store (by omega) (by omega)).trans (Far.store (by omega) (by omega))).trans (Far.store (by omega) (by omega))).trans (Far.store (by omega) (by omega))
  refine ⟨hf, ?_⟩
  have h4 := blk_set (j := o + 3) (y := u) (blk_set (j := o + 2) (y := .string v) (blk_set (j := o + 1) (y := .string t) (blk_set (j := o) (y := .int .i64 k) hg)))
  have c : ∀ j u', ((((cs.setIfInBounds o (.int .i64 k)).setIfInBounds (o + 1) (.string t)).setIfInBounds (o + 2) (.string v)).setIfInBounds (o + 3) u)[j]? = some u' → ((((w.setCell ⟨g, o, none⟩ (.int .i64 k)).setCell ⟨g, o + 1, none⟩ (.string t)).setCell ⟨g, o + 2, none⟩ (.string v)).setCell ⟨g, o + 3, none⟩ u).cell? ⟨g, j, none⟩ = some u' := fun j u' hu => by
    rw [cell_of_row _ g j _ _ _ h4]; exact hu
  refine ndAt_iff.2 ⟨c _ _ ?_, c _ _ ?_, c _ _ ?_, u, c _ _ ?_, ?_⟩
  · rw [Array.getElem?_setIfInBounds_ne (by omega), Array.getElem?_setIfInBounds_ne (by omega), Array.getElem?_setIfInBounds_ne (by omega), Array.getElem?_setIfInBounds_self_of_lt (by omega)]
    rfl
  · rw [Array.getElem?_setIfInBounds_ne (by omega), Array.getElem?_setIfInBounds_ne (by omega), Array.getElem?_setIfInBounds_self_of_lt (by simp; omega)]
    rfl
  · rw [Array.getElem?_setIfInBounds_ne (by omega), Array.getElem?_setIfInBounds_self_of_lt (by simp; omega)]
    rfl
  · rw [Array.getElem?_setIfInBounds_self_of_lt (by simp; omega)]
  · exact hs.alike ⟨hf.size, fun b hb hl => hf.oth b hl hb.1⟩ fun b hb _ => hb.2

set_option maxRecDepth 100000 in
set_option maxHeartbeats 8000000 in
theorem replace1_any (w : World) (B g o X : Nat) (m : Nd) (op : GoOp) (pv u : Value) (hN : Np w B g o m) (hX : w.heap[X]? = some (.cells (opL op pv u) 45 (0, 0))) (hXg : X ≠ g) (S : Nat → Prop) (hs : SlIn w S u op.node.kids) (hsz : op.node.size ≤ 1048576) :
    Calls Tryz.prog 98 #[.pointer (some ⟨g, o, none⟩), .pointer (some ⟨X, 0, none⟩)] w (DoPost B g o (op.node, 0) w) := by
  obtain ⟨a0, n0, rfl, _, hm0⟩ := hs.shape
  obtain ⟨x0, x1, x2, x3, x4, x5, x6, hxl⟩ := op_cells hX
  have HN := Lib.hid hN; have HS := Lib.hid hs
  have hkl : op.node.kids.length ≤ 1048576 := by have := kids_size op.node; have := sizes_len op.node.kids; omega
  have hks : Nd.sizes op.node.kids ≤ 1048576 := by have := kids_size op.node; omega
  clear hN hs hX hsz
  go_enter Tryz.func98, Tryz.ntmps98
  go_wp2_with fail
  refine (copy_any op.node w _ _ ⟨_, rfl, HS.out⟩ hkl hks).mono ?_
  rintro e w2 ⟨a, c, rfl, hsl, hb⟩
  have hn2 := HN.out.below hb
  obtain ⟨_, _, ⟨y0, y1, y2, y3, z0, z1, z2, z3, hgl⟩, _⟩ := hn2.cells
  have hlo := HN.out.lo
  have hgw : g < w.heap.size := by obtain ⟨cs, ty, hg, _⟩ := HN.out.blk; exact lt_blk hg
  have HF := Lib.hid (np_fill hn2 op.node.k op.node.t op.node.v (.slice a op.node.kids.length c) op.node.kids (hsl.alike ⟨Nat.le_refl _, fun _ _ _ => rfl⟩ fun b hb _ => ⟨by omega, by omega⟩))
  have HB := Lib.hid hb
  clear hn2 hsl hb x0 x1 x2 x3 x4 x5 x6
  go_wp2_with fail
  go_ret
  refine ⟨rfl, (Far.of HB.out g o).trans HF.out.1, fun _ => ?_⟩
  have := HF.out.2
  rwa [nd_eta] at this

set_option maxRecDepth 100000 in
set_option maxHeartbeats 8000000 in
theorem test1_any (w : World) (B g o X : Nat) (m : Nd) (op : GoOp) (pv u : Value) (hN : Np w B g o m) (hX : w.heap[X]? = some (.cells (opL op pv u) 45 (0, 0))) (S : Nat → Prop) (hs : SlIn w S u op.node.kids) (r : Nd × Int) (hr : (m = op.node → r = (m, 0)) ∧ (m ≠ op.node → r = (m, 31))) :
    Calls Tryz.prog 99 #[.pointer (some ⟨g, o, none⟩), .pointer (some ⟨X, 0, none⟩)] w (DoPost B g o r w) := by
  obtain ⟨a0, n0, rfl, _, hm0⟩ := hs.shape
  have HX := Lib.hid (show ∀ w', Below w.heap.size w w' → OpCells w' X op pv (.slice a0 op.node.kids.length n0) from fun w' hb => op_cells ((hb.block _ (lt_blk hX)).trans hX))
  obtain ⟨ka, kc, hcc, hks, hkc, hkm⟩ := hN.cells
  have HC := Lib.hid (show ∀ w', Below w.heap.size w w' → NpCells w' g o m.k m.t m.v (.slice ka m.kids.length kc) from fun w' hb => by
    obtain ⟨c0, c1, c2, c3, f0, f1, f2, f3, hl⟩ := hcc
    exact ⟨by rw [hb.cell (p := ⟨g, o, none⟩) hl]; exact c0, by rw [hb.cell (p := ⟨g, o + 1, none⟩) hl]; exact c1, by rw [hb.cell (p := ⟨g, o + 2, none⟩) hl]; exact c2, by rw [hb.cell (p := ⟨g, o + 3, none⟩) hl]; exact c3,
      by rw [hb.frozen (p := ⟨g, o, none⟩) hl]; exact f0, by rw [hb.frozen (p := ⟨g, o + 1, none⟩) hl]; exact f1, by rw [hb.frozen (p := ⟨g, o + 2, none⟩) hl]; exact f2, by rw [hb.frozen (p := ⟨g, o + 3, none⟩) hl]; exact f3, Nat.lt_of_lt_of_le hl hb.size⟩)
  have HN := Lib.hid hN; have HS := Lib.hid hs; have HR := Lib.hid hr; have HKS := Lib.hid hks
  obtain ⟨x0, x1, x2, x3, x4, x5, x6, hxl⟩ := HX.out _ (Below.refl _ _).drew
  obtain ⟨c0, c1, c2, c3, f0, f1, f2, f3, hgl⟩ := HC.out _ (Below.refl _ _).drew
  clear hN hs hX hcc hks hr
  go_enter Tryz.func99, Tryz.ntmps99
  go_upto_region 1 with (fail)
  go_region_law ((go_simp; go_at_call 65; refine (same_any m w.drew _ _ _ _ op.node ⟨_, rfl, HKS.out.below (Below.refl _ _).drew⟩ ⟨_, rfl, HS.out.below (Below.refl _ _).drew⟩).mono ?_; rintro e w2 ⟨q, rfl, hq, hb⟩))
  all_goals
    have HB := Lib.hid ((Below.refl w.heap.size w).drew.trans hb)
    have HQ := Lib.hid hq
    clear hb hq
    cases q
    · go_wp2_with fail
      go_ret
      rw [HR.out.2 fun h => absurd (HQ.out.2 h) (by simp)]
      exact ⟨rfl, Far.of HB.out _ _, fun h => by cases h⟩
    · go_wp2_with fail
      go_ret
      rw [HR.out.1 (HQ.out.1 (by trivial))]
      exact ⟨rfl, Far.of HB.out _ _, fun _ => ndAt_alike (alike_below HB.out) (fun b h _ => h.2) m g o (HB.out.block _ (by obtain ⟨cs, ty, hg, _⟩ := HN.out.blk; exact lt_blk hg)) HN.out.nd⟩

set_option maxRecDepth 100000 in
set_option maxHeartbeats 8000000 in
theorem rename1_any (w : World) (B g o X : Nat) (m : Nd) (op : GoOp) (pv u : Value) (hN : Np w B g o m) (hX : w.heap[X]? = some (.cells (opL op pv u) 45 (0, 0))) (hXg : X ≠ g) :
    Calls Tryz.prog 100 #[.pointer (some ⟨g, o, none⟩), .pointer (some ⟨X, 0, none⟩)] w (DoPost B g o (if m.k = 8 ∨ m.k = 10 ∨ m.k = 11 then (.mk m.k op.t m.v m.kids, 0) else (m, 22)) w) := by
  obtain ⟨x0, x1, x2, x3, x4, x5, x6, hxl⟩ := op_cells hX
  obtain ⟨ka, kc, ⟨c0, c1, c2, c3, f0, f1, f2, f3, hgl⟩, hks, hkc, hkm⟩ := hN.cells
  have HNN := Lib.hid (show Far w (w.setCell ⟨g, o + 1, none⟩ (.string op.t)) g o ∧ NdAt (w.setCell ⟨g, o + 1, none⟩ (.string op.t)) (fun b => b ≠ B) g o (.mk m.k op.t m.v m.kids) from by
    obtain ⟨cs, ty, hg, hz⟩ := hN.blk
    have hf : Far w (w.setCell ⟨g, o + 1, none⟩ (.string op.t)) g o := Far.store (by omega) (by omega)
    refine ⟨hf, ndAt_iff.2 ⟨?_, ?_, ?_, _, ?_, hks.alike ⟨hf.size, fun b hb hl => hf.oth b hl hb.1⟩ fun b hb _ => hb.2⟩⟩
    · rw [cell_set_ne hg (by omega)]; exact c0
    · exact cell_set_same hg (by omega)
    · rw [cell_set_ne hg (by omega)]; exact c2
    · rw [cell_set_ne hg (by omega)]; exact c3)
  obtain ⟨r, hr⟩ : ∃ r, (if m.k = 8 ∨ m.k = 10 ∨ m.k = 11 then ((.mk m.k op.t m.v m.kids, 0) : Nd × Int) else (m, 22)) = r := ⟨_, rfl⟩
  rw [hr]
  have HR := Lib.hid hr
  clear hr hN hX hks
  obtain ⟨K, hK⟩ : ∃ K, m.k = K := ⟨_, rfl⟩
  rw [hK] at c0
  have HK := Lib.hid hK
  clear hK
  have fin1 : K = 8 ∨ K = 10 ∨ K = 11 → Calls Tryz.prog 100 #[.pointer (some ⟨g, o, none⟩), .pointer (some ⟨X, 0, none⟩)] w (DoPost B g o r w) := by
    intro h
    have HO := Lib.hid (show DoPost B g o r w (.returned (.int .i64 0)) (w.setCell ⟨g, o + 1, none⟩ (.string op.t)) from by
      rw [← HR.out, HK.out, if_pos h]
      exact ⟨rfl, HNN.out.1, fun _ => by have := HNN.out.2; rwa [HK.out] at this⟩)
    rcases h with rfl | rfl | rfl
    all_goals
      go_enter Tryz.func100, Tryz.ntmps100
      go_wp2_with fail
      go_ret
      exact HO.out
  by_cases h : K = 8 ∨ K = 10 ∨ K = 11
  · exact fin1 h
  · have HO := Lib.hid (show DoPost B g o r w (.returned (.int .i64 22)) w from by
      rw [← HR.out, HK.out, if_neg h]
      exact ⟨rfl, far_refl _ _ _, fun h => by cases h⟩)
    have h1 : (K != 8) = true := by simp; omega
    have h2 : (K != 10) = true := by simp; omega
    have h3 : (K != 11) = true := by simp; omega
    have h4 : ¬ K = 8 := by omega
    have h5 : ¬ K = 10 := by omega
    have h6 : ¬ K = 11 := by omega
    clear fin1 h
    go_enter Tryz.func100, Tryz.ntmps100
    go_wp2_with fail
    go_ret
    exact HO.out
end Go.Proofs.YtdaamiihldbekaaGreatDoor

/- What is done within a node: the closures of add and remove; the walk of (*work).within. -/
namespace Go.Proofs.YtdaamiihldbekaaGreatDoor
open Go.RowKit Ev5
set_option linter.unusedSimpArgs false
set_option linter.unusedVariables false

/-- A node whose kids' row is new. -/
structure Mine (wa w : World) (B g o : Nat) (m : Nd) (v : Value) (ps : List (Nd × Value)) : Prop where
  far : Far wa w g o
  np : Np wa B g o m
  cells : NpCells w g o m.k m.t m.v v
  own : w.ownsRow wa.heap.size 24 4 v ps.length (ndRow ps)
  map : ps.map (·.1) = m.kids
  kids : ∀ p ∈ ps, SlIn wa (fun b => b ≠ g ∧ b ≠ B) p.2 p.1.kids
theorem Mine.below {wa w w' : World} {B g o : Nat} {m : Nd} {v : Value} {ps : List (Nd × Value)} (h : Mine wa w B g o m v ps) (hb : Below w.heap.size w w') : Mine wa w' B g o m v ps := by
  obtain ⟨c0, c1, c2, c3, f0, f1, f2, f3, hl⟩ := h.cells
  exact ⟨h.far.trans (Far.of hb g o), h.np, ⟨by rw [hb.cell (p := ⟨g, o, none⟩) hl]; exact c0, by rw [hb.cell (p := ⟨g, o + 1, none⟩) hl]; exact c1, by rw [hb.cell (p := ⟨g, o + 2, none⟩) hl]; exact c2, by rw [hb.cell (p := ⟨g, o + 3, none⟩) hl]; exact c3,
      by rw [hb.frozen (p := ⟨g, o, none⟩) hl]; exact f0, by rw [hb.frozen (p := ⟨g, o + 1, none⟩) hl]; exact f1, by rw [hb.frozen (p := ⟨g, o + 2, none⟩) hl]; exact f2, by rw [hb.frozen (p := ⟨g, o + 3, none⟩) hl]; exact f3, Nat.lt_of_lt_of_le hl hb.size⟩,
    h.own.kept (row := none) ⟨hb.os, hb.tape, hb.output, hb.size, fun k hk _ => hb.block k hk⟩ (by cases hv : v.ownBlock <;> simp), h.map, h.kids⟩
/-- A function value that does something to such a node's kids. -/
def InOf (w0 : World) (B N : Nat) (F : Nat) (caps : Array Value) (h : List Nd → Nat → List Nd) (more : Nat) : Prop := ∀ (wa w : World) (g o : Nat) (m : Nd) (v : Value) (ps : List (Nd × Value)) (i : Nat), Far w0 wa B 0 → Mine wa w B g o m v ps → m.size ≤ N → i < m.kids.length + more → ((g = B ∧ o = 0) ∨ w0.heap.size ≤ g) →
  Calls Tryz.prog F (#[.pointer (some ⟨g, o, none⟩), .int .i64 i] ++ caps) w fun e w' => (∃ r, e = .returned r) ∧ Far wa w' g o ∧ NdAt w' (fun b => b ≠ B) g o (.mk m.k m.t m.v (h m.kids i))
/-- Another row is laid in the node. -/
theorem Mine.done {wa w w1 : World} {B g o : Nat} {m : Nd} {v v' : Value} {ps qs : List (Nd × Value)} (h : Mine wa w B g o m v ps) (hg1 : w.grownBy w1 v.ownBlock) (hown : w1.ownsRow wa.heap.size 24 4 v' qs.length (ndRow qs))
    (hq : ∀ p ∈ qs, SlIn w1 (fun b => b ≠ g ∧ b ≠ B) p.2 p.1.kids) :
    Far wa (w1.setCell ⟨g, o + 3, none⟩ v') g o ∧ NdAt (w1.setCell ⟨g, o + 3, none⟩ v') (fun b => b ≠ B) g o (.mk m.k m.t m.v (qs.map (·.1))) := by
  obtain ⟨cs, ty, hg, hz⟩ := h.np.blk
  have hgl := lt_blk hg
  have hlo := h.np.lo
  have hvo : ∀ q, v.ownBlock = some q → wa.heap.size ≤ q := fun q hq => (h.own.lt q hq).1
  have hf1 : Far wa w1 g o := h.far.grown hgl hg1 hvo
  obtain ⟨c1, hc1, hz1, hj1⟩ := hf1.row cs ty hg
  have hf2 : Far wa (w1.setCell ⟨g, o + 3, none⟩ v') g o := hf1.trans (Far.store (by omega) (by omega))
  refine ⟨hf2, ?_⟩
  have hcell : ∀ j u, j ≠ o + 3 → w.cell? ⟨g, j, none⟩ = some u → (w1.setCell ⟨g, o + 3, none⟩ v').cell? ⟨g, j, none⟩ = some u := fun j u hj hu => by
    rw [cell_set_ne hc1 hj]
    exact hg1.cell hu (fun e => by have := hvo g e.symm; omega)
  have hk : SlIn w1 (fun b => b ≠ g ∧ b ≠ B) v' (qs.map (·.1)) := by
    rcases hown.2 with ⟨rfl, h0⟩ | ⟨g2, cap, cur, rfl, hb2, hg2, hc, hm, hs, ht⟩
    · obtain rfl : qs = [] := List.eq_nil_of_length_eq_zero h0
      exact ⟨none, 0, rfl, Nat.le_refl _, by decide, .inl rfl⟩
    · refine ⟨some ⟨g2, 0, none⟩, cap, by rw [List.length_map], by rw [List.length_map]; exact hc, hm, .inr ⟨g2, 0, rfl, ⟨by omega, by omega⟩, lt_blk hg2, kidsIn_iff.2 fun i hi => ?_⟩⟩
      have hi' : i < qs.length := by rw [List.length_map] at hi; exact hi
      obtain ⟨r0, r1, r2, r3⟩ := owns_cells (w := w) (base := 0) (g := g2) (cap := cap) ht i hi'
      have cc : ∀ j u, cur[j]? = some u → w1.cell? ⟨g2, j, none⟩ = some u := fun j u hu => by rw [cell_of_row w1 g2 j _ _ _ hg2]; exact hu
      rw [List.getElem_map, Nat.zero_add]
      exact ndAt_iff.2 ⟨cc _ _ r0, cc _ _ r1, cc _ _ r2, _, cc _ _ r3, hq _ (List.getElem_mem hi')⟩
  refine ndAt_iff.2 ⟨hcell _ _ (by omega) h.cells.c0, hcell _ _ (by omega) h.cells.c1, hcell _ _ (by omega) h.cells.c2, v', cell_set_same hc1 (by omega), ?_⟩
  exact hk.alike ⟨by simp, fun b hb _ => set_other hb.1⟩ fun b hb _ => hb.2
theorem Mine.len {wa w : World} {B g o : Nat} {m : Nd} {v : Value} {ps : List (Nd × Value)} (h : Mine wa w B g o m v ps) : ps.length = m.kids.length := by rw [← h.map, List.length_map]
theorem Mine.shape {wa w : World} {B g o : Nat} {m : Nd} {v : Value} {ps : List (Nd × Value)} (h : Mine wa w B g o m v ps) : ∃ a cap, v = .slice a m.kids.length cap ∧ m.kids.length ≤ cap ∧ cap ≤ maxLen := by
  rw [← h.len]
  rcases h.own.2 with ⟨rfl, h0⟩ | ⟨g, cap, cur, rfl, _, _, h6, h7, _⟩
  · exact ⟨none, 0, by rw [h0], by omega, by decide⟩
  · exact ⟨_, _, rfl, h6, h7⟩
theorem Mine.kept {wa w w1 : World} {B g o : Nat} {m : Nd} {v : Value} {ps : List (Nd × Value)} (h : Mine wa w B g o m v ps) (hg1 : w.grownBy w1 v.ownBlock) : ∀ p ∈ ps, SlIn w1 (fun b => b ≠ g ∧ b ≠ B) p.2 p.1.kids := fun p hp => by
  obtain ⟨cs, ty, hg, hz⟩ := h.np.blk
  have hf1 : Far wa w1 g o := h.far.grown (lt_blk hg) hg1 fun q hq => (h.own.lt q hq).1
  exact (h.kids p hp).alike ⟨hf1.size, fun b hb hl => hf1.oth b hl hb.1⟩ fun b hb _ => hb
def delK (l : List Nd) (i : Nat) : List Nd := l.take i ++ l.drop (i + 1)
def insK (x : Nd) (l : List Nd) (i : Nat) : List Nd := l.take i ++ x :: l.drop i

set_option maxRecDepth 100000 in
set_option maxHeartbeats 8000000 in
theorem remove1_any (w0 : World) (B N : Nat) (hN : N ≤ 1048576) : InOf w0 B N 95 #[] delK 0 := by
  intro wa w g o m v ps i hfar hM hms hi hg
  obtain ⟨a, cap, rfl, hc, hm⟩ := hM.shape
  obtain ⟨c0, c1, c2, c3, f0, f1, f2, f3, hgl⟩ := hM.cells
  have HM := Lib.hid hM
  have hpl := hM.len
  have hone : ∀ p ∈ ps, p.2.oneCell' = true := fun p hp => (hM.kids p hp).one
  have hD := deleteN_any w wa.heap.size _ ps i hM.own (by omega) hone
  have HD := Lib.hid hD
  have hkl : m.kids.length ≤ 1048576 := by have := kids_size m; have := sizes_len m.kids; omega
  clear hM hone hD
  show Calls _ _ #[_, _] _ _
  go_enter Tryz.func95, Tryz.ntmps95
  go_wp2_with fail
  refine HD.out.mono ?_
  rintro e w1 ⟨v', rfl, hown, hgr, hat⟩
  have hfn := HM.out.done hgr hown fun p hp => HM.out.kept hgr p (by
    rcases List.mem_append.1 hp with hp | hp
    · exact List.mem_of_mem_take hp
    · exact List.mem_of_mem_drop hp)
  have HFN := Lib.hid (show Far wa (w1.setCell ⟨g, o + 3, none⟩ v') g o ∧ NdAt (w1.setCell ⟨g, o + 3, none⟩ v') (fun b => b ≠ B) g o (.mk m.k m.t m.v (delK m.kids i)) from by
    rw [List.map_append, List.map_take, List.map_drop, HM.out.map] at hfn; exact hfn)
  have hf1 : Far wa w1 g o := by
    obtain ⟨cs, ty, hg, hz⟩ := HM.out.np.blk
    exact HM.out.far.grown (lt_blk hg) hgr fun q hq => (HM.out.own.lt q hq).1
  have hcell : w1.cell? ⟨g, o + 3, none⟩ ≠ none ∧ w1.frozen? ⟨g, o + 3, none⟩ = false ∧ g < w1.heap.size := by
    obtain ⟨cs, ty, hg, hz⟩ := HM.out.np.blk
    obtain ⟨c1, h1, z1, _⟩ := hf1.row cs ty hg
    have := blk_cell h1 (o + 3) (by omega)
    exact ⟨by rw [this.1]; simp, this.2, lt_blk h1⟩
  obtain ⟨hc1, hf3, hgl1⟩ := hcell
  obtain ⟨u3, hu3⟩ := Option.ne_none_iff_exists'.1 hc1
  have hsh : ∃ a' n' c', v' = .slice a' n' c' := by
    rcases hown.2 with ⟨rfl, _⟩ | ⟨_, _, _, rfl, _⟩
    · exact ⟨_, _, _, rfl⟩
    · exact ⟨_, _, _, rfl⟩
  obtain ⟨a', n', c', rfl⟩ := hsh
  clear hfn hf1 hown hgr hat hc1 c0 c1 c2 c3 f0 f1 f2 f3 hgl
  go_wp2_with fail
  go_end0
  exact ⟨⟨_, rfl⟩, HFN.out⟩

set_option maxRecDepth 100000 in
set_option maxHeartbeats 8000000 in
theorem add1_any (w0 : World) (B N X : Nat) (op : GoOp) (pv u : Value) (hN : N ≤ 1048576) (hX : w0.heap[X]? = some (.cells (opL op pv u) 45 (0, 0))) (hXB : X ≠ B) (hs : SlIn w0 (fun b => b < B) u op.node.kids) (hsz : op.node.size ≤ 1048576) (hB : B < w0.heap.size) :
    InOf w0 B N 93 #[.pointer (some ⟨X, 0, none⟩)] (insK op.node) 1 := by
  intro wa w g o m v ps i hfar hM hms hi hg
  obtain ⟨a, cap, rfl, hc, hm⟩ := hM.shape
  have hXl := lt_blk hX
  have hgwa : g < wa.heap.size := by obtain ⟨cs, ty, h, _⟩ := hM.np.blk; exact lt_blk h
  have hXg : X ≠ g := by rcases hg with ⟨rfl, _⟩ | h; exact hXB; omega
  have hws := hfar.size
  have hwX : w.heap[X]? = some (.cells (opL op pv u) 45 (0, 0)) := (hM.far.oth X (by omega) hXg).trans ((hfar.oth X hXl hXB).trans hX)
  have hss : SlIn w (fun b => b < B) u op.node.kids := (hs.alike (S' := fun b => b < B) ⟨hfar.size, fun b hb hl => hfar.oth b hl (by omega)⟩ fun b h _ => h).alike ⟨hM.far.size, fun b hb hl => hM.far.oth b hl (by have := hM.np.lo; omega)⟩ fun b h _ => h
  obtain ⟨a0, n0, rfl, _, hm0⟩ := hss.shape
  have hpl := hM.len
  have hkl : m.kids.length ≤ 1048576 := by have := kids_size m; have := sizes_len m.kids; omega
  have hk1 : op.node.kids.length ≤ 1048576 := by have := kids_size op.node; have := sizes_len op.node.kids; omega
  have hk2 : Nd.sizes op.node.kids ≤ 1048576 := by have := kids_size op.node; omega
  have HM := Lib.hid hM
  have HS := Lib.hid hss
  have HX := Lib.hid (show ∀ w', Below w.heap.size w w' → OpCells w' X op pv (.slice a0 op.node.kids.length n0) ∧ NpCells w' g o m.k m.t m.v (.slice a m.kids.length cap) from fun w' hb => ⟨op_cells ((hb.block _ (lt_blk hwX)).trans hwX), (hM.below hb).cells⟩)
  obtain ⟨⟨x0, x1, x2, x3, x4, x5, x6, hxl⟩, c0, c1, c2, c3, f0, f1, f2, f3, hgl⟩ := HX.out _ (Below.refl _ _).drew
  have hone : ∀ p ∈ ps, p.2.oneCell' = true := fun p hp => (hM.kids p hp).one
  have HONE := Lib.hid hone
  have HI := Lib.hid (show i ≤ ps.length by omega)
  have HPL := Lib.hid (show ps.length ≤ 1048576 by omega)
  clear hM hss hs hX hwX hone hi hfar
  show Calls _ _ #[_, _, _] _ _
  go_enter Tryz.func93, Tryz.ntmps93
  go_region_law ((first
    | (go_simp; go_at_call 37; refine (copy_any op.node w.drew _ _ ⟨_, rfl, HS.out.below (Below.refl _ _).drew⟩ hk1 hk2).mono ?_; rintro e w2 ⟨a2, c2', rfl, hsl, hbq⟩
       have hb2 : Below w.heap.size w w2 := (Below.refl w.heap.size w).drew.trans hbq
       obtain ⟨⟨x0', x1', x2', x3', x4', x5', x6', hxl'⟩, c0', c1', c2'', c3', f0', f1', f2', f3', hgl'⟩ := HX.out _ hb2)
    | (go_simp; go_at_call 94
       have hb3 : Below w.heap.size w (w2.alloc (.cells #[.int .i64 op.node.k, .string op.node.t, .string op.node.v, .slice a2 op.node.kids.length c2'] 24)) := hb2.alloc hb2.size _
       have hvb := heap_alloc_new w2 (.cells #[.int .i64 op.node.k, .string op.node.t, .string op.node.v, .slice a2 op.node.kids.length c2'] 24)
       have hm3 := HM.out.below hb3
       refine (insertN_any _ wa.heap.size _ ps i hm3.own HI.out HONE.out HPL.out hm3.far.size w2.heap.size op.node (.slice a2 op.node.kids.length c2') rfl hvb (fun e => by have := (HM.out.own.lt _ e).2; have := hb2.size; omega)).mono ?_
       rintro e w5 ⟨v', rfl, hown, hgr, hat⟩
       have hf5 : Far wa w5 g o := hm3.far.grown hgwa hgr fun q hq => (hm3.own.lt q hq).1
       obtain ⟨a', n', c', rfl⟩ : ∃ a' n' c', v' = .slice a' n' c' := by
         rcases hown.2 with ⟨rfl, _⟩ | ⟨_, _, _, rfl, _⟩
         · exact ⟨_, _, _, rfl⟩
         · exact ⟨_, _, _, rfl⟩
       obtain ⟨⟨u3, hu3⟩, hf3, hgl5⟩ : (∃ u3, w5.cell? ⟨g, o + 3, none⟩ = some u3) ∧ w5.frozen? ⟨g, o + 3, none⟩ = false ∧ g < w5.heap.size := by
         obtain ⟨cs, ty, hg, hz⟩ := HM.out.np.blk
         obtain ⟨c1, h1, z1, _⟩ := hf5.row cs ty hg
         have := blk_cell h1 (o + 3) (by omega)
         exact ⟨⟨_, this.1⟩, this.2, lt_blk h1⟩)))
  all_goals
    have hfn := hm3.done hgr hown fun p hp => by
      rcases List.mem_append.1 hp with hp | hp
      · exact hm3.kept hgr p (List.mem_of_mem_take hp)
      · rcases List.mem_cons.1 hp with rfl | hp
        · have hlo := HM.out.np.lo
          have hgw : g < w.heap.size := Nat.lt_of_lt_of_le hgwa HM.out.far.size
          have hgs := hgr.size
          have hb2s := hb2.size
          rw [World.size_alloc] at hgs
          refine hsl.alike ⟨by omega, fun b hb hl => ?_⟩ fun b hb _ => ?_
          · have hb' : w.heap.size ≤ b := hb
            rw [hgr.block b (by rw [World.size_alloc]; omega) (fun e => by have := (HM.out.own.lt b e.symm).2; omega)]
            exact ((Below.refl w2.heap.size w2).alloc (Nat.le_refl _) _).block b hl
          · have hb' : w.heap.size ≤ b := hb
            exact ⟨by omega, by omega⟩
        · exact hm3.kept hgr p (List.mem_of_mem_drop hp)
    have HFN := Lib.hid (show Far wa (w5.setCell ⟨g, o + 3, none⟩ (.slice a' n' c')) g o ∧ NdAt (w5.setCell ⟨g, o + 3, none⟩ (.slice a' n' c')) (fun b => b ≠ B) g o (.mk m.k m.t m.v (insK op.node m.kids i)) from by
      rw [List.map_append, List.map_take, List.map_cons, List.map_drop, HM.out.map] at hfn; exact hfn)
    go_end0
    exact ⟨⟨_, rfl⟩, HFN.out⟩
end Go.Proofs.YtdaamiihldbekaaGreatDoor

/- The walks of (*work).within, of the operations and of (*work).does. -/
namespace Go.Proofs.YtdaamiihldbekaaGreatDoor
open Go.RowKit Ev5
set_option linter.unusedSimpArgs false
set_option linter.unusedVariables false

theorem IntsIn.cut {w : World} {a : Option Addr} {n cap : Nat} {l : List Int} (h : IntsIn w (.slice a n cap) l) (k : Nat) (hk : k ≤ l.length) : IntsIn w (.slice a k cap) (l.take k) := by
  obtain ⟨ao, c, e, h1, h2, h3⟩ := h.ex
  injection e with e1 e2 e3
  subst e1; subst e3
  have hl : (l.take k).length = k := by rw [List.length_take]; omega
  exact ⟨⟨a, cap, by rw [hl], by omega, h2, fun i hi => by rw [List.getElem_take]; exact h3 i (by omega)⟩, fun x hx => h.ok x (List.mem_of_mem_take hx)⟩
/-- The four boxes of a call of within. -/
structure Boxes (w : World) (b1 b2 b3 b4 : Nat) (pv : Value) (more : Nat) (F : Nat) (caps : Array Value) (last : Nat) : Prop where
  k1 : w.heap[b1]? = some (.cells #[pv] 40 (0, 0))
  k2 : w.heap[b2]? = some (.cells #[.int .i64 more] 3 (0, 0))
  k3 : w.heap[b3]? = some (.cells #[.func (.func F) #[] caps] 118 (0, 0))
  k4 : w.heap[b4]? = some (.cells #[.int .i64 last] 3 (0, 0))
theorem Boxes.below {w w' : World} {b1 b2 b3 b4 : Nat} {pv : Value} {more F : Nat} {caps : Array Value} {last : Nat} (h : Boxes w b1 b2 b3 b4 pv more F caps last) (hb : Below w.heap.size w w') : Boxes w' b1 b2 b3 b4 pv more F caps last :=
  ⟨(hb.block _ (lt_blk h.k1)).trans h.k1, (hb.block _ (lt_blk h.k2)).trans h.k2, (hb.block _ (lt_blk h.k3)).trans h.k3, (hb.block _ (lt_blk h.k4)).trans h.k4⟩
theorem Boxes.far {w w' : World} {b1 b2 b3 b4 g o : Nat} {pv : Value} {more F : Nat} {caps : Array Value} {last : Nat} (h : Boxes w b1 b2 b3 b4 pv more F caps last) (hf : Far w w' g o) (hn : b1 ≠ g ∧ b2 ≠ g ∧ b3 ≠ g ∧ b4 ≠ g) : Boxes w' b1 b2 b3 b4 pv more F caps last :=
  ⟨(hf.oth _ (lt_blk h.k1) hn.1).trans h.k1, (hf.oth _ (lt_blk h.k2) hn.2.1).trans h.k2, (hf.oth _ (lt_blk h.k3) hn.2.2.1).trans h.k3, (hf.oth _ (lt_blk h.k4) hn.2.2.2).trans h.k4⟩
structure BoxCells (w : World) (b1 b2 b3 b4 : Nat) (pv : Value) (more F : Nat) (caps : Array Value) (last : Nat) : Prop where
  c1 : w.cell? ⟨b1, 0, none⟩ = some pv
  c2 : w.cell? ⟨b2, 0, none⟩ = some (.int .i64 more)
  c3 : w.cell? ⟨b3, 0, none⟩ = some (.func (.func F) #[] caps)
  c4 : w.cell? ⟨b4, 0, none⟩ = some (.int .i64 last)
  l1 : b1 < w.heap.size
  l2 : b2 < w.heap.size
  l3 : b3 < w.heap.size
  l4 : b4 < w.heap.size
theorem Boxes.cells {w : World} {b1 b2 b3 b4 : Nat} {pv : Value} {more F : Nat} {caps : Array Value} {last : Nat} (h : Boxes w b1 b2 b3 b4 pv more F caps last) : BoxCells w b1 b2 b3 b4 pv more F caps last :=
  ⟨(blk_cell h.k1 0 (by simp)).1, (blk_cell h.k2 0 (by simp)).1, (blk_cell h.k3 0 (by simp)).1, (blk_cell h.k4 0 (by simp)).1, lt_blk h.k1, lt_blk h.k2, lt_blk h.k3, lt_blk h.k4⟩
/-- What within does to a node. -/
def inP (p : Int) (more : Nat) (h : List Nd → Nat → List Nd) (m : Nd) : Nd × Int := if 0 ≤ p ∧ p < m.kids.length + more then (.mk m.k m.t m.v (h m.kids p.toNat), 0) else (m, 21)

set_option maxRecDepth 100000 in
set_option maxHeartbeats 8000000 in
theorem within1_any (w0 : World) (B N b1 b2 b3 b4 : Nat) (pa : Option Addr) (pcap : Nat) (place : List Int) (more F : Nat) (caps : Array Value) (h : List Nd → Nat → List Nd) (p : Int) (last : Nat) (hN : N ≤ 1048576) (hmore : more ≤ 1) (hB : B < w0.heap.size)
    (hbx : Boxes w0 b1 b2 b3 b4 (.slice pa place.length pcap) more F caps last) (hne : b1 ≠ B ∧ b2 ≠ B ∧ b3 ≠ B ∧ b4 ≠ B) (hp : ∀ w', Below B w0 w' → IntsIn w' (.slice pa place.length pcap) place) (hl : place.length = last + 1) (hpl : place[last]? = some p)
    (hin : InOf w0 B N F caps h more) (hcf : EntersF F) :
    DoOf w0 B N 131 #[.pointer (some ⟨b1, 0, none⟩), .pointer (some ⟨b4, 0, none⟩), .pointer (some ⟨b2, 0, none⟩), .pointer (some ⟨b3, 0, none⟩)] (inP p more h) := by
  intro w g o m hfar hM hms hgB
  have hgn : ∀ b, b < w0.heap.size → b ≠ B → b ≠ g := fun b hb hn e => by rcases hgB with ⟨rfl, _⟩ | hg; exact hn e; omega
  have hbw := hbx.far hfar hne
  have hng : b1 ≠ g ∧ b2 ≠ g ∧ b3 ≠ g ∧ b4 ≠ g := ⟨hgn _ (lt_blk hbx.k1) hne.1, hgn _ (lt_blk hbx.k2) hne.2.1, hgn _ (lt_blk hbx.k3) hne.2.2.1, hgn _ (lt_blk hbx.k4) hne.2.2.2⟩
  have HBX := Lib.hid hbw; have HM := Lib.hid hM; have HIN := Lib.hid hin; have HF := Lib.hid hfar; have HGB := Lib.hid hgB; have HMS := Lib.hid hms
  have hint := hp w (hfar.below (Nat.le_refl _) (Nat.le_of_lt hB))
  obtain ⟨ao', cap', e', _, hcm, hcell⟩ := hint.ex
  injection e' with e1 e2 e3
  subst e1; subst e3
  obtain ⟨pb, po, rfl, hpc⟩ := hcell last (by omega)
  have hwf := hint.ok p (List.mem_of_getElem? hpl)
  rw [show place[last]'(by omega) = p by rw [List.getElem?_eq_getElem (by omega)] at hpl; exact Option.some.inj hpl] at hpc
  have HPC := Lib.hid (show ∀ w', Below w.heap.size w w' → w'.cell? ⟨pb, po + last, none⟩ = some (.int .i64 p) ∧ pb < w'.heap.size from fun w' hb => ⟨by rw [hb.cell (p := ⟨pb, po + last, none⟩) (cell_lt hpc)]; exact hpc, Nat.lt_of_lt_of_le (cell_lt hpc) hb.size⟩)
  have HPC2 := Lib.hid (show ∀ w', Far w w' g o → w'.cell? ⟨pb, po + last, none⟩ = some (.int .i64 p) ∧ pb < w'.heap.size from fun w' hf => by
    have hi2 := hp w' ((far_step hfar hB hf hgB).below (Nat.le_refl _) (Nat.le_of_lt hB))
    obtain ⟨ao2, cap2, e2, _, _, hc2⟩ := hi2.ex
    injection e2 with e1 e2 e3
    obtain ⟨pb2, po2, e4, hc3⟩ := hc2 last (by omega)
    rw [← e1] at e4
    injection e4 with e4; injection e4 with e4 e5
    subst e4; subst e5
    rw [show place[last]'(by omega) = p by rw [List.getElem?_eq_getElem (by omega)] at hpl; exact Option.some.inj hpl] at hc3
    exact ⟨hc3, cell_lt hc3⟩)
  have hlc : (last : Int) < (place.length : Int) := by omega
  have hll : (last : Int) < (last : Int) + 1 := by omega
  have hl0 : (0 : Int) ≤ (last : Int) := by omega
  have HWF := Lib.hid hwf
  unfold maxLen at hcm
  obtain ⟨ka, kc, hcc, hks, hkc, hkm⟩ := hM.cells
  have hkl : m.kids.length ≤ 1048576 := by have := kids_size m; have := sizes_len m.kids; omega
  unfold maxLen at hkm
  have HKS := Lib.hid hks
  have HD := Lib.hid (show ∀ w', Below w.heap.size w w' → NpCells w' g o m.k m.t m.v (.slice ka m.kids.length kc) from fun w' hb => by
    obtain ⟨a2, k2, h2, _⟩ := (hM.below hb).cells
    have h3 : w'.cell? ⟨g, o + 3, none⟩ = some (.slice ka m.kids.length kc) := by rw [hb.cell (p := ⟨g, o + 3, none⟩) hcc.lt]; exact hcc.c3
    obtain ⟨c0, c1, c2, c3, f0, f1, f2, f3, hl⟩ := h2
    exact ⟨c0, c1, c2, h3, f0, f1, f2, f3, hl⟩)
  obtain ⟨d1, d2, d3, d4, l1, l2, l3, l4⟩ := hbw.cells
  obtain ⟨c0, c1, c2, c3, f0, f1, f2, f3, hgl⟩ := hcc
  obtain ⟨hpc0, hpl0⟩ := HPC.out w (Below.refl _ _)
  obtain ⟨d1', d2', d3', d4', l1', l2', l3', l4'⟩ := (hbw.below (Below.refl _ _).drew).cells
  obtain ⟨c0', c1', c2', c3', f0', f1', f2', f3', hgl'⟩ := HD.out _ (Below.refl _ _).drew
  have HNG := Lib.hid hng
  clear hM hin hbw hbx hfar hgB hp hint hcell hpc hks hwf hgn hpl hms
  show Calls _ _ #[_, _, _, _, _] _ _
  have hcf' : ∀ (args : Array Value) (w : World), (callFunc F args).run Tryz.prog w = .ok (.enter F args) w := hcf
  by_cases hneg : p < 0
  · have hnb : decide (p < 0) = true := decide_eq_true hneg
    have HO := Lib.hid (show inP p more h m = (m, 21) by unfold inP; rw [if_neg (by omega)])
    go_enter Tryz.func131, Tryz.ntmps131
    go_upto_region 2 with (fail)
    go_quiet (fail)
    go_wp2_with fail
    go_ret
    rw [HO.out]
    exact ⟨rfl, Far.of (below_drewN _ _) _ _, fun h => by cases h⟩
  · have hnb : decide (p < 0) = false := decide_eq_false hneg
    by_cases hge : (m.kids.length : Int) + (more : Int) ≤ p
    · have HO := Lib.hid (show inP p more h m = (m, 21) by unfold inP; rw [if_neg (by omega)])
      go_enter Tryz.func131, Tryz.ntmps131
      go_upto_region 2 with (fail)
      go_quiet (fail)
      go_wp2_with fail
      go_ret
      rw [HO.out]
      exact ⟨rfl, Far.of (below_drewN _ _) _ _, fun h => by cases h⟩
    · obtain ⟨i, rfl⟩ : ∃ i : Nat, p = i := ⟨p.toNat, by omega⟩
      have HO := Lib.hid (show inP (i : Int) more h m = (.mk m.k m.t m.v (h m.kids i), 0) by unfold inP; rw [if_pos (by omega)]; rfl)
      have hge2 : ¬ ((m.kids.length : Int) + (more : Int) ≤ (i : Int)) := hge
      go_enter Tryz.func131, Tryz.ntmps131
      go_upto_region 2 with (fail)
      go_quiet (fail)
      generalize hwq : w.drewN _ = wq
      have hb0 : Below w.heap.size w wq := by rw [← hwq]; exact below_drewN _ _
      clear hwq d1 d2 d3 d4 l1 l2 l3 l4 c0 c1 c2 c3 f0 f1 f2 f3 hgl hpc0 hpl0 d1' d2' d3' d4' l1' l2' l3' l4' c0' c1' c2' c3' f0' f1' f2' f3' hgl'
      obtain ⟨c0, c1, c2, c3, f0, f1, f2, f3, hgl⟩ := HD.out wq hb0
      have HB0 := Lib.hid hb0
      clear hb0
      go_wp2_with fail
      refine (cloneN_any wq _ _ m.kids (HKS.out.below HB0.out) hkl).mono ?_
      rintro e w1 ⟨v, ps, rfl, hps, hown, hsl, hb⟩
      have hb1 : Below w.heap.size w w1 := bthen HB0.out hb
      obtain ⟨e0, e1, e2, e3, g0, g1, g2, g3, hgl1⟩ := HD.out w1 hb1
      have hcs : ∃ cs ty, w1.heap[g]? = some (.cells cs ty (0, 0)) ∧ o + 4 ≤ cs.size := by
        obtain ⟨cs, ty, h, hz⟩ := HM.out.blk
        exact ⟨cs, ty, (hb1.block g (lt_blk h)).trans h, hz⟩
      obtain ⟨cs, ty, hgc, hgz⟩ := hcs
      have hbs := HB0.out.size
      have hgw : g < w.heap.size := by obtain ⟨cs, ty, h, hz⟩ := HM.out.blk; exact lt_blk h
      have HMine := Lib.hid (show Mine wq (w1.setCell ⟨g, o + 3, none⟩ v) B g o m v ps from by
        refine ⟨(Far.of hb g o).trans (Far.store (by omega) (by omega)), HM.out.below HB0.out, ⟨?_, ?_, ?_, cell_set_same hgc (by omega), ?_, ?_, ?_, ?_, by simpa using hgl1⟩, ?_, hps, hsl⟩
        · rw [cell_set_ne hgc (by omega)]; exact e0
        · rw [cell_set_ne hgc (by omega)]; exact e1
        · rw [cell_set_ne hgc (by omega)]; exact e2
        all_goals first | exact hown.kept (grown_set w1 g _ _) (by
              rcases hown.2 with ⟨rfl, _⟩ | ⟨g2, cap, cur, rfl, hb2, _⟩
              · exact .inl rfl
              · exact .inr (by simp only [Value.ownBlock, ne_eq, Option.some.injEq]; omega)) | simp [World.frozen?, blk_set hgc])
      have HFA := Lib.hid (show Far w (w1.setCell ⟨g, o + 3, none⟩ v) g o from (Far.of hb1 g o).trans (Far.store (by omega) (by omega)))
      have hsh : ∃ a' n' c', v = .slice a' n' c' := by
        rcases hown.2 with ⟨rfl, _⟩ | ⟨_, _, _, rfl, _⟩
        · exact ⟨_, _, _, rfl⟩
        · exact ⟨_, _, _, rfl⟩
      obtain ⟨a', n', c', rfl⟩ := hsh
      clear hps hown hsl hb hb1 hgc hgz hbs hgw
      go_upto_region 5 with (fail)
      obtain ⟨W, hW⟩ : ∃ W, w1.setCell ⟨g, o + 3, none⟩ (.slice a' n' c') = W := ⟨_, rfl⟩
      rw [hW] at HMine HFA
      rw [hW]
      clear hW e0 e1 e2 e3 g0 g1 g2 g3 hgl1 c0 c1 c2 c3 f0 f1 f2 f3 hgl
      have hBX := HBX.out.far HFA.out HNG.out
      obtain ⟨d1, d2, d3, d4, l1, l2, l3, l4⟩ := (hBX.below (Below.refl _ _).drew).cells
      obtain ⟨hpc0, hpl0⟩ := HPC2.out W.drew (HFA.out.trans (Far.of (Below.refl _ _).drew _ _))
      have HFQ := Lib.hid (show Far w0 wq B 0 from HF.out.trans (Far.of HB0.out B 0))
      have HILT := Lib.hid (show i < m.kids.length + more by omega)
      clear hBX
      go_region_law ((go_simp; refine (HIN.out wq W.drew g o m _ ps i HFQ.out (HMine.out.below (Below.refl _ _).drew) HMS.out HILT.out HGB.out).mono ?_; rintro e w5 ⟨⟨r, rfl⟩, hfar5, hnd5⟩))
      all_goals
        have H5 := Lib.hid (And.intro hfar5 hnd5)
        clear hfar5 hnd5
        go_wp2_with fail
        go_ret
        rw [HO.out]
        exact ⟨rfl, (Far.of HB0.out g o).trans H5.out.1, fun _ => H5.out.2⟩
end Go.Proofs.YtdaamiihldbekaaGreatDoor

/- The walks of (*work).within, of the five operations and of (*work).does. -/
namespace Go.Proofs.YtdaamiihldbekaaGreatDoor
open Go.RowKit Ev5
set_option linter.unusedSimpArgs false
set_option linter.unusedVariables false

theorem boxes_made (w : World) (pv : Value) (more F : Nat) (caps : Array Value) (last : Nat) :
    Boxes ((((w.alloc (.cells #[pv] 40)).alloc (.cells #[.int .i64 more] 3)).alloc (.cells #[.func (.func F) #[] caps] 118)).alloc (.cells #[.int .i64 last] 3)) w.heap.size (w.heap.size + 1) (w.heap.size + 1 + 1) (w.heap.size + 1 + 1 + 1) pv more F caps last ∧
    Below w.heap.size w ((((w.alloc (.cells #[pv] 40)).alloc (.cells #[.int .i64 more] 3)).alloc (.cells #[.func (.func F) #[] caps] 118)).alloc (.cells #[.int .i64 last] 3)) := by
  obtain ⟨o1, ho1⟩ : ∃ o1, Obj.cells #[pv] 40 = o1 := ⟨_, rfl⟩
  obtain ⟨o2, ho2⟩ : ∃ o2, Obj.cells #[.int .i64 more] 3 = o2 := ⟨_, rfl⟩
  obtain ⟨o3, ho3⟩ : ∃ o3, Obj.cells #[.func (.func F) #[] caps] 118 = o3 := ⟨_, rfl⟩
  obtain ⟨o4, ho4⟩ : ∃ o4, Obj.cells #[.int .i64 last] 3 = o4 := ⟨_, rfl⟩
  rw [ho1, ho2, ho3, ho4]
  have s1 : (w.alloc o1).heap.size = w.heap.size + 1 := by simp
  have s2 : ((w.alloc o1).alloc o2).heap.size = w.heap.size + 1 + 1 := by simp
  have s3 : (((w.alloc o1).alloc o2).alloc o3).heap.size = w.heap.size + 1 + 1 + 1 := by simp
  have a1 := heap_alloc_new w o1
  have a2 := heap_alloc_new (w.alloc o1) o2
  have a3 := heap_alloc_new ((w.alloc o1).alloc o2) o3
  have a4 := heap_alloc_new (((w.alloc o1).alloc o2).alloc o3) o4
  rw [s1] at a2; rw [s2] at a3; rw [s3] at a4
  have n2 : ∀ b, b < w.heap.size + 1 → ((w.alloc o1).alloc o2).heap[b]? = (w.alloc o1).heap[b]? := fun b hb => ((Below.refl _ _).alloc (Nat.le_refl _) _).block b (by omega)
  have n3 : ∀ b, b < w.heap.size + 2 → (((w.alloc o1).alloc o2).alloc o3).heap[b]? = ((w.alloc o1).alloc o2).heap[b]? := fun b hb => ((Below.refl _ _).alloc (Nat.le_refl _) _).block b (by omega)
  have n4 : ∀ b, b < w.heap.size + 3 → ((((w.alloc o1).alloc o2).alloc o3).alloc o4).heap[b]? = (((w.alloc o1).alloc o2).alloc o3).heap[b]? := fun b hb => ((Below.refl _ _).alloc (Nat.le_refl _) _).block b (by omega)
  refine ⟨⟨?_, ?_, ?_, ?_⟩, ?_⟩
  · rw [n4 _ (by omega), n3 _ (by omega), n2 _ (by omega), a1, ← ho1]
  · rw [n4 _ (by omega), n3 _ (by omega), a2, ← ho2]
  · rw [n4 _ (by omega), a3, ← ho3]
  · rw [a4, ← ho4]
  · exact ((((Below.refl w.heap.size w).alloc (Nat.le_refl _) o1).alloc (by omega) o2).alloc (by omega) o3).alloc (by omega) _
noncomputable def withinP (n : Nd) (place : List Int) (more : Nat) (h : List Nd → Nat → List Nd) : Nd × Int := if place = [] then (n, 21) else atP n place.dropLast (inP (place.getLastD 0) more h)

set_option maxRecDepth 100000 in
set_option maxHeartbeats 8000000 in
theorem within_any (w0 : World) (B N : Nat) (n : Nd) (pv : Value) (place : List Int) (more F : Nat) (caps : Array Value) (h : List Nd → Nat → List Nd) (hroot : Np w0 B B 0 n) (hp : ∀ w', Below B w0 w' → IntsIn w' pv place) (hsz : n.size ≤ N) (hN : N ≤ 1048576) (hmore : more ≤ 1)
    (hin : ∀ w1, Below w0.heap.size w0 w1 → InOf w1 B N F caps h more) (hcf : EntersF F) :
    Calls Tryz.prog 92 #[.pointer (some ⟨B, 0, none⟩), pv, .int .i64 more, .func (.func F) #[] caps] w0 (RootPost B (withinP n place more h) w0) := by
  obtain ⟨pa, pcap, rfl, hpc, hpm, _⟩ := (hp w0 (Below.refl _ _)).ex
  have HBL := Lib.hid (show B < w0.heap.size by obtain ⟨cs, ty, hg, _⟩ := hroot.blk; exact lt_blk hg)
  have HP := Lib.hid hp; have HIN := Lib.hid hin; have HR := Lib.hid hroot; have HSZ := Lib.hid hsz
  clear hp hin hroot hsz
  unfold maxLen at hpm
  by_cases hne : place = []
  · subst hne
    have HB := Lib.hid (show withinP n [] more h = (n, 21) by unfold withinP; rw [if_pos rfl])
    go_enter Tryz.func92, Tryz.ntmps92
    go_wp2_with fail
    go_ret
    rw [HB.out]
    refine ⟨rfl, ?_, fun h => by cases h⟩
    have hbb : B ≤ w0.heap.size := Nat.le_of_lt HBL.out
    exact ((((Below.refl B w0).alloc hbb _).alloc (by simp; omega) _).alloc (by simp; omega) _).alloc (by simp; omega) _
  · obtain ⟨q, p, rfl⟩ : ∃ q p, place = q ++ [p] := ⟨_, _, snoc_of hne⟩
    have hlen : (q ++ [p]).length = q.length + 1 := by simp
    have HPP := Lib.hid (show withinP n (q ++ [p]) more h = atP n q (inP p more h) by
      unfold withinP; rw [if_neg hne, List.dropLast_concat]; simp)
    obtain ⟨hbx, hbl⟩ := boxes_made w0 (.slice pa (q.length + 1) pcap) more F caps q.length
    have HBX := Lib.hid hbx; have HBW := Lib.hid hbl
    rw [hlen] at hpc HP ⊢
    clear hbx hbl hne hlen
    have hqp : (q.length : Int) ≤ (pcap : Int) := by omega
    have hqp2 : q.length ≤ pcap := by omega
    go_enter Tryz.func92, Tryz.ntmps92
    go_wp2_with fail
    have hcut : ∀ w', Below B _ w' → IntsIn w' (.slice pa q.length pcap) q := fun w' hb => by
      have h1 := HP.out w' ((HBW.out.mono (Nat.le_of_lt HBL.out)).trans hb)
      have h2 := IntsIn.cut (n := q.length + 1) (cap := pcap) (a := pa) h1 q.length (by simp)
      rwa [List.take_left] at h2
    refine (workAt_any _ B N n _ q _ _ (inP p more h) (HR.out.below HBW.out) hcut HSZ.out hN (within1_any _ B N _ _ _ _ pa pcap (q ++ [p]) more F caps h p q.length hN hmore (Nat.lt_of_lt_of_le HBL.out HBW.out.size) (by rw [List.length_append]; exact HBX.out) (by have := HBL.out; omega) (fun w' hb => by rw [List.length_append]; exact HP.out w' ((HBW.out.mono (Nat.le_of_lt HBL.out)).trans hb)) (by simp) (by simp) (HIN.out _ HBW.out) hcf) enters_within).mono ?_
    rintro e w2 ⟨rfl, hb, hok⟩
    obtain ⟨E, hE⟩ : ∃ E, (atP n q (inP p more h)).2 = E := ⟨_, rfl⟩
    have HO := Lib.hid (show RootPost B (withinP n (q ++ [p]) more h) w0 (.returned (.int .i64 E)) w2 from by
      rw [HPP.out]
      exact ⟨by rw [hE], (HBW.out.mono (Nat.le_of_lt HBL.out)).trans hb, hok⟩)
    rw [hE]
    clear hE hb hok hcut
    go_wp2_with fail
    go_ret
    exact HO.out
end Go.Proofs.YtdaamiihldbekaaGreatDoor

/- The walks of the five operations and of (*work).does. -/
namespace Go.Proofs.YtdaamiihldbekaaGreatDoor
open Go.RowKit Ev5
set_option linter.unusedSimpArgs false
set_option linter.unusedVariables false

def opV (o : GoOp) (pv u : Value) : Value := .agg #[.int .i64 o.k, pv, .int .i64 o.node.k, .string o.node.t, .string o.node.v, u, .string o.t]
/-- An operation that can be read, whatever is done to the tree at B. -/
structure OpIn (w : World) (B : Nat) (o : GoOp) (pv u : Value) : Prop where
  place : ∀ w', Below B w w' → IntsIn w' pv o.place
  node : SlIn w (fun b => b < B) u o.node.kids
  size : o.node.size ≤ 1048576
theorem OpIn.below {w w' : World} {B : Nat} {o : GoOp} {pv u : Value} (h : OpIn w B o pv u) (hb : Below B w w') : OpIn w' B o pv u :=
  ⟨fun w2 h2 => h.place w2 (hb.trans h2), h.node.alike ⟨hb.size, fun b hB _ => hb.block b hB⟩ fun b h _ => h, h.size⟩
open Classical in
noncomputable def testP (x : Nd) (m : Nd) : Nd × Int := if m = x then (m, 0) else (m, 31)
def renP (t : ByteArray) (m : Nd) : Nd × Int := if m.k = 8 ∨ m.k = 10 ∨ m.k = 11 then (.mk m.k t m.v m.kids, 0) else (m, 22)
theorem inP_yes {p : Int} {more : Nat} {f : List Nd → Nat → List Nd} {m : Nd} (h : 0 ≤ p ∧ p < m.kids.length + more) : inP p more f m = (.mk m.k m.t m.v (f m.kids p.toNat), 0) := if_pos h
theorem inP_no {p : Int} {more : Nat} {f : List Nd → Nat → List Nd} {m : Nd} (h : ¬ (0 ≤ p ∧ p < m.kids.length + more)) : inP p more f m = (m, 21) := if_neg h
theorem one_add {n : Nd} {o : GoOp} (h : o.k = 1) : oneP n o = withinP n o.place 1 (insK o.node) := by
  unfold oneP withinP
  rw [if_neg (by omega), if_pos h]
  split
  · rfl
  · unfold atP
    cases n.at_ o.place.dropLast with
    | none => rfl
    | some up =>
      simp only []
      by_cases hc : 0 ≤ o.place.getLastD 0 ∧ o.place.getLastD 0 ≤ up.kids.length
      · rw [if_pos hc, inP_yes (by omega)]
        simp only [if_true, List.append_assoc, List.singleton_append, insK]
      · rw [if_neg hc, inP_no (by omega)]
        rfl
theorem one_remove {n : Nd} {o : GoOp} (h : o.k = 2) : oneP n o = withinP n o.place 0 delK := by
  unfold oneP withinP
  rw [if_neg (by omega), if_neg (by omega)]
  by_cases hne : o.place = []
  · rw [if_pos hne, if_pos hne, hne, at_nil]
    simp only []
    rw [if_pos h]
  · rw [if_neg hne]
    obtain ⟨q, p, hpl⟩ : ∃ q p, o.place = q ++ [p] := ⟨_, _, snoc_of hne⟩
    rw [hpl, at_snoc, List.dropLast_concat]
    rw [if_neg (by simp)]
    unfold atP
    cases hq : n.at_ q with
    | none => rfl
    | some up =>
      simp only []
      rw [show (q ++ [p]).getLastD 0 = p by simp]
      by_cases hc : 0 ≤ p ∧ p < up.kids.length
      · rw [dif_pos hc]
        simp only []
        rw [if_pos h]
        obtain ⟨i, rfl⟩ : ∃ i : Nat, p = i := ⟨p.toNat, by omega⟩
        rw [put_last hq (by omega)]
        rw [inP_yes (by omega)]
        simp [delK]
      · rw [dif_neg hc, inP_no (by omega)]
        rfl
open Classical in
theorem one_at {n : Nd} {o : GoOp} {f : Nd → Nd × Int} (h1 : ¬ (o.k < 1 ∨ 5 < o.k)) (h2 : o.k ≠ 1) (h3 : o.k ≠ 2) (hf : ∀ x, n.at_ o.place = some x → (if o.k = 3 then (n.put o.place [o.node], 0) else if o.k = 4 then (if x = o.node then (n, 0) else (n, 31)) else if x.k = 8 ∨ x.k = 10 ∨ x.k = 11 then (n.put o.place [.mk x.k o.t x.v x.kids], 0) else (n, 22)) = (if (f x).2 = 0 then (n.put o.place [(f x).1], 0) else (n, (f x).2))) : oneP n o = atP n o.place f := by
  unfold oneP atP
  rw [if_neg h1, if_neg h2]
  cases hx : n.at_ o.place with
  | none => rfl
  | some x =>
    simp only []
    rw [if_neg h3, ← hf x hx]
    repeat' split
    all_goals first | rfl | contradiction
theorem one_replace {n : Nd} {o : GoOp} (h : o.k = 3) : oneP n o = atP n o.place (fun _ => (o.node, 0)) :=
  one_at (by omega) (by omega) (by omega) fun x _ => by rw [if_pos h]; rfl
open Classical in
theorem one_test {n : Nd} {o : GoOp} (h : o.k = 4) : oneP n o = atP n o.place (testP o.node) :=
  one_at (by omega) (by omega) (by omega) fun x hx => by
    rw [if_neg (by omega), if_pos h]
    unfold testP
    by_cases hc : x = o.node
    · rw [if_pos hc, if_pos hc, if_pos rfl, put_self hx]
    · rw [if_neg hc, if_neg hc, if_neg (by simp)]
theorem one_rename {n : Nd} {o : GoOp} (h : o.k = 5) : oneP n o = atP n o.place (renP o.t) :=
  one_at (by omega) (by omega) (by omega) fun x hx => by
    rw [if_neg (by omega), if_neg (by omega)]
    unfold renP
    by_cases hc : x.k = 8 ∨ x.k = 10 ∨ x.k = 11
    · rw [if_pos hc, if_pos hc, if_pos rfl]
    · rw [if_neg hc, if_neg hc, if_neg (by simp)]
theorem one_none {n : Nd} {o : GoOp} (h : o.k < 1 ∨ 5 < o.k) : oneP n o = (n, 1) := by unfold oneP; rw [if_pos h]
theorem RootPost.from {w0 w1 w : World} {B : Nat} {r : Nd × Int} {e : Ending} (h : RootPost B r w1 e w) (hb : Below B w0 w1) : RootPost B r w0 e w := ⟨h.1, hb.trans h.2.1, h.2.2⟩

theorem op_made (w : World) (o : GoOp) (pv u : Value) : (w.alloc (.cells #[.int .i64 o.k, pv, .int .i64 o.node.k, .string o.node.t, .string o.node.v, u, .string o.t] 45)).heap[w.heap.size]? = some (.cells (opL o pv u) 45 (0, 0)) := heap_alloc_new w _

section
variable (w0 : World) (B N : Nat) (n : Nd) (o : GoOp) (pv u : Value)
set_option maxRecDepth 100000 in
set_option maxHeartbeats 8000000 in
theorem add_any (hroot : Np w0 B B 0 n) (hop : OpIn w0 B o pv u) (hsz : n.size ≤ N) (hN : N ≤ 1048576) : Calls Tryz.prog 57 #[.pointer (some ⟨B, 0, none⟩), opV o pv u] w0 (RootPost B (withinP n o.place 1 (insK o.node)) w0) := by
  obtain ⟨pa, pcap, rfl, hpc, hpm, _⟩ := (hop.place w0 (Below.refl _ _)).ex
  obtain ⟨ua, uc, rfl, hc, hm⟩ := hop.node.shape
  have HOP := Lib.hid hop; have HR := Lib.hid hroot; have HSZ := Lib.hid hsz
  have HBL := Lib.hid (show B < w0.heap.size by obtain ⟨cs, ty, hg, _⟩ := hroot.blk; exact lt_blk hg)
  have HOM := Lib.hid (op_made w0 o (.slice pa o.place.length pcap) (.slice ua o.node.kids.length uc))
  have HB1 := Lib.hid (show Below w0.heap.size w0 (w0.alloc (.cells #[.int .i64 o.k, .slice pa o.place.length pcap, .int .i64 o.node.k, .string o.node.t, .string o.node.v, .slice ua o.node.kids.length uc, .string o.t] 45)) from (Below.refl _ _).alloc (Nat.le_refl _) _)
  clear hop hroot hsz
  unfold opV
  go_enter Tryz.func57, Tryz.ntmps57
  go_wp2_with fail
  have hBe := HB1.out.mono (Nat.le_of_lt HBL.out)
  refine (within_any _ B N n _ o.place 1 93 _ (insK o.node) (HR.out.below HB1.out) (fun w' hb => HOP.out.place w' (hBe.trans hb)) HSZ.out hN (Nat.le_refl _)
    (fun w1 hb => add1_any w1 B N w0.heap.size o _ _ hN ((hb.block _ (lt_blk HOM.out)).trans HOM.out) (by have := HBL.out; omega) ((HOP.out.below (hBe.trans (hb.mono (by have := HBL.out; have := HB1.out.size; omega)))).node) HOP.out.size (by have := HBL.out; have := HB1.out.size; have := hb.size; omega))
    (enters_of Tryz.func93 (by kernel_rfl) (by kernel_rfl))).mono ?_
  rintro e w2 ⟨rfl, hb, hok⟩
  obtain ⟨E, hE⟩ : ∃ E, (withinP n o.place 1 (insK o.node)).2 = E := ⟨_, rfl⟩
  have HO := Lib.hid (show RootPost B (withinP n o.place 1 (insK o.node)) w0 (.returned (.int .i64 E)) w2 from ⟨by rw [hE], hBe.trans hb, hok⟩)
  rw [hE]
  clear hE hb hok hBe
  go_wp2_with fail
  go_ret
  exact HO.out

set_option maxRecDepth 100000 in
set_option maxHeartbeats 8000000 in
theorem remove_any (hroot : Np w0 B B 0 n) (hop : OpIn w0 B o pv u) (hsz : n.size ≤ N) (hN : N ≤ 1048576) : Calls Tryz.prog 58 #[.pointer (some ⟨B, 0, none⟩), opV o pv u] w0 (RootPost B (withinP n o.place 0 delK) w0) := by
  obtain ⟨pa, pcap, rfl, hpc, hpm, _⟩ := (hop.place w0 (Below.refl _ _)).ex
  obtain ⟨ua, uc, rfl, hc, hm⟩ := hop.node.shape
  have HOP := Lib.hid hop; have HR := Lib.hid hroot; have HSZ := Lib.hid hsz
  have HBL := Lib.hid (show B < w0.heap.size by obtain ⟨cs, ty, hg, _⟩ := hroot.blk; exact lt_blk hg)
  have HB1 := Lib.hid (show Below w0.heap.size w0 (w0.alloc (.cells #[.int .i64 o.k, .slice pa o.place.length pcap, .int .i64 o.node.k, .string o.node.t, .string o.node.v, .slice ua o.node.kids.length uc, .string o.t] 45)) from (Below.refl _ _).alloc (Nat.le_refl _) _)
  clear hop hroot hsz
  unfold opV
  go_enter Tryz.func58, Tryz.ntmps58
  go_wp2_with fail
  have hBe := HB1.out.mono (Nat.le_of_lt HBL.out)
  refine (within_any _ B N n _ o.place 0 95 _ delK (HR.out.below HB1.out) (fun w' hb => HOP.out.place w' (hBe.trans hb)) HSZ.out hN (by omega)
    (fun w1 hb => remove1_any w1 B N hN)
    (enters_of Tryz.func95 (by kernel_rfl) (by kernel_rfl))).mono ?_
  rintro e w2 ⟨rfl, hb, hok⟩
  obtain ⟨E, hE⟩ : ∃ E, (withinP n o.place 0 delK).2 = E := ⟨_, rfl⟩
  have HO := Lib.hid (show RootPost B (withinP n o.place 0 delK) w0 (.returned (.int .i64 E)) w2 from ⟨by rw [hE], hBe.trans hb, hok⟩)
  rw [hE]
  clear hE hb hok hBe
  go_wp2_with fail
  go_ret
  exact HO.out
set_option maxRecDepth 100000 in
set_option maxHeartbeats 8000000 in
theorem replace_any (hroot : Np w0 B B 0 n) (hop : OpIn w0 B o pv u) (hsz : n.size ≤ N) (hN : N ≤ 1048576) : Calls Tryz.prog 59 #[.pointer (some ⟨B, 0, none⟩), opV o pv u] w0 (RootPost B (atP n o.place (fun _ => (o.node, 0))) w0) := by
  obtain ⟨pa, pcap, rfl, hpc, hpm, _⟩ := (hop.place w0 (Below.refl _ _)).ex
  obtain ⟨ua, uc, rfl, hc, hm⟩ := hop.node.shape
  have HOP := Lib.hid hop; have HR := Lib.hid hroot; have HSZ := Lib.hid hsz
  have HBL := Lib.hid (show B < w0.heap.size by obtain ⟨cs, ty, hg, _⟩ := hroot.blk; exact lt_blk hg)
  have HOM := Lib.hid (op_made w0 o (.slice pa o.place.length pcap) (.slice ua o.node.kids.length uc))
  have HB1 := Lib.hid (show Below w0.heap.size w0 (w0.alloc (.cells #[.int .i64 o.k, .slice pa o.place.length pcap, .int .i64 o.node.k, .string o.node.t, .string o.node.v, .slice ua o.node.kids.length uc, .string o.t] 45)) from (Below.refl _ _).alloc (Nat.le_refl _) _)
  clear hop hroot hsz
  unfold opV
  go_enter Tryz.func59, Tryz.ntmps59
  go_wp2_with fail
  have hBe := HB1.out.mono (Nat.le_of_lt HBL.out)
  have hdo : DoOf (w0.alloc (.cells #[.int .i64 o.k, .slice pa o.place.length pcap, .int .i64 o.node.k, .string o.node.t, .string o.node.v, .slice ua o.node.kids.length uc, .string o.t] 45)) B N 98 #[.pointer (some ⟨w0.heap.size, 0, none⟩)] (fun _ => (o.node, 0)) := by
    intro w g q m hfar hM hms hgB
    have hX := (hfar.oth _ (lt_blk HOM.out) (by have := HBL.out; omega)).trans HOM.out
    have hXg : w0.heap.size ≠ g := by have := HBL.out; have := HB1.out.size; have := lt_blk HOM.out; rcases hgB with ⟨rfl, _⟩ | h <;> omega
    have hsn := (HOP.out.below (hBe.trans (hfar.below (Nat.le_refl _) (by have := HBL.out; have := HB1.out.size; omega)))).node
    exact replace1_any w B g q w0.heap.size m o _ _ hM hX hXg _ hsn HOP.out.size
  refine (workAt_any _ B N n _ o.place 98 _ (fun _ => (o.node, 0)) (HR.out.below HB1.out) (fun w' hb => HOP.out.place w' (hBe.trans hb)) HSZ.out hN hdo
    (enters_of Tryz.func98 (by kernel_rfl) (by kernel_rfl))).mono ?_
  rintro e w2 ⟨rfl, hb, hok⟩
  obtain ⟨E, hE⟩ : ∃ E, (atP n o.place (fun _ => (o.node, 0))).2 = E := ⟨_, rfl⟩
  have HO := Lib.hid (show RootPost B (atP n o.place (fun _ => (o.node, 0))) w0 (.returned (.int .i64 E)) w2 from ⟨by rw [hE], hBe.trans hb, hok⟩)
  rw [hE]
  clear hE hb hok hBe hdo
  go_wp2_with fail
  go_ret
  exact HO.out

set_option maxRecDepth 100000 in
set_option maxHeartbeats 8000000 in
theorem test_any (hroot : Np w0 B B 0 n) (hop : OpIn w0 B o pv u) (hsz : n.size ≤ N) (hN : N ≤ 1048576) : Calls Tryz.prog 60 #[.pointer (some ⟨B, 0, none⟩), opV o pv u] w0 (RootPost B (atP n o.place (testP o.node)) w0) := by
  obtain ⟨pa, pcap, rfl, hpc, hpm, _⟩ := (hop.place w0 (Below.refl _ _)).ex
  obtain ⟨ua, uc, rfl, hc, hm⟩ := hop.node.shape
  have HOP := Lib.hid hop; have HR := Lib.hid hroot; have HSZ := Lib.hid hsz
  have HBL := Lib.hid (show B < w0.heap.size by obtain ⟨cs, ty, hg, _⟩ := hroot.blk; exact lt_blk hg)
  have HOM := Lib.hid (op_made w0 o (.slice pa o.place.length pcap) (.slice ua o.node.kids.length uc))
  have HB1 := Lib.hid (show Below w0.heap.size w0 (w0.alloc (.cells #[.int .i64 o.k, .slice pa o.place.length pcap, .int .i64 o.node.k, .string o.node.t, .string o.node.v, .slice ua o.node.kids.length uc, .string o.t] 45)) from (Below.refl _ _).alloc (Nat.le_refl _) _)
  clear hop hroot hsz
  unfold opV
  go_enter Tryz.func60, Tryz.ntmps60
  go_wp2_with fail
  have hBe := HB1.out.mono (Nat.le_of_lt HBL.out)
  have hdo : DoOf (w0.alloc (.cells #[.int .i64 o.k, .slice pa o.place.length pcap, .int .i64 o.node.k, .string o.node.t, .string o.node.v, .slice ua o.node.kids.length uc, .string o.t] 45)) B N 99 #[.pointer (some ⟨w0.heap.size, 0, none⟩)] (testP o.node) := by
    intro w g q m hfar hM hms hgB
    have hX := (hfar.oth _ (lt_blk HOM.out) (by have := HBL.out; omega)).trans HOM.out
    have hXg : w0.heap.size ≠ g := by have := HBL.out; have := HB1.out.size; have := lt_blk HOM.out; rcases hgB with ⟨rfl, _⟩ | h <;> omega
    have hsn := (HOP.out.below (hBe.trans (hfar.below (Nat.le_refl _) (by have := HBL.out; have := HB1.out.size; omega)))).node
    exact test1_any w B g q w0.heap.size m o _ _ hM hX _ hsn _ ⟨fun h => by unfold testP; rw [if_pos h], fun h => by unfold testP; rw [if_neg h]⟩
  refine (workAt_any _ B N n _ o.place 99 _ (testP o.node) (HR.out.below HB1.out) (fun w' hb => HOP.out.place w' (hBe.trans hb)) HSZ.out hN hdo
    (enters_of Tryz.func99 (by kernel_rfl) (by kernel_rfl))).mono ?_
  rintro e w2 ⟨rfl, hb, hok⟩
  obtain ⟨E, hE⟩ : ∃ E, (atP n o.place (testP o.node)).2 = E := ⟨_, rfl⟩
  have HO := Lib.hid (show RootPost B (atP n o.place (testP o.node)) w0 (.returned (.int .i64 E)) w2 from ⟨by rw [hE], hBe.trans hb, hok⟩)
  rw [hE]
  clear hE hb hok hBe hdo
  go_wp2_with fail
  go_ret
  exact HO.out

set_option maxRecDepth 100000 in
set_option maxHeartbeats 8000000 in
theorem rename_any (hroot : Np w0 B B 0 n) (hop : OpIn w0 B o pv u) (hsz : n.size ≤ N) (hN : N ≤ 1048576) : Calls Tryz.prog 61 #[.pointer (some ⟨B, 0, none⟩), opV o pv u] w0 (RootPost B (atP n o.place (renP o.t)) w0) := by
  obtain ⟨pa, pcap, rfl, hpc, hpm, _⟩ := (hop.place w0 (Below.refl _ _)).ex
  obtain ⟨ua, uc, rfl, hc, hm⟩ := hop.node.shape
  have HOP := Lib.hid hop; have HR := Lib.hid hroot; have HSZ := Lib.hid hsz
  have HBL := Lib.hid (show B < w0.heap.size by obtain ⟨cs, ty, hg, _⟩ := hroot.blk; exact lt_blk hg)
  have HOM := Lib.hid (op_made w0 o (.slice pa o.place.length pcap) (.slice ua o.node.kids.length uc))
  have HB1 := Lib.hid (show Below w0.heap.size w0 (w0.alloc (.cells #[.int .i64 o.k, .slice pa o.place.length pcap, .int .i64 o.node.k, .string o.node.t, .string o.node.v, .slice ua o.node.kids.length uc, .string o.t] 45)) from (Below.refl _ _).alloc (Nat.le_refl _) _)
  clear hop hroot hsz
  unfold opV
  go_enter Tryz.func61, Tryz.ntmps61
  go_wp2_with fail
  have hBe := HB1.out.mono (Nat.le_of_lt HBL.out)
  have hdo : DoOf (w0.alloc (.cells #[.int .i64 o.k, .slice pa o.place.length pcap, .int .i64 o.node.k, .string o.node.t, .string o.node.v, .slice ua o.node.kids.length uc, .string o.t] 45)) B N 100 #[.pointer (some ⟨w0.heap.size, 0, none⟩)] (renP o.t) := by
    intro w g q m hfar hM hms hgB
    have hX := (hfar.oth _ (lt_blk HOM.out) (by have := HBL.out; omega)).trans HOM.out
    have hXg : w0.heap.size ≠ g := by have := HBL.out; have := HB1.out.size; have := lt_blk HOM.out; rcases hgB with ⟨rfl, _⟩ | h <;> omega
    have hsn := (HOP.out.below (hBe.trans (hfar.below (Nat.le_refl _) (by have := HBL.out; have := HB1.out.size; omega)))).node
    exact rename1_any w B g q w0.heap.size m o _ _ hM hX hXg
  refine (workAt_any _ B N n _ o.place 100 _ (renP o.t) (HR.out.below HB1.out) (fun w' hb => HOP.out.place w' (hBe.trans hb)) HSZ.out hN hdo
    (enters_of Tryz.func100 (by kernel_rfl) (by kernel_rfl))).mono ?_
  rintro e w2 ⟨rfl, hb, hok⟩
  obtain ⟨E, hE⟩ : ∃ E, (atP n o.place (renP o.t)).2 = E := ⟨_, rfl⟩
  have HO := Lib.hid (show RootPost B (atP n o.place (renP o.t)) w0 (.returned (.int .i64 E)) w2 from ⟨by rw [hE], hBe.trans hb, hok⟩)
  rw [hE]
  clear hE hb hok hBe hdo
  go_wp2_with fail
  go_ret
  exact HO.out
end
end Go.Proofs.YtdaamiihldbekaaGreatDoor

/- The walk of (*work).does. -/
namespace Go.Proofs.YtdaamiihldbekaaGreatDoor
open Go.RowKit Ev5
set_option linter.unusedSimpArgs false
set_option linter.unusedVariables false

theorem eqb_no {a b : Int} (h : a ≠ b) : (a == b) = false ∧ decide (a = b) = false ∧ ¬ a = b := ⟨by simpa using h, decide_eq_false h, h⟩
theorem eqb_yes {a b : Int} (h : a = b) : (a == b) = true ∧ decide (a = b) = true := ⟨by simpa using h, decide_eq_true h⟩
section
variable (w0 : World) (B N : Nat) (n : Nd) (o : GoOp) (pv u : Value)

set_option maxRecDepth 100000 in
set_option maxHeartbeats 8000000 in
theorem does1_any (hroot : Np w0 B B 0 n) (hop : OpIn w0 B o pv u) (hsz : n.size ≤ N) (hN : N ≤ 1048576) (hk : o.k = 1) : Calls Tryz.prog 38 #[.pointer (some ⟨B, 0, none⟩), opV o pv u] w0 (RootPost B (oneP n o) w0) := by
  obtain ⟨pa, pcap, rfl, hpc, hpm, _⟩ := (hop.place w0 (Below.refl _ _)).ex
  obtain ⟨ua, uc, rfl, hc, hm⟩ := hop.node.shape
  have HOP := Lib.hid hop; have HR := Lib.hid hroot; have HSZ := Lib.hid hsz
  have HBL := Lib.hid (show B < w0.heap.size by obtain ⟨cs, ty, hg, _⟩ := hroot.blk; exact lt_blk hg)
  have HB1 := Lib.hid (show Below w0.heap.size w0 (w0.alloc (.cells #[.int .i64 o.k, .slice pa o.place.length pcap, .int .i64 o.node.k, .string o.node.t, .string o.node.v, .slice ua o.node.kids.length uc, .string o.t] 45)) from (Below.refl _ _).alloc (Nat.le_refl _) _)
  obtain ⟨q1, r1⟩ := eqb_yes hk
  have HK := Lib.hid hk
  clear hop hroot hsz hk
  unfold opV
  go_enter Tryz.func38, Tryz.ntmps38
  go_wp2_with fail
  have hBe := HB1.out.mono (Nat.le_of_lt HBL.out)
  refine (add_any _ B N n o (.slice pa o.place.length pcap) (.slice ua o.node.kids.length uc) (HR.out.below HB1.out) (HOP.out.below hBe) HSZ.out hN).mono ?_
  rintro e w2 ⟨rfl, hb, hok⟩
  rw [← one_add HK.out] at hok
  rw [← one_add HK.out]
  obtain ⟨E, hE⟩ : ∃ E, (oneP n o).2 = E := ⟨_, rfl⟩
  have HO := Lib.hid (show RootPost B (oneP n o) w0 (.returned (.int .i64 E)) w2 from ⟨by rw [hE], hBe.trans hb, hok⟩)
  rw [hE]
  clear hE hb hok hBe
  go_wp2_with fail
  go_ret
  exact HO.out

set_option maxRecDepth 100000 in
set_option maxHeartbeats 8000000 in
theorem does2_any (hroot : Np w0 B B 0 n) (hop : OpIn w0 B o pv u) (hsz : n.size ≤ N) (hN : N ≤ 1048576) (hk : o.k = 2) : Calls Tryz.prog 38 #[.pointer (some ⟨B, 0, none⟩), opV o pv u] w0 (RootPost B (oneP n o) w0) := by
  obtain ⟨pa, pcap, rfl, hpc, hpm, _⟩ := (hop.place w0 (Below.refl _ _)).ex
  obtain ⟨ua, uc, rfl, hc, hm⟩ := hop.node.shape
  have HOP := Lib.hid hop; have HR := Lib.hid hroot; have HSZ := Lib.hid hsz
  have HBL := Lib.hid (show B < w0.heap.size by obtain ⟨cs, ty, hg, _⟩ := hroot.blk; exact lt_blk hg)
  have HB1 := Lib.hid (show Below w0.heap.size w0 (w0.alloc (.cells #[.int .i64 o.k, .slice pa o.place.length pcap, .int .i64 o.node.k, .string o.node.t, .string o.node.v, .slice ua o.node.kids.length uc, .string o.t] 45)) from (Below.refl _ _).alloc (Nat.le_refl _) _)
  obtain ⟨q1, r1, s1⟩ := eqb_no (show o.k ≠ 1 by omega)
  obtain ⟨q2, r2⟩ := eqb_yes hk
  have HK := Lib.hid hk
  clear hop hroot hsz hk
  unfold opV
  go_enter Tryz.func38, Tryz.ntmps38
  go_wp2_with fail
  have hBe := HB1.out.mono (Nat.le_of_lt HBL.out)
  refine (remove_any _ B N n o (.slice pa o.place.length pcap) (.slice ua o.node.kids.length uc) (HR.out.below HB1.out) (HOP.out.below hBe) HSZ.out hN).mono ?_
  rintro e w2 ⟨rfl, hb, hok⟩
  rw [← one_remove HK.out] at hok
  rw [← one_remove HK.out]
  obtain ⟨E, hE⟩ : ∃ E, (oneP n o).2 = E := ⟨_, rfl⟩
  have HO := Lib.hid (show RootPost B (oneP n o) w0 (.returned (.int .i64 E)) w2 from ⟨by rw [hE], hBe.trans hb, hok⟩)
  rw [hE]
  clear hE hb hok hBe
  go_wp2_with fail
  go_ret
  exact HO.out

set_option maxRecDepth 100000 in
set_option maxHeartbeats 8000000 in
theorem does3_any (hroot : Np w0 B B 0 n) (hop : OpIn w0 B o pv u) (hsz : n.size ≤ N) (hN : N ≤ 1048576) (hk : o.k = 3) : Calls Tryz.prog 38 #[.pointer (some ⟨B, 0, none⟩), opV o pv u] w0 (RootPost B (oneP n o) w0) := by
  obtain ⟨pa, pcap, rfl, hpc, hpm, _⟩ := (hop.place w0 (Below.refl _ _)).ex
  obtain ⟨ua, uc, rfl, hc, hm⟩ := hop.node.shape
  have HOP := Lib.hid hop; have HR := Lib.hid hroot; have HSZ := Lib.hid hsz
  have HBL := Lib.hid (show B < w0.heap.size by obtain ⟨cs, ty, hg, _⟩ := hroot.blk; exact lt_blk hg)
  have HB1 := Lib.hid (show Below w0.heap.size w0 (w0.alloc (.cells #[.int .i64 o.k, .slice pa o.place.length pcap, .int .i64 o.node.k, .string o.node.t, .string o.node.v, .slice ua o.node.kids.length uc, .string o.t] 45)) from (Below.refl _ _).alloc (Nat.le_refl _) _)
  obtain ⟨q1, r1, s1⟩ := eqb_no (show o.k ≠ 1 by omega)
  obtain ⟨q2, r2, s2⟩ := eqb_no (show o.k ≠ 2 by omega)
  obtain ⟨q3, r3⟩ := eqb_yes hk
  have HK := Lib.hid hk
  clear hop hroot hsz hk
  unfold opV
  go_enter Tryz.func38, Tryz.ntmps38
  go_wp2_with fail
  have hBe := HB1.out.mono (Nat.le_of_lt HBL.out)
  refine (replace_any _ B N n o (.slice pa o.place.length pcap) (.slice ua o.node.kids.length uc) (HR.out.below HB1.out) (HOP.out.below hBe) HSZ.out hN).mono ?_
  rintro e w2 ⟨rfl, hb, hok⟩
  rw [← one_replace HK.out] at hok
  rw [← one_replace HK.out]
  obtain ⟨E, hE⟩ : ∃ E, (oneP n o).2 = E := ⟨_, rfl⟩
  have HO := Lib.hid (show RootPost B (oneP n o) w0 (.returned (.int .i64 E)) w2 from ⟨by rw [hE], hBe.trans hb, hok⟩)
  rw [hE]
  clear hE hb hok hBe
  go_wp2_with fail
  go_ret
  exact HO.out

set_option maxRecDepth 100000 in
set_option maxHeartbeats 8000000 in
theorem does4_any (hroot : Np w0 B B 0 n) (hop : OpIn w0 B o pv u) (hsz : n.size ≤ N) (hN : N ≤ 1048576) (hk : o.k = 4) : Calls Tryz.prog 38 #[.pointer (some ⟨B, 0, none⟩), opV o pv u] w0 (RootPost B (oneP n o) w0) := by
  obtain ⟨pa, pcap, rfl, hpc, hpm, _⟩ := (hop.place w0 (Below.refl _ _)).ex
  obtain ⟨ua, uc, rfl, hc, hm⟩ := hop.node.shape
  have HOP := Lib.hid hop; have HR := Lib.hid hroot; have HSZ := Lib.hid hsz
  have HBL := Lib.hid (show B < w0.heap.size by obtain ⟨cs, ty, hg, _⟩ := hroot.blk; exact lt_blk hg)
  have HB1 := Lib.hid (show Below w0.heap.size w0 (w0.alloc (.cells #[.int .i64 o.k, .slice pa o.place.length pcap, .int .i64 o.node.k, .string o.node.t, .string o.node.v, .slice ua o.node.kids.length uc, .string o.t] 45)) from (Below.refl _ _).alloc (Nat.le_refl _) _)
  obtain ⟨q1, r1, s1⟩ := eqb_no (show o.k ≠ 1 by omega)
  obtain ⟨q2, r2, s2⟩ := eqb_no (show o.k ≠ 2 by omega)
  obtain ⟨q3, r3, s3⟩ := eqb_no (show o.k ≠ 3 by omega)
  obtain ⟨q4, r4⟩ := eqb_yes hk
  have HK := Lib.hid hk
  clear hop hroot hsz hk
  unfold opV
  go_enter Tryz.func38, Tryz.ntmps38
  go_wp2_with fail
  have hBe := HB1.out.mono (Nat.le_of_lt HBL.out)
  refine (test_any _ B N n o (.slice pa o.place.length pcap) (.slice ua o.node.kids.length uc) (HR.out.below HB1.out) (HOP.out.below hBe) HSZ.out hN).mono ?_
  rintro e w2 ⟨rfl, hb, hok⟩
  rw [← one_test HK.out] at hok
  rw [← one_test HK.out]
  obtain ⟨E, hE⟩ : ∃ E, (oneP n o).2 = E := ⟨_, rfl⟩
  have HO := Lib.hid (show RootPost B (oneP n o) w0 (.returned (.int .i64 E)) w2 from ⟨by rw [hE], hBe.trans hb, hok⟩)
  rw [hE]
  clear hE hb hok hBe
  go_wp2_with fail
  go_ret
  exact HO.out

set_option maxRecDepth 100000 in
set_option maxHeartbeats 8000000 in
theorem does5_any (hroot : Np w0 B B 0 n) (hop : OpIn w0 B o pv u) (hsz : n.size ≤ N) (hN : N ≤ 1048576) (hk : o.k = 5) : Calls Tryz.prog 38 #[.pointer (some ⟨B, 0, none⟩), opV o pv u] w0 (RootPost B (oneP n o) w0) := by
  obtain ⟨pa, pcap, rfl, hpc, hpm, _⟩ := (hop.place w0 (Below.refl _ _)).ex
  obtain ⟨ua, uc, rfl, hc, hm⟩ := hop.node.shape
  have HOP := Lib.hid hop; have HR := Lib.hid hroot; have HSZ := Lib.hid hsz
  have HBL := Lib.hid (show B < w0.heap.size by obtain ⟨cs, ty, hg, _⟩ := hroot.blk; exact lt_blk hg)
  have HB1 := Lib.hid (show Below w0.heap.size w0 (w0.alloc (.cells #[.int .i64 o.k, .slice pa o.place.length pcap, .int .i64 o.node.k, .string o.node.t, .string o.node.v, .slice ua o.node.kids.length uc, .string o.t] 45)) from (Below.refl _ _).alloc (Nat.le_refl _) _)
  obtain ⟨q1, r1, s1⟩ := eqb_no (show o.k ≠ 1 by omega)
  obtain ⟨q2, r2, s2⟩ := eqb_no (show o.k ≠ 2 by omega)
  obtain ⟨q3, r3, s3⟩ := eqb_no (show o.k ≠ 3 by omega)
  obtain ⟨q4, r4, s4⟩ := eqb_no (show o.k ≠ 4 by omega)
  obtain ⟨q5, r5⟩ := eqb_yes hk
  have HK := Lib.hid hk
  clear hop hroot hsz hk
  unfold opV
  go_enter Tryz.func38, Tryz.ntmps38
  go_wp2_with fail
  have hBe := HB1.out.mono (Nat.le_of_lt HBL.out)
  refine (rename_any _ B N n o (.slice pa o.place.length pcap) (.slice ua o.node.kids.length uc) (HR.out.below HB1.out) (HOP.out.below hBe) HSZ.out hN).mono ?_
  rintro e w2 ⟨rfl, hb, hok⟩
  rw [← one_rename HK.out] at hok
  rw [← one_rename HK.out]
  obtain ⟨E, hE⟩ : ∃ E, (oneP n o).2 = E := ⟨_, rfl⟩
  have HO := Lib.hid (show RootPost B (oneP n o) w0 (.returned (.int .i64 E)) w2 from ⟨by rw [hE], hBe.trans hb, hok⟩)
  rw [hE]
  clear hE hb hok hBe
  go_wp2_with fail
  go_ret
  exact HO.out

set_option maxRecDepth 100000 in
set_option maxHeartbeats 8000000 in
theorem does0_any (hroot : Np w0 B B 0 n) (hop : OpIn w0 B o pv u) (hsz : n.size ≤ N) (hN : N ≤ 1048576) (hk : o.k < 1 ∨ 5 < o.k) : Calls Tryz.prog 38 #[.pointer (some ⟨B, 0, none⟩), opV o pv u] w0 (RootPost B (oneP n o) w0) := by
  obtain ⟨pa, pcap, rfl, hpc, hpm, _⟩ := (hop.place w0 (Below.refl _ _)).ex
  obtain ⟨ua, uc, rfl, hc, hm⟩ := hop.node.shape
  have HOP := Lib.hid hop; have HR := Lib.hid hroot; have HSZ := Lib.hid hsz
  have HBL := Lib.hid (show B < w0.heap.size by obtain ⟨cs, ty, hg, _⟩ := hroot.blk; exact lt_blk hg)
  have HB1 := Lib.hid (show Below w0.heap.size w0 (w0.alloc (.cells #[.int .i64 o.k, .slice pa o.place.length pcap, .int .i64 o.node.k, .string o.node.t, .string o.node.v, .slice ua o.node.kids.length uc, .string o.t] 45)) from (Below.refl _ _).alloc (Nat.le_refl _) _)
  obtain ⟨q1, r1, s1⟩ := eqb_no (show o.k ≠ 1 by omega)
  obtain ⟨q2, r2, s2⟩ := eqb_no (show o.k ≠ 2 by omega)
  obtain ⟨q3, r3, s3⟩ := eqb_no (show o.k ≠ 3 by omega)
  obtain ⟨q4, r4, s4⟩ := eqb_no (show o.k ≠ 4 by omega)
  obtain ⟨q5, r5, s5⟩ := eqb_no (show o.k ≠ 5 by omega)
  have HK := Lib.hid hk
  clear hop hroot hsz hk
  unfold opV
  go_enter Tryz.func38, Tryz.ntmps38
  go_wp2_with fail
  go_ret
  rw [one_none HK.out]
  exact ⟨rfl, HB1.out.mono (Nat.le_of_lt HBL.out), fun h => by cases h⟩
theorem does_any (hroot : Np w0 B B 0 n) (hop : OpIn w0 B o pv u) (hsz : n.size ≤ N) (hN : N ≤ 1048576) : Calls Tryz.prog 38 #[.pointer (some ⟨B, 0, none⟩), opV o pv u] w0 (RootPost B (oneP n o) w0) := by
  by_cases h0 : o.k < 1 ∨ 5 < o.k
  · exact does0_any w0 B N n o pv u hroot hop hsz hN h0
  · have h : o.k = 1 ∨ o.k = 2 ∨ o.k = 3 ∨ o.k = 4 ∨ o.k = 5 := by omega
    rcases h with h | h | h | h | h
    · exact does1_any w0 B N n o pv u hroot hop hsz hN h
    · exact does2_any w0 B N n o pv u hroot hop hsz hN h
    · exact does3_any w0 B N n o pv u hroot hop hsz hN h
    · exact does4_any w0 B N n o pv u hroot hop hsz hN h
    · exact does5_any w0 B N n o pv u hroot hop hsz hN h
end
end Go.Proofs.YtdaamiihldbekaaGreatDoor

/- A row of operations in memory; the walk of patch.Apply. -/
namespace Go.Proofs.YtdaamiihldbekaaGreatDoor
open Go.RowKit Ev5
set_option linter.unusedSimpArgs false
set_option linter.unusedVariables false

/-- One operation's cells. -/
structure OpAt (w : World) (b o : Nat) (x : GoOp) (pv u : Value) : Prop where
  c0 : w.cell? ⟨b, o, none⟩ = some (.int .i64 x.k)
  c1 : w.cell? ⟨b, o + 1, none⟩ = some pv
  c2 : w.cell? ⟨b, o + 2, none⟩ = some (.int .i64 x.node.k)
  c3 : w.cell? ⟨b, o + 3, none⟩ = some (.string x.node.t)
  c4 : w.cell? ⟨b, o + 4, none⟩ = some (.string x.node.v)
  c5 : w.cell? ⟨b, o + 5, none⟩ = some u
  c6 : w.cell? ⟨b, o + 6, none⟩ = some (.string x.t)
  lt : b < w.heap.size
  place : IntsIn w pv x.place
  node : SlIn w (fun b => b < w.heap.size) u x.node.kids
theorem OpAt.below {w w' : World} {b o : Nat} {x : GoOp} {pv u : Value} (h : OpAt w b o x pv u) (hb : Below w.heap.size w w') : OpAt w' b o x pv u := by
  have c : ∀ j u, w.cell? ⟨b, j, none⟩ = some u → w'.cell? ⟨b, j, none⟩ = some u := fun j u hu => by rw [hb.cell (p := ⟨b, j, none⟩) h.lt]; exact hu
  exact ⟨c _ _ h.c0, c _ _ h.c1, c _ _ h.c2, c _ _ h.c3, c _ _ h.c4, c _ _ h.c5, c _ _ h.c6, Nat.lt_of_lt_of_le h.lt hb.size, h.place.below hb, h.node.alike (alike_below hb) fun b h _ => Nat.lt_of_lt_of_le h hb.size⟩
/-- A row of operations. -/
structure OpsIn (w : World) (v : Value) (l : List GoOp) : Prop where
  ex : ∃ (ao : Option Addr) (cap : Nat), v = .slice ao l.length cap ∧ l.length ≤ cap ∧ cap ≤ maxLen ∧
    ∀ (i : Nat) (h : i < l.length), ∃ b o pv u, ao = some ⟨b, o, none⟩ ∧ OpAt w b (o + i * 7) l[i] pv u
theorem OpsIn.below {w w' : World} {v : Value} {l : List GoOp} (h : OpsIn w v l) (hb : Below w.heap.size w w') : OpsIn w' v l := by
  obtain ⟨ao, cap, h1, h2, h3, h4⟩ := h.ex
  refine ⟨⟨ao, cap, h1, h2, h3, fun i hi => ?_⟩⟩
  obtain ⟨b, o, pv, u, e, c⟩ := h4 i hi
  exact ⟨b, o, pv, u, e, c.below hb⟩
theorem SlIn.lt {w : World} {S : Nat → Prop} {u : Value} {ks : List Nd} (h : SlIn w S u ks) : SlIn w (fun b => b < w.heap.size) u ks := h.alike ⟨Nat.le_refl _, fun _ _ _ => rfl⟩ fun _ _ hl => hl
/-- What Apply hands back. -/
def ApplyPost (r : Nd × Nat × Int) (w : World) (e : Ending) (w' : World) : Prop := ∃ a cap, e = .returned (.tuple #[.agg #[.int .i64 r.1.k, .string r.1.t, .string r.1.v, .slice a r.1.kids.length cap], .int .i64 r.2.1, .int .i64 r.2.2]) ∧
  Rk w' (fun b => w.heap.size ≤ b) (.slice a r.1.kids.length cap) r.1.kids ∧ Below w.heap.size w w'
theorem play_split {x y : Nd} {l : List GoOp} {i : Nat} (h : playP x (l.take i) = (y, i, 0)) (hi : i ≤ l.length) : playP x l = ((playP y (l.drop i)).1, i + (playP y (l.drop i)).2.1, (playP y (l.drop i)).2.2) := by
  conv => lhs; rw [← List.take_append_drop i l]
  rw [play_app _ _ _ (by rw [h]), h, List.length_take, Nat.min_eq_left hi]
theorem play_next {x y : Nd} {l : List GoOp} {i : Nat} (h : playP x (l.take i) = (y, i, 0)) (hi : i < l.length) (h1 : (oneP y l[i]).2 = 0) (h2 : (oneP y l[i]).1.wh = 0) : playP x (l.take (i + 1)) = ((oneP y l[i]).1, i + 1, 0) := by
  rw [List.take_add_one, List.getElem?_eq_getElem hi]
  rw [play_app _ _ _ (by rw [h]), h, List.length_take, Nat.min_eq_left (Nat.le_of_lt hi)]
  simp only [Option.toList, playP]
  rw [if_neg (by rw [h1]; simp), if_neg (by rw [h2]; simp)]
theorem play_stop {x y : Nd} {l : List GoOp} {i : Nat} (h : playP x (l.take i) = (y, i, 0)) (hi : i < l.length) (E : Int) (hE : E ≠ 0) (h1 : (oneP y l[i]).2 = E ∨ (oneP y l[i]).2 = 0 ∧ (oneP y l[i]).1.wh = E) : playP x l = (y, i, E) := by
  rw [play_split h (Nat.le_of_lt hi), List.drop_eq_getElem_cons hi]
  simp only [playP]
  rcases h1 with h1 | ⟨h1, h2⟩
  · rw [if_pos (by rw [h1]; exact hE), h1]; rfl
  · rw [if_neg (by rw [h1]; simp), if_pos (by rw [h2]; exact hE), h2]; rfl
theorem ops_take (l : List GoOp) (i : Nat) : opsSize (l.take i) ≤ opsSize l := by
  conv => rhs; rw [← List.take_append_drop i l]
  unfold opsSize
  rw [List.map_append, List.sum_append]
  omega
theorem ops_mem {l : List GoOp} {o : GoOp} (h : o ∈ l) : o.node.size ≤ opsSize l := by
  unfold opsSize
  induction l with
  | nil => cases h
  | cons x r ih =>
    rw [List.map_cons, List.sum_cons]
    rcases List.mem_cons.1 h with rfl | h
    · omega
    · have := ih h; omega

/-- A call of Apply behind some operations: the argument's box, the result's block, the tree. -/
structure Ap (w wr : World) (n : Nd) (u : Value) (B : Nat) (y : Nd) : Prop where
  box : wr.heap[w.heap.size]? = some (.cells #[.int .i64 n.k, .string n.t, .string n.v, u] 24 (0, 0))
  res : wr.heap[w.heap.size + 1]? = some (.cells #[.int .i64 0, .string ⟨#[]⟩, .string ⟨#[]⟩, .slice none 0 0] 24 (0, 0))
  root : Np wr B B 0 y
  lo : w.heap.size + 2 ≤ B
  bel : Below w.heap.size w wr
theorem Ap.step {w wr w' : World} {n : Nd} {u : Value} {B : Nat} {y z : Nd} (h : Ap w wr n u B y) (hb : Below B wr w') (hz : Np w' B B 0 z) : Ap w w' n u B z :=
  ⟨(hb.block _ (by have := h.lo; omega)).trans h.box, (hb.block _ (by have := h.lo; omega)).trans h.res, hz, h.lo, h.bel.trans (hb.mono (by have := h.lo; omega))⟩
theorem np_made {w : World} {n : Nd} {u : Value} (hs : SlIn w (fun b => b < w.heap.size) u n.kids) : Np (w.alloc (.cells #[.int .i64 n.k, .string n.t, .string n.v, u] 63)) w.heap.size w.heap.size 0 n := by
  have hb := heap_alloc_new w (.cells #[.int .i64 n.k, .string n.t, .string n.v, u] 63)
  have c := fun j hj => (blk_cell hb j hj).1
  refine ⟨⟨_, _, hb, by simp⟩, ndAt_iff.2 ⟨c 0 (by simp), c 1 (by simp), c 2 (by simp), u, c 3 (by simp), hs.alike (alike_below ((Below.refl _ _).alloc (Nat.le_refl _) _)) fun b h _ => ⟨by omega, by omega⟩⟩, Nat.le_refl _⟩

set_option maxRecDepth 100000 in
set_option maxHeartbeats 16000000 in
theorem apply_any (w : World) (S : Nat → Prop) (val lv : Value) (n : Nd) (l : List GoOp) (hE : EnvU w) (hv : NdV w S val n) (hl : OpsIn w lv l) (hok : n.ok) (hlok : ∀ o ∈ l, o.ok) (hsz : n.size + opsSize l ≤ 40000) :
    Calls Tryz.prog 16 #[val, lv] w (ApplyPost (applyP n l) w) := by
  obtain ⟨u, rfl, hs⟩ := hv
  obtain ⟨ua, uc, rfl, huc, hum⟩ := hs.shape
  obtain ⟨la, lc, rfl, hlc, hlm, hcells⟩ := hl.ex
  have HS := Lib.hid hs.lt; have HE := Lib.hid hE; have HL := Lib.hid hl; have HOK := Lib.hid hok; have HLO := Lib.hid hlok; have HSZ := Lib.hid hsz
  have hkl : n.kids.length ≤ 1048576 := by have := kids_size n; have := sizes_len n.kids; omega
  have hks : Nd.sizes n.kids ≤ 1048576 := by have := kids_size n; omega
  have hwl : n.walk.length ≤ 100000 := by have := walk_len n; omega
  have HWL := Lib.hid hwl
  clear hs hE hl hok hlok hsz hcells hwl
  unfold maxLen at hum hlm
  unfold ndV
  go_enter Tryz.func16, Tryz.ntmps16
  go_wp2_with fail
  have HB := Lib.hid (show Below w.heap.size w ((w.alloc (.cells #[.int .i64 n.k, .string n.t, .string n.v, .slice ua n.kids.length uc] 24)).alloc (.cells #[.int .i64 0, .string ⟨#[]⟩, .string ⟨#[]⟩, .slice none 0 0] 24)) from ((Below.refl _ _).alloc (Nat.le_refl _) _).alloc (by simp) _)
  have HT := Lib.hid (And.intro (two_first w (.cells #[.int .i64 n.k, .string n.t, .string n.v, .slice ua n.kids.length uc] 24) (.cells #[.int .i64 0, .string ⟨#[]⟩, .string ⟨#[]⟩, .slice none 0 0] 24)) (two_last w (.cells #[.int .i64 n.k, .string n.t, .string n.v, .slice ua n.kids.length uc] 24) (.cells #[.int .i64 0, .string ⟨#[]⟩, .string ⟨#[]⟩, .slice none 0 0] 24)))
  refine (treeMay_any n _ (fun b => b < w.heap.size) _ (HE.out.below HB.out) ⟨_, rfl, HS.out.below HB.out⟩ (fun b hb => Nat.lt_of_lt_of_le hb HB.out.size) HOK.out HWL.out).mono ?_
  rintro e w2 ⟨rfl, hb⟩
  have HB2 := Lib.hid (bthen HB.out hb)
  have hx1 := (hb.block w.heap.size (by simp; omega)).trans HT.out.1
  have hr1 := (hb.block (w.heap.size + 1) (by simp)).trans HT.out.2
  have HX1 := Lib.hid hx1; have HR1 := Lib.hid hr1
  obtain ⟨x0, x1, x2, x3, y0, y1, y2, y3, hxl⟩ := nd_cells hx1
  obtain ⟨r0, r1, r2, r3, s0, s1, s2, s3, hrl⟩ := nd_cells hr1
  clear hb hx1 hr1 HT HB
  obtain ⟨E, hEq⟩ : ∃ E, (wholeP RP (n.walk.map GoEv.ev)).2 = E := ⟨_, rfl⟩
  have HEQ := Lib.hid (show n.wh = E from hEq)
  rw [hEq]
  clear hEq
  by_cases hz : E = 0
  · subst hz
    go_wp2_with fail
    refine (copy_any n w2 _ _ ⟨_, rfl, HS.out.below HB2.out⟩ hkl hks).mono ?_
    rintro e w3 ⟨a, c, rfl, hsl, hb⟩
    have hx3 := (hb.block _ hxl).trans HX1.out
    have hr3 := (hb.block _ hrl).trans HR1.out
    have hAp : Ap w (w3.alloc (.cells #[.int .i64 n.k, .string n.t, .string n.v, .slice a n.kids.length c] 63)) n (.slice ua n.kids.length uc) w3.heap.size n := by
      have hb4 : Below w3.heap.size w3 (w3.alloc (.cells #[.int .i64 n.k, .string n.t, .string n.v, .slice a n.kids.length c] 63)) := (Below.refl _ _).alloc (Nat.le_refl _) _
      exact ⟨(hb4.block _ (lt_blk hx3)).trans hx3, (hb4.block _ (lt_blk hr3)).trans hr3, np_made hsl.lt, by have := lt_blk hr3; omega, bthen (bthen HB2.out hb) hb4⟩
    have HAP := Lib.hid hAp
    clear hx3 hr3 hAp hsl hb x0 x1 x2 x3 y0 y1 y2 y3 hxl r0 r1 r2 r3 s0 s1 s2 s3 hrl
    go_wp2_with fail
    obtain ⟨B, hBe⟩ : ∃ B, w3.heap.size = B := ⟨_, rfl⟩
    rw [hBe] at HAP
    rw [hBe]
    clear hBe
    go_loopw [24] (fun vi wr => ∃ (i : Nat) (y : Nd), i ≤ l.length ∧ vi = .int .i64 i ∧ Hid (playP n (l.take i) = (y, i, 0)) ∧ Hid (Ap w wr n (.slice ua n.kids.length uc) B y))
      (fun vi _ => l.length - (intOf vi).toNat)
    case atStart => exact ⟨0, n, Nat.zero_le _, rfl, by show _ = _; rw [List.take_zero]; rfl, HAP.out⟩
    case round =>
      obtain ⟨i, y, hi, rfl, HPL, HA⟩ := hrel
      have HY := Lib.hid (show y.ok ∧ y.size ≤ 40000 from by
        have h1 := play_ok n (l.take i) HOK.out fun o ho => HLO.out o (List.mem_of_mem_take ho)
        have h2 := play_size n (l.take i)
        rw [HPL.out] at h1 h2
        exact ⟨h1, by have := ops_take l i; have := HSZ.out; simp only [] at h2; omega⟩)
      obtain ⟨x0, x1, x2, x3, y0, y1, y2, y3, hxl⟩ := nd_cells HA.out.box
      obtain ⟨r0, r1, r2, r3, s0, s1, s2, s3, hrl⟩ := nd_cells HA.out.res
      by_cases hlt : i < l.length
      · obtain ⟨la', lc', e', _, _, hcells⟩ := (HL.out.below HA.out.bel).ex
        injection e' with e1 e2 e3
        subst e1; subst e3
        obtain ⟨b, o, pv, uo, rfl, hat⟩ := hcells i hlt
        obtain ⟨pa, pcap, rfl, hpc, hpm, _⟩ := hat.place.ex
        obtain ⟨na, ncap, rfl, hnc, hnm⟩ := hat.node.shape
        have hop : OpIn wr B l[i] (.slice pa l[i].place.length pcap) (.slice na l[i].node.kids.length ncap) := by
          have h0 := HL.out
          obtain ⟨la2, lc2, e2', _, _, hc2⟩ := h0.ex
          injection e2' with f1 f2 f3
          subst f1
          obtain ⟨b2, o2, pv2, u2, e4, hat2⟩ := hc2 i hlt
          injection e4 with e4; injection e4 with e4 e5
          subst e4; subst e5
          have hat3 := hat2.below HA.out.bel
          have e6 : some (Value.slice pa l[i].place.length pcap) = some pv2 := hat.c1.symm.trans hat3.c1
          have e7 : some (Value.slice na l[i].node.kids.length ncap) = some u2 := hat.c5.symm.trans hat3.c5
          injection e6 with e6; injection e7 with e7
          subst e6; subst e7
          have hlo := HA.out.lo
          have hbs := HA.out.bel.size
          exact ⟨fun w' hb => hat2.place.below (HA.out.bel.trans (hb.mono (by omega))), hat2.node.alike ⟨hbs, fun b h _ => HA.out.bel.block b h⟩ fun b h _ => by have h' : b < w.heap.size := h; omega, by have := ops_mem (List.getElem_mem hlt); have := HSZ.out; omega⟩
        have HOP := Lib.hid hop
        have HPS := Lib.hid (fun E hE h1 => play_stop HPL.out hlt E hE h1)
        have HPN := Lib.hid (fun h1 h2 => play_next HPL.out hlt h1 h2)
        have HO1 := Lib.hid (show (oneP y l[i]).1.ok ∧ (oneP y l[i]).1.size ≤ 40000 from by
          refine ⟨one_ok HY.out.1 (HLO.out _ (List.getElem_mem hlt)), ?_⟩
          have h1 := one_size y l[i]
          have h2 := play_size n (l.take i)
          rw [HPL.out] at h2
          have h3 : opsSize l = opsSize (l.take i) + (l[i].node.size + opsSize (l.drop (i + 1))) := by
            conv => lhs; rw [← List.take_append_drop i l, List.drop_eq_getElem_cons hlt]
            unfold opsSize
            rw [List.map_append, List.sum_append, List.map_cons, List.sum_cons]
          have := HSZ.out
          simp only [] at h2
          omega)
        obtain ⟨X, hX⟩ : ∃ X, l[i] = X := ⟨_, rfl⟩
        rw [hX] at hat HOP HPS HPN HO1 hpc hnc
        obtain ⟨d0, d1, d2, d3, d4, d5, d6, hdl, _, _⟩ := hat
        unfold maxLen at hpm hnm
        clear hcells hop hX
        go_wp2_with fail
        have hbX : Below wr.heap.size wr (wr.alloc (.cells #[.int .i64 X.k, .slice pa X.place.length pcap, .int .i64 X.node.k, .string X.node.t, .string X.node.v, .slice na X.node.kids.length ncap, .string X.t] 45)) := (Below.refl _ _).alloc (Nat.le_refl _) _
        have hBw : B < wr.heap.size := by obtain ⟨cs, ty, hg, _⟩ := HA.out.root.blk; exact lt_blk hg
        refine (does_any _ B 40000 y X _ _ (HA.out.root.below hbX) (HOP.out.below (hbX.mono (Nat.le_of_lt hBw))) HY.out.2 (by omega)).mono ?_
        rintro e w5 ⟨rfl, hb5, hok5⟩
        have HB5 := Lib.hid ((hbX.mono (Nat.le_of_lt hBw)).trans hb5)
        have HK5 := Lib.hid hok5
        have hx5 := (HB5.out.block w.heap.size (by have := HA.out.lo; omega)).trans HA.out.box
        have hr5 := (HB5.out.block (w.heap.size + 1) (by have := HA.out.lo; omega)).trans HA.out.res
        have HX5 := Lib.hid hx5; have HR5 := Lib.hid hr5
        clear x0 x1 x2 x3 y0 y1 y2 y3 hxl r0 r1 r2 r3 s0 s1 s2 s3 hrl d0 d1 d2 d3 d4 d5 d6 hdl hbX hb5 hok5
        obtain ⟨x0, x1, x2, x3, y0, y1, y2, y3, hxl⟩ := nd_cells hx5
        obtain ⟨r0, r1, r2, r3, s0, s1, s2, s3, hrl⟩ := nd_cells hr5
        have HBW := Lib.hid (show Below w.heap.size w w5 from HA.out.bel.trans (HB5.out.mono (by have := HA.out.lo; omega)))
        obtain ⟨E1, hE1⟩ : ∃ E1, (oneP y X).2 = E1 := ⟨_, rfl⟩
        rw [hE1] at HK5 HPS HPN
        rw [hE1]
        clear hx5 hr5 hE1
        have done : ∀ (E : Int) (w6 : World), E ≠ 0 → (E1 = E ∨ E1 = 0 ∧ (oneP y X).1.wh = E) → Below w5.heap.size w5 w6 → ∀ e7 w7, NewRd n w6 e7 w7 → ∃ a2 c2, e7 = .returned (.agg #[.int .i64 n.k, .string n.t, .string n.v, .slice a2 n.kids.length c2]) ∧ Hid (w7.heap[w.heap.size + 1]? = some (.cells #[.int .i64 0, .string ⟨#[]⟩, .string ⟨#[]⟩, .slice none 0 0] 24 (0, 0))) ∧
            Hid (∀ w8, w8 = ((((w7.setCell ⟨w.heap.size + 1, 0, none⟩ (.int .i64 n.k)).setCell ⟨w.heap.size + 1, 1, none⟩ (.string n.t)).setCell ⟨w.heap.size + 1, 2, none⟩ (.string n.v)).setCell ⟨w.heap.size + 1, 3, none⟩ (.slice a2 n.kids.length c2)) → w8.heap[w.heap.size + 1]? = some (.cells #[.int .i64 n.k, .string n.t, .string n.v, .slice a2 n.kids.length c2] 24 (0, 0)) ∧ ApplyPost (applyP n l) w (.returned (.tuple #[.agg #[.int .i64 n.k, .string n.t, .string n.v, .slice a2 n.kids.length c2], .int .i64 i, .int .i64 E])) w8) := by
          rintro E w6 hE0 hEE hb6 e7 w7 ⟨a2, c2, rfl, hrk, hb7⟩
          have hr7 := (hb7.block _ (Nat.lt_of_lt_of_le (lt_blk HR5.out) hb6.size)).trans ((hb6.block _ (lt_blk HR5.out)).trans HR5.out)
          refine ⟨a2, c2, rfl, hr7, ?_⟩
          rintro w8 rfl
          obtain ⟨hf, hgr⟩ := fill4 (.int .i64 n.k) (.string n.t) (.string n.v) (.slice a2 n.kids.length c2) hr7
          refine ⟨hf, ?_⟩
          have happ : applyP n l = (n, i, E) := by
            have hp := HPS.out E hE0 hEE
            unfold applyP
            rw [if_neg (by rw [HEQ.out]; simp), hp, if_pos hE0]
          rw [happ]
          have hbw : Below w.heap.size w w7 := bthen (bthen HBW.out hb6) hb7
          have hl5 := lt_blk HR5.out
          have hs6 := hb6.size
          refine ⟨a2, c2, rfl, hrk.alike ⟨hgr.size, fun b hb hl => hgr.block b hl (fun e => by injection e with e; omega)⟩ fun b hb _ => by omega, hbw.grown hgr hbw.size (fun b hb => by injection hb; omega)⟩
        by_cases hz1 : E1 = 0
        · subst hz1
          have hnp := HK5.out rfl
          obtain ⟨ka, kc, ⟨c0, c1, c2, c3, _, _, _, _, hBl⟩, hks5, hkc5, hkm5⟩ := hnp.cells
          have hnd5 : NdV w5 (fun b => b < w5.heap.size) (.agg #[.int .i64 (oneP y X).1.k, .string (oneP y X).1.t, .string (oneP y X).1.v, .slice ka (oneP y X).1.kids.length kc]) (oneP y X).1 := ⟨_, rfl, hks5.lt⟩
          have HND5 := Lib.hid hnd5
          have HZN := Lib.hid (HPN.out rfl)
          unfold maxLen at hkm5
          obtain ⟨Z, hZ⟩ : ∃ Z, (oneP y X).1 = Z := ⟨_, rfl⟩
          rw [hZ] at c0 c1 c2 c3 HND5 HO1 HZN HPS done hnp hkc5
          have HNP := Lib.hid hnp
          have hzero : (0 : Nat) + 1 = 1 ∧ (0 : Nat) + 2 = 2 ∧ (0 : Nat) + 3 = 3 := ⟨rfl, rfl, rfl⟩
          rw [hzero.1] at c1; rw [hzero.2.1] at c2; rw [hzero.2.2] at c3
          clear hnp hnd5 hks5 hZ hzero
          go_wp2_with fail
          refine (treeMay_any Z w5 _ _ (HE.out.below HBW.out) HND5.out (fun b hb => hb) HO1.out.1 (by have := walk_len Z; have := HO1.out.2; omega)).mono ?_
          rintro e w6 ⟨rfl, hb6⟩
          obtain ⟨E2, hE2⟩ : ∃ E2, (wholeP RP (Z.walk.map GoEv.ev)).2 = E2 := ⟨_, rfl⟩
          have HE2 := Lib.hid (show Z.wh = E2 from hE2)
          rw [hE2]
          have HB6 := Lib.hid hb6
          have hx6 := (hb6.block _ hxl).trans HX5.out
          have hr6 := (hb6.block _ hrl).trans HR5.out
          clear hE2 hb6 x0 x1 x2 x3 y0 y1 y2 y3 hxl r0 r1 r2 r3 s0 s1 s2 s3 hrl c0 c1 c2 c3
          obtain ⟨x0, x1, x2, x3, y0, y1, y2, y3, hxl⟩ := nd_cells hx6
          obtain ⟨r0, r1, r2, r3, s0, s1, s2, s3, hrl⟩ := nd_cells hr6
          clear hx6 hr6
          by_cases hz2 : E2 = 0
          · subst hz2
            have HNX := Lib.hid (HZN.out HE2.out)
            have HAN := Lib.hid (show Ap w w6 n (.slice ua n.kids.length uc) B Z from HA.out.step (HB5.out.trans (HB6.out.mono (Nat.le_of_lt hBl))) (HNP.out.below HB6.out))
            clear done
            go_wp2_with fail
            go_roundw
            case rel => exact ⟨i + 1, Z, by omega, by go_num, HNX.out, HAN.out⟩
            case measure => simp [intOf]; omega
          · have HZE2 := Lib.hid hz2
            have hzb : (E2 != 0) = true := by simp [hz2]
            have hzd : (E2 == 0) = false := by simp [hz2]
            clear hz2
            go_wp2_with fail
            refine (copyR_any n _ _ _ ⟨_, rfl, HS.out.below (bthen HBW.out HB6.out)⟩ hkl hks).mono ?_
            intro e7 w7 hnew
            have hdone := done E2 _ HZE2.out (.inr ⟨by trivial, HE2.out⟩) (HB6.out) e7 w7 hnew
            clear done hnew
            obtain ⟨a2, c2, rfl, hr7, hfin⟩ := hdone
            obtain ⟨r0, r1, r2, r3, s0, s1, s2, s3, hrl⟩ := nd_cells hr7.out
            clear x0 x1 x2 x3 y0 y1 y2 y3 hxl
            go_wp2_with fail
            obtain ⟨w8, hw8⟩ : ∃ w8, w8 = ((((w7.setCell ⟨w.heap.size + 1, 0, none⟩ (.int .i64 n.k)).setCell ⟨w.heap.size + 1, 1, none⟩ (.string n.t)).setCell ⟨w.heap.size + 1, 2, none⟩ (.string n.v)).setCell ⟨w.heap.size + 1, 3, none⟩ (.slice a2 n.kids.length c2)) := ⟨_, rfl⟩
            rw [← hw8]
            obtain ⟨hf8, hpost⟩ := hfin.out w8 hw8
            obtain ⟨q0, q1, q2, q3, _, _, _, _, hql⟩ := nd_cells hf8
            refine bodyPost_ret (v := .tuple #[.agg #[.int .i64 n.k, .string n.t, .string n.v, .slice a2 n.kids.length c2], .int .i64 i, .int .i64 E2]) (by simp [results, Tryz.results16, go_sem, q0, q1, q2, q3]) rfl hpost
        · have HZE1 := Lib.hid hz1
          have hzb : (E1 != 0) = true := by simp [hz1]
          have hzd : (E1 == 0) = false := by simp [hz1]
          have hbr : Below w5.heap.size w5 w5 := Below.refl _ _
          have HBR := Lib.hid hbr
          clear hz1 hbr
          go_wp2_with fail
          refine (copyR_any n _ _ _ ⟨_, rfl, HS.out.below (bthen HBW.out HBR.out)⟩ hkl hks).mono ?_
          intro e7 w7 hnew
          have hdone := done E1 _ HZE1.out (.inl (by trivial)) (HBR.out) e7 w7 hnew
          clear done hnew
          obtain ⟨a2, c2, rfl, hr7, hfin⟩ := hdone
          obtain ⟨r0, r1, r2, r3, s0, s1, s2, s3, hrl⟩ := nd_cells hr7.out
          clear x0 x1 x2 x3 y0 y1 y2 y3 hxl
          go_wp2_with fail
          obtain ⟨w8, hw8⟩ : ∃ w8, w8 = ((((w7.setCell ⟨w.heap.size + 1, 0, none⟩ (.int .i64 n.k)).setCell ⟨w.heap.size + 1, 1, none⟩ (.string n.t)).setCell ⟨w.heap.size + 1, 2, none⟩ (.string n.v)).setCell ⟨w.heap.size + 1, 3, none⟩ (.slice a2 n.kids.length c2)) := ⟨_, rfl⟩
          rw [← hw8]
          obtain ⟨hf8, hpost⟩ := hfin.out w8 hw8
          obtain ⟨q0, q1, q2, q3, _, _, _, _, hql⟩ := nd_cells hf8
          refine bodyPost_ret (v := .tuple #[.agg #[.int .i64 n.k, .string n.t, .string n.v, .slice a2 n.kids.length c2], .int .i64 i, .int .i64 E1]) (by simp [results, Tryz.results16, go_sem, q0, q1, q2, q3]) rfl hpost
      · obtain rfl : i = l.length := by omega
        have hpl := HPL.out
        rw [List.take_length] at hpl
        have happ : applyP n l = (y, l.length, 0) := by
          unfold applyP
          rw [if_neg (by rw [HEQ.out]; simp), hpl, if_neg (by simp)]
        have HAPP := Lib.hid happ
        obtain ⟨ka, kc, ⟨c0, c1, c2, c3, _, _, _, _, hBl⟩, hks5, hkc5, hkm5⟩ := HA.out.root.cells
        have hyk : y.kids.length ≤ 1048576 := by have := kids_size y; have := sizes_len y.kids; have := HY.out.2; omega
        have hys : Nd.sizes y.kids ≤ 1048576 := by have := kids_size y; have := HY.out.2; omega
        have HKS := Lib.hid hks5
        unfold maxLen at hkm5
        have hzero : (0 : Nat) + 1 = 1 ∧ (0 : Nat) + 2 = 2 ∧ (0 : Nat) + 3 = 3 := ⟨rfl, rfl, rfl⟩
        rw [hzero.1] at c1; rw [hzero.2.1] at c2; rw [hzero.2.2] at c3
        clear hpl happ hks5 hzero hlt
        go_wp2_with fail
        refine (copyR_any y wr _ _ ⟨_, rfl, HKS.out⟩ hyk hys).mono ?_
        rintro e7 w7 ⟨a2, c2', rfl, hrk, hb7⟩
        have hr7 := (hb7.block _ hrl).trans HA.out.res
        have HR7 := Lib.hid hr7; have HRK := Lib.hid hrk; have HB7 := Lib.hid (bthen HA.out.bel hb7)
        have HWR := Lib.hid (And.intro hrl hb7.size)
        clear x0 x1 x2 x3 y0 y1 y2 y3 hxl r0 r1 r2 r3 s0 s1 s2 s3 hrl c0 c1 c2 c3 hrk hb7
        obtain ⟨r0, r1, r2, r3, s0, s1, s2, s3, hrl⟩ := nd_cells hr7
        clear hr7
        go_wp2_with fail
        obtain ⟨w8, hw8⟩ : ∃ w8, ((((w7.setCell ⟨w.heap.size + 1, 0, none⟩ (.int .i64 y.k)).setCell ⟨w.heap.size + 1, 1, none⟩ (.string y.t)).setCell ⟨w.heap.size + 1, 2, none⟩ (.string y.v)).setCell ⟨w.heap.size + 1, 3, none⟩ (.slice a2 y.kids.length c2')) = w8 := ⟨_, rfl⟩
        obtain ⟨hf, hgr⟩ := fill4 (.int .i64 y.k) (.string y.t) (.string y.v) (.slice a2 y.kids.length c2') HR7.out
        rw [hw8] at hf hgr
        rw [hw8]
        obtain ⟨q0, q1, q2, q3, _, _, _, _, hql⟩ := nd_cells hf
        refine bodyPost_ret (v := .tuple #[.agg #[.int .i64 y.k, .string y.t, .string y.v, .slice a2 y.kids.length c2'], .int .i64 l.length, .int .i64 0]) (by simp [results, Tryz.results16, go_sem, q0, q1, q2, q3]) rfl ?_
        rw [HAPP.out]
        exact ⟨a2, c2', rfl, HRK.out.alike ⟨hgr.size, fun b hb hl => hgr.block b hl (fun e => by injection e with e; have := HWR.out.1; omega)⟩ fun b hb _ => by have := HWR.out.1; omega, HB7.out.grown hgr HB7.out.size (fun b hb => by injection hb; omega)⟩
  · have hzb : (E != 0) = true := by simp [hz]
    have HZ := Lib.hid hz
    clear hz
    go_wp2_with fail
    obtain ⟨w8, hw8⟩ : ∃ w8, ((((w2.setCell ⟨w.heap.size + 1, 0, none⟩ (.int .i64 0)).setCell ⟨w.heap.size + 1, 1, none⟩ (.string ⟨#[]⟩)).setCell ⟨w.heap.size + 1, 2, none⟩ (.string ⟨#[]⟩)).setCell ⟨w.heap.size + 1, 3, none⟩ (.slice none 0 0)) = w8 := ⟨_, rfl⟩
    obtain ⟨hf, hgr⟩ := fill4 (.int .i64 0) (.string ⟨#[]⟩) (.string ⟨#[]⟩) (.slice none 0 0) HR1.out
    rw [hw8] at hf hgr
    rw [hw8]
    obtain ⟨q0, q1, q2, q3, _, _, _, _, hql⟩ := nd_cells hf
    refine bodyPost_ret (v := .tuple #[.agg #[.int .i64 0, .string ⟨#[]⟩, .string ⟨#[]⟩, .slice none 0 0], .int .i64 0, .int .i64 E]) (by simp [results, Tryz.results16, go_sem, q0, q1, q2, q3]) rfl ?_
    have happ : applyP n l = (zeroNd, 0, E) := by unfold applyP; rw [HEQ.out, if_pos HZ.out]
    rw [happ]
    exact ⟨none, 0, rfl, ⟨⟨none, 0, rfl, Nat.le_refl _, by decide, .inl rfl⟩, Rd.nil⟩, HB2.out.grown hgr HB2.out.size (fun b hb => by injection hb; omega)⟩
end Go.Proofs.YtdaamiihldbekaaGreatDoor

/- A slice of operations that is handed in. -/
namespace Go.Proofs.YtdaamiihldbekaaGreatDoor
open Go.ChangeShapes Go.WideShapes Go.Deep Go.RowKit Ev5
set_option linter.unusedSimpArgs false
set_option linter.unusedVariables false

set_option maxHeartbeats 2000000 in
theorem ops_open {H : Type} {enc : TypeId × Value → H} {w : World} {v : Value} {d : DataW H} {p : List MemPlace} (hv : ∃ a n c, v = .slice a n c) (h : DataW.Trod enc Tryz.prog w 0 (fun _ => true) true 25 v d p) (hbk : Rows.uptoBulk d ≤ 1048576) :
    ∃ l : List GoOp, OpsIn w v l ∧ ∀ o ∈ l, o.ok := by
  obtain ⟨a0, n0, c0, rfl⟩ := hv
  obtain ⟨fuel, hf⟩ := h
  have hC : Tryz.prog.cellsOf 45 = 7 := by kernel_rfl
  rcases open_slice Tryz.underlying25 hf with ⟨hcs, hx⟩ | ⟨a, len, cap, m, n, D, Pl, hcs, _, hl, hm, hmm, hx, hi⟩
  · simp [Value.cells] at hcs
    obtain ⟨rfl, rfl, rfl⟩ := hcs
    exact ⟨[], ⟨⟨none, 0, rfl, Nat.le_refl _, by decide, fun i h => by simp at h⟩⟩, fun x hx => by cases hx⟩
  · simp [Value.cells] at hcs
    obtain ⟨rfl, rfl, rfl⟩ := hcs
    simp only [if_true] at hmm
    subst hmm
    simp only [Prod.mk.injEq] at hx
    obtain ⟨rfl, _⟩ := hx
    rw [hC] at hi
    simp only [Rows.uptoBulk] at hbk
    obtain ⟨l, hll, hlp⟩ := list_of (fun i (x : GoOp) => (∃ b o pv u, a = ⟨b, o, none⟩ ∧ OpAt w b (o + i * 7) x pv u) ∧ x.ok) n0 (by
      intro i hin
      obtain ⟨cs, hc, ht⟩ := hi i (by omega)
      obtain ⟨_, hcl, hat⟩ := World.cells?_some hc
      have hDb : Rows.uptoBulk (D i) ≤ 1048576 := by
        have := bulk_part (d := D i) (l := (List.range n0).map D) (List.mem_map.2 ⟨i, List.mem_range.2 hin, rfl⟩)
        omega
      match cs, hcl with
      | [x0, x1, x2, x3, x4, x5, x6], _ =>
        obtain ⟨ys, n', hn', hy, hlen, hyl, hfld⟩ := DataW.trod_struct Tryz.underlying45 ht
        simp only [Prod.mk.injEq] at hy
        obtain ⟨hD, _⟩ := hy
        have k1 : Tryz.prog.cellsOf 3 = 1 := by kernel_rfl
        have k2 : Tryz.prog.cellsOf 40 = 1 := by kernel_rfl
        have k3 : Tryz.prog.cellsOf 24 = 4 := by kernel_rfl
        have k4 : Tryz.prog.cellsOf 9 = 1 := by kernel_rfl
        have t0 : DataW.trod enc Tryz.prog w 0 (fun _ => true) true n' 3 (([x0, x1, x2, x3, x4, x5, x6].drop 0).take (Tryz.prog.cellsOf 3)) = ys[0]? := hfld 0 _ rfl
        have t1 : DataW.trod enc Tryz.prog w 0 (fun _ => true) true n' 40 (([x0, x1, x2, x3, x4, x5, x6].drop 1).take (Tryz.prog.cellsOf 40)) = ys[1]? := hfld 1 _ rfl
        have t2 : DataW.trod enc Tryz.prog w 0 (fun _ => true) true n' 24 (([x0, x1, x2, x3, x4, x5, x6].drop 2).take (Tryz.prog.cellsOf 24)) = ys[2]? := hfld 2 _ rfl
        have t3 : DataW.trod enc Tryz.prog w 0 (fun _ => true) true n' 9 (([x0, x1, x2, x3, x4, x5, x6].drop 6).take (Tryz.prog.cellsOf 9)) = ys[3]? := hfld 3 _ rfl
        rw [k1] at t0; rw [k2] at t1; rw [k3] at t2; rw [k4] at t3
        have hy4 : ys.length = 4 := hyl
        rw [hD] at hDb
        clear hfld hyl hlen
        match ys, hy4 with
        | [y0, y1, y2, y3], _ =>
          simp only [List.drop_succ_cons, List.drop_zero, List.take_succ_cons, List.take_zero, List.getElem?_cons_zero, List.getElem?_cons_succ] at t0 t1 t2 t3
          obtain ⟨k, ek, rfl, hkw⟩ := DataW.trod_int Tryz.underlying3 t0
          obtain ⟨tt, et, rfl, _⟩ := DataW.trod_string Tryz.underlying9 t3
          simp only [List.cons.injEq, and_true] at ek et
          subst ek; subst et
          obtain ⟨d1, p1⟩ := y1
          obtain ⟨d2, p2⟩ := y2
          simp only [List.map_cons, List.map_nil, Rows.uptoBulk, Rows.uptoBulkAll] at hDb
          rw [Array.length_toList] at hDb
          have s1 : tt.data.size = tt.size := rfl
          have hx1 : ∃ a n c, x1 = .slice a n c := by
            rcases open_slice Tryz.underlying40 t1 with ⟨e, _⟩ | ⟨a1, l1, c1, _, _, _, _, e, _⟩
            · simp at e; exact ⟨_, _, _, e⟩
            · simp at e; exact ⟨_, _, _, e⟩
          obtain ⟨pa, pn, pc, rfl⟩ := hx1
          obtain ⟨pl, hpl⟩ := ints_open (w := w) (v := .slice pa pn pc) ⟨pa, pn, pc, rfl⟩ ⟨n', by simpa [Value.cells] using t1⟩ (by omega)
          obtain ⟨nd, ⟨uu, hu, hsl⟩, hok, _⟩ := nd_open (v := .agg #[x2, x3, x4, x5]) ⟨_, rfl, by rw [k3]; rfl⟩ ⟨n', by simpa [Value.cells] using t2⟩ (by omega)
          simp only [ndV, Value.agg.injEq] at hu
          have hu' : [x2, x3, x4, x5] = [.int .i64 nd.k, .string nd.t, .string nd.v, uu] := by
            have := congrArg Array.toList hu
            simpa using this
          simp only [List.cons.injEq, and_true] at hu'
          obtain ⟨rfl, rfl, rfl, rfl⟩ := hu'
          have hspot : a.spot = none := by
            have h0 := hat 0 (by omega)
            simp only [List.getElem?_cons_zero] at h0
            refine addr_spot (H := H) (q := i * 7) (w := w) (a := a) (u := .int .i64 k) ?_ fun hq => ?_
            · rw [← h0]; rw [Addr.add_add, Nat.add_zero]
            · obtain ⟨cs0, hc0, ht0⟩ := hi 0 (by omega)
              obtain ⟨_, hcl0, hat0⟩ := World.cells?_some hc0
              have := hat0 0 (by omega)
              have hh : ∃ u0, cs0[0]? = some u0 := ⟨cs0[0]'(by omega), List.getElem?_eq_getElem (by omega)⟩
              obtain ⟨u0, hu0⟩ := hh
              rw [hu0] at this
              exact ⟨u0, by simpa [Addr.add_add] using this⟩
          obtain ⟨b, o, sp⟩ := a
          simp only at hspot
          subst hspot
          have eadd : ∀ q : Nat, (⟨b, o, none⟩ : Addr).add q = ⟨b, o + q, none⟩ := fun q => Addr.add_lit b o q
          have c : ∀ j u', ([.int .i64 k, .slice pa pn pc, .int .i64 nd.k, .string nd.t, .string nd.v, x5, .string tt] : List Value)[j]? = some u' → w.cell? ⟨b, o + i * 7 + j, none⟩ = some u' := fun j u' hj => by
            have hlt : j < 7 := by
              have := (List.getElem?_eq_some_iff.1 hj).1
              simpa using this
            have h1 := hat j hlt
            rw [hj, Addr.add_lit, Addr.add_lit] at h1
            exact h1
          refine ⟨⟨k, pl, nd, tt⟩, ⟨b, o, .slice pa pn pc, x5, rfl, ?_⟩, ⟨hkw, hpl.ok, hok, by simp only []; omega⟩⟩
          have c0 := c 0 _ rfl
          exact ⟨by simpa using c0, c 1 _ rfl, c 2 _ rfl, c 3 _ rfl, c 4 _ rfl, c 5 _ rfl, c 6 _ rfl, cell_lt c0, hpl, hsl⟩)
    refine ⟨l, ⟨⟨some a, _, by rw [hll], by omega, hm, fun i hin => ?_⟩⟩, fun x hx => ?_⟩
    · obtain ⟨⟨b, o, pv, u, e, hat⟩, _⟩ := hlp i hin
      exact ⟨b, o, pv, u, by rw [e], hat⟩
    · obtain ⟨i, hi, rfl⟩ := List.mem_iff_getElem.1 hx
      exact (hlp i hi).2
end Go.Proofs.YtdaamiihldbekaaGreatDoor
