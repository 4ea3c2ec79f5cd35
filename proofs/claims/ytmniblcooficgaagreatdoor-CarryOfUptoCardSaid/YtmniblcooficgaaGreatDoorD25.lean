import Derived.Defers
import Derived.Recover
import Derived.Tactics2
import Derived.Laws.Pointers
import Derived.Deep.Upon
import Derived.Maps.AppendAt
import Derived.Lib.AppendStr
import Derived.Deep.RegionLaw
import Derived.StillTailTactics
import Derived.Lib.Join
import Derived.Laws.IdiomStrings
import Derived.Test.YtmniblcooficgaaGreatDoorD23
import Derived.Test.YtmniblcooficgaaGreatDoorD24
import Derived.Test.YtmniblcooficgaaGreatDoorD05
namespace Go.Proofs.YtmniblcooficgaaGreatDoor
open Go.RowKit Ev5
set_option linter.unusedSimpArgs false
set_option linter.unusedVariables false

theorem SlIn.ltC {w : World} {S : Nat → Prop} {u : Value} {ks : List Nd} (h : SlIn w S u ks) : SlIn w (fun b => b < w.heap.size) u ks := h.alike ⟨Nat.le_refl _, fun _ _ _ => rfl⟩ fun b _ hl => hl
theorem assert_nilC (w : World) : (Instr.typeAssert .nilIface 20 39 true).run Tryz.prog w = .ok (.tuple #[.agg #[.slice none 0 0], .bool false]) w := by kernel_rfl
set_option maxRecDepth 100000 in
set_option maxHeartbeats 2000000 in
theorem of1_idle (p q : Addr) (w : World) :
    CallsD Tryz.prog 14 #[.pointer (some p), .pointer (some q)] .returning w fun e u' w' => e = .returned (.tuple #[]) ∧ u' = .returning ∧ Below w.heap.size w w' := by
  have hta := assert_nilC
  refine callsD_of_wpS Tryz.func14 rfl fun c₀ cs hu => ?_
  apply wpS_seq
  apply wpS_region
  simp [wpOpsS, go_sem, recoverD, hu, Tryz.ntmps14, Exit.thenS]
  refine wpS_of_wp ?_
  rw [show #[Value.pointer (some p), Value.pointer (some q)] ++ ((Array.replicate 15 undef).setIfInBounds 3 Value.nilIface).setIfInBounds 0 Value.nilIface = #[Value.pointer (some p), Value.pointer (some q), .nilIface, undef, undef, .nilIface, undef, undef, undef, undef, undef, undef, undef, undef, undef, undef, undef] from rfl]
  go_wp2_with fail
  have hbl : Below w.heap.size w (w.alloc (.cells #[.slice none 0 0] 39)) := (Below.refl _ _).alloc (Nat.le_refl _) _
  cases c₀
  simp_all [bodyPostS, results, Tryz.results14]
theorem set_blkC {w : World} {g j : Nat} {cs : Array Value} {t : TypeId} {y : Value} (h : w.heap[g]? = some (.cells cs t (0, 0))) : (w.setCell ⟨g, j, none⟩ y).heap[g]? = some (.cells (cs.setIfInBounds j y) t (0, 0)) := by
  obtain ⟨hlt, he⟩ := Array.getElem?_eq_some_iff.1 h
  show (w.heap.modify g _)[g]? = _
  rw [Array.getElem?_eq_getElem (by rw [Array.size_modify]; exact hlt), Array.getElem_modify_self, he]
  rfl
theorem two_vars {w : World} {p q : Nat} {x y : Value} {t u : TypeId} (h : w.heap[p]? = some (.cells #[x] t (0, 0))) (k : w.heap[q]? = some (.cells #[y] u (0, 0))) (hne : p ≠ q) (x' y' : Value) :
    ((w.setCell ⟨p, 0, none⟩ x').setCell ⟨q, 0, none⟩ y').heap[p]? = some (.cells #[x'] t (0, 0)) ∧ ((w.setCell ⟨p, 0, none⟩ x').setCell ⟨q, 0, none⟩ y').heap[q]? = some (.cells #[y'] u (0, 0)) := by
  refine ⟨?_, ?_⟩
  · rw [set_other hne]; exact set_blkC h
  · exact set_blkC (j := 0) (y := y') ((set_other (c := p) (i := 0) (v := x') (Ne.symm hne)).trans k)
theorem threeC (w : World) (o1 o2 o3 : Obj) : (((w.alloc o1).alloc o2).alloc o3).heap[w.heap.size]? = some o1 ∧ (((w.alloc o1).alloc o2).alloc o3).heap[w.heap.size + 1]? = some o2 ∧ (((w.alloc o1).alloc o2).alloc o3).heap[w.heap.size + 1 + 1]? = some o3 ∧ Below w.heap.size w (((w.alloc o1).alloc o2).alloc o3) := by
  have s2 : ((w.alloc o1).alloc o2).heap.size = w.heap.size + 2 := by simp
  have a3 := heap_alloc_new ((w.alloc o1).alloc o2) o3
  rw [s2] at a3
  have n3 : ∀ b, b < w.heap.size + 2 → (((w.alloc o1).alloc o2).alloc o3).heap[b]? = ((w.alloc o1).alloc o2).heap[b]? := fun b hb => ((Below.refl _ _).alloc (Nat.le_refl _) _).block b (by omega)
  refine ⟨by rw [n3 _ (by omega)]; exact two_first w o1 o2, by rw [n3 _ (by omega)]; exact two_last w o1 o2, a3, ?_⟩
  exact (((Below.refl w.heap.size w).alloc (Nat.le_refl _) o1).alloc (by simp) o2).alloc (by omega) o3
set_option maxRecDepth 100000 in
set_option maxHeartbeats 2000000 in
theorem carryParen_any (n : Nd) (w : World) (S : Nat → Prop) (v : Value) (hE : EnvU w) (hv : NdV w S v n) (hok : n.ok) (hN : n.walk.length ≤ 100000) :
    Calls Tryz.prog 7 #[.int .i64 6, v] w fun e w' => e = .returned (.tuple #[.slice none 0 0, .int .i64 n.wh]) ∧ Below w.heap.size w w' := by
  obtain ⟨u, rfl, hs⟩ := hv
  obtain ⟨ao, cap, rfl, hcap, hcm⟩ := hs.shape
  have HV := Lib.hid (NdV.mk hs.ltC); have HE := Lib.hid hE; have HOK := Lib.hid hok; have HN := Lib.hid hN
  have hmf : ∀ (fn : Fn) (first cap : Array Value) (w : World), (Instr.makeFunc fn first cap).run Tryz.prog w = .ok (.func fn first cap) w := fun _ _ _ _ => rfl
  clear hs hE hok hN
  unfold ndV
  go_enter_defers Tryz.func7, Tryz.ntmps7
  have h3 := threeC w (.cells #[.int .i64 n.k, .string n.t, .string n.v, .slice ao n.kids.length cap] 24) (.cells #[.slice none 0 0] 27) (.cells #[.int .i64 0] 28)
  have H3 := Lib.hid h3
  clear h3
  go_wp2_with fail
  refine (treeMay_any n _ _ _ (HE.out.below H3.out.2.2.2) (HV.out.below H3.out.2.2.2) (fun b hb => Nat.lt_of_lt_of_le hb H3.out.2.2.2.size) HOK.out HN.out).mono ?_
  rintro e w2 ⟨rfl, hb⟩
  have hx0 := (hb.block _ (lt_blk H3.out.1)).trans H3.out.1
  have hx1 := (hb.block _ (lt_blk H3.out.2.1)).trans H3.out.2.1
  have hx2 := (hb.block _ (lt_blk H3.out.2.2.1)).trans H3.out.2.2.1
  have HB2 := Lib.hid (bthen H3.out.2.2.2 hb)
  obtain ⟨x0, x1, x2, x3, _, _, _, _, hxl⟩ := nd_cells hx0
  obtain ⟨P5, h5⟩ : ∃ P5, w.heap.size + 1 + 1 = P5 := ⟨_, rfl⟩
  obtain ⟨P4, h4⟩ : ∃ P4, w.heap.size + 1 = P4 := ⟨_, rfl⟩
  have hne : P5 ≠ P4 := by omega
  have hne' : P4 ≠ P5 := by omega
  have HLO := Lib.hid (show w.heap.size ≤ P4 ∧ w.heap.size ≤ P5 by omega)
  rw [h5] at hx2
  rw [h4] at hx1
  rw [h5, h4]
  have HX := Lib.hid (And.intro hx1 hx2)
  have hl4 := lt_blk hx1
  have hl5 := lt_blk hx2
  obtain ⟨c4, g4⟩ := blk_cell hx1 0 (by simp)
  obtain ⟨c5, g5⟩ := blk_cell hx2 0 (by simp)
  obtain ⟨E, hE⟩ : ∃ E, (wholeP RP (n.walk.map GoEv.ev)).2 = E := ⟨_, rfl⟩
  have HEQ := Lib.hid (show n.wh = E from hE)
  rw [hE]
  clear hb hx0 hx1 hx2 hE h4 h5
  by_cases hz : E = 0
  · subst hz
    go_wp2_with fail
    obtain ⟨W9, hW9⟩ : ∃ W9, ((w2.setCell ⟨P4, 0, none⟩ (.slice none 0 0)).setCell ⟨P5, 0, none⟩ (.int .i64 0)).alloc (.cells #[.slice none 0 0] 42) = W9 := ⟨_, rfl⟩
    have hk := two_vars HX.out.1 HX.out.2 hne' (.slice none 0 0) (.int .i64 0)
    have hba : Below ((w2.setCell ⟨P4, 0, none⟩ (.slice none 0 0)).setCell ⟨P5, 0, none⟩ (.int .i64 0)).heap.size ((w2.setCell ⟨P4, 0, none⟩ (.slice none 0 0)).setCell ⟨P5, 0, none⟩ (.int .i64 0)) W9 := by rw [← hW9]; exact (Below.refl _ _).alloc (Nat.le_refl _) _
    have k4 : W9.cell? ⟨P4, 0, none⟩ = some (.slice none 0 0) := (blk_cell ((hba.block _ (lt_blk hk.1)).trans hk.1) 0 (by simp)).1
    have k5 : W9.cell? ⟨P5, 0, none⟩ = some (.int .i64 0) := (blk_cell ((hba.block _ (lt_blk hk.2)).trans hk.2) 0 (by simp)).1
    have hbw : Below w.heap.size w W9 := by
      rw [← hW9]
      exact ((HB2.out.setCell (p := ⟨P4, 0, none⟩) HLO.out.1 _).setCell (p := ⟨P5, 0, none⟩) HLO.out.2 _).alloc (by simp; have := HB2.out.size; omega) _
    rw [hW9]
    refine leaves_cons (f := 14) (args := #[.pointer (some ⟨P4, 0, none⟩), .pointer (some ⟨P5, 0, none⟩)]) (by simp) (by simp [go_sem]) ?_
    refine (of1_idle ⟨P4, 0, none⟩ ⟨P5, 0, none⟩ W9).mono ?_
    rintro e u' w'' ⟨rfl, rfl, hb⟩
    have m4 : w''.cell? ⟨P4, 0, none⟩ = some (.slice none 0 0) := by rw [hb.cell (p := ⟨P4, 0, none⟩) (cell_lt k4)]; exact k4
    have m5 : w''.cell? ⟨P5, 0, none⟩ = some (.int .i64 0) := by rw [hb.cell (p := ⟨P5, 0, none⟩) (cell_lt k5)]; exact k5
    have hz0 := HEQ.out
    have hbb := bthen hbw hb
    simp [Leaves, settle, results, Tryz.results7, go_sem, m4, m5, hz0]
    exact hbb
  · have hzb : (E != 0) = true := by simp [hz]
    go_wp2_with fail
    obtain ⟨W9, hW9⟩ : ∃ W9, (w2.setCell ⟨P4, 0, none⟩ (.slice none 0 0)).setCell ⟨P5, 0, none⟩ (.int .i64 E) = W9 := ⟨_, rfl⟩
    have hk := two_vars HX.out.1 HX.out.2 hne' (.slice none 0 0) (.int .i64 E)
    rw [hW9] at hk
    have k4 : W9.cell? ⟨P4, 0, none⟩ = some (.slice none 0 0) := (blk_cell hk.1 0 (by simp)).1
    have k5 : W9.cell? ⟨P5, 0, none⟩ = some (.int .i64 E) := (blk_cell hk.2 0 (by simp)).1
    have hbw : Below w.heap.size w W9 := by
      rw [← hW9]
      exact (HB2.out.setCell (p := ⟨P4, 0, none⟩) HLO.out.1 _).setCell (p := ⟨P5, 0, none⟩) HLO.out.2 _
    rw [hW9]
    have hz0 := HEQ.out
    simp [bodyPostD, Leaves, settle, results, Tryz.results7, go_sem, k4, k5, hz0]
    exact hbw
end Go.Proofs.YtmniblcooficgaaGreatDoor

namespace Go.Proofs.YtmniblcooficgaaGreatDoor
open Go.RowKit Ev5
set_option linter.unusedSimpArgs false
set_option linter.unusedVariables false

theorem own_shapeC {w : World} {base : Nat} {e : TypeId} {size : Nat} {v : Value} {n : Nat} {xs : List Value} (h : w.ownsRow base e size v n xs) : ∃ a c, v = .slice a n c := by
  rcases h.2 with ⟨rfl, rfl⟩ | ⟨g, cap, cur, rfl, _⟩
  · exact ⟨none, 0, rfl⟩
  · exact ⟨_, _, rfl⟩
theorem SlIn.toC {w : World} {S S' : Nat → Prop} {u : Value} {ks : List Nd} (h : SlIn w S u ks) (hs : ∀ b, S b → S' b) : SlIn w S' u ks := h.alike ⟨Nat.le_refl _, fun _ _ _ => rfl⟩ fun b hb _ => hs b hb
theorem append_nodesC (w : World) (base : Nat) (v : Value) (ps : List (Nd × Value)) (hown : w.ownsRow base 24 4 v ps.length (ndRow ps)) (S : Nat → Prop) (x : Value) (ls : List Nd) (hx : SlIn w S x ls) (hlen : ps.length + ls.length ≤ 1048576) (hbase : base ≤ w.heap.size) :
    ∃ qs v' w', qs.map (·.1) = ls ∧ (∀ p ∈ qs, SlIn w S p.2 p.1.kids) ∧ (Builtin.append_ #[22, 22] 22 #[v, x]).run Tryz.prog w = .ok v' w' ∧ w'.ownsRow base 24 4 v' (ps.length + qs.length) (ndRow ps ++ ndRow qs) ∧ w.grownBy w' v.ownBlock ∧ (v'.ownBlock = v.ownBlock ∨ ∀ b, v'.ownBlock = some b → w.heap.size ≤ b) := by
  obtain ⟨xo, xc, rfl, hxc, hxm⟩ := hx.shape
  obtain ⟨qs, hq, hk, hc⟩ := hx.pairs
  obtain ⟨i0, hinf, hz0, hz1, hz2⟩ := info_parts infoN
  have hql : qs.length = ls.length := by rw [← hq, List.length_map]
  cases xo with
  | none =>
    have hl : ls = [] := by
      rcases hc with h | ⟨b, o, e, _⟩
      · exact h
      · cases e
    subst hl
    have hq0 : qs = [] := List.eq_nil_of_length_eq_zero hql
    subst hq0
    obtain ⟨a, cap, rfl, hcap⟩ : ∃ a cap, v = .slice a ps.length cap ∧ ps.length ≤ cap := by
      rcases hown.2 with ⟨rfl, h0⟩ | ⟨g, cap, cur, rfl, _, _, h6, _⟩
      · exact ⟨none, 0, by rw [h0], by omega⟩
      · exact ⟨_, _, rfl, h6⟩
    refine ⟨[], _, w, rfl, fun p hp => (by cases hp), run_append_nothing w _ _ _ _ i0 Tryz.underlying22 hinf a ps.length cap hcap _ (Src.ofNil w Tryz.underlying22 xc), ?_, ⟨rfl, rfl, rfl, Nat.le_refl _, fun _ _ _ => rfl⟩, .inl rfl⟩
    simpa [ndRow] using hown
  | some a =>
    have hcell : ∀ j u, (ndRow qs)[j]? = some u → w.cell? (a.add j) = some u := by
      rcases hc with h | ⟨b, o, e, _, _, h⟩
      · subst h
        have hq0 : qs = [] := List.eq_nil_of_length_eq_zero hql
        subst hq0
        intro j u hj; simp [ndRow] at hj
      · injection e with e; subst e
        intro j u hj
        rw [Addr.add_lit]; exact h j u hj
    obtain ⟨v', w', h1, h2, h3, _, h5⟩ := run_append_own_at (P := Tryz.prog) w base 22 22 24 i0 _ 4 64 Tryz.underlying22 hinf hz0 hz1 hz2 rfl (by omega) v ps.length (ndRow ps) hown a ls.length xc (ndRow qs) (by rw [ndRow_len, hql]) hcell (ndRow_one qs fun p hp => (hk p hp).one) (by unfold maxLen; omega) (by omega) hbase
    exact ⟨qs, v', w', hq, hk, h1, by rw [hql]; exact h2, h3, h5.imp id fun e b hb => by rw [e] at hb; injection hb; omega⟩
theorem owns_slInC {w : World} {base : Nat} {S : Nat → Prop} {v : Value} {ps : List (Nd × Value)} (h : w.ownsRow base 24 4 v ps.length (ndRow ps)) (hk : ∀ p ∈ ps, SlIn w S p.2 p.1.kids) : SlIn w (fun b => S b ∨ base ≤ b) v (ps.map (·.1)) := by
  rcases h.2 with ⟨rfl, h0⟩ | ⟨g, cap, cur, rfl, hb, hg, hc, hm, hs, ht⟩
  · obtain rfl : ps = [] := List.eq_nil_of_length_eq_zero h0
    exact ⟨none, 0, rfl, Nat.le_refl _, by decide, .inl rfl⟩
  · refine ⟨some ⟨g, 0, none⟩, cap, by rw [List.length_map], by rw [List.length_map]; exact hc, hm, .inr ⟨g, 0, rfl, .inr hb, lt_blk hg, ?_⟩⟩
    rw [kidsIn_iff]
    intro i hi
    have hi' : i < ps.length := by rw [List.length_map] at hi; exact hi
    obtain ⟨r0, r1, r2, r3⟩ := owns_cells (w := w) (base := 0) (g := g) (cap := cap) ht i hi'
    have cc : ∀ j u, cur[j]? = some u → w.cell? ⟨g, j, none⟩ = some u := fun j u hu => by rw [cell_of_row w g j _ _ _ hg]; exact hu
    rw [List.getElem_map, Nat.zero_add]
    exact ndAt_iff.2 ⟨cc _ _ r0, cc _ _ r1, cc _ _ r2, _, cc _ _ r3, (hk _ (List.getElem_mem hi')).toC fun b h => .inl h⟩
theorem one_rowC {w : World} {X : Nat} {S : Nat → Prop} {x : Nd} {u : Value} (h : w.heap[X]? = some (.cells #[.int .i64 x.k, .string x.t, .string x.v, u] 24 (0, 0))) (hX : S X) (hu : SlIn w S u x.kids) : SlIn w S (.slice (some ⟨X, 0, none⟩) 1 1) [x] := by
  have c := fun j hj => (blk_cell h j hj).1
  exact ⟨some ⟨X, 0, none⟩, 1, rfl, Nat.le_refl _, by decide, .inr ⟨X, 0, rfl, hX, lt_blk h, kidsIn_cons.2 ⟨ndAt_iff.2 ⟨c 0 (by simp), c 1 (by simp), c 2 (by simp), u, c 3 (by simp), hu⟩, kidsIn_nil⟩⟩⟩
theorem way_app (w : World) (S : Nat → Prop) (hS : ∀ b, S b → b < w.heap.size) (xa : Value) (la : List Nd) (x : Nd) (ux : Value) (ha : SlIn w S xa la) (hx : SlIn w S ux x.kids) (hl : la.length ≤ 200000) :
    ∃ v1 w1 v2 w2, (Builtin.append_ #[22, 22] 22 #[.slice none 0 0, xa]).run Tryz.prog w = .ok v1 w1 ∧
      (Builtin.append_ #[22, 22] 22 #[v1, .slice (some ⟨w1.heap.size, 0, none⟩) 1 1]).run Tryz.prog (w1.alloc (.cells #[.int .i64 x.k, .string x.t, .string x.v, ux] 24)) = .ok v2 w2 ∧
      SlIn w2 (fun b => S b ∨ w.heap.size ≤ b) v2 (la ++ [x]) ∧ Below w.heap.size w w1 ∧ Below w.heap.size w w2 ∧ (∃ a c, v1 = .slice a la.length c) ∧ (∃ a c, v2 = .slice a (la.length + 1) c) := by
  obtain ⟨q1, v1, w1, m1, k1, r1, o1, g1, t1⟩ := append_nodesC w w.heap.size (.slice none 0 0) [] (World.ownsRow_nil _ _ _ _) S xa la ha (by simp; omega) (Nat.le_refl _)
  have b1 : Below w.heap.size w w1 := (Below.refl _ _).grown g1 (Nat.le_refl _) (fun k hk => by simp [Value.ownBlock] at hk)
  simp only [List.length_nil, Nat.zero_add, ndRow, List.flatMap_nil, List.nil_append] at o1
  have hl1 : q1.length = la.length := by rw [← m1, List.length_map]
  obtain ⟨w1', hw1⟩ : ∃ w1', w1.alloc (.cells #[.int .i64 x.k, .string x.t, .string x.v, ux] 24) = w1' := ⟨_, rfl⟩
  have bz : Below w1.heap.size w1 w1' := by rw [← hw1]; exact (Below.refl _ _).alloc (Nat.le_refl _) _
  have hx1 : w1'.heap[w1.heap.size]? = some (.cells #[.int .i64 x.k, .string x.t, .string x.v, ux] 24 (0, 0)) := by rw [← hw1]; exact heap_alloc_new w1 _
  have b1' : Below w.heap.size w w1' := b1.trans (bz.mono b1.size)
  have al : ∀ {w' : World} {u : Value} {ks : List Nd}, Below w.heap.size w w' → SlIn w S u ks → SlIn w' S u ks := fun hb h => h.below hb
  obtain ⟨q2, v2, w2, m2, k2, r2, o2, g2, t2⟩ := append_nodesC w1' w.heap.size v1 q1 (o1.kept (row := none) ⟨bz.os, bz.tape, bz.output, bz.size, fun k hk _ => bz.block k hk⟩ (by cases hv : v1.ownBlock <;> simp)) (fun b => S b ∨ b = w1.heap.size) (.slice (some ⟨w1.heap.size, 0, none⟩) 1 1) [x] (one_rowC hx1 (.inr rfl) ((al b1' hx).toC fun b h => .inl h)) (by simp; omega) (by have := b1'.size; omega)
  have b2 : Below w.heap.size w w2 := b1'.grown g2 b1'.size (fun k hk => (o1.lt k hk).1)
  have hl2 : q2.length = 1 := by have := congrArg List.length m2; simpa using this
  rw [← ndRow_app, ← List.length_append] at o2
  refine ⟨v1, w1, v2, w2, r1, by rw [hw1]; exact r2, ?_, b1, b2, by rw [← hl1]; exact own_shapeC o1, by rw [← hl1, ← hl2, ← List.length_append]; exact own_shapeC o2⟩
  have ob1 : ∀ b, v1.ownBlock = some b → w.heap.size ≤ b ∧ b < w1.heap.size := fun b h => o1.lt b h
  have hfin := owns_slInC (S := fun b => S b ∨ w.heap.size ≤ b) o2 fun p hp => by
    rcases List.mem_append.1 hp with hp | hp
    · exact (al b2 (k1 p hp)).toC fun b h => .inl h
    · have h1 : SlIn w2 (fun b => S b ∨ b = w1.heap.size) p.2 p.1.kids := (k2 p hp).alike ⟨g2.size, fun b hb hl => g2.block b hl (fun e => by have := ob1 b e.symm; rcases hb with hb | hb; have := hS b hb; omega; omega)⟩ fun b h _ => h
      exact h1.toC fun b h => h.imp id fun h => by have := b1.size; omega
  rw [List.map_append, m1, m2] at hfin
  exact hfin.toC (S' := fun b => S b ∨ w.heap.size ≤ b) fun b h => by rcases h with h | h; exact h; exact .inr h
/-! Whole numbers behind one another. -/
def intsR (l : List Int) : List Value := l.map fun x => .int .i64 x
theorem intsR_len (l : List Int) : (intsR l).length = l.length := List.length_map ..
theorem intsR_one (l : List Int) : ∀ u ∈ intsR l, u.oneCell' = true := by
  intro u hu
  obtain ⟨x, _, rfl⟩ := List.mem_map.1 hu
  rfl
theorem ownsR_ints {w : World} {base : Nat} {v : Value} {l : List Int} (h : w.ownsRow base 3 1 v l.length (intsR l)) (hw : ∀ x ∈ l, (Lit.int .i64 x).wf = true) : IntsIn w v l := by
  rcases h.2 with ⟨rfl, h0⟩ | ⟨g, cap, cur, rfl, hb, hg, hc, hm, hs, ht⟩
  · obtain rfl : l = [] := List.eq_nil_of_length_eq_zero h0
    exact ⟨⟨none, 0, rfl, Nat.le_refl _, by decide, fun i hi => by simp at hi⟩, hw⟩
  · refine ⟨⟨some ⟨g, 0, none⟩, cap, rfl, hc, hm, fun i hi => ⟨g, 0, rfl, ?_⟩⟩, hw⟩
    rw [cell_of_row w g (0 + i) _ _ _ hg, Nat.zero_add]
    have h1 : cur.toList.take (l.length * 1) = intsR l := ht
    have h2 : (cur.toList.take (l.length * 1))[i]? = some (.int .i64 l[i]) := by rw [h1]; simp [intsR, hi]
    rw [List.getElem?_take_of_lt (by omega)] at h2
    simpa using h2
set_option maxRecDepth 1000000 in
theorem place_two (w : World) (x : Value) (p : List Int) (i : Int) (hx : IntsIn w x p) (hl : p.length ≤ 1048576) (hi : (Lit.int .i64 i).wf = true) :
    ∃ v1 w1 v2 w2, (Builtin.append_ #[27, 27] 27 #[.slice none 0 0, x]).run Tryz.prog w = .ok v1 w1 ∧
      (Builtin.append_ #[27, 27] 27 #[v1, .slice (some ⟨w1.heap.size, 0, none⟩) 1 1]).run Tryz.prog (w1.alloc (.cells #[.int .i64 i] 3)) = .ok v2 w2 ∧ IntsIn w2 v2 (p ++ [i]) ∧ Below w.heap.size w w1 ∧ Below w.heap.size w w2 ∧ (∃ a c, v1 = .slice a p.length c) ∧ (∃ a c, v2 = .slice a (p.length + 1) c) := by
  obtain ⟨ao, cap, rfl, hc, hm, hcell⟩ := hx.ex
  obtain ⟨i0, hinf, hz0, hz1, hz2⟩ := info_parts infoI
  unfold maxLen at hm
  obtain ⟨v1, w1, hr1, ho1, hb1⟩ : ∃ v1 w1, (Builtin.append_ #[27, 27] 27 #[.slice none 0 0, .slice ao p.length cap]).run Tryz.prog w = .ok v1 w1 ∧ w1.ownsRow w.heap.size 3 1 v1 p.length (intsR p) ∧ Below w.heap.size w w1 := by
    cases ao with
    | none =>
      obtain rfl : p = [] := by
        refine List.eq_nil_of_length_eq_zero (Nat.eq_zero_of_not_pos fun h => ?_)
        obtain ⟨b, o, e, _⟩ := hcell 0 h
        cases e
      exact ⟨_, w, run_append_nothing w _ _ _ _ i0 Tryz.underlying27 hinf none 0 0 (Nat.le_refl _) _ (Src.ofNil w Tryz.underlying27 cap), World.ownsRow_nil _ _ _ _, Below.refl _ _⟩
    | some a =>
      obtain ⟨ab, aoff, asp⟩ := a
      have hnews : ∀ j u, (intsR p)[j]? = some u → w.cell? ((⟨ab, aoff, asp⟩ : Addr).add j) = some u := fun j u hj => by
        obtain ⟨hj1, hj2⟩ := List.getElem?_eq_some_iff.1 hj
        rw [intsR_len] at hj1
        obtain ⟨b, o, e, h⟩ := hcell j hj1
        injection e with e; injection e with e1 e2 e3; subst e1; subst e2; subst e3
        have h5 : u = .int .i64 p[j] := by rw [← hj2]; simp [intsR]
        rw [Addr.add_lit, h5]
        exact h
      obtain ⟨v', w', h1, h2, h3, _, h5⟩ := run_append_own_at (P := Tryz.prog) w w.heap.size 27 27 3 i0 _ 1 8 Tryz.underlying27 hinf hz0 hz1 hz2 rfl (by omega) (.slice none 0 0) 0 [] (World.ownsRow_nil _ _ _ _) ⟨ab, aoff, asp⟩ p.length cap (intsR p) (by rw [intsR_len]; omega) hnews (intsR_one p) (by unfold maxLen; omega) (by omega) (Nat.le_refl _)
      exact ⟨v', w', h1, by simpa using h2, (Below.refl _ _).grown h3 (Nat.le_refl _) (fun k hk => by simp [Value.ownBlock] at hk)⟩
  have hba : Below w1.heap.size w1 (w1.alloc (.cells #[.int .i64 i] 3)) := (Below.refl _ _).alloc (Nat.le_refl _) _
  have ho1' : (w1.alloc (.cells #[.int .i64 i] 3)).ownsRow w.heap.size 3 1 v1 p.length (intsR p) := ho1.kept (row := none) ⟨hba.os, hba.tape, hba.output, hba.size, fun k hk _ => hba.block k hk⟩ (by cases hv : v1.ownBlock <;> simp)
  obtain ⟨v2, w2, h1, h2, h3, _, h5⟩ := run_append_own_at (P := Tryz.prog) (w1.alloc (.cells #[.int .i64 i] 3)) w.heap.size 27 27 3 i0 _ 1 8 Tryz.underlying27 hinf hz0 hz1 hz2 rfl (by omega) v1 p.length (intsR p) ho1' ⟨w1.heap.size, 0, none⟩ 1 1 [.int .i64 i] (by rfl) (World.news_of_block (heap_alloc_new w1 _)) (by intro u hu; rw [List.mem_singleton.1 hu]; rfl) (by unfold maxLen; omega) (by omega) (Nat.le_trans hb1.size (by simp))
  refine ⟨v1, w1, v2, w2, hr1, h1, ?_, hb1, (hb1.trans (hba.mono hb1.size)).grown h3 (Nat.le_trans hb1.size (by simp)) (fun k hk => (ho1'.lt k hk).1), own_shapeC ho1, own_shapeC h2⟩
  refine ownsR_ints (base := w.heap.size) ?_ ?_
  · rw [List.length_append, List.length_singleton]
    have : intsR (p ++ [i]) = intsR p ++ [.int .i64 i] := List.map_append ..
    rw [this]; exact h2
  · intro x hx'
    rcases List.mem_append.1 hx' with h | h
    · exact hx.ok x h
    · rw [List.mem_singleton.1 h]; exact hi
def firstSome : List (Option (List Int)) → Option (List Int)
  | [] => none
  | some a :: _ => some a
  | none :: r => firstSome r
theorem firstSome_none : ∀ {l : List (Option (List Int))}, (∀ x ∈ l, x = none) → firstSome l = none
  | [], _ => rfl
  | x :: r, h => by
    obtain rfl := h x (List.mem_cons_self ..)
    show firstSome r = none
    exact firstSome_none fun y hy => h y (List.mem_cons_of_mem _ hy)
theorem firstSome_some : ∀ {l : List (Option (List Int))} {i : Nat} {q : List Int}, l[i]? = some (some q) → (∀ j, j < i → l[j]? = some none) → firstSome l = some q
  | [], i, q, h, _ => by simp at h
  | x :: r, 0, q, h, _ => by
    obtain rfl : x = some q := by simpa using h
    rfl
  | x :: r, i + 1, q, h, hj => by
    obtain rfl : x = none := by simpa using hj 0 (by omega)
    show firstSome r = some q
    exact firstSome_some (l := r) (i := i) (by simpa using h) fun j hj' => by simpa using hj (j + 1) (by omega)
noncomputable def firstP (tp : List Nd → Bool) (way : List Nd) (n : Nd) (p : List Int) : Option (List Int) :=
  if tp (way ++ [n]) = false then some p
  else firstSome (List.ofFn fun i : _root_.Fin n.kids.length => firstP tp (way ++ [n]) n.kids[i] (p ++ [(i : Int)]))
termination_by n.size
decreasing_by exact kid_size i.2
theorem firstP_no {tp : List Nd → Bool} {way : List Nd} {n : Nd} {p : List Int} (h : tp (way ++ [n]) = false) : firstP tp way n p = some p := by rw [firstP, if_pos h]
theorem firstP_all {tp : List Nd → Bool} {way : List Nd} {n : Nd} {p : List Int} (h : tp (way ++ [n]) = true) (hk : ∀ (i : Nat) (hi : i < n.kids.length), firstP tp (way ++ [n]) n.kids[i] (p ++ [(i : Int)]) = none) : firstP tp way n p = none := by
  rw [firstP, if_neg (by rw [h]; simp)]
  refine firstSome_none fun x hx => ?_
  obtain ⟨i, rfl⟩ := List.mem_ofFn.1 hx
  exact hk i.1 i.2
theorem firstP_hit {tp : List Nd → Bool} {way : List Nd} {n : Nd} {p q : List Int} {i : Nat} (h : tp (way ++ [n]) = true) (hi : i < n.kids.length) (hk : ∀ (j : Nat) (hj : j < n.kids.length), j < i → firstP tp (way ++ [n]) n.kids[j] (p ++ [(j : Int)]) = none) (hq : firstP tp (way ++ [n]) n.kids[i] (p ++ [(i : Int)]) = some q) : firstP tp way n p = some q := by
  rw [firstP, if_neg (by rw [h]; simp)]
  refine firstSome_some (i := i) ?_ fun j hj => ?_
  · rw [List.getElem?_eq_getElem (by simpa using hi), List.getElem_ofFn]
    exact congrArg some hq
  · rw [List.getElem?_eq_getElem (by simp; omega), List.getElem_ofFn]
    exact congrArg some (hk j (by omega) hj)
theorem firstP_free {tp : List Nd → Bool} (h : ∀ l, tp l = true) : ∀ (N : Nat) (n : Nd) (way : List Nd) (p : List Int), n.size ≤ N → firstP tp way n p = none := by
  intro N
  induction N with
  | zero => intro n way p hn; have := kids_size n; omega
  | succ N ih =>
    intro n way p hn
    exact firstP_all (h _) fun i hi => ih _ _ _ (by have := kid_size (n := n) hi; omega)
def FirstPost (o : Option (List Int)) (w : World) (e : Ending) (w' : World) : Prop := Below w.heap.size w w' ∧
  match o with
  | none => e = .returned (.tuple #[.slice none 0 0, .bool false])
  | some q => ∃ a c, e = .returned (.tuple #[.slice a q.length c, .bool true]) ∧ IntsIn w' (.slice a q.length c) q
def TellsAt (s : Int) (tp : List Nd → Bool) (ok : List Nd → Prop) : Prop := ∀ (w : World) (S : Nat → Prop) (wv : Value) (way : List Nd), EnvU w → SlIn w S wv way → ok way → way.length ≤ 200000 →
  Calls Tryz.prog 40 #[.int .i64 s, wv] w fun e w' => e = .returned (.bool (tp way)) ∧ Below w.heap.size w w'
end Go.Proofs.YtmniblcooficgaaGreatDoor

namespace Go.Proofs.YtmniblcooficgaaGreatDoor
open Ev5
set_option linter.unusedSimpArgs false
set_option linter.unusedVariables false

def Kin (p c : Int) : Prop := (p = 5 ∧ valK c) ∨ (p = 7 ∧ c = 8) ∨ (p = 8 ∧ valK c) ∨ (p = 10 ∧ (c = 10 ∨ c = 4 ∨ c = 11))
inductive Tf (R : Ev → Bool) : Nd → Prop
  | mk (k : Int) (t v : ByteArray) (ks : List Nd) (hr : R (GoEv.ev ⟨k, t, v⟩) = true) (ho : oddK k ks.length = false) (hk : ∀ x ∈ ks, Kin k x.k) (ht : ∀ x ∈ ks, Tf R x) : Tf R (.mk k t v ks)
theorem value_of {R : Ev → Bool} {st : St} {x : Ev} (h : (stepP R st x).2 = 0) (hk : valK x.kind) : valueP st x = true := by
  have hr := step_right h
  unfold stepP at h
  rw [if_neg (by rw [hr]; simp)] at h
  unfold valK at hk
  by_cases h1 : x.kind = 1 ∨ x.kind = 2 ∨ x.kind = 3 ∨ x.kind = 4
  · rw [if_pos h1] at h
    by_cases hv : valueP st x = true
    · exact hv
    · rw [if_neg hv] at h; cases h
  · rw [if_neg h1, if_pos (by omega)] at h
    by_cases hv : valueP st x = false
    · rw [if_pos hv] at h; cases h
    · simpa using hv
theorem step_head {R : Ev → Bool} {n : Nd} {st : St} (hg : n.good = true) (h : (runP R st n.evs).2.2 = 0) : (stepP R st n.e).2 = 0 := by
  obtain ⟨k, t, v, ks⟩ := n
  rw [evs_good hg] at h
  exact (runP_step h).1
theorem kin_of {R : Ev → Bool} {n : Nd} {o : Ev5.Op} {os : List Ev5.Op} {ov : Bool} (hg : n.good = true) (h : (runP R ⟨o :: os, ov⟩ n.evs).2.2 = 0) (hk : o.kind = 5 ∨ o.kind = 7 ∨ o.kind = 10) (hkey : o.key = false) :
    Kin o.kind n.k ∧ ∃ o', (runP R ⟨o :: os, ov⟩ n.evs).1 = ⟨o' :: os, ov⟩ ∧ o'.kind = o.kind ∧ o'.key = false := by
  have hs := step_head hg h
  rcases fin_all n hg _ h with ⟨hv, e⟩ | ⟨h8, l, r, b, e1, h7, _, e⟩ | ⟨h11, l, r, e1, h10, e⟩
  · refine ⟨?_, _, e, rfl, rfl⟩
    have hval := value_of hs (show valK n.e.kind from hv)
    simp only [valueP] at hval
    rcases hk with hk | hk | hk
    · exact .inl ⟨hk, hv⟩
    · rw [if_pos hk, hkey] at hval; cases hval
    · rw [if_neg (by omega), if_pos hk] at hval
      refine .inr (.inr (.inr ⟨hk, ?_⟩))
      simp only [Bool.or_eq_true, Bool.and_eq_true, decide_eq_true_eq] at hval
      rcases hval with hval | hval
      · exact .inl hval
      · exact .inr (.inl hval.1.1)
  · simp only [List.cons.injEq] at e1
    obtain ⟨rfl, rfl⟩ := e1
    exact ⟨.inr (.inl ⟨h7, h8⟩), _, e, rfl, rfl⟩
  · simp only [List.cons.injEq] at e1
    obtain ⟨rfl, rfl⟩ := e1
    exact ⟨.inr (.inr (.inr ⟨h10, .inr (.inr h11)⟩)), _, e, rfl, rfl⟩
theorem kins_of {R : Ev → Bool} : ∀ (ks : List Nd), (∀ x ∈ ks, x.good = true) → (∀ x ∈ ks, ∀ st, (runP R st x.evs).2.2 = 0 → Tf R x) → ∀ {o : Ev5.Op} {os : List Ev5.Op} {ov : Bool}, (runP R ⟨o :: os, ov⟩ (Nd.evss ks)).2.2 = 0 → (o.kind = 5 ∨ o.kind = 7 ∨ o.kind = 10) → o.key = false →
    ∀ x ∈ ks, Kin o.kind x.k ∧ Tf R x
  | [], _, _, o, os, ov, _, _, _ => fun x hx => by cases hx
  | y :: r, hg, ht, o, os, ov, h, hk, hkey => by
    rw [evss_cons] at h
    obtain ⟨h1, h2⟩ := run_append R _ _ _ h
    obtain ⟨hkin, o', e, ek, ekey⟩ := kin_of (hg y (by simp)) h1 hk hkey
    rw [e] at h2
    intro x hx
    rcases List.mem_cons.1 hx with rfl | hx
    · exact ⟨hkin, ht _ (by simp) _ h1⟩
    · have := kins_of r (fun z hz => hg z (by simp [hz])) (fun z hz => ht z (by simp [hz])) h2 (by rw [ek]; exact hk) ekey x hx
      rw [ek] at this
      exact this
theorem tf_of {R : Ev → Bool} (n : Nd) : n.good = true → ∀ st, (runP R st n.evs).2.2 = 0 → Tf R n := by
  refine Nd.ind (C := fun n => n.good = true → ∀ st, (runP R st n.evs).2.2 = 0 → Tf R n) ?_ n
  intro k t v ks ih hg st h
  have hs := step_head hg h
  rw [evs_good hg] at h
  have hg' := hg
  rw [good_mk] at hg'
  simp only [Bool.and_eq_true, Bool.not_eq_true'] at hg'
  have hks := (goods_iff _).1 hg'.2
  obtain ⟨h0, h1, h2⟩ := runP_step h
  obtain ⟨h3, h4⟩ := run_append R _ _ _ h1
  have hih : ∀ x ∈ ks, ∀ st, (runP R st x.evs).2.2 = 0 → Tf R x := fun x hx st h => ih x hx (hks x hx) st h
  have key : ∀ x ∈ ks, Kin k x.k ∧ Tf R x := by
    rcases odd_kind hg'.1 with ⟨hk, hn⟩ | ⟨hk, hn⟩ | hk
    · obtain rfl := List.eq_nil_of_length_eq_zero hn
      intro x hx; cases hx
    · match ks, hn with
      | [x], _ =>
        obtain ⟨l, r, ho, hc⟩ := step_other h0 (by show ¬ (k = 1 ∨ k = 2 ∨ k = 3 ∨ k = 4); omega) (by show ¬ (k = 5 ∨ k = 7 ∨ k = 10); omega)
        rcases hc with ⟨_, h7, hkey, hs⟩ | ⟨a, _⟩ | ⟨a, _⟩
        · rw [hs, evss_cons, evss_nil, List.append_nil] at h3
          intro y hy
          rw [List.mem_singleton.1 hy]
          refine ⟨?_, hih x (by simp) _ h3⟩
          rcases fin_all x (hks x (by simp)) _ h3 with ⟨hv, _⟩ | ⟨_, l', r', b, e1, _, e2, _⟩ | ⟨_, l', r', e1, e2, _⟩
          · exact .inr (.inr (.inl ⟨hk, hv⟩))
          · simp only [List.cons.injEq] at e1; obtain ⟨rfl, rfl⟩ := e1; cases e2
          · simp only [List.cons.injEq] at e1; obtain ⟨rfl, rfl⟩ := e1; simp only [] at e2; omega
        · have : k = 11 := a; omega
        · exact absurd hk a
    · rw [step_open h0 hk] at h3
      exact kins_of ks hks hih h3 hk rfl
  exact .mk k t v ks (step_right hs) hg'.1 (fun x hx => (key x hx).1) (fun x hx => (key x hx).2)
theorem tf_wh {n : Nd} (h : n.wh = 0) : Tf RP n ∧ valK n.k := by
  have hg := wh_good h
  have hr : (runP RP St.new n.evs).2.2 = 0 := whole_run h
  refine ⟨tf_of n hg _ hr, ?_⟩
  rcases fin_all n hg _ hr with ⟨hv, _⟩ | ⟨_, l, r, b, e1, _⟩ | ⟨_, l, r, e1, _⟩
  · exact hv
  · cases e1
  · cases e1
end Go.Proofs.YtmniblcooficgaaGreatDoor

namespace Go.Proofs.YtmniblcooficgaaGreatDoor
open Go.RowKit Ev5
set_option linter.unusedSimpArgs false
set_option linter.unusedVariables false

theorem ownr_below {w w' : World} {base size n : Nat} {e : TypeId} {v : Value} {xs : List Value} (h : w.ownsRow base e size v n xs) (hb : Below w.heap.size w w') : w'.ownsRow base e size v n xs :=
  h.kept (row := none) ⟨hb.os, hb.tape, hb.output, hb.size, fun k hk _ => hb.block k hk⟩ (by cases hv : v.ownBlock <;> simp)
theorem ownr_alloc {w : World} {base size n : Nat} {e : TypeId} {v : Value} {xs : List Value} (h : w.ownsRow base e size v n xs) (o : Obj) : (w.alloc o).ownsRow base e size v n xs := ownr_below h ((Below.refl _ _).alloc (Nat.le_refl _) _)
theorem ownr_shape {w : World} {base : Nat} {e : TypeId} {size : Nat} {v : Value} {n : Nat} {xs : List Value} (h : w.ownsRow base e size v n xs) : ∃ a c, v = .slice a n c := by
  rcases h.2 with ⟨rfl, rfl⟩ | ⟨g, cap, cur, rfl, _⟩
  · exact ⟨none, 0, rfl⟩
  · exact ⟨_, _, rfl⟩
theorem stepr_append {P : Program} {ops : Array Oper} {o : Oper} {a : Act} {w : World} {K : Act → World → Prop} {Q : Exit → Act → World → Prop} {E : Prop}
    (hg : o.guard = none) (s x : Operand) (t : TypeId) (hop : o.op = Op.call { callee := Callee.builtin Builtin.append, args := #[s, x], argTypes := #[t, t] })
    (base : Nat) (e : TypeId) (i : TypeInfo) (z : Value) (size bytes : Nat) (ht : P.underlying t = some (.slice e)) (hi : P.info? e = some i) (hz : i.zero = some z)
    (hsize : i.size = size) (hby : i.bytes = bytes) (hzs : z.cells.size = size) (hsz : 0 < size)
    (v : Value) (n : Nat) (xs : List Value) (hs : a.eval s = v) (hown : w.ownsRow base e size v n xs)
    (ad : Addr) (m c : Nat) (news : List Value) (hx : a.eval x = .slice (some ad) m c) (hl : news.length = m * size) (hnews : ∀ j u, news[j]? = some u → w.cell? (ad.add j) = some u) (h1 : ∀ u ∈ news, u.oneCell' = true)
    (h63 : n + m ≤ maxLen) (hbytes : (n + m) * bytes ≤ 140737488355328) (hbase : base ≤ w.heap.size)
    (hK : ∀ v' w', w'.ownsRow base e size v' (n + m) (xs ++ news) → w.grownBy w' v.ownBlock → (v'.ownBlock = v.ownBlock ∨ v'.ownBlock = some w.heap.size) → K (a.put o.dst v') w') :
    if Region.wanted o (yielded ops a.tmps) = true then Oper.wp P o a w K Q else E := by
  have hw : Region.wanted o (yielded ops a.tmps) = true := by simp [Region.wanted, hg]
  rw [if_pos hw]
  obtain ⟨v', w', hr, h2, h3, _, h5⟩ := run_append_own_at (P := P) w base t o.type e i z size bytes ht hi hz hsize hby hzs hsz v n xs hown ad m c news hl hnews h1 h63 hbytes hbase
  unfold Oper.wp execOp
  simp only [hop, resolve, invoke, builtin, Sem.run_bind, Sem.run_pure, Result.andThen_ok, List.map_toArray, List.map_cons, List.map_nil, hs, hx, hr]
  exact hK _ _ h2 h3 h5
theorem laysB : Go.Proofs.Lays.n240 Tryz.prog Tryz.lays159_ren := { Tryz.lays159 with }
theorem laysWB : Go.Proofs.Lays.n167 Tryz.prog Tryz.lays159_ren := { Tryz.lays159 with }
theorem laysST : Go.Proofs.Lays.n169 Tryz.prog Tryz.lays159_ren := { Tryz.lays159 with }
structure Bu (w : World) (B b : Nat) (v : Value) (bs : List Value) : Prop where
  blk : w.heap[b]? = some (.cells #[.pointer (some ⟨b, 0, none⟩), v] 71 (0, 0))
  row : w.ownsRow B 5 1 v bs.length bs
  ne : v.ownBlock ≠ some b
  lo : B ≤ b
structure BuPost (B b : Nat) (v : Value) (bs : List Value) (w w' : World) (v' : Value) : Prop where
  bu : Bu w' B b v' bs
  at_ : v'.ownBlock = v.ownBlock ∨ ∀ g, v'.ownBlock = some g → w.heap.size ≤ g
  os : w'.os = w.os
  tape : w'.tape = w.tape
  output : w'.output = w.output
  size : w.heap.size ≤ w'.heap.size
  oth : ∀ k, k < w.heap.size → k ≠ b → v.ownBlock ≠ some k → w'.heap[k]? = w.heap[k]?
theorem Bu.is {w : World} {B b : Nat} {v : Value} {bs : List Value} (h : Bu w B b v bs) : Lib.IsBuilder 71 5 B b bs w := .inr ⟨h.lo, v, h.blk, h.row, h.ne⟩
theorem Bu.lt {w : World} {B b : Nat} {v : Value} {bs : List Value} (h : Bu w B b v bs) : b < w.heap.size := lt_blk h.blk
theorem copyCheck_any (w : World) (b : Nat) (h0 : w.cell? ⟨b, 0, none⟩ = some (.pointer (some ⟨b, 0, none⟩))) :
    Calls Tryz.prog 74 #[.pointer (some ⟨b, 0, none⟩)] w fun e w' => e = .returned (.tuple #[]) ∧ w' = w := Any.Builder_copyCheck_used laysB Tryz.Builder_Extra_159.toX72 b w h0
theorem set_blkU {w : World} {g j : Nat} {cs : Array Value} {t : TypeId} {y : Value} (h : w.heap[g]? = some (.cells cs t (0, 0))) : (w.setCell ⟨g, j, none⟩ y).heap[g]? = some (.cells (cs.setIfInBounds j y) t (0, 0)) := by
  obtain ⟨hlt, he⟩ := Array.getElem?_eq_some_iff.1 h
  show (w.heap.modify g _)[g]? = _
  rw [Array.getElem?_eq_getElem (by rw [Array.size_modify]; exact hlt), Array.getElem_modify_self, he]
  rfl
theorem cells2 {w : World} {b : Nat} {x y : Value} {t : TypeId} (h : w.heap[b]? = some (.cells #[x, y] t (0, 0))) : w.cell? ⟨b, 0, none⟩ = some x ∧ w.cell? ⟨b, 1, none⟩ = some y ∧ w.frozen? ⟨b, 0, none⟩ = false ∧ w.frozen? ⟨b, 1, none⟩ = false := by
  have h0 := blk_cell h 0 (by simp)
  have h1 := blk_cell h 1 (by simp)
  exact ⟨h0.1, h1.1, h0.2, h1.2⟩
set_option maxHeartbeats 2000000 in
set_option maxRecDepth 100000 in
theorem writeByte_any (w : World) (B b : Nat) (v : Value) (bs : List Value) (c : Int) (h : Bu w B b v bs) (hlen : bs.length + 1 ≤ 100000000000000) (hB : B ≤ w.heap.size) :
    Calls Tryz.prog 45 #[.pointer (some ⟨b, 0, none⟩), .int .u8 c] w fun e w' => e = .returned .nilIface ∧ ∃ v', BuPost B b v (bs ++ [.int .u8 c]) w w' v' := by
  obtain ⟨i0, hi, hz0, hz1, hz2⟩ := info_parts Tryz.Builder_Extra_159.infoByte
  have HI := Lib.hid hi; have H := Lib.hid h
  obtain ⟨c0, c1, _, _⟩ := cells2 h.blk
  clear hi h
  go_enter Tryz.func45, Tryz.ntmps45
  go_wp2_with fail
  refine (copyCheck_any w b c0).mono ?_
  rintro e w1 ⟨rfl, hw⟩
  have hw' := hw.symm
  subst hw'
  clear hw
  go_wp2_with (at_builtin; refine wpList_append_own_at _ rfl _ _ 66 rfl B 5 i0 _ 1 1 Tryz.underlying66 HI.out hz0 hz1 hz2 rfl (by decide) _ bs.length bs rfl (H.out.row.alloc _) ⟨w.heap.size, 0, none⟩ 1 1 [.int .u8 c] rfl rfl (World.news_of_block (heap_alloc_new w _)) (by intro u hu; rw [List.mem_singleton.1 hu]; rfl) (by unfold maxLen; omega) (by omega) (by simp; omega) ?_)
  intro v' w2 hown hgrow _ hat
  have hbl := H.out.lt
  have hb2 : w2.heap[b]? = some (.cells #[.pointer (some ⟨b, 0, none⟩), v] 71 (0, 0)) := by
    rw [hgrow.block b (by simp; omega) (fun e => H.out.ne e.symm), Lib.alloc_old w _ b hbl]
    exact H.out.blk
  obtain ⟨d0, d1, f0, f1⟩ := cells2 hb2
  obtain ⟨g, cap, rfl⟩ : ∃ g cap, v' = .slice (some ⟨g, 0, none⟩) (bs.length + 1) cap := by
    rcases hown.2 with ⟨_, h0⟩ | ⟨g, cap, cur, hv, _⟩
    · omega
    · exact ⟨g, cap, hv⟩
  have hg1 := hgrow.size
  have hp : BuPost B b v (bs ++ [.int .u8 c]) w (w2.setCell ⟨b, 1, none⟩ (.slice (some ⟨g, 0, none⟩) (bs.length + 1) cap)) (.slice (some ⟨g, 0, none⟩) (bs.length + 1) cap) := by
    have hat' : (Value.slice (some ⟨g, 0, none⟩) (bs.length + 1) cap).ownBlock = v.ownBlock ∨ ∀ g', (Value.slice (some ⟨g, 0, none⟩) (bs.length + 1) cap).ownBlock = some g' → w.heap.size ≤ g' := by
      rcases hat with e | e
      · exact .inl e
      · right; intro g' hg'; rw [e] at hg'; injection hg' with hg'; rw [← hg']; simp
    have hgb : g ≠ b := by
      intro e
      subst e
      rcases hat' with e' | e'
      · exact H.out.ne (e'.symm.trans rfl)
      · have := e' g rfl; omega
    refine ⟨⟨?_, ?_, fun e => hgb (by simpa [Value.ownBlock] using e), H.out.lo⟩, hat', hgrow.os, hgrow.tape, hgrow.output, by simp at hg1 ⊢; omega, fun k hk hkb hkv => ?_⟩
    · have := set_blkU (j := 1) (y := .slice (some ⟨g, 0, none⟩) (bs.length + 1) cap) hb2
      exact this
    · have h1 : w2.ownsRow B 5 1 (.slice (some ⟨g, 0, none⟩) (bs.length + 1) cap) (bs ++ [Value.int .u8 c]).length (bs ++ [Value.int .u8 c]) := by rw [List.length_append, List.length_singleton]; exact hown
      exact h1.kept (row := some b) ⟨rfl, rfl, rfl, by simp, fun k _ hk => set_other (fun e => hk (by rw [e]))⟩ (.inr fun e => hgb (by simpa [Value.ownBlock] using e))
    · rw [set_other hkb, hgrow.block k (by simp; omega) (fun e => hkv e.symm)]
      exact Lib.alloc_old w _ k hk
  have HP := Lib.hid hp
  clear hp
  go_wp2_with fail
  go_ret
  exact ⟨rfl, _, HP.out⟩
theorem run_append_str_at {P : Program} (w : World) (base : Nat) (t u ty e : TypeId) (i : TypeInfo) (ht : P.underlying t = some (.slice e)) (hu : P.underlying u = some .string) (hi : P.info? e = some i) (hz : i.zero = some (.int .u8 0))
    (hsize : i.size = 1) (hby : i.bytes = 1) (v : Value) (n : Nat) (xs : List Value) (hown : w.ownsRow base e 1 v n xs) (s : ByteArray) (hb : n + s.size ≤ 100000000000000) (hbase : base ≤ w.heap.size) :
    ∃ v' w', (Builtin.append_ #[t, u] ty #[v, .string s]).run P w = .ok v' w' ∧ w'.ownsRow base e 1 v' (n + s.size) (xs ++ Lib.strCells s) ∧ w.grownBy w' v.ownBlock ∧ (v'.ownBlock = v.ownBlock ∨ v'.ownBlock = some w.heap.size) := by
  obtain ⟨v', w', hr, h2, h3, h4⟩ := Lib.run_append_own_string (P := P) w base t u ty e i ht hu hi hz hsize hby v n xs hown s (by unfold maxLen; omega) (by omega) hbase
  refine ⟨v', w', hr, h2, h3, ?_⟩
  have hxl : xs.length = n := by simpa using hown.1
  rcases hown.2 with ⟨rfl, rfl⟩ | ⟨g, cap, cur, rfl, hbg, hg, hnc, hcm, hcs, htake⟩
  · by_cases hm : s.size = 0
    · left; rw [h4.2 ⟨rfl, hm⟩]
    · have hr2 := run_append_nil_string (P := P) w t u ty e i (.int .u8 0) ht hu hi hz s (by omega) (by omega) (by rw [hby]; omega)
      rw [hr] at hr2
      injection hr2 with e1 _
      right; rw [e1]; rfl
  · by_cases hroom : n + s.size ≤ cap
    · have hcs' : cur.size = cap := by simpa using hcs
      have hr2 := Lib.run_append_room_string (P := P) w t u ty e i ht hu hi hsize g n cap cur hg s hroom (by omega)
      rw [hr] at hr2
      injection hr2 with e1 _
      left; rw [e1]; rfl
    · have hr2 := Lib.run_append_grow_string (P := P) w t u ty e i (.int .u8 0) ht hu hi hz ⟨g, 0, none⟩ n cap xs (by rw [hsize]; simpa using hxl) (hown.cells (g := g) rfl) s (by omega) (by omega) (by rw [hby]; exact growslice_fits (by omega) (by omega))
      rw [hr] at hr2
      injection hr2 with e1 _
      right; rw [e1]; rfl
theorem wpList_append_str_at {P : Program} (w : World) {ops : Array Oper} {rest : List Oper} {o : Oper} {a : Act} {Q : Exit → Act → World → Prop} (hgd : o.guard = none) (sl x : Operand) (t u : TypeId)
    (ho : o.op = .call { callee := .builtin .append, args := #[sl, x], argTypes := #[t, u] })
    (base : Nat) (e : TypeId) (i : TypeInfo) (ht : P.underlying t = some (.slice e)) (hu : P.underlying u = some .string) (hi : P.info? e = some i) (hz : i.zero = some (.int .u8 0))
    (hsize : i.size = 1) (hby : i.bytes = 1)
    (v : Value) (n : Nat) (xs : List Value) (hs : a.eval sl = v) (hown : w.ownsRow base e 1 v n xs) (s : ByteArray) (hx : a.eval x = .string s) (hb : n + s.size ≤ 100000000000000) (hbase : base ≤ w.heap.size)
    (h : ∀ v' w', w'.ownsRow base e 1 v' (n + s.size) (xs ++ Lib.strCells s) → w.grownBy w' v.ownBlock → (v'.ownBlock = v.ownBlock ∨ v'.ownBlock = some w.heap.size) → wpList P ops Q rest (a.put o.dst v') w') : wpList P ops Q (o :: rest) a w := by
  refine wpList_plain hgd fun K hK => ?_
  obtain ⟨v', w', hr, h2, h3, h4⟩ := run_append_str_at (P := P) w base t u o.type e i ht hu hi hz hsize hby v n xs hown s hb hbase
  unfold Oper.wp execOp
  simp only [ho, resolve, invoke, builtin, Sem.run_bind, Sem.run_pure, Result.andThen_ok, List.map_toArray, List.map_cons, List.map_nil, hs, hx, hr]
  exact hK _ _ (h v' w' h2 h3 h4)
set_option maxHeartbeats 2000000 in
set_option maxRecDepth 100000 in
theorem writeString_any (w : World) (B b : Nat) (v : Value) (bs : List Value) (s : ByteArray) (h : Bu w B b v bs) (hlen : bs.length + s.size ≤ 100000000000000) (hs0 : 0 < s.size) (hB : B ≤ w.heap.size) :
    Calls Tryz.prog 46 #[.pointer (some ⟨b, 0, none⟩), .string s] w fun e w' => e = .returned (.tuple #[.int .i64 s.size, .nilIface]) ∧ ∃ v', BuPost B b v (bs ++ Lib.strCells s) w w' v' := by
  obtain ⟨i0, hi, hz0, hz1, hz2⟩ := info_parts Tryz.Builder_Extra_159.infoByte
  have HI := Lib.hid hi; have H := Lib.hid h
  obtain ⟨c0, c1, _, _⟩ := cells2 h.blk
  clear hi h
  go_enter Tryz.func46, Tryz.ntmps46
  go_wp2_with fail
  refine (copyCheck_any w b c0).mono ?_
  rintro e w1 ⟨rfl, hw⟩
  have hw' := hw.symm
  subst hw'
  clear hw
  go_wp2_with (at_builtin; refine wpList_append_str_at _ rfl _ _ 66 9 rfl B 5 i0 Tryz.underlying66 Tryz.underlying9 HI.out hz0 hz1 hz2 _ bs.length bs rfl H.out.row s rfl hlen hB ?_)
  intro v' w2 hown hgrow hat
  have hbl := H.out.lt
  have hb2 : w2.heap[b]? = some (.cells #[.pointer (some ⟨b, 0, none⟩), v] 71 (0, 0)) := by
    rw [hgrow.block b hbl (fun e => H.out.ne e.symm)]
    exact H.out.blk
  obtain ⟨d0, d1, f0, f1⟩ := cells2 hb2
  obtain ⟨g, cap, rfl⟩ : ∃ g cap, v' = .slice (some ⟨g, 0, none⟩) (bs.length + s.size) cap := by
    rcases hown.2 with ⟨_, h0⟩ | ⟨g, cap, cur, hv, _⟩
    · omega
    · exact ⟨g, cap, hv⟩
  have hg1 := hgrow.size
  have hp : BuPost B b v (bs ++ Lib.strCells s) w (w2.setCell ⟨b, 1, none⟩ (.slice (some ⟨g, 0, none⟩) (bs.length + s.size) cap)) (.slice (some ⟨g, 0, none⟩) (bs.length + s.size) cap) := by
    have hat' : (Value.slice (some ⟨g, 0, none⟩) (bs.length + s.size) cap).ownBlock = v.ownBlock ∨ ∀ g', (Value.slice (some ⟨g, 0, none⟩) (bs.length + s.size) cap).ownBlock = some g' → w.heap.size ≤ g' := by
      rcases hat with e | e
      · exact .inl e
      · right; intro g' hg'; rw [e] at hg'; injection hg' with hg'; rw [← hg']; exact Nat.le_refl _
    have hgb : g ≠ b := by
      intro e
      subst e
      rcases hat' with e' | e'
      · exact H.out.ne (e'.symm.trans rfl)
      · have := e' g rfl; omega
    refine ⟨⟨?_, ?_, fun e => hgb (by simpa [Value.ownBlock] using e), H.out.lo⟩, hat', hgrow.os, hgrow.tape, hgrow.output, by simp at hg1 ⊢; omega, fun k hk hkb hkv => ?_⟩
    · have := set_blkU (j := 1) (y := .slice (some ⟨g, 0, none⟩) (bs.length + s.size) cap) hb2
      exact this
    · have h1 : w2.ownsRow B 5 1 (.slice (some ⟨g, 0, none⟩) (bs.length + s.size) cap) (bs ++ Lib.strCells s).length (bs ++ Lib.strCells s) := by rw [List.length_append, Lib.strCells_length]; exact hown
      have h2 := h1.kept (w' := w2.setCell ⟨b, 1, none⟩ (.slice (some ⟨g, 0, none⟩) (bs.length + s.size) cap)) (row := some b) ⟨rfl, rfl, rfl, by simp, fun k _ hk => set_other (fun e => hk (by rw [e]))⟩ (.inr fun e => hgb (by simpa [Value.ownBlock] using e))
      exact h2
    · rw [set_other hkb]
      exact hgrow.block k hk (fun e => hkv e.symm)
  have HP := Lib.hid hp
  clear hp
  go_wp2_with fail
  go_ret2
  exact ⟨rfl, _, HP.out⟩
end Go.Proofs.YtmniblcooficgaaGreatDoor

namespace Go.Proofs.YtmniblcooficgaaGreatDoor
open Go.RowKit Ev5
set_option linter.unusedSimpArgs false
set_option linter.unusedVariables false

def hexD (n : Nat) : UInt8 := if n < 10 then UInt8.ofNat (48 + n) else UInt8.ofNat (87 + n)
def qByte (c : UInt8) : List UInt8 :=
  if c = 34 ∨ c = 92 then [92, c] else if c = 10 then [92, 110] else if c = 9 then [92, 116] else if c = 13 then [92, 114]
  else if c.toNat < 32 then [92, 117, 48, 48, hexD (c.toNat / 16), hexD (c.toNat % 16)] else [c]
def quoteL (l : List UInt8) : List UInt8 := 34 :: (l.flatMap qByte ++ [34])
def quoteB (s : ByteArray) : ByteArray := ⟨(quoteL s.data.toList).toArray⟩
theorem enc_small (n : Nat) (h : n < 128) : Utf8.encode ((n : Nat) : Int) = ⟨#[UInt8.ofNat n]⟩ := by
  have hv : Utf8.valid (n : Int) = true := by unfold Utf8.valid; simp; left; omega
  unfold Utf8.encode
  simp only [hv, if_true, Int.toNat_natCast]
  rw [if_pos (by omega)]
theorem enc_at (x y : UInt8) (h : x = y) (h2 : y.toNat < 128) : Utf8.encode ((x.toNat : Nat) : Int) = ⟨#[y]⟩ := by
  subst h
  rw [enc_small _ h2, UInt8.ofNat_toNat]
theorem dig_a (q : Nat) (h : q < 2) : ((⟨#[48, 49]⟩ : ByteArray)[q]'(h)) = hexD q ∧ (hexD q).toNat < 128 := by
  have h2 : q = 0 ∨ q = 1 := by omega
  rcases h2 with rfl | rfl
  · exact ⟨rfl, by decide⟩
  · exact ⟨rfl, by decide⟩
theorem enc_a (q : Nat) (h : q < 2) : Utf8.encode ((((⟨#[48, 49]⟩ : ByteArray)[q]'(h)).toNat : Nat) : Int) = ⟨#[hexD q]⟩ := enc_at _ _ (dig_a q h).1 (dig_a q h).2
theorem dig_b (q : Nat) (h : q < 16) : ((⟨#[48, 49, 50, 51, 52, 53, 54, 55, 56, 57, 97, 98, 99, 100, 101, 102]⟩ : ByteArray)[q]'(h)) = hexD q ∧ (hexD q).toNat < 128 := by
  have h2 : q = 0 ∨ q = 1 ∨ q = 2 ∨ q = 3 ∨ q = 4 ∨ q = 5 ∨ q = 6 ∨ q = 7 ∨ q = 8 ∨ q = 9 ∨ q = 10 ∨ q = 11 ∨ q = 12 ∨ q = 13 ∨ q = 14 ∨ q = 15 := by omega
  rcases h2 with rfl | rfl | rfl | rfl | rfl | rfl | rfl | rfl | rfl | rfl | rfl | rfl | rfl | rfl | rfl | rfl
  · exact ⟨rfl, by decide⟩
  · exact ⟨rfl, by decide⟩
  · exact ⟨rfl, by decide⟩
  · exact ⟨rfl, by decide⟩
  · exact ⟨rfl, by decide⟩
  · exact ⟨rfl, by decide⟩
  · exact ⟨rfl, by decide⟩
  · exact ⟨rfl, by decide⟩
  · exact ⟨rfl, by decide⟩
  · exact ⟨rfl, by decide⟩
  · exact ⟨rfl, by decide⟩
  · exact ⟨rfl, by decide⟩
  · exact ⟨rfl, by decide⟩
  · exact ⟨rfl, by decide⟩
  · exact ⟨rfl, by decide⟩
  · exact ⟨rfl, by decide⟩
theorem enc_b (q : Nat) (h : q < 16) : Utf8.encode ((((⟨#[48, 49, 50, 51, 52, 53, 54, 55, 56, 57, 97, 98, 99, 100, 101, 102]⟩ : ByteArray)[q]'(h)).toNat : Nat) : Int) = ⟨#[hexD q]⟩ := enc_at _ _ (dig_b q h).1 (dig_b q h).2
theorem and15 : ∀ n : _root_.Fin 32, bits .and .u8 (n.val : Int) 15 = ((n.val % 16 : Nat) : Int) := by decide +kernel
def printQ (s : ByteArray) : ByteArray × Int := if Lib.validD s.data.toList = false then (⟨#[]⟩, 3) else if 48 < s.size then (⟨#[]⟩, 4) else (quoteB s, 0)
theorem qByte_len (c : UInt8) : (qByte c).length ≤ 6 := by
  unfold qByte
  repeat' split
  all_goals simp
theorem flat_q_len (l : List UInt8) : (l.flatMap qByte).length ≤ 6 * l.length := by
  induction l with
  | nil => simp
  | cons x r ih => rw [List.flatMap_cons, List.length_append, List.length_cons]; have := qByte_len x; omega
theorem bc_app (a b : List UInt8) : Lib.byteCells (a ++ b) = Lib.byteCells a ++ Lib.byteCells b := List.map_append ..
def qTo (l : List UInt8) (i : Nat) : List UInt8 := 34 :: (l.take i).flatMap qByte
theorem qTo_step {l : List UInt8} {i : Nat} (h : i < l.length) : qTo l (i + 1) = qTo l i ++ qByte l[i] := by
  unfold qTo
  rw [List.take_add_one, List.getElem?_eq_getElem h, List.flatMap_append]
  simp
theorem qTo_end {l : List UInt8} {n : Nat} (h : l.length = n) : Lib.byteCells (qTo l n) ++ [Value.int .u8 34] = Lib.byteCells (quoteL l) := by
  unfold qTo quoteL
  rw [← h, List.take_length]
  show _ = Lib.byteCells ((34 :: l.flatMap qByte) ++ [34])
  rw [bc_app]; rfl
theorem qTo_len (l : List UInt8) (i : Nat) (h : i ≤ 100) : (qTo l i).length ≤ 601 := by
  unfold qTo
  have := flat_q_len (l.take i)
  rw [List.length_take] at this
  rw [List.length_cons]
  omega
structure Ql (w : World) (W4 wr : World) (b c : Nat) (l : List UInt8) (i : Nat) : Prop where
  bu : ∃ v, Bu wr b b v (Lib.byteCells (qTo l i)) ∧ v.ownBlock ≠ some c
  row : wr.heap[c]? = W4.heap[c]?
  bel : Below w.heap.size w wr
  hb : w.heap.size ≤ b
  hbc : b < c
  hc : c < wr.heap.size
theorem Ql.step {w W4 wr W : World} {b c i : Nat} {l : List UInt8} {v v' : Value} (h : Ql w W4 wr b c l i) (hv : Bu wr b b v (Lib.byteCells (qTo l i))) (hvc : v.ownBlock ≠ some c) (hi : i < l.length) {bs : List Value} (hp : BuPost b b v bs wr W v') (hbs : bs = Lib.byteCells (qTo l i) ++ Lib.byteCells (qByte l[i])) : Ql w W4 W b c l (i + 1) := by
  have hc := h.hc; have hbc := h.hbc; have hb := h.hb
  refine ⟨⟨v', by rw [qTo_step hi, bc_app, ← hbs]; exact hp.bu, fun e => ?_⟩, ?_, ?_, h.hb, h.hbc, Nat.lt_of_lt_of_le h.hc hp.size⟩
  · rcases hp.at_ with h1 | h1
    · exact hvc (h1 ▸ e)
    · have := h1 c e; omega
  · exact (hp.oth c hc (by omega) hvc).trans h.row
  · refine h.bel.trans ⟨hp.os, hp.tape, hp.output, hp.size, fun k hk => ?_⟩
    have h1 := h.bel.size
    exact hp.oth k (by omega) (by omega) (fun e => by have := (hv.row.lt k e).1; omega)
set_option maxRecDepth 1000000 in
set_option maxHeartbeats 8000000 in
theorem quotePrint_any (s : ByteArray) (w : World) (hE : EnvU w) (hs : s.size ≤ 1048576) :
    Calls Tryz.prog 25 #[.string s] w fun e w' => e = .returned (.tuple #[.string (printQ s).1, .int .i64 (printQ s).2]) ∧ Below w.heap.size w w' := by
  have HR := Lib.hid (runes_any s w hE hs)
  have HPQ := Lib.hid (show printQ s = if Lib.validD s.data.toList = false then (⟨#[]⟩, 3) else if 48 < s.size then (⟨#[]⟩, 4) else (quoteB s, 0) from rfl)
  obtain ⟨V, hV⟩ : ∃ V, Lib.validD s.data.toList = V := ⟨_, rfl⟩
  rw [hV] at HR HPQ
  clear hV hE
  go_enter Tryz.func25, Tryz.ntmps25
  go_wp2_with fail
  refine HR.out.mono ?_
  rintro e w1 ⟨⟨rv, rfl⟩, hb⟩
  have H1 := Lib.hid hb
  clear hb HR
  cases V with
  | false =>
    have HP := Lib.hid (HPQ.out.trans (if_pos rfl))
    go_wp2_with fail
    go_ret2
    exact ⟨by rw [HP.out]; rfl, H1.out⟩
  | true =>
    have HPQ2 := Lib.hid (HPQ.out.trans (if_neg (by simp)))
    clear HPQ
    by_cases h48 : 48 < s.size
    · have h48i : (48 : Int) < (s.size : Int) := by omega
      have HP := Lib.hid (HPQ2.out.trans (if_pos h48))
      clear HPQ2
      go_wp2_with fail
      go_ret2
      exact ⟨by rw [HP.out]; rfl, H1.out⟩
    · have h48i : ¬ (48 : Int) < (s.size : Int) := by omega
      have HP := Lib.hid (HPQ2.out.trans (if_neg h48))
      clear HPQ2
      go_wp2_with fail
      have hbB : Below w1.heap.size w1 (w1.alloc (.cells #[.pointer none, .slice none 0 0] 71)) := (Below.refl _ _).alloc (Nat.le_refl _) _
      refine (Any.Builder_WriteByte laysWB Tryz.Builder_Extra_159 w1.heap.size w1.heap.size [] 34 (w1.alloc (.cells #[.pointer none, .slice none 0 0] 71)) (.inl ⟨Nat.le_refl _, _, heap_alloc_new w1 _, World.ownsRow_nil _ _ _ _, by simp [Value.ownBlock]⟩) (by simp) (by simp)).mono ?_
      rintro e w3 ⟨rfl, ⟨_, v3, hblk, hown, hne⟩, hb3⟩
      have HBU := Lib.hid (show Bu w3 w1.heap.size w1.heap.size v3 (Lib.byteCells (qTo s.data.toList 0)) from ⟨hblk, (by rw [show qTo s.data.toList 0 = [34] by simp [qTo]]; exact hown), hne, Nat.le_refl _⟩)
      have H3 := Lib.hid (bthen H1.out (hbB.trans hb3))
      have HLT := Lib.hid (show w1.heap.size < w3.heap.size from lt_blk hblk)
      obtain ⟨b, hbe⟩ : ∃ b, w1.heap.size = b := ⟨_, rfl⟩
      rw [hbe] at HBU HLT
      have HWB := Lib.hid (show w.heap.size ≤ b from hbe ▸ H1.out.size)
      rw [hbe]
      clear hblk hown hne hb3 hbB hbe
      have hcv := Lib.run_convert_string_bytes (P := Tryz.prog) w3 9 66 5 s (u := .string) Tryz.underlying9 Tryz.underlying66 Tryz.underlying5
      have hB : ∀ j, j < s.size → (Lib.bytesWorld w3 5 s).cell? ⟨w3.heap.size, j, none⟩ = some (.int .u8 (s.data.toList.getD j 0).toNat) := fun j hj => Lib.bytesWorld_cell w3 5 s j hj
      have hbel := below_bytesWorld w3 5 s
      obtain ⟨W4, hW4⟩ : ∃ W4, W4 = Lib.bytesWorld w3 5 s := ⟨_, rfl⟩
      rw [← hW4] at hcv hB hbel
      have HB := Lib.hid hB
      have HL4 := Lib.hid (show w3.heap.size < W4.heap.size by rw [hW4, Lib.bytesWorld_size]; omega)
      have HQ4 := Lib.hid (show Ql w W4 W4 b w3.heap.size s.data.toList 0 from ⟨⟨v3, ⟨(hbel.block _ HLT.out).trans HBU.out.blk, ownr_below HBU.out.row hbel, HBU.out.ne, HBU.out.lo⟩, fun e => by have := (HBU.out.row.lt _ e).2; omega⟩, rfl, bthen H3.out hbel, HWB.out, HLT.out, HL4.out⟩)
      clear hW4 hB hbel
      have HN := Lib.hid (show s.data.toList.length = s.size from Array.length_toList)
      go_wp2_with fail
      go_loopw [23] (fun v23 wr => ∃ i : Nat, i ≤ s.size ∧ v23 = .int .i64 i ∧ Hid (Ql w W4 wr b w3.heap.size s.data.toList i)) (fun v23 _ => s.size - (intOf v23).toNat)
      case atStart => exact ⟨0, Nat.zero_le _, rfl, HQ4.out⟩
      case round =>
        obtain ⟨i, hi, rfl, HQ⟩ := hrel
        by_cases hlt : i < s.size
        · obtain ⟨v, hbu, hvc⟩ := HQ.out.bu
          have HBU2 := Lib.hid hbu; have HVC := Lib.hid hvc
          have hil : i < s.data.toList.length := by rw [HN.out]; exact hlt
          have hcell : wr.cell? ⟨w3.heap.size, i, none⟩ = some (.int .u8 (s.data.toList[i]).toNat) := by
            have h1 := HB.out i hlt
            rw [List.getD_eq_getElem?_getD, List.getElem?_eq_getElem hil] at h1
            unfold World.cell? at h1 ⊢
            rw [HQ.out.row]; exact h1
          have HLQ := Lib.hid (qTo_len s.data.toList i (by omega))
          have HLO := Lib.hid (show b ≤ wr.heap.size from Nat.le_of_lt (Nat.lt_trans HQ.out.hbc HQ.out.hc))
          obtain ⟨n, hx⟩ : ∃ n, (s.data.toList[i]).toNat = n := ⟨_, rfl⟩
          rw [hx] at hcell
          have hn256 : n < 256 := hx ▸ UInt8.toNat_lt _
          have hi0 : (0 : Int) ≤ (i : Int) := Int.natCast_nonneg _
          have hi1 : (i : Int) < (s.size : Int) := by omega
          clear hbu hvc
          have hcs : n = 34 ∨ n = 92 ∨ n = 10 ∨ n = 9 ∨ n = 13 ∨ (n < 32 ∧ n ≠ 10 ∧ n ≠ 9 ∧ n ≠ 13) ∨ (32 ≤ n ∧ n ≠ 34 ∧ n ≠ 92) := by omega
          rcases hcs with rfl | rfl | rfl | rfl | rfl | ⟨h1, h2, h3, h4⟩ | ⟨h1, h2, h3⟩
          · have HQB := Lib.hid (show Lib.strCells ⟨#[92, 34]⟩ = Lib.byteCells (qByte s.data.toList[i]) by rw [show s.data.toList[i] = 34 from UInt8.toNat_inj.1 (hx.trans rfl)]; rfl)
            go_wp2_with fail
            refine (writeString_any wr b b v _ ⟨#[92, 34]⟩ HBU2.out (by rw [Lib.byteCells_length]; have := HLQ.out; show _ + 2 ≤ _; omega) (by decide) HLO.out).mono ?_
            rintro e W ⟨rfl, v', hp⟩
            have HQ2 := Lib.hid (HQ.out.step HBU2.out HVC.out hil hp (by rw [HQB.out]))
            clear hp
            go_wp2_with fail
            go_roundw
            case rel => exact ⟨i + 1, by omega, by go_num, HQ2.out⟩
            case measure => simp [intOf]; omega
          · have HQB := Lib.hid (show Lib.strCells ⟨#[92, 92]⟩ = Lib.byteCells (qByte s.data.toList[i]) by rw [show s.data.toList[i] = 92 from UInt8.toNat_inj.1 (hx.trans rfl)]; rfl)
            go_wp2_with fail
            refine (writeString_any wr b b v _ ⟨#[92, 92]⟩ HBU2.out (by rw [Lib.byteCells_length]; have := HLQ.out; show _ + 2 ≤ _; omega) (by decide) HLO.out).mono ?_
            rintro e W ⟨rfl, v', hp⟩
            have HQ2 := Lib.hid (HQ.out.step HBU2.out HVC.out hil hp (by rw [HQB.out]))
            clear hp
            go_wp2_with fail
            go_roundw
            case rel => exact ⟨i + 1, by omega, by go_num, HQ2.out⟩
            case measure => simp [intOf]; omega
          · have HQB := Lib.hid (show Lib.strCells ⟨#[92, 110]⟩ = Lib.byteCells (qByte s.data.toList[i]) by rw [show s.data.toList[i] = 10 from UInt8.toNat_inj.1 (hx.trans rfl)]; rfl)
            go_wp2_with fail
            refine (writeString_any wr b b v _ ⟨#[92, 110]⟩ HBU2.out (by rw [Lib.byteCells_length]; have := HLQ.out; show _ + 2 ≤ _; omega) (by decide) HLO.out).mono ?_
            rintro e W ⟨rfl, v', hp⟩
            have HQ2 := Lib.hid (HQ.out.step HBU2.out HVC.out hil hp (by rw [HQB.out]))
            clear hp
            go_wp2_with fail
            go_roundw
            case rel => exact ⟨i + 1, by omega, by go_num, HQ2.out⟩
            case measure => simp [intOf]; omega
          · have HQB := Lib.hid (show Lib.strCells ⟨#[92, 116]⟩ = Lib.byteCells (qByte s.data.toList[i]) by rw [show s.data.toList[i] = 9 from UInt8.toNat_inj.1 (hx.trans rfl)]; rfl)
            go_wp2_with fail
            refine (writeString_any wr b b v _ ⟨#[92, 116]⟩ HBU2.out (by rw [Lib.byteCells_length]; have := HLQ.out; show _ + 2 ≤ _; omega) (by decide) HLO.out).mono ?_
            rintro e W ⟨rfl, v', hp⟩
            have HQ2 := Lib.hid (HQ.out.step HBU2.out HVC.out hil hp (by rw [HQB.out]))
            clear hp
            go_wp2_with fail
            go_roundw
            case rel => exact ⟨i + 1, by omega, by go_num, HQ2.out⟩
            case measure => simp [intOf]; omega
          · have HQB := Lib.hid (show Lib.strCells ⟨#[92, 114]⟩ = Lib.byteCells (qByte s.data.toList[i]) by rw [show s.data.toList[i] = 13 from UInt8.toNat_inj.1 (hx.trans rfl)]; rfl)
            go_wp2_with fail
            refine (writeString_any wr b b v _ ⟨#[92, 114]⟩ HBU2.out (by rw [Lib.byteCells_length]; have := HLQ.out; show _ + 2 ≤ _; omega) (by decide) HLO.out).mono ?_
            rintro e W ⟨rfl, v', hp⟩
            have HQ2 := Lib.hid (HQ.out.step HBU2.out HVC.out hil hp (by rw [HQB.out]))
            clear hp
            go_wp2_with fail
            go_roundw
            case rel => exact ⟨i + 1, by omega, by go_num, HQ2.out⟩
            case measure => simp [intOf]; omega
          · have HQB := Lib.hid (show Lib.strCells ⟨#[92, 117, 48, 48, hexD (n / 16), hexD (n % 16)]⟩ = Lib.byteCells (qByte s.data.toList[i]) by
              have hne : ∀ k : UInt8, k.toNat ≠ n → s.data.toList[i] ≠ k := fun k hk e => hk (by rw [← hx, e])
              unfold qByte
              rw [if_neg (by rintro (e | e); exact hne 34 (fun e => by simp at e; omega) e; exact hne 92 (fun e => by simp at e; omega) e), if_neg (hne 10 (fun e => h2 e.symm)), if_neg (hne 9 (fun e => h3 e.symm)), if_neg (hne 13 (fun e => h4 e.symm)), if_pos (by rw [hx]; omega), hx]
              rfl)
            have e1 : ((n : Int) == 34) = false := by simp; omega
            have e2 : ((n : Int) == 92) = false := by simp; omega
            have e3 : ((n : Int) == 10) = false := by simp; omega
            have e4 : ((n : Int) == 9) = false := by simp; omega
            have e5 : ((n : Int) == 13) = false := by simp; omega
            have e6 : (n : Int) < 32 := by omega
            have HBD := Lib.hid (show Bu wr.drew b b v (Lib.byteCells (qTo s.data.toList i)) from ⟨HBU2.out.blk, ownr_below HBU2.out.row (Below.refl _ _).drew, HBU2.out.ne, HBU2.out.lo⟩)
            have HQD := Lib.hid (show Ql w W4 wr.drew b w3.heap.size s.data.toList i from ⟨⟨v, HBD.out, HVC.out⟩, HQ.out.row, bthen HQ.out.bel (Below.refl _ _).drew, HQ.out.hb, HQ.out.hbc, HQ.out.hc⟩)
            go_upto_region 21 with (fail)
            clear e1 e2 e3 e4 e5 e6
            obtain ⟨q, hqe⟩ : ∃ q, n / 16 = q := ⟨_, rfl⟩
            obtain ⟨r, hre⟩ : ∃ r, n % 16 = r := ⟨_, rfl⟩
            rw [hqe, hre] at HQB
            have hql : q < 2 := by omega
            have hrl : r < 16 := by omega
            have hand : bits .and .u8 (n : Int) 15 = (r : Int) := by rw [← hre]; exact and15 ⟨n, h1⟩
            have hdiv : (n : Int) / 16 = (q : Int) := by omega
            have ha : Utf8.encode ((((⟨#[48, 49]⟩ : ByteArray)[q]'(hql)).toNat : Nat) : Int) = ⟨#[hexD q]⟩ := enc_a q hql
            have hb' : Utf8.encode ((((⟨#[48, 49, 50, 51, 52, 53, 54, 55, 56, 57, 97, 98, 99, 100, 101, 102]⟩ : ByteArray)[r]'(hrl)).toNat : Nat) : Int) = ⟨#[hexD r]⟩ := enc_b r hrl
            have hqi : (q : Int) < 2 := by omega
            have hri : (r : Int) < 16 := by omega
            have hq0 : (0 : Int) ≤ (q : Int) := Int.natCast_nonneg _
            have hr0 : (0 : Int) ≤ (r : Int) := Int.natCast_nonneg _
            clear hqe hre h1 h2 h3 h4
            go_still_tail 10, (by kernel_rfl)
            change wpList _ _ _ _ _ wr.drew
            go_wp2_with fail
            refine (writeString_any wr.drew b b v _ ⟨#[92, 117, 48, 48, hexD q, hexD r]⟩ HBD.out (by rw [Lib.byteCells_length]; have := HLQ.out; show _ + 6 ≤ _; omega) (by show 0 < 6; omega) HLO.out).mono ?_
            rintro e W ⟨rfl, v', hp⟩
            have HQ2 := Lib.hid (HQD.out.step HBD.out HVC.out hil hp (by rw [HQB.out]))
            clear hp
            go_wp2_with fail
            go_roundw
            case rel => exact ⟨i + 1, by omega, by go_num, HQ2.out⟩
            case measure => simp [intOf]; omega
          · have hq0 : ([.int .u8 n] : List Value) = Lib.byteCells (qByte s.data.toList[i]) := by
              have hne : ∀ k : UInt8, k.toNat ≠ n → s.data.toList[i] ≠ k := fun k hk e => hk (by rw [← hx, e])
              unfold qByte
              rw [if_neg (by rintro (e | e); exact hne 34 (fun e => h2 e.symm) e; exact hne 92 (fun e => h3 e.symm) e), if_neg (hne 10 (fun e => by simp at e; omega)), if_neg (hne 9 (fun e => by simp at e; omega)), if_neg (hne 13 (fun e => by simp at e; omega)), if_neg (by rw [hx]; omega)]
              rw [← hx]; rfl
            have HQB := Lib.hid hq0
            clear hq0
            have e1 : ((n : Int) == 34) = false := by simp; omega
            have e2 : ((n : Int) == 92) = false := by simp; omega
            have e3 : ((n : Int) == 10) = false := by simp; omega
            have e4 : ((n : Int) == 9) = false := by simp; omega
            have e5 : ((n : Int) == 13) = false := by simp; omega
            have e6 : ¬ (n : Int) < 32 := by omega
            go_wp2_with fail
            refine (writeByte_any wr b b v _ n HBU2.out (by rw [Lib.byteCells_length]; have := HLQ.out; omega) HLO.out).mono ?_
            rintro e W ⟨rfl, v', hp⟩
            have HQ2 := Lib.hid (HQ.out.step HBU2.out HVC.out hil hp (by rw [HQB.out]))
            clear hp
            go_wp2_with fail
            go_roundw
            case rel => exact ⟨i + 1, by omega, by go_num, HQ2.out⟩
            case measure => simp [intOf]; omega
        · obtain rfl : i = s.size := by omega
          have hi1 : ¬ ((s.size : Nat) : Int) < (s.size : Int) := by omega
          obtain ⟨v, hbu, hvc⟩ := HQ.out.bu
          have HBU2 := Lib.hid hbu
          have HLQ := Lib.hid (qTo_len s.data.toList s.size (by omega))
          have HLO := Lib.hid (show b ≤ wr.heap.size from Nat.le_of_lt (Nat.lt_trans HQ.out.hbc HQ.out.hc))
          clear hbu hvc
          go_wp2_with fail
          refine (writeByte_any wr b b v _ 34 HBU2.out (by rw [Lib.byteCells_length]; have := HLQ.out; omega) HLO.out).mono ?_
          rintro e W ⟨rfl, v', hp⟩
          have HIS := Lib.hid (show Lib.IsBuilder 71 5 b b (Lib.byteCells (quoteL s.data.toList)) W by
            have h1 := hp.bu.is
            rw [show Lib.byteCells (qTo s.data.toList s.size) ++ [Value.int .u8 34] = Lib.byteCells (quoteL s.data.toList) from qTo_end HN.out] at h1
            exact h1)
          have HBW := Lib.hid (show Below w.heap.size w W from HQ.out.bel.trans ⟨hp.os, hp.tape, hp.output, hp.size, fun k hk => hp.oth k (by have := HQ.out.bel.size; omega) (by have := HQ.out.hb; omega) (fun e => by have := (HBU2.out.row.lt k e).1; have := HQ.out.hb; omega)⟩)
          have HLW := Lib.hid (Nat.le_trans HLO.out hp.size)
          clear hp
          go_wp2_with fail
          refine (Any.Builder_String_any laysST Tryz.Builder_Extra_159 b b (quoteL s.data.toList) W HIS.out HLW.out).mono ?_
          rintro e W2 ⟨rfl, hb⟩
          have HBW2 := Lib.hid (HBW.out.trans (hb.mono HWB.out))
          clear hb
          go_wp2_with fail
          go_ret2
          exact ⟨by rw [HP.out]; rfl, HBW2.out⟩
end Go.Proofs.YtmniblcooficgaaGreatDoor

namespace Go.Proofs.YtmniblcooficgaaGreatDoor
open Ev5 Num2
set_option linter.unusedSimpArgs false
set_option linter.unusedVariables false

end Go.Proofs.YtmniblcooficgaaGreatDoor

namespace Go.Proofs.YtmniblcooficgaaGreatDoor
open Ev5
set_option linter.unusedSimpArgs false
set_option linter.unusedVariables false

def joinB : List (List UInt8) → List UInt8
  | [] => []
  | [x] => x
  | x :: y :: r => x ++ 32 :: joinB (y :: r)
def qt (t : ByteArray) : List UInt8 := (printQ t).1.data.toList
theorem qt_ok {t : ByteArray} (h : Lib.validD t.data.toList = true) (h2 : t.data.toList.length ≤ 48) : qt t = quoteL t.data.toList := by
  have h3 : ¬ 48 < t.size := by have : t.size = t.data.toList.length := rfl; omega
  unfold qt printQ
  rw [if_neg (by rw [h]; simp), if_neg h3]
  rfl

theorem emp_of {a : ByteArray} (h : a.data.toList.isEmpty = true) : a = emp := ba_nil (List.isEmpty_iff.1 h)
theorem may_q {t : ByteArray} (h : Ev5.mayP t.data.toList = true) : qt t = quoteL t.data.toList := by
  unfold Ev5.mayP at h
  simp only [Bool.and_eq_true, decide_eq_true_eq] at h
  exact qt_ok h.1 h.2
theorem right_text {k : Int} {t v : ByteArray} (h : RP (GoEv.ev ⟨k, t, v⟩) = true) (hk : k = 4 ∨ k = 8) : v = emp ∧ qt t = quoteL t.data.toList := by
  unfold RP rightP GoEv.ev at h
  simp only [] at h
  rw [if_neg (by omega), if_neg (by omega), if_neg (by omega), if_pos hk, Bool.and_eq_true] at h
  exact ⟨emp_of h.1, may_q h.2⟩
end Go.Proofs.YtmniblcooficgaaGreatDoor

namespace Go.Proofs.YtmniblcooficgaaGreatDoor
open Ev5
set_option linter.unusedSimpArgs false
set_option linter.unusedVariables false

def tailB : List (List UInt8) → List UInt8
  | [] => []
  | x :: r => 32 :: joinB (x :: r)
theorem join_cons (x : List UInt8) (l : List (List UInt8)) : joinB (x :: l) = x ++ tailB l := by
  cases l with
  | nil => simp [joinB, tailB]
  | cons y r => rfl
end Go.Proofs.YtmniblcooficgaaGreatDoor

namespace Go.Proofs.YtmniblcooficgaaGreatDoor
open Ev5
set_option linter.unusedSimpArgs false
set_option linter.unusedVariables false

theorem join_snoc (sep : List UInt8) (l : List (List UInt8)) (x : List UInt8) : Lib.join (l ++ [x]) sep = if l = [] then x else Lib.join l sep ++ sep ++ x := by
  cases l with
  | nil => rw [if_pos rfl, List.nil_append, Lib.join_one]
  | cons y r => rw [List.cons_append, Lib.join_cons, Lib.join_cons, if_neg (by simp)]; simp [Lib.joinTail]
def lenS : List (List UInt8) → Nat
  | [] => 0
  | x :: r => x.length + 2 + lenS r
theorem tail_lenS (sep : List UInt8) (hs : sep.length ≤ 2) : ∀ l : List (List UInt8), (Lib.joinTail sep l).length ≤ lenS l
  | [] => by simp [Lib.joinTail, lenS]
  | x :: r => by
    have := tail_lenS sep hs r
    have h1 : Lib.joinTail sep (x :: r) = sep ++ x ++ Lib.joinTail sep r := by simp [Lib.joinTail]
    rw [h1, List.length_append, List.length_append]
    simp only [lenS]
    omega
theorem join_lenS (sep : List UInt8) (hs : sep.length ≤ 2) (l : List (List UInt8)) : (Lib.join l sep).length ≤ lenS l := by
  cases l with
  | nil => simp [Lib.join_nil, lenS]
  | cons x r =>
    have := tail_lenS sep hs r
    rw [Lib.join_cons, List.length_append]
    simp only [lenS]
    omega
mutual
def Nd.txt (F : Int → ByteArray → ByteArray → List (List UInt8) → List UInt8) : Nd → List UInt8
  | .mk k t v ks => F k t v (Nd.txts F ks)
def Nd.txts (F : Int → ByteArray → ByteArray → List (List UInt8) → List UInt8) : List Nd → List (List UInt8)
  | [] => []
  | n :: r => n.txt F :: Nd.txts F r
end
theorem txt_mk (F) (k : Int) (t v : ByteArray) (ks : List Nd) : (Nd.mk k t v ks).txt F = F k t v (Nd.txts F ks) := by rw [Nd.txt]
theorem txts_nil (F) : Nd.txts F [] = [] := by rw [Nd.txts]
theorem txts_cons (F) (n : Nd) (r : List Nd) : Nd.txts F (n :: r) = n.txt F :: Nd.txts F r := by rw [Nd.txts]
theorem txts_map (F) (l : List Nd) : Nd.txts F l = l.map (Nd.txt F) := by
  induction l with
  | nil => exact txts_nil F
  | cons x r ih => rw [txts_cons, ih]; rfl
theorem txts_len (F) (l : List Nd) : (Nd.txts F l).length = l.length := by rw [txts_map, List.length_map]
def TextF (F : Int → ByteArray → ByteArray → List (List UInt8) → List UInt8) : Prop := ∀ k t v l, t.size ≤ 1048576 → v.size ≤ 1048576 → (F k t v l).length + 2 ≤ 1050000 + lenS l
theorem txts_lenS {F} (l : List Nd) (h : ∀ x ∈ l, (x.txt F).length + 2 ≤ 1050000 * x.size) : lenS (Nd.txts F l) ≤ 1050000 * Nd.sizes l := by
  induction l with
  | nil => rw [txts_nil]; simp [lenS]
  | cons x r ih =>
    have h1 := ih fun y hy => h y (List.mem_cons_of_mem _ hy)
    have h2 := h x List.mem_cons_self
    rw [txts_cons, sizes_cons]
    simp only [lenS]
    omega
theorem txt_len {F} (hF : TextF F) (n : Nd) : n.ok → (n.txt F).length + 2 ≤ 1050000 * n.size := by
  refine Nd.ind (C := fun n => n.ok → (n.txt F).length + 2 ≤ 1050000 * n.size) ?_ n
  intro k t v ks ih hok
  rw [ok_mk] at hok
  have h1 := txts_lenS (F := F) ks fun x hx => ih x hx ((oks_iff ks).1 hok.2 x hx)
  have h2 := hF k t v (Nd.txts F ks) hok.1.t hok.1.v
  rw [txt_mk, size_mk]
  omega
theorem txts_take_len {F} (hF : TextF F) {l : List Nd} (hok : Nd.oks l) {N : Nat} (hN : Nd.sizes l ≤ N) (i : Nat) : lenS ((Nd.txts F l).take i) ≤ 1050000 * N := by
  have h1 := txts_lenS (F := F) (l.take i) fun x hx => txt_len hF x ((oks_iff l).1 hok x (List.mem_of_mem_take hx))
  have h2 : ∀ (l : List Nd) (i : Nat), Nd.sizes (l.take i) ≤ Nd.sizes l := by
    intro l
    induction l with
    | nil => intro i; rw [List.take_nil]; exact Nat.le_refl _
    | cons x r ih =>
      intro i
      cases i with
      | zero => rw [List.take_zero, sizes_nil]; omega
      | succ i => rw [List.take_succ_cons, sizes_cons, sizes_cons]; have := ih i; omega
  have h3 := h2 l i
  rw [txts_map] at h1 ⊢
  rw [← List.map_take]
  omega
theorem q_len (c : UInt8) : (qByte c).length ≤ 6 := by
  unfold qByte
  repeat' split
  all_goals simp
theorem qt_len (t : ByteArray) : (qt t).length ≤ 290 := by
  unfold qt printQ
  split
  · decide
  split
  · decide
  · rename_i h
    show (quoteL t.data.toList).length ≤ 290
    unfold quoteL
    have h1 : ∀ l : List UInt8, (l.flatMap qByte).length ≤ 6 * l.length := by
      intro l
      induction l with
      | nil => simp
      | cons c r ih => rw [List.flatMap_cons, List.length_append, List.length_cons]; have := q_len c; omega
    have h2 := h1 t.data.toList
    have h3 : t.data.toList.length = t.size := Array.length_toList
    simp only [List.length_cons, List.length_append, List.length_nil]
    omega
end Go.Proofs.YtmniblcooficgaaGreatDoor

namespace Go.Proofs.YtmniblcooficgaaGreatDoor
open Go.RowKit Ev5
set_option linter.unusedSimpArgs false
set_option linter.unusedVariables false

def strV (l : List UInt8) : Value := .string ⟨l.toArray⟩
theorem strV_of {B : ByteArray} {l : List UInt8} (h : B.data.toList = l) : Value.string B = strV l := by subst h; rfl
def strR (l : List (List UInt8)) : List Value := l.map strV
theorem strR_len (l : List (List UInt8)) : (strR l).length = l.length := List.length_map ..
theorem strR_app (a b : List (List UInt8)) : strR (a ++ b) = strR a ++ strR b := List.map_append ..
theorem infoT : (Tryz.prog.info? 9).map (fun i => (i.zero, i.size, i.bytes)) = some (some (.string ⟨#[]⟩), 1, 16) := by kernel_rfl
theorem owns_below {w w' : World} {B n : Nat} {e : TypeId} {s : Nat} {v : Value} {xs : List Value} (h : w.ownsRow B e s v n xs) (hb : Below w.heap.size w w') : w'.ownsRow B e s v n xs :=
  h.kept (row := none) ⟨hb.os, hb.tape, hb.output, hb.size, fun k hk _ => hb.block k hk⟩ (by cases hv : v.ownBlock <;> simp)
theorem join_own (w : World) (B : Nat) (v : Value) (xs : List (List UInt8)) (sep : ByteArray) (h : w.ownsRow B 9 1 v xs.length (strR xs)) (hN : xs.length ≤ 1048576) (hlen : (Lib.join xs sep.data.toList).length ≤ 140737488355328) :
    Calls Tryz.prog 41 #[v, .string sep] w fun e w' => e = .returned (strV (Lib.join xs sep.data.toList)) ∧ Below w.heap.size w w' := by
  rcases h.2 with ⟨h1, h0⟩ | ⟨g, cap, cur, h1, hb, hg, hc, hm, hs, ht⟩
  · obtain rfl : xs = [] := List.eq_nil_of_length_eq_zero h0
    subst h1
    refine (Tryz.strings_Join_none none 0 sep w).mono ?_
    rintro e w' ⟨rfl, rfl⟩
    exact ⟨rfl, Below.refl _ _⟩
  · subst h1
    have hm2 : (xs.map fun l => (⟨l.toArray⟩ : ByteArray)).map (·.data.toList) = xs := by rw [List.map_map]; simp [Function.comp_def]
    have hl : (xs.map fun l => (⟨l.toArray⟩ : ByteArray)).length = xs.length := List.length_map ..
    have hJ := Tryz.strings_Join g 0 cap (xs.map fun l => (⟨l.toArray⟩ : ByteArray)) sep w (fun j x hj => by
      rw [List.getElem?_map] at hj
      obtain ⟨l, hl, rfl⟩ := Option.map_eq_some_iff.1 hj
      rw [cell_of_row w g (0 + j) _ _ _ hg, Nat.zero_add]
      have hjl : j < xs.length := (List.getElem?_eq_some_iff.1 hl).1
      have h1 : cur.toList.take (xs.length * 1) = strR xs := ht
      have h2 : (cur.toList.take (xs.length * 1))[j]? = some (strV l) := by rw [h1]; unfold strR; rw [List.getElem?_map, hl]; rfl
      rw [List.getElem?_take_of_lt (by omega)] at h2
      rw [Array.getElem?_toList] at h2
      exact h2) (Array.getElem?_eq_some_iff.1 hg).1 (by rw [hl]; omega) (by rw [hl]; exact hc) (by rw [hm2]; exact hlen)
    rw [hl, hm2] at hJ
    exact hJ
end Go.Proofs.YtmniblcooficgaaGreatDoor

namespace Go.Proofs.YtmniblcooficgaaGreatDoor
open Go.RowKit Ev5
set_option linter.unusedSimpArgs false
set_option linter.unusedVariables false

theorem wrap16 : ∀ n : _root_.Fin 16, IntKind.u8.wrap (n.val : Int) = (n.val : Int) := by decide +kernel
theorem q_row {w : World} {B : Nat} {v : Value} {l : List UInt8} {i m : Nat} {news : List Value} (h : w.ownsRow B 5 1 v ((qTo l i).length + m) (Lib.byteCells (qTo l i) ++ news)) (hi : i < l.length) (hn : news = Lib.byteCells (qByte l[i])) (hm : m = (qByte l[i]).length) :
    w.ownsRow B 5 1 v (qTo l (i + 1)).length (Lib.byteCells (qTo l (i + 1))) := by
  rw [qTo_step hi, bc_app, List.length_append, ← hn, ← hm]
  exact h
theorem conv_own {w : World} {B : Nat} {v : Value} {l : List UInt8} (h : w.ownsRow B 5 1 v l.length (Lib.byteCells l)) (hne : l ≠ []) : (convert 66 9 v).run Tryz.prog w = .ok (.string ⟨l.toArray⟩) w := by
  rcases h.2 with ⟨_, h0⟩ | ⟨g, cap, cur, rfl, _⟩
  · exact absurd (List.eq_nil_of_length_eq_zero h0) hne
  · refine run_convert_bytes_back w 66 9 5 ⟨g, 0, none⟩ cap l Tryz.underlying66 Tryz.underlying5 Tryz.underlying9 fun j hj => ?_
    exact h.cells (g := g) rfl j _ (by unfold Lib.byteCells; rw [List.getElem?_map, List.getElem?_eq_getElem hj]; rfl)
set_option maxRecDepth 1000000 in
set_option maxHeartbeats 8000000 in
theorem refQuote_any (s : ByteArray) (w : World) (hs : s.size ≤ 1048576) :
    Calls Tryz.prog 124 #[.string s] w fun e w' => e = .returned (.tuple #[.string (printQ s).1, .int .i64 (printQ s).2]) ∧ Below w.heap.size w w' := by
  have HR := Lib.hid (refValid_any s w hs)
  have HPQ := Lib.hid (show printQ s = if Lib.validD s.data.toList = false then (⟨#[]⟩, 3) else if 48 < s.size then (⟨#[]⟩, 4) else (quoteB s, 0) from rfl)
  obtain ⟨V, hV⟩ : ∃ V, Lib.validD s.data.toList = V := ⟨_, rfl⟩
  rw [hV] at HR HPQ
  obtain ⟨i0, hinf, hz0, hz1, hz2⟩ := info_parts Tryz.Builder_Extra_159.infoByte
  have HI := Lib.hid hinf
  clear hV hinf
  go_enter Tryz.func124, Tryz.ntmps124
  go_wp2_with fail
  refine HR.out.mono ?_
  rintro e w1 ⟨rfl, hb⟩
  have H1 := Lib.hid hb
  clear hb HR
  cases V with
  | false =>
    have HP := Lib.hid (HPQ.out.trans (if_pos rfl))
    go_wp2_with fail
    go_ret2
    exact ⟨by rw [HP.out]; rfl, H1.out⟩
  | true =>
    have HPQ2 := Lib.hid (HPQ.out.trans (if_neg (by simp)))
    clear HPQ
    by_cases h48 : 48 < s.size
    · have h48i : (48 : Int) < (s.size : Int) := by omega
      have HP := Lib.hid (HPQ2.out.trans (if_pos h48))
      clear HPQ2
      go_wp2_with fail
      go_ret2
      exact ⟨by rw [HP.out]; rfl, H1.out⟩
    · have h48i : ¬ (48 : Int) < (s.size : Int) := by omega
      have HP := Lib.hid (HPQ2.out.trans (if_neg h48))
      clear HPQ2
      go_wp2_with (at_builtin; refine wpList_append_own_at _ rfl _ _ 66 rfl w1.heap.size 5 i0 _ 1 1 Tryz.underlying66 HI.out hz0 hz1 hz2 rfl (by decide) _ 0 [] (by rfl) (World.ownsRow_nil _ _ _ _) ⟨w1.heap.size, 0, none⟩ 1 1 [.int .u8 34] (by rfl) (by rfl) (World.news_of_block (heap_alloc_new w1 _)) (by intro u hu; simp at hu; subst hu; rfl) (by unfold maxLen; omega) (by omega) (by simp) ?_)
      intro v1 w2 hown hgrow _ _
      have HOW0 := Lib.hid (show w2.ownsRow w1.heap.size 5 1 v1 (qTo s.data.toList 0).length (Lib.byteCells (qTo s.data.toList 0)) by rw [show qTo s.data.toList 0 = [34] by simp [qTo]]; exact hown)
      have HB0 := Lib.hid (show Below w1.heap.size w1 w2 from ((Below.refl w1.heap.size w1).alloc (Nat.le_refl _) (.cells #[.int .u8 34] 5)).grown hgrow (by simp) (fun k hk => by simp [Value.ownBlock] at hk))
      obtain ⟨va1, vc1, rfl⟩ := ownr_shape hown
      have HN := Lib.hid (show s.data.toList.length = s.size from Array.length_toList)
      clear hown hgrow
      go_wp2_with fail
      go_loopw [5, 6] (fun v5 v6 wr => ∃ i : Nat, i ≤ s.size ∧ v6 = .int .i64 i ∧ Hid (wr.ownsRow w1.heap.size 5 1 v5 (qTo s.data.toList i).length (Lib.byteCells (qTo s.data.toList i))) ∧ Hid (Below w1.heap.size w1 wr)) (fun _ v6 _ => s.size - (intOf v6).toNat)
      case atStart => exact ⟨0, Nat.zero_le _, rfl, HOW0.out, HB0.out⟩
      case round =>
        obtain ⟨i, hi, rfl, HOW, HB⟩ := hrel
        obtain ⟨va, vc, rfl⟩ := ownr_shape HOW.out
        have HLQ := Lib.hid (qTo_len s.data.toList i (by omega))
        by_cases hlt : i < s.size
        · have hil : i < s.data.toList.length := by rw [HN.out]; exact hlt
          have hi0 : (0 : Int) ≤ (i : Int) := Int.natCast_nonneg _
          have hi1 : (i : Int) < (s.size : Int) := by omega
          obtain ⟨n, hx⟩ : ∃ n, (s[i]'hlt).toNat = n := ⟨_, rfl⟩
          have hxl : (s.data.toList[i]).toNat = n := hx ▸ congrArg UInt8.toNat (Array.getElem_toList (xs := s.data) (i := i) hlt)
          have hn256 : n < 256 := hx ▸ UInt8.toNat_lt _
          have hcs : n = 34 ∨ n = 92 ∨ n = 10 ∨ n = 9 ∨ n = 13 ∨ (n < 32 ∧ n ≠ 10 ∧ n ≠ 9 ∧ n ≠ 13) ∨ (32 ≤ n ∧ n ≠ 34 ∧ n ≠ 92) := by omega
          rcases hcs with rfl | rfl | rfl | rfl | rfl | ⟨h1, h2, h3, h4⟩ | ⟨h1, h2, h3⟩
          · have hxe : s.data.toList[i] = 34 := UInt8.toNat_inj.1 (hxl.trans rfl)
            have HQB := Lib.hid (show ([.int .u8 92, .int .u8 34] : List Value) = Lib.byteCells (qByte s.data.toList[i]) by rw [hxe]; rfl)
            have HQL := Lib.hid (show 2 = (qByte s.data.toList[i]).length by rw [hxe]; rfl)
            clear hxe hxl
            have HBW := Lib.hid (show Below w1.heap.size w1 wr from HB.out)
            have HOWd := Lib.hid (show (wr.alloc (.cells #[.int .u8 92, .int .u8 34] 5)).ownsRow w1.heap.size 5 1 (.slice va (qTo s.data.toList i).length vc) (qTo s.data.toList i).length (Lib.byteCells (qTo s.data.toList i)) from ownr_alloc HOW.out _)
            go_wp2_with (at_builtin; refine wpList_append_own_at _ rfl _ _ 66 rfl w1.heap.size 5 i0 _ 1 1 Tryz.underlying66 HI.out hz0 hz1 hz2 rfl (by decide) _ (qTo s.data.toList i).length (Lib.byteCells (qTo s.data.toList i)) (by rfl) HOWd.out ⟨wr.heap.size, 0, none⟩ 2 2 [.int .u8 92, .int .u8 34] (by rfl) (by rfl) (World.news_of_block (heap_alloc_new wr _)) (by intro u hu; simp at hu; rcases hu with rfl | rfl <;> rfl) (by have := HLQ.out; unfold maxLen; omega) (by have := HLQ.out; omega) (Nat.le_trans HBW.out.size (by simp)) ?_)
            intro v' w' hown hgrow _ _
            have HOW2 := Lib.hid (q_row hown hil HQB.out HQL.out)
            have HB2 := Lib.hid (show Below w1.heap.size w1 w' from ((HBW.out).alloc HBW.out.size _).grown hgrow (Nat.le_trans HBW.out.size (by simp)) (fun k hk => (HOWd.out.lt k hk).1))
            obtain ⟨va', vc', rfl⟩ := ownr_shape hown
            clear hown hgrow
            go_wp2_with fail
            go_roundw
            case rel => exact ⟨i + 1, by omega, by go_num, HOW2.out, HB2.out⟩
            case measure => simp [intOf]; omega
          · have hxe : s.data.toList[i] = 92 := UInt8.toNat_inj.1 (hxl.trans rfl)
            have HQB := Lib.hid (show ([.int .u8 92, .int .u8 92] : List Value) = Lib.byteCells (qByte s.data.toList[i]) by rw [hxe]; rfl)
            have HQL := Lib.hid (show 2 = (qByte s.data.toList[i]).length by rw [hxe]; rfl)
            clear hxe hxl
            have HBW := Lib.hid (show Below w1.heap.size w1 wr from HB.out)
            have HOWd := Lib.hid (show (wr.alloc (.cells #[.int .u8 92, .int .u8 92] 5)).ownsRow w1.heap.size 5 1 (.slice va (qTo s.data.toList i).length vc) (qTo s.data.toList i).length (Lib.byteCells (qTo s.data.toList i)) from ownr_alloc HOW.out _)
            go_wp2_with (at_builtin; refine wpList_append_own_at _ rfl _ _ 66 rfl w1.heap.size 5 i0 _ 1 1 Tryz.underlying66 HI.out hz0 hz1 hz2 rfl (by decide) _ (qTo s.data.toList i).length (Lib.byteCells (qTo s.data.toList i)) (by rfl) HOWd.out ⟨wr.heap.size, 0, none⟩ 2 2 [.int .u8 92, .int .u8 92] (by rfl) (by rfl) (World.news_of_block (heap_alloc_new wr _)) (by intro u hu; simp at hu; rcases hu with rfl | rfl <;> rfl) (by have := HLQ.out; unfold maxLen; omega) (by have := HLQ.out; omega) (Nat.le_trans HBW.out.size (by simp)) ?_)
            intro v' w' hown hgrow _ _
            have HOW2 := Lib.hid (q_row hown hil HQB.out HQL.out)
            have HB2 := Lib.hid (show Below w1.heap.size w1 w' from ((HBW.out).alloc HBW.out.size _).grown hgrow (Nat.le_trans HBW.out.size (by simp)) (fun k hk => (HOWd.out.lt k hk).1))
            obtain ⟨va', vc', rfl⟩ := ownr_shape hown
            clear hown hgrow
            go_wp2_with fail
            go_roundw
            case rel => exact ⟨i + 1, by omega, by go_num, HOW2.out, HB2.out⟩
            case measure => simp [intOf]; omega
          · have hxe : s.data.toList[i] = 10 := UInt8.toNat_inj.1 (hxl.trans rfl)
            have HQB := Lib.hid (show ([.int .u8 92, .int .u8 110] : List Value) = Lib.byteCells (qByte s.data.toList[i]) by rw [hxe]; rfl)
            have HQL := Lib.hid (show 2 = (qByte s.data.toList[i]).length by rw [hxe]; rfl)
            clear hxe hxl
            have HBW := Lib.hid (show Below w1.heap.size w1 wr from HB.out)
            have HOWd := Lib.hid (show (wr.alloc (.cells #[.int .u8 92, .int .u8 110] 5)).ownsRow w1.heap.size 5 1 (.slice va (qTo s.data.toList i).length vc) (qTo s.data.toList i).length (Lib.byteCells (qTo s.data.toList i)) from ownr_alloc HOW.out _)
            go_wp2_with (at_builtin; refine wpList_append_own_at _ rfl _ _ 66 rfl w1.heap.size 5 i0 _ 1 1 Tryz.underlying66 HI.out hz0 hz1 hz2 rfl (by decide) _ (qTo s.data.toList i).length (Lib.byteCells (qTo s.data.toList i)) (by rfl) HOWd.out ⟨wr.heap.size, 0, none⟩ 2 2 [.int .u8 92, .int .u8 110] (by rfl) (by rfl) (World.news_of_block (heap_alloc_new wr _)) (by intro u hu; simp at hu; rcases hu with rfl | rfl <;> rfl) (by have := HLQ.out; unfold maxLen; omega) (by have := HLQ.out; omega) (Nat.le_trans HBW.out.size (by simp)) ?_)
            intro v' w' hown hgrow _ _
            have HOW2 := Lib.hid (q_row hown hil HQB.out HQL.out)
            have HB2 := Lib.hid (show Below w1.heap.size w1 w' from ((HBW.out).alloc HBW.out.size _).grown hgrow (Nat.le_trans HBW.out.size (by simp)) (fun k hk => (HOWd.out.lt k hk).1))
            obtain ⟨va', vc', rfl⟩ := ownr_shape hown
            clear hown hgrow
            go_wp2_with fail
            go_roundw
            case rel => exact ⟨i + 1, by omega, by go_num, HOW2.out, HB2.out⟩
            case measure => simp [intOf]; omega
          · have hxe : s.data.toList[i] = 9 := UInt8.toNat_inj.1 (hxl.trans rfl)
            have HQB := Lib.hid (show ([.int .u8 92, .int .u8 116] : List Value) = Lib.byteCells (qByte s.data.toList[i]) by rw [hxe]; rfl)
            have HQL := Lib.hid (show 2 = (qByte s.data.toList[i]).length by rw [hxe]; rfl)
            clear hxe hxl
            have HBW := Lib.hid (show Below w1.heap.size w1 wr from HB.out)
            have HOWd := Lib.hid (show (wr.alloc (.cells #[.int .u8 92, .int .u8 116] 5)).ownsRow w1.heap.size 5 1 (.slice va (qTo s.data.toList i).length vc) (qTo s.data.toList i).length (Lib.byteCells (qTo s.data.toList i)) from ownr_alloc HOW.out _)
            go_wp2_with (at_builtin; refine wpList_append_own_at _ rfl _ _ 66 rfl w1.heap.size 5 i0 _ 1 1 Tryz.underlying66 HI.out hz0 hz1 hz2 rfl (by decide) _ (qTo s.data.toList i).length (Lib.byteCells (qTo s.data.toList i)) (by rfl) HOWd.out ⟨wr.heap.size, 0, none⟩ 2 2 [.int .u8 92, .int .u8 116] (by rfl) (by rfl) (World.news_of_block (heap_alloc_new wr _)) (by intro u hu; simp at hu; rcases hu with rfl | rfl <;> rfl) (by have := HLQ.out; unfold maxLen; omega) (by have := HLQ.out; omega) (Nat.le_trans HBW.out.size (by simp)) ?_)
            intro v' w' hown hgrow _ _
            have HOW2 := Lib.hid (q_row hown hil HQB.out HQL.out)
            have HB2 := Lib.hid (show Below w1.heap.size w1 w' from ((HBW.out).alloc HBW.out.size _).grown hgrow (Nat.le_trans HBW.out.size (by simp)) (fun k hk => (HOWd.out.lt k hk).1))
            obtain ⟨va', vc', rfl⟩ := ownr_shape hown
            clear hown hgrow
            go_wp2_with fail
            go_roundw
            case rel => exact ⟨i + 1, by omega, by go_num, HOW2.out, HB2.out⟩
            case measure => simp [intOf]; omega
          · have hxe : s.data.toList[i] = 13 := UInt8.toNat_inj.1 (hxl.trans rfl)
            have HQB := Lib.hid (show ([.int .u8 92, .int .u8 114] : List Value) = Lib.byteCells (qByte s.data.toList[i]) by rw [hxe]; rfl)
            have HQL := Lib.hid (show 2 = (qByte s.data.toList[i]).length by rw [hxe]; rfl)
            clear hxe hxl
            have HBW := Lib.hid (show Below w1.heap.size w1 wr from HB.out)
            have HOWd := Lib.hid (show (wr.alloc (.cells #[.int .u8 92, .int .u8 114] 5)).ownsRow w1.heap.size 5 1 (.slice va (qTo s.data.toList i).length vc) (qTo s.data.toList i).length (Lib.byteCells (qTo s.data.toList i)) from ownr_alloc HOW.out _)
            go_wp2_with (at_builtin; refine wpList_append_own_at _ rfl _ _ 66 rfl w1.heap.size 5 i0 _ 1 1 Tryz.underlying66 HI.out hz0 hz1 hz2 rfl (by decide) _ (qTo s.data.toList i).length (Lib.byteCells (qTo s.data.toList i)) (by rfl) HOWd.out ⟨wr.heap.size, 0, none⟩ 2 2 [.int .u8 92, .int .u8 114] (by rfl) (by rfl) (World.news_of_block (heap_alloc_new wr _)) (by intro u hu; simp at hu; rcases hu with rfl | rfl <;> rfl) (by have := HLQ.out; unfold maxLen; omega) (by have := HLQ.out; omega) (Nat.le_trans HBW.out.size (by simp)) ?_)
            intro v' w' hown hgrow _ _
            have HOW2 := Lib.hid (q_row hown hil HQB.out HQL.out)
            have HB2 := Lib.hid (show Below w1.heap.size w1 w' from ((HBW.out).alloc HBW.out.size _).grown hgrow (Nat.le_trans HBW.out.size (by simp)) (fun k hk => (HOWd.out.lt k hk).1))
            obtain ⟨va', vc', rfl⟩ := ownr_shape hown
            clear hown hgrow
            go_wp2_with fail
            go_roundw
            case rel => exact ⟨i + 1, by omega, by go_num, HOW2.out, HB2.out⟩
            case measure => simp [intOf]; omega
          · have hne : ∀ k : UInt8, k.toNat ≠ n → s.data.toList[i] ≠ k := fun k hk e => hk (by rw [← hxl, e])
            have hqb : qByte s.data.toList[i] = [92, 117, 48, 48, hexD (n / 16), hexD (n % 16)] := by
              unfold qByte
              rw [if_neg (by rintro (e | e); exact hne 34 (fun e => by simp at e; omega) e; exact hne 92 (fun e => by simp at e; omega) e), if_neg (hne 10 (fun e => h2 e.symm)), if_neg (hne 9 (fun e => h3 e.symm)), if_neg (hne 13 (fun e => h4 e.symm)), if_pos (by rw [hxl]; omega), hxl]
            have e1 : ((n : Int) == 34) = false := by simp; omega
            have e2 : ((n : Int) == 92) = false := by simp; omega
            have e3 : ((n : Int) == 10) = false := by simp; omega
            have e4 : ((n : Int) == 9) = false := by simp; omega
            have e5 : ((n : Int) == 13) = false := by simp; omega
            have e6 : (n : Int) < 32 := by omega
            obtain ⟨q, hqe⟩ : ∃ q, n / 16 = q := ⟨_, rfl⟩
            obtain ⟨r, hre⟩ : ∃ r, n % 16 = r := ⟨_, rfl⟩
            rw [hqe, hre] at hqb
            have HQB := Lib.hid (show ([.int .u8 92, .int .u8 117, .int .u8 48, .int .u8 48, .int .u8 (hexD q).toNat, .int .u8 (hexD r).toNat] : List Value) = Lib.byteCells (qByte s.data.toList[i]) by rw [hqb]; rfl)
            have HQL := Lib.hid (show 6 = (qByte s.data.toList[i]).length by rw [hqb]; rfl)
            clear hqb hne hxl
            have HBW := Lib.hid (show Below w1.heap.size w1 wr.drew from HB.out.trans (Below.refl _ _).drew)
            have HOWd := Lib.hid (show (wr.drew.alloc (.cells #[.int .u8 92, .int .u8 117, .int .u8 48, .int .u8 48, .int .u8 (hexD q).toNat, .int .u8 (hexD r).toNat] 5)).ownsRow w1.heap.size 5 1 (.slice va (qTo s.data.toList i).length vc) (qTo s.data.toList i).length (Lib.byteCells (qTo s.data.toList i)) from ownr_alloc (ownr_below HOW.out (Below.refl _ _).drew) _)
            go_upto_region 22 with (fail)
            clear e1 e2 e3 e4 e5 e6
            have hql : q < 16 := by omega
            have hrl : r < 16 := by omega
            have hdiv : (n : Int) / 16 = (q : Int) := by omega
            have hmod : (n : Int) % 16 = (r : Int) := by omega
            have htd : (n : Int).tdiv 16 = (q : Int) := by rw [Int.tdiv_eq_ediv_of_nonneg (by omega)]; exact hdiv
            have htm : (n : Int).tmod 16 = (r : Int) := by rw [Int.tmod_eq_emod_of_nonneg (by omega)]; exact hmod
            have ha : ((⟨#[48, 49, 50, 51, 52, 53, 54, 55, 56, 57, 97, 98, 99, 100, 101, 102]⟩ : ByteArray)[q]'(hql)) = hexD q := (dig_b q hql).1
            have hb' : ((⟨#[48, 49, 50, 51, 52, 53, 54, 55, 56, 57, 97, 98, 99, 100, 101, 102]⟩ : ByteArray)[r]'(hrl)) = hexD r := (dig_b r hrl).1
            have hwq : IntKind.u8.wrap (q : Int) = (q : Int) := wrap16 ⟨q, hql⟩
            have hwr : IntKind.u8.wrap (r : Int) = (r : Int) := wrap16 ⟨r, hrl⟩
            have hqi : (q : Int) < 16 := by omega
            have hri : (r : Int) < 16 := by omega
            have hq0 : (0 : Int) ≤ (q : Int) := Int.natCast_nonneg _
            have hr0 : (0 : Int) ≤ (r : Int) := Int.natCast_nonneg _
            clear hqe hre h1 h2 h3 h4
            go_region_law (refine stepr_append rfl (.tmp 63) (.tmp 70) 66 rfl w1.heap.size 5 i0 _ 1 1 Tryz.underlying66 HI.out hz0 hz1 hz2 rfl (by decide) _ (qTo s.data.toList i).length (Lib.byteCells (qTo s.data.toList i)) (by rfl) HOWd.out ⟨wr.heap.size, 0, none⟩ 6 6 [.int .u8 92, .int .u8 117, .int .u8 48, .int .u8 48, .int .u8 (hexD q).toNat, .int .u8 (hexD r).toNat] (by rfl) (by rfl) (World.news_of_block (heap_alloc_new wr.drew _)) (by intro u hu; simp at hu; rcases hu with rfl | rfl | rfl | rfl | rfl | rfl <;> rfl) (by have := HLQ.out; unfold maxLen; omega) (by have := HLQ.out; omega) (Nat.le_trans HBW.out.size (by simp)) ?_; intro v' w' hown hgrow hat; obtain ⟨va', vc', rfl⟩ := ownr_shape hown)
            all_goals
              have HOW2 := Lib.hid (q_row hown hil HQB.out HQL.out)
              have HB2 := Lib.hid (show Below w1.heap.size w1 w' from ((HBW.out).alloc HBW.out.size _).grown hgrow (Nat.le_trans HBW.out.size (by simp)) (fun k hk => (HOWd.out.lt k hk).1))
              clear hown hgrow hat
              try go_wp2_with fail
              go_roundw
              case rel => exact ⟨i + 1, by omega, by go_num, HOW2.out, HB2.out⟩
              case measure => simp [intOf]; omega
          · have hne : ∀ k : UInt8, k.toNat ≠ n → s.data.toList[i] ≠ k := fun k hk e => hk (by rw [← hxl, e])
            have hqb : qByte s.data.toList[i] = [s.data.toList[i]] := by
              unfold qByte
              rw [if_neg (by rintro (e | e); exact hne 34 (fun e => h2 e.symm) e; exact hne 92 (fun e => h3 e.symm) e), if_neg (hne 10 (fun e => by simp at e; omega)), if_neg (hne 9 (fun e => by simp at e; omega)), if_neg (hne 13 (fun e => by simp at e; omega)), if_neg (by rw [hxl]; omega)]
            have HQB := Lib.hid (show ([.int .u8 n] : List Value) = Lib.byteCells (qByte s.data.toList[i]) by rw [hqb, ← hxl]; rfl)
            have HQL := Lib.hid (show 1 = (qByte s.data.toList[i]).length by rw [hqb]; rfl)
            clear hqb hne hxl
            have e1 : ((n : Int) == 34) = false := by simp; omega
            have e2 : ((n : Int) == 92) = false := by simp; omega
            have e3 : ((n : Int) == 10) = false := by simp; omega
            have e4 : ((n : Int) == 9) = false := by simp; omega
            have e5 : ((n : Int) == 13) = false := by simp; omega
            have e6 : ¬ (n : Int) < 32 := by omega
            have HBW := Lib.hid (show Below w1.heap.size w1 wr from HB.out)
            have HOWd := Lib.hid (show (wr.alloc (.cells #[.int .u8 n] 5)).ownsRow w1.heap.size 5 1 (.slice va (qTo s.data.toList i).length vc) (qTo s.data.toList i).length (Lib.byteCells (qTo s.data.toList i)) from ownr_alloc HOW.out _)
            go_wp2_with (at_builtin; refine wpList_append_own_at _ rfl _ _ 66 rfl w1.heap.size 5 i0 _ 1 1 Tryz.underlying66 HI.out hz0 hz1 hz2 rfl (by decide) _ (qTo s.data.toList i).length (Lib.byteCells (qTo s.data.toList i)) (by rfl) HOWd.out ⟨wr.heap.size, 0, none⟩ 1 1 [.int .u8 n] (by rfl) (by rfl) (World.news_of_block (heap_alloc_new wr _)) (by intro u hu; simp at hu; subst hu; rfl) (by have := HLQ.out; unfold maxLen; omega) (by have := HLQ.out; omega) (Nat.le_trans HBW.out.size (by simp)) ?_)
            intro v' w' hown hgrow _ _
            have HOW2 := Lib.hid (q_row hown hil HQB.out HQL.out)
            have HB2 := Lib.hid (show Below w1.heap.size w1 w' from ((HBW.out).alloc HBW.out.size _).grown hgrow (Nat.le_trans HBW.out.size (by simp)) (fun k hk => (HOWd.out.lt k hk).1))
            obtain ⟨va', vc', rfl⟩ := ownr_shape hown
            clear hown hgrow
            go_wp2_with fail
            go_roundw
            case rel => exact ⟨i + 1, by omega, by go_num, HOW2.out, HB2.out⟩
            case measure => simp [intOf]; omega
        · obtain rfl : i = s.size := by omega
          have hi1 : ¬ ((s.size : Nat) : Int) < (s.size : Int) := by omega
          have HBW := Lib.hid (show Below w1.heap.size w1 wr from HB.out)
          have HOWd := Lib.hid (show (wr.alloc (.cells #[.int .u8 34] 5)).ownsRow w1.heap.size 5 1 (.slice va (qTo s.data.toList s.size).length vc) (qTo s.data.toList s.size).length (Lib.byteCells (qTo s.data.toList s.size)) from ownr_alloc HOW.out _)
          go_wp2_with (at_builtin; refine wpList_append_own_at _ rfl _ _ 66 rfl w1.heap.size 5 i0 _ 1 1 Tryz.underlying66 HI.out hz0 hz1 hz2 rfl (by decide) _ (qTo s.data.toList s.size).length (Lib.byteCells (qTo s.data.toList s.size)) (by rfl) HOWd.out ⟨wr.heap.size, 0, none⟩ 1 1 [.int .u8 34] (by rfl) (by rfl) (World.news_of_block (heap_alloc_new wr _)) (by intro u hu; simp at hu; subst hu; rfl) (by have := HLQ.out; unfold maxLen; omega) (by have := HLQ.out; omega) (Nat.le_trans HBW.out.size (by simp)) ?_)
          intro v' w' hown hgrow _ _
          have HB2 := Lib.hid (show Below w1.heap.size w1 w' from ((HBW.out).alloc HBW.out.size _).grown hgrow (Nat.le_trans HBW.out.size (by simp)) (fun k hk => (HOWd.out.lt k hk).1))
          have hql : (qTo s.data.toList s.size).length + 1 = (quoteL s.data.toList).length := by
            have h1 := congrArg List.length (qTo_end HN.out)
            rw [List.length_append, Lib.byteCells_length, Lib.byteCells_length] at h1
            exact h1
          have hown2 : w'.ownsRow w1.heap.size 5 1 v' (quoteL s.data.toList).length (Lib.byteCells (quoteL s.data.toList)) := by
            rw [← hql, ← qTo_end HN.out]; exact hown
          have hcv := conv_own hown2 (by unfold quoteL; simp)
          obtain ⟨va', vc', rfl⟩ := ownr_shape hown2
          clear hown hown2 hgrow hql
          go_wp2_with fail
          go_ret2
          exact ⟨by rw [HP.out]; rfl, bthen H1.out HB2.out⟩
end Go.Proofs.YtmniblcooficgaaGreatDoor

namespace Go.Proofs.YtmniblcooficgaaGreatDoor
open Go.RowKit Ev5
set_option linter.unusedSimpArgs false
set_option linter.unusedVariables false

def plainW (l : List UInt8) : Bool := localP l && !(l.any fun b => decide (b = 46))
def wordP (s : ByteArray) : ByteArray × Int := if plainW s.data.toList = true then (s, 0) else printQ s
theorem idx_cons (x : UInt8) (r : List UInt8) (c : UInt8) : Lib.indexByte (x :: r) c = if x = c then 0 else if Lib.indexByte r c = -1 then -1 else Lib.indexByte r c + 1 := by
  have hs := idx_step (x :: r) c 0 (by simp)
  simpa using hs
theorem idx_ge : ∀ (l : List UInt8) (c : UInt8), -1 ≤ Lib.indexByte l c
  | [], c => by
    have : Lib.indexByte ([] : List UInt8) c = -1 := rfl
    omega
  | x :: r, c => by
    have := idx_ge r c
    rw [idx_cons]
    split
    · omega
    · split <;> omega
theorem idx_any : ∀ (l : List UInt8), decide (0 ≤ Lib.indexByte l 46) = l.any fun b => decide (b = 46)
  | [] => rfl
  | x :: r => by
    have h1 := idx_any r
    have h2 := idx_ge r 46
    rw [idx_cons, List.any_cons, ← h1]
    by_cases hx : x = 46
    · rw [if_pos hx]; simp [hx]
    · rw [if_neg hx]
      by_cases h3 : Lib.indexByte r 46 = -1
      · rw [if_pos h3, h3]; simp [hx]
      · rw [if_neg h3]
        have e1 : (0 ≤ Lib.indexByte r 46 + 1) = True := eq_true (by omega)
        have e2 : (0 ≤ Lib.indexByte r 46) = True := eq_true (by omega)
        simp [e1, e2]
set_option maxRecDepth 100000 in
set_option maxHeartbeats 2000000 in
theorem word_any (s : ByteArray) (w : World) (hE : EnvU w) (hs : s.size ≤ 1048576) :
    Calls Tryz.prog 12 #[.string s] w fun e w' => e = .returned (.tuple #[.string (wordP s).1, .int .i64 (wordP s).2]) ∧ Below w.heap.size w w' := by
  have HE := Lib.hid hE
  have HL := Lib.hid (local_any s w (by omega))
  have HW := Lib.hid (show wordP s = if (localP s.data.toList && !(s.data.toList.any fun b => decide (b = 46))) = true then (s, 0) else printQ s from rfl)
  obtain ⟨L, hL⟩ : ∃ L, localP s.data.toList = L := ⟨_, rfl⟩
  rw [hL] at HL HW
  clear hE hL
  go_enter Tryz.func12, Tryz.ntmps12
  go_wp2_with fail
  refine HL.out.mono ?_
  rintro e w1 ⟨rfl, hb⟩
  have H1 := Lib.hid hb
  clear hb HL
  cases L with
  | false =>
    have HP := Lib.hid (HW.out.trans (if_neg (by simp)))
    go_wp2_with fail
    refine (quotePrint_any s w1 (HE.out.below H1.out) hs).mono ?_
    rintro e w2 ⟨rfl, hb⟩
    have H2 := Lib.hid (bthen H1.out hb)
    clear hb
    go_wp2_with fail
    go_ret2
    exact ⟨by rw [HP.out]; rfl, H2.out⟩
  | true =>
    have hD := idx_any s.data.toList
    obtain ⟨D, hDe⟩ : ∃ D, (s.data.toList.any fun b => decide (b = 46)) = D := ⟨_, rfl⟩
    rw [hDe] at hD HW
    have HC := Lib.hid (Tryz.strings_Contains_one s 46 w1)
    rw [hD] at HC
    clear hD hDe
    go_wp2_with fail
    refine HC.out.mono ?_
    rintro e w2 ⟨rfl, hw⟩
    have hw' := hw.symm
    subst hw'
    clear hw HC
    cases D with
    | false =>
      have HP := Lib.hid (HW.out.trans (if_pos (by simp)))
      go_wp2_with fail
      go_ret2
      exact ⟨by rw [HP.out]; rfl, H1.out⟩
    | true =>
      have HP := Lib.hid (HW.out.trans (if_neg (by simp)))
      go_wp2_with fail
      refine (quotePrint_any s w1 (HE.out.below H1.out) hs).mono ?_
      rintro e w2 ⟨rfl, hb⟩
      have H2 := Lib.hid (bthen H1.out hb)
      clear hb
      go_wp2_with fail
      go_ret2
      exact ⟨by rw [HP.out]; rfl, H2.out⟩
set_option maxRecDepth 100000 in
set_option maxHeartbeats 2000000 in
theorem refWord_any (s : ByteArray) (w : World) (hs : s.size ≤ 1048576) :
    Calls Tryz.prog 95 #[.string s] w fun e w' => e = .returned (.string (wordP s).1) ∧ Below w.heap.size w w' := by
  have HL := Lib.hid (refLocal_any s w hs)
  have HW := Lib.hid (show wordP s = if (localP s.data.toList && !(s.data.toList.any fun b => decide (b = 46))) = true then (s, 0) else printQ s from rfl)
  obtain ⟨L, hL⟩ : ∃ L, localP s.data.toList = L := ⟨_, rfl⟩
  rw [hL] at HL HW
  have HN := Lib.hid (show s.data.toList.length = s.size from Array.length_toList)
  clear hL
  go_enter Tryz.func95, Tryz.ntmps95
  go_wp2_with fail
  refine HL.out.mono ?_
  rintro e w1 ⟨rfl, hw⟩
  have hw' := hw.symm
  subst hw'
  clear hw HL
  go_wp2_with fail
  go_loopw [3, 4] (fun v3 v4 wr => ∃ (i : Nat) (b : Bool), i ≤ s.size ∧ v4 = .int .i64 i ∧ v3 = .bool b ∧ Hid (b = (L && !((s.data.toList.take i).any fun b => decide (b = 46)))) ∧ Hid (Below w.heap.size w wr)) (fun _ v4 _ => s.size - (intOf v4).toNat)
  case atStart => exact ⟨0, L, Nat.zero_le _, rfl, rfl, by show L = _; simp, Below.refl _ _⟩
  case round =>
    obtain ⟨i, b, hi, rfl, rfl, HBB, HB⟩ := hrel
    by_cases hlt : i < s.size
    · have hi0 : (0 : Int) ≤ (i : Int) := Int.natCast_nonneg _
      have hi1 : (i : Int) < (s.size : Int) := by omega
      have hil : i < s.data.toList.length := by rw [HN.out]; exact hlt
      have hst : ((s.data.toList.take (i + 1)).any fun b => decide (b = 46)) = (((s.data.toList.take i).any fun b => decide (b = 46)) || decide (s.data.toList[i] = 46)) := by
        rw [List.take_add_one, List.getElem?_eq_getElem hil, List.any_append]; simp
      obtain ⟨n, hx⟩ : ∃ n, (s[i]'hlt).toNat = n := ⟨_, rfl⟩
      have hxl : (s.data.toList[i]).toNat = n := hx ▸ congrArg UInt8.toNat (Array.getElem_toList (xs := s.data) (i := i) hlt)
      have h46 : decide (s.data.toList[i] = 46) = decide (n = 46) := by
        by_cases hn : n = 46
        · rw [decide_eq_true hn, decide_eq_true (UInt8.toNat_inj.1 (show (s.data.toList[i]).toNat = (46 : UInt8).toNat from hxl.trans hn))]
        · rw [decide_eq_false hn, decide_eq_false (fun e => hn (by rw [← hxl, e]; rfl))]
      rw [h46] at hst
      have HST := Lib.hid hst
      clear hst h46 hxl hil
      cases b with
      | false =>
        have HB2 := Lib.hid (show false = (L && !((s.data.toList.take (i + 1)).any fun b => decide (b = 46))) by
          have h1 := HBB.out
          rw [HST.out]
          revert h1
          cases L <;> cases ((s.data.toList.take i).any fun b => decide (b = 46)) <;> simp)
        go_wp2_with fail
        go_roundw
        case rel => exact ⟨i + 1, false, by omega, by go_num, rfl, HB2.out, HB.out⟩
        case measure => simp [intOf]; omega
      | true =>
        by_cases hn : n = 46
        · subst hn
          have HB2 := Lib.hid (show false = (L && !((s.data.toList.take (i + 1)).any fun b => decide (b = 46))) by rw [HST.out]; simp)
          go_wp2_with fail
          go_roundw
          case rel => exact ⟨i + 1, false, by omega, by go_num, rfl, HB2.out, HB.out⟩
          case measure => simp [intOf]; omega
        · have HB2 := Lib.hid (show true = (L && !((s.data.toList.take (i + 1)).any fun b => decide (b = 46))) by
            have h1 := HBB.out
            rw [HST.out, decide_eq_false hn, Bool.or_false]; exact h1)
          have e1 : ((n : Int) == 46) = false := by simp; omega
          have e2 : ((n : Int) != 46) = true := by simp; omega
          go_wp2_with fail
          go_roundw
          case rel => exact ⟨i + 1, true, by omega, by go_num, rfl, HB2.out, HB.out⟩
          case measure => simp [intOf]; omega
    · obtain rfl : i = s.size := by omega
      have hi1 : ¬ ((s.size : Nat) : Int) < (s.size : Int) := by omega
      have hb2 : b = (L && !(s.data.toList.any fun b => decide (b = 46))) := by
        have h1 := HBB.out
        rw [← HN.out, List.take_length] at h1
        exact h1
      rw [← hb2] at HW
      clear hb2 HBB
      cases b with
      | true =>
        have HP := Lib.hid (HW.out.trans (if_pos rfl))
        go_wp2_with fail
        go_ret
        exact ⟨by rw [HP.out]; rfl, HB.out⟩
      | false =>
        have HP := Lib.hid (HW.out.trans (if_neg (by simp)))
        go_wp2_with fail
        refine (refQuote_any s wr hs).mono ?_
        rintro e w2 ⟨rfl, hb⟩
        have H2 := Lib.hid (bthen HB.out hb)
        clear hb
        go_wp2_with fail
        go_ret
        exact ⟨by rw [HP.out]; rfl, H2.out⟩
end Go.Proofs.YtmniblcooficgaaGreatDoor

namespace Go.Proofs.YtmniblcooficgaaGreatDoor
open Go.RowKit Ev5
set_option linter.unusedSimpArgs false
set_option linter.unusedVariables false

def rowF (k : Int) (t v : ByteArray) (l : List (List UInt8)) : List UInt8 :=
  if k = 1 then [110, 117, 108, 108]
  else if k = 4 then qt t
  else if k = 5 then 91 :: (Lib.join l [44, 32] ++ [93])
  else if k = 7 then 123 :: (Lib.join l [44, 32] ++ [125])
  else if k = 8 then (wordP t).1.data.toList ++ 32 :: 61 :: 32 :: Lib.join l [44, 32]
  else t.data.toList
theorem word_len (t : ByteArray) (h : t.size ≤ 1048576) : (wordP t).1.data.toList.length ≤ 1048576 := by
  have h6 : t.data.toList.length = t.size := Array.length_toList
  unfold wordP
  split
  · show t.data.toList.length ≤ _; omega
  · have := qt_len t; unfold qt at this; omega
theorem textF_row : TextF rowF := by
  intro k t v l ht hv
  have h1 := qt_len t
  have h2 := word_len t ht
  have h3 := join_lenS [44, 32] (by decide) l
  have h6 : t.data.toList.length = t.size := Array.length_toList
  unfold rowF
  repeat' split
  all_goals (try simp only [List.length_cons, List.length_append, List.length_nil])
  all_goals omega
theorem strV_q (t : ByteArray) : Value.string (printQ t).1 = strV (qt t) := strV_of rfl
theorem strV_t (t : ByteArray) : Value.string t = strV t.data.toList := strV_of rfl
set_option maxRecDepth 100000 in
set_option maxHeartbeats 2000000 in
theorem wordS_any (s : ByteArray) (w : World) (hE : EnvU w) (hs : s.size ≤ 1048576) :
    Calls Tryz.prog 42 #[.string s] w fun e w' => e = .returned (.string (wordP s).1) ∧ Below w.heap.size w w' := by
  have HE := Lib.hid hE
  clear hE
  go_enter Tryz.func42, Tryz.ntmps42
  go_wp2_with fail
  refine (word_any s w HE.out hs).mono ?_
  rintro e w1 ⟨rfl, hb⟩
  have HB := Lib.hid hb
  clear hb
  go_wp2_with fail
  go_ret
  exact ⟨rfl, HB.out⟩
set_option maxRecDepth 100000 in
set_option maxHeartbeats 8000000 in
theorem row_any (n : Nd) : n.ok → n.size ≤ 50000 → ∀ (w : World) (S : Nat → Prop) (nv : Value), EnvU w → NdV w S nv n →
    Calls Tryz.prog 22 #[nv] w fun e w' => e = .returned (strV (n.txt rowF)) ∧ Below w.heap.size w w' := by
  refine Nd.ind (C := fun n => n.ok → n.size ≤ 50000 → ∀ (w : World) (S : Nat → Prop) (nv : Value), EnvU w → NdV w S nv n → Calls Tryz.prog 22 #[nv] w fun e w' => e = .returned (strV (n.txt rowF)) ∧ Below w.heap.size w w') ?_ n
  intro k t v ks ih hok hsz w S nv hE hv
  rw [ok_mk] at hok
  rw [size_mk] at hsz
  have hlen := txts_take_len (F := rowF) textF_row hok.2 (N := 50000) (by omega)
  have hkl : ks.length ≤ 50000 := by have := sizes_len ks; omega
  obtain ⟨u, rfl, hs⟩ := hv
  simp only [ndV, Nd.k, Nd.t, Nd.v, Nd.kids] at hs ⊢
  obtain ⟨ao, cap, rfl, hcap, hcm⟩ := hs.shape
  obtain ⟨i0, hinf, hz0, hz1, hz2⟩ := info_parts infoT
  have HI := Lib.hid hinf
  have HE := Lib.hid hE; have HS := Lib.hid hs.ltC; have HOK := Lib.hid hok; have HSZ := Lib.hid hsz; have HIH := Lib.hid ih; have HLEN := Lib.hid hlen
  have HTL := Lib.hid (show (Nd.txts rowF ks).length = ks.length from txts_len _ _)
  have HX := Lib.hid (heap_alloc_new w (.cells #[.int .i64 k, .string t, .string v, .slice ao ks.length cap] 24))
  have HB0 := Lib.hid (show Below w.heap.size w (w.alloc (.cells #[.int .i64 k, .string t, .string v, .slice ao ks.length cap] 24)) from (Below.refl _ _).alloc (Nat.le_refl _) _)
  clear hE hs hok hsz ih hlen hinf
  rw [txt_mk]
  unfold maxLen at *
  go_enter Tryz.func22, Tryz.ntmps22
  go_wp2_with fail
  go_loopw [3, 12] (fun v3 v12 wr => ∃ i : Nat, i ≤ ks.length ∧ v12 = .int .i64 i ∧ Hid (wr.ownsRow (w.heap.size + 1) 9 1 v3 i (strR ((Nd.txts rowF ks).take i))) ∧ Hid (Below (w.heap.size + 1) (w.alloc (.cells #[.int .i64 k, .string t, .string v, .slice ao ks.length cap] 24)) wr)) (fun _ v12 _ => ks.length - (intOf v12).toNat)
  case atStart => exact ⟨0, Nat.zero_le _, rfl, World.ownsRow_nil _ _ _ _, Below.refl _ _⟩
  case round =>
    obtain ⟨i, hi, rfl, HO, HBW⟩ := hrel
    have hnode := (HBW.out.block w.heap.size (by omega)).trans HX.out
    obtain ⟨x0, x1, x2, x3, g0, g1, g2, g3, hxl⟩ := nd_cells hnode
    have hbw : Below w.heap.size w wr := HB0.out.trans (HBW.out.mono (by omega))
    by_cases hlt : i < ks.length
    · have hi0 : (0 : Int) ≤ (i : Int) := Int.natCast_nonneg _
      have hi1 : (i : Int) < (ks.length : Int) := by omega
      obtain ⟨va, vc, hva⟩ := own_shapeC HO.out
      subst hva
      obtain ⟨kb, ko, kx, hko, hkw, k0, k1, k2, k3, hkx⟩ := HS.out.at_ i hlt
      obtain ⟨ay, cy, rfl, _, _⟩ := hkx.shape
      subst hko
      have hmem := List.getElem_mem hlt
      have hih := HIH.out ks[i] hmem ((oks_iff ks).1 HOK.out.2 _ hmem) (by have := size_mem hmem; have := HSZ.out; omega)
      have htk : (Nd.txts rowF ks).take (i + 1) = (Nd.txts rowF ks).take i ++ [ks[i].txt rowF] := by
        rw [List.take_add_one, List.getElem?_eq_getElem (by rw [HTL.out]; exact hlt)]
        congr 1
        show [(Nd.txts rowF ks)[i]'(by rw [HTL.out]; exact hlt)] = _
        simp [txts_map]
      obtain ⟨y, hy⟩ : ∃ y, ks[i] = y := ⟨_, rfl⟩
      rw [hy] at k0 k1 k2 k3 hkx hih htk
      have HKS := Lib.hid (NdV.mk hkx); have HH := Lib.hid hih; have HTK := Lib.hid htk
      have d0 : wr.cell? ⟨kb, ko + i * 4, none⟩ = some (.int .i64 y.k) := (hbw.cell (p := ⟨kb, ko + i * 4, none⟩) hkw).trans k0
      have d1 : wr.cell? ⟨kb, ko + i * 4 + 1, none⟩ = some (.string y.t) := (hbw.cell (p := ⟨kb, ko + i * 4 + 1, none⟩) hkw).trans k1
      have d2 : wr.cell? ⟨kb, ko + i * 4 + 2, none⟩ = some (.string y.v) := (hbw.cell (p := ⟨kb, ko + i * 4 + 2, none⟩) hkw).trans k2
      have d3 : wr.cell? ⟨kb, ko + i * 4 + 3, none⟩ = some (.slice ay y.kids.length cy) := (hbw.cell (p := ⟨kb, ko + i * 4 + 3, none⟩) hkw).trans k3
      have hkl : kb < wr.heap.size := Nat.lt_of_lt_of_le hkw hbw.size
      have HB1 := Lib.hid (show Below wr.heap.size wr (wr.alloc (.cells #[.int .i64 y.k, .string y.t, .string y.v, .slice ay y.kids.length cy] 24)) from (Below.refl _ _).alloc (Nat.le_refl _) _)
      have HBW2 := Lib.hid hbw
      clear k0 k1 k2 k3 hkx hih htk hy hnode hbw hmem x0 x1 x2 x3 g0 g1 g2 g3
      go_wp2_with fail
      refine (HH.out _ _ _ (HE.out.below (bthen HBW2.out HB1.out)) (HKS.out.below (bthen HBW2.out HB1.out))).mono ?_
      obtain ⟨Y, hY⟩ : ∃ Y : ByteArray, strV (y.txt rowF) = .string Y := ⟨_, rfl⟩
      rw [hY]
      have HY := Lib.hid hY
      clear hY
      rintro e w3 ⟨rfl, hb⟩
      have HB3 := Lib.hid (bthen HB1.out hb)
      have HOW := Lib.hid (owns_below (owns_below HO.out HB3.out) (show Below w3.heap.size w3 (w3.alloc (.cells #[.string Y] 9)) from (Below.refl _ _).alloc (Nat.le_refl _) _))
      have hsl : (strR ((Nd.txts rowF ks).take i)).length = i := by rw [strR_len, List.length_take, HTL.out]; omega
      have HSL := Lib.hid hsl
      clear hb d0 d1 d2 d3 hsl
      go_wp2_with (at_builtin; refine wpList_append_own_at _ rfl _ _ 57 rfl (w.heap.size + 1) 9 i0 _ 1 16 Tryz.underlying57 HI.out hz0 hz1 hz2 rfl (by omega) _ i (strR ((Nd.txts rowF ks).take i)) (by rfl) HOW.out ⟨w3.heap.size, 0, none⟩ 1 1 [.string Y] (by rfl) (by rfl) (World.news_of_block (heap_alloc_new w3 _)) (by intro u hu; rw [List.mem_singleton.1 hu]; rfl) (by unfold maxLen; omega) (by omega) (by have := HB3.out.size; have := HBW.out.size; simp at *; omega) ?_)
      intro v1 w1 hown hgrow _ hat
      have hlo : ∀ g, (Value.slice va i vc).ownBlock = some g → w.heap.size + 1 ≤ g := fun g e => (HO.out.lt g e).1
      have HOW2 := Lib.hid (show w1.ownsRow (w.heap.size + 1) 9 1 v1 (i + 1) (strR ((Nd.txts rowF ks).take (i + 1))) by rw [HTK.out, strR_app]; show w1.ownsRow _ _ _ _ _ (strR _ ++ [strV (y.txt rowF)]); rw [HY.out]; exact hown)
      have HBN := Lib.hid (show Below (w.heap.size + 1) (w.alloc (.cells #[.int .i64 k, .string t, .string v, .slice _ ks.length cap] 24)) w1 from
        (HBW.out.trans ((HB3.out.alloc (by have := HB3.out.size; omega) _).mono (by omega))).grown hgrow (by have := HB3.out.size; simp; omega) hlo)
      clear hown hgrow hat hlo
      go_wp2_with fail
      go_roundw
      case rel => exact ⟨i + 1, by omega, by go_num, HOW2.out, HBN.out⟩
      case measure => simp [intOf]; omega
    · obtain rfl : i = ks.length := by omega
      have hi1 : ¬ ((ks.length : Nat) : Int) < (ks.length : Int) := by omega
      have hown : wr.ownsRow (w.heap.size + 1) 9 1 u3 (Nd.txts rowF ks).length (strR (Nd.txts rowF ks)) := by
        have h := HO.out
        rw [List.take_of_length_le (by rw [HTL.out]; exact Nat.le_refl _)] at h
        rw [HTL.out]; exact h
      have hjl : (Lib.join (Nd.txts rowF ks) [44, 32]).length ≤ 1050000 * 50000 := by
        have h1 := join_lenS [44, 32] (by decide) (Nd.txts rowF ks)
        have h2 := HLEN.out ks.length
        rw [List.take_of_length_le (by rw [HTL.out]; exact Nat.le_refl _)] at h2
        omega
      obtain ⟨J, hJ1, hJ⟩ : ∃ J : ByteArray, strV (Lib.join (Nd.txts rowF ks) [44, 32]) = .string J ∧ J.data.toList = Lib.join (Nd.txts rowF ks) [44, 32] := ⟨_, rfl, rfl⟩
      have hJs : J.size ≤ 1050000 * 50000 := by
        have h1 := hjl
        rw [← hJ] at h1
        have h3 : J.data.toList.length = J.size := Array.length_toList
        omega
      have hjoin := join_own wr _ _ _ ⟨#[44, 32]⟩ hown (by rw [HTL.out]; omega) (by show (Lib.join (Nd.txts rowF ks) [44, 32]).length ≤ _; omega)
      have hjoin2 : Calls Tryz.prog 41 #[u3, .string ⟨#[44, 32]⟩] wr fun e w' => e = .returned (.string J) ∧ Below wr.heap.size wr w' := by
        rw [← hJ1]; exact hjoin
      have HJ := Lib.hid hjoin2; have HJE := Lib.hid hJ
      have HXR := Lib.hid hnode
      have HBR := Lib.hid hbw
      clear hown hjl hnode hbw x0 x1 x2 x3 g0 g1 g2 g3 hxl hjoin hjoin2 hJ hJ1
      go_wp2_with fail
      refine HJ.out.mono ?_
      rintro e w4 ⟨rfl, hb⟩
      have hx4 := (hb.block _ (lt_blk HXR.out)).trans HXR.out
      have HB4 := Lib.hid (bthen HBR.out hb)
      obtain ⟨x0, x1, x2, x3, _, _, _, _, hxl⟩ := nd_cells hx4
      have HX4 := Lib.hid hx4
      clear hb hx4
      by_cases h1 : k = 1
      · subst h1
        go_wp2_with fail
        go_ret
        exact ⟨rfl, HB4.out⟩
      by_cases h4 : k = 4
      · subst h4
        go_wp2_with fail
        refine (quotePrint_any t w4 (HE.out.below HB4.out) HOK.out.1.t).mono ?_
        rintro e w5 ⟨rfl, hb⟩
        have HB5 := Lib.hid (bthen HB4.out hb)
        clear hb
        go_wp2_with fail
        go_ret
        exact ⟨by rw [strV_q]; rfl, HB5.out⟩
      by_cases h5 : k = 5
      · subst h5
        go_wp2_with fail
        go_ret
        refine ⟨congrArg _ (strV_of ?_), HB4.out⟩
        show _ = 91 :: (Lib.join (Nd.txts rowF ks) [44, 32] ++ [93])
        rw [← HJE.out, ByteArray.data_append, ByteArray.data_append, Array.toList_append, Array.toList_append]; simp
      by_cases h7 : k = 7
      · subst h7
        go_wp2_with fail
        go_ret
        refine ⟨congrArg _ (strV_of ?_), HB4.out⟩
        show _ = 123 :: (Lib.join (Nd.txts rowF ks) [44, 32] ++ [125])
        rw [← HJE.out, ByteArray.data_append, ByteArray.data_append, Array.toList_append, Array.toList_append]; simp
      by_cases h8 : k = 8
      · subst h8
        go_wp2_with fail
        refine (wordS_any t w4 (HE.out.below HB4.out) HOK.out.1.t).mono ?_
        rintro e w5 ⟨rfl, hb⟩
        have HB5 := Lib.hid (bthen HB4.out hb)
        have hwl := word_len t HOK.out.1.t
        obtain ⟨Y, hY⟩ : ∃ Y, (wordP t).1 = Y := ⟨_, rfl⟩
        rw [hY] at hwl
        rw [hY]
        have hYs : Y.size ≤ 1048576 := hwl
        have HY := Lib.hid hY
        clear hb hwl hY
        go_wp2_with fail
        go_ret
        refine ⟨congrArg _ (strV_of ?_), HB5.out⟩
        show _ = (wordP t).1.data.toList ++ 32 :: 61 :: 32 :: Lib.join (Nd.txts rowF ks) [44, 32]
        rw [HY.out, ← HJE.out, ByteArray.data_append, ByteArray.data_append, Array.toList_append, Array.toList_append]; simp
      · have q1 : (k == 1) = false := by simp [h1]
        have q4 : (k == 4) = false := by simp [h4]
        have q5 : (k == 5) = false := by simp [h5]
        have q7 : (k == 7) = false := by simp [h7]
        have q8 : (k == 8) = false := by simp [h8]
        have HR := Lib.hid (show rowF k t v (Nd.txts rowF ks) = t.data.toList by unfold rowF; rw [if_neg h1, if_neg h4, if_neg h5, if_neg h7, if_neg h8])
        go_wp2_with fail
        go_ret
        exact ⟨by rw [HR.out]; exact congrArg Ending.returned (strV_t t), HB4.out⟩
end Go.Proofs.YtmniblcooficgaaGreatDoor
