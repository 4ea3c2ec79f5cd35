import Derived.Test.YtaolnpiemeaabaaGreatDoorTrN2
import Derived.Deep.RegionLaw
import Derived.Deep.LoopGhost
import Derived.Deep.RegionHeld3
import Derived.Deep.DeepCutAuto
import Derived.Deep.CutBlock
import Derived.Test.YtaolnpiemeaabaaGreatDoorEvZ
import Derived.Test.YtaolnpiemeaabaaGreatDoorTrN1
/- What tree.built keeps; the walk of the closure in it. -/
namespace Go.Proofs.YtaolnpiemeaabaaGreatDoor
open Go.RowKit Ev5
set_option linter.unusedSimpArgs false
set_option linter.unusedVariables false

/-- v' is what is left of v behind the first n events, in whatever world. -/
def Dv (v : Value) (n : Nat) (v' : Value) : Prop := ∀ (W : World) (l : List GoEv), EvIn W v l → n ≤ l.length → EvIn W v' (l.drop n)
theorem Dv.refl (v : Value) : Dv v 0 v := fun W l h _ => by rw [List.drop_zero]; exact h
theorem Dv.trans {u v x : Value} {n m : Nat} (h : Dv u n v) (k : Dv v m x) : Dv u (n + m) x := fun W l hl hn => by
  rw [← List.drop_drop]; exact k W _ (h W l hl (by omega)) (by rw [List.length_drop]; omega)
/-- What built hands back. -/
def BuiltPost (x : Nd) (lv : Value) (w : World) (e : Ending) (w' : World) : Prop :=
  ∃ a cap lv', e = .returned (.tuple #[.agg #[.int .i64 x.k, .string x.t, .string x.v, .slice a x.kids.length cap], lv']) ∧ SlIn w' (fun b => w.heap.size ≤ b) (.slice a x.kids.length cap) x.kids ∧ Dv lv x.walk.length lv' ∧ Below w.heap.size w w'
/-- The state of a call of built: the box of the events that are left, the result's block, the node's box. -/
structure Bd (w0 w : World) (A : Nat) (k : Int) (t v : ByteArray) (lv0 lv : Value) (m : Nat) (u : Value) (ps : List (Nd × Value)) : Prop where
  lb : w.heap[A]? = some (.cells #[lv] 38 (0, 0))
  rs : w.heap[A + 1]? = some (.cells #[.int .i64 0, .string ⟨#[]⟩, .string ⟨#[]⟩, .slice none 0 0] 24 (0, 0))
  nb : w.heap[A + 2]? = some (.cells #[.int .i64 k, .string t, .string v, u] 24 (0, 0))
  dv : Dv lv0 m lv
  own : OwnK w (A + 3) u ps
  bel : Below A w0 w
theorem Bd.below {w0 w w' : World} {A : Nat} {k : Int} {t v : ByteArray} {lv0 lv : Value} {m : Nat} {u : Value} {ps : List (Nd × Value)} (h : Bd w0 w A k t v lv0 lv m u ps) (hb : Below w.heap.size w w') : Bd w0 w' A k t v lv0 lv m u ps :=
  ⟨(hb.block _ (lt_blk h.lb)).trans h.lb, (hb.block _ (lt_blk h.rs)).trans h.rs, (hb.block _ (lt_blk h.nb)).trans h.nb, h.dv, h.own.below hb, h.bel.trans (hb.mono (by have := lt_blk h.lb; omega))⟩
/-- The box of the events that are left is turned. -/
theorem Bd.left {w0 w : World} {A : Nat} {k : Int} {t v : ByteArray} {lv0 lv lv' : Value} {m n : Nat} {u : Value} {ps : List (Nd × Value)} (h : Bd w0 w A k t v lv0 lv m u ps) (hd : Dv lv n lv') :
    Bd w0 (w.setCell ⟨A, 0, none⟩ lv') A k t v lv0 lv' (m + n) u ps := by
  have o : ∀ b, b ≠ A → (w.setCell ⟨A, 0, none⟩ lv').heap[b]? = w.heap[b]? := fun b hb => Below.heap_setCell w _ _ b (by simpa using hb)
  exact ⟨heap_set1 h.lb, (o _ (by omega)).trans h.rs, (o _ (by omega)).trans h.nb, h.dv.trans hd, h.own.other (grown_set w A 0 _) (by omega), h.bel.setCell (p := ⟨A, 0, none⟩) (Nat.le_refl _) _⟩

/-- The events behind the first ones. -/
theorem evIn_drop {w : World} {b o len cap : Nat} {l : List GoEv} (h : EvIn w (.slice (some ⟨b, o, none⟩) len cap) l) (n : Nat) (hn : n ≤ l.length) (a : Option Addr) (ha : a = some ⟨b, o + n * 3, none⟩ ∨ n = cap) :
    EvIn w (.slice a (len - n) (cap - n)) (l.drop n) := by
  obtain ⟨ao', cap', h1, h2, h3, h4⟩ := h.ex
  injection h1 with e1 e2 e3
  subst e2; subst e3
  have hl : (l.drop n).length = l.length - n := List.length_drop
  refine ⟨⟨a, cap - n, by rw [hl], by omega, by omega, fun i hi => ?_⟩, fun x hx => h.ok x (List.mem_of_mem_drop hx), by have := h.len; omega⟩
  have hi2 : n + i < l.length := by omega
  obtain ⟨b', o', e, c0, c1, c2⟩ := h4 (n + i) hi2
  rw [← e1] at e
  injection e with e
  injection e with e4 e5
  subst e4; subst e5
  rcases ha with rfl | rfl
  · refine ⟨b, o + n * 3, rfl, ?_, ?_, ?_⟩
    · rw [List.getElem_drop, show o + n * 3 + i * 3 = o + (n + i) * 3 by omega]; exact c0
    · rw [List.getElem_drop, show o + n * 3 + i * 3 + 1 = o + (n + i) * 3 + 1 by omega]; exact c1
    · rw [List.getElem_drop, show o + n * 3 + i * 3 + 2 = o + (n + i) * 3 + 2 by omega]; exact c2
  · omega

/-- The events behind the first ones, as a step of the box. -/
theorem dv_slice {b o len cap : Nat} (n : Nat) (a : Option Addr) (ha : a = some ⟨b, o + n * 3, none⟩ ∨ n = cap) : Dv (.slice (some ⟨b, o, none⟩) len cap) n (.slice a (len - n) (cap - n)) := fun W l h hn => evIn_drop h n hn a ha
/-- The first event of a row. -/
theorem evIn_first {w : World} {v : Value} {x : GoEv} {l : List GoEv} (h : EvIn w v (x :: l)) : ∃ b o cap, v = .slice (some ⟨b, o, none⟩) (l.length + 1) cap ∧ l.length + 1 ≤ cap ∧ cap ≤ maxLen ∧
    w.cell? ⟨b, o, none⟩ = some (.int .i64 x.k) ∧ w.cell? ⟨b, o + 1, none⟩ = some (.string x.t) ∧ w.cell? ⟨b, o + 2, none⟩ = some (.string x.v) ∧ b < w.heap.size := by
  obtain ⟨ao, cap, rfl, hcap, hcm, hcells⟩ := h.ex
  obtain ⟨b, o, rfl, c0, c1, c2⟩ := hcells 0 (by simp)
  simp only [List.getElem_cons_zero, Nat.zero_mul, Nat.add_zero] at c0 c1 c2
  exact ⟨b, o, cap, by rw [List.length_cons], by simpa using hcap, hcm, c0, c1, c2, cell_lt c0⟩

/-- The last of a row's nodes is stored whole. -/
theorem row_fill {w : World} {base g cap n : Nat} {xs : List Value} {z0 z1 z2 z3 : Value} (y0 y1 y2 y3 : Value) (h : w.ownsRow base 24 4 (.slice (some ⟨g, 0, none⟩) (n + 1) cap) (n + 1) (xs ++ [z0, z1, z2, z3])) :
    ((((w.setCell ⟨g, n * 4, none⟩ y0).setCell ⟨g, n * 4 + 1, none⟩ y1).setCell ⟨g, n * 4 + 2, none⟩ y2).setCell ⟨g, n * 4 + 3, none⟩ y3).ownsRow base 24 4 (.slice (some ⟨g, 0, none⟩) (n + 1) cap) (n + 1) (xs ++ [y0, y1, y2, y3]) ∧
    w.grownBy ((((w.setCell ⟨g, n * 4, none⟩ y0).setCell ⟨g, n * 4 + 1, none⟩ y1).setCell ⟨g, n * 4 + 2, none⟩ y2).setCell ⟨g, n * 4 + 3, none⟩ y3) (some g) := by
  have st : ∀ (w : World) (cs : Array Value) (i : Nat) (y : Value), w.heap[g]? = some (.cells cs 24 (0, 0)) → (w.setCell ⟨g, i, none⟩ y).heap[g]? = some (.cells (cs.setIfInBounds i y) 24 (0, 0)) := by
    intro w cs i y h
    obtain ⟨hlt, he⟩ := Array.getElem?_eq_some_iff.1 h
    show (w.heap.modify g _)[g]? = _
    rw [Array.getElem?_eq_getElem (by rw [Array.size_modify]; exact hlt), Array.getElem_modify_self, he]
    rfl
  have hl := h.1
  simp only [List.length_append, List.length_cons, List.length_nil] at hl
  rcases h.2 with ⟨e, _⟩ | ⟨g', cap', cur, e, hb, hg, hc, hm, hs, ht⟩
  · cases e
  · injection e with e1 e2 e3
    injection e1 with e1
    injection e1 with e1 _
    subst e1; subst e3
    refine ⟨⟨by simp; omega, .inr ⟨g, cap, _, rfl, hb, st _ _ (n * 4 + 3) y3 (st _ _ (n * 4 + 2) y2 (st _ _ (n * 4 + 1) y1 (st _ _ (n * 4) y0 hg))), hc, hm, by simpa using hs, ?_⟩⟩, grown_trans (grown_trans (grown_trans (grown_set _ g _ _) (grown_set _ g _ _)) (grown_set _ g _ _)) (grown_set _ g _ _)⟩
    simp only [Array.toList_setIfInBounds, List.take_set, ht]
    have hx : xs.length = n * 4 := by omega
    rw [← hx]
    simp [List.set_append_right]
/-- The cells of a row's last node. -/
theorem row_last {w : World} {base g cap n : Nat} {xs : List Value} {z0 z1 z2 z3 : Value} (h : w.ownsRow base 24 4 (.slice (some ⟨g, 0, none⟩) (n + 1) cap) (n + 1) (xs ++ [z0, z1, z2, z3])) :
    (w.cell? ⟨g, n * 4, none⟩ = some z0 ∧ w.cell? ⟨g, n * 4 + 1, none⟩ = some z1 ∧ w.cell? ⟨g, n * 4 + 2, none⟩ = some z2 ∧ w.cell? ⟨g, n * 4 + 3, none⟩ = some z3) ∧
    (w.frozen? ⟨g, n * 4, none⟩ = false ∧ w.frozen? ⟨g, n * 4 + 1, none⟩ = false ∧ w.frozen? ⟨g, n * 4 + 2, none⟩ = false ∧ w.frozen? ⟨g, n * 4 + 3, none⟩ = false) ∧ g < w.heap.size ∧ n + 1 ≤ cap := by
  have hl := h.1
  simp only [List.length_append, List.length_cons, List.length_nil] at hl
  rcases h.2 with ⟨e, _⟩ | ⟨g', cap', cur, e, hb, hg, hc, hm, hs, ht⟩
  · cases e
  · injection e with e1 e2 e3
    injection e1 with e1
    injection e1 with e1 _
    subst e1; subst e3
    have hx : xs.length = n * 4 := by omega
    have hcs : ∀ j z, j < 4 → [z0, z1, z2, z3][j]? = some z → ∃ hj : n * 4 + j < cur.size, cur[n * 4 + j] = z := by
      intro j z hj hz
      have hjs : n * 4 + j < cur.size := by rw [hs]; omega
      refine ⟨hjs, ?_⟩
      have h1 : (cur.toList.take ((n + 1) * 4))[n * 4 + j]? = some z := by
        rw [ht, List.getElem?_append_right (by omega), hx, show n * 4 + j - n * 4 = j by omega]; exact hz
      rw [List.getElem?_take_of_lt (by omega), List.getElem?_eq_getElem (by simpa using hjs)] at h1
      simpa using h1
    have c : ∀ j z, j < 4 → [z0, z1, z2, z3][j]? = some z → w.cell? ⟨g, n * 4 + j, none⟩ = some z ∧ w.frozen? ⟨g, n * 4 + j, none⟩ = false := by
      intro j z hj hz
      obtain ⟨hjs, he⟩ := hcs j z hj hz
      have := blk_cell hg (n * 4 + j) hjs
      rw [he] at this
      exact this
    exact ⟨⟨(c 0 _ (by omega) rfl).1, (c 1 _ (by omega) rfl).1, (c 2 _ (by omega) rfl).1, (c 3 _ (by omega) rfl).1⟩, ⟨(c 0 _ (by omega) rfl).2, (c 1 _ (by omega) rfl).2, (c 2 _ (by omega) rfl).2, (c 3 _ (by omega) rfl).2⟩, lt_blk hg, hc⟩

/-- Where the old row lies; what an append to it leaves alone. -/
theorem Bd.far {w0 w W3 w5 : World} {A : Nat} {k : Int} {t v : ByteArray} {lv0 lv : Value} {m : Nat} {u : Value} {ps : List (Nd × Value)} (h : Bd w0 w A k t v lv0 lv m u ps) (hb : Below w.heap.size w W3) (hg : W3.grownBy w5 u.ownBlock) :
    w5.heap[A]? = some (.cells #[lv] 38 (0, 0)) ∧ w5.heap[A + 1]? = some (.cells #[.int .i64 0, .string ⟨#[]⟩, .string ⟨#[]⟩, .slice none 0 0] 24 (0, 0)) ∧ w5.heap[A + 2]? = some (.cells #[.int .i64 k, .string t, .string v, u] 24 (0, 0)) ∧ Below A w0 w5 := by
  have h3 := h.below hb
  have hne : ∀ b, b < A + 3 → u.ownBlock ≠ some b := by
    intro b hb' e
    rcases h3.own.row.2 with ⟨rfl, _⟩ | ⟨g, cap, cur, rfl, hg', _⟩
    · simp [Value.ownBlock] at e
    · simp [Value.ownBlock] at e; omega
  refine ⟨(hg.block A (lt_blk h3.lb) (fun e => hne A (by omega) e.symm)).trans h3.lb, (hg.block _ (lt_blk h3.rs) (fun e => hne _ (by omega) e.symm)).trans h3.rs, (hg.block _ (lt_blk h3.nb) (fun e => hne _ (by omega) e.symm)).trans h3.nb, ?_⟩
  refine h3.bel.trans (Below.grown (Below.refl A W3) hg (by have := lt_blk h3.lb; omega) (fun b hb' => ?_))
  rcases Nat.lt_or_ge b A with h1 | h1
  · exact absurd hb' (hne b (by omega))
  · exact h1
/-- A kid has been appended: in whatever order its cells and the row were stored. -/
theorem Bd.push {w0 w W3 w5 w6 : World} {A : Nat} {k : Int} {t v : ByteArray} {lv0 lv : Value} {m g cap : Nat} {u ux : Value} {ps : List (Nd × Value)} {x : Nd} (h : Bd w0 w A k t v lv0 lv m u ps) (hb : Below w.heap.size w W3) (hg : W3.grownBy w5 u.ownBlock) (hat : u.ownBlock = some g ∨ W3.heap.size ≤ g)
    (hsk : SlIn w (fun b => A + 3 ≤ b ∧ u.ownBlock ≠ some b) ux x.kids)
    (hrow : w6.ownsRow (A + 3) 24 4 (.slice (some ⟨g, 0, none⟩) (ps.length + 1) cap) (ps.length + 1) (ndRow ps ++ ndL x ux))
    (hnb : w6.heap[A + 2]? = some (.cells #[.int .i64 k, .string t, .string v, .slice (some ⟨g, 0, none⟩) (ps.length + 1) cap] 24 (0, 0)))
    (hoth : ∀ b, b ≠ g → b ≠ A + 2 → w6.heap[b]? = w5.heap[b]?) (hsz : w6.heap.size = w5.heap.size) (hos : w6.os = w5.os) (htape : w6.tape = w5.tape) (hout : w6.output = w5.output) :
    Bd w0 w6 A k t v lv0 lv m (.slice (some ⟨g, 0, none⟩) (ps.length + 1) cap) (ps ++ [(x, ux)]) := by
  have h3 := h.below hb
  obtain ⟨f1, f2, f3, f4⟩ := h.far hb hg
  have hgA : A + 3 ≤ g := by
    rcases hat with e | e
    · rcases h3.own.row.2 with ⟨rfl, _⟩ | ⟨g', cap', cur, rfl, hg', _⟩
      · simp [Value.ownBlock] at e
      · simp [Value.ownBlock] at e; omega
    · have := lt_blk h3.nb; omega
  have hgn : ∀ b, b < W3.heap.size → u.ownBlock ≠ some b → b ≠ g := by
    intro b hb' hne e
    subst e
    rcases hat with e | e
    · exact hne e
    · omega
  have al : ∀ (y : Value) (ks : List Nd), SlIn W3 (fun b => A + 3 ≤ b ∧ u.ownBlock ≠ some b) y ks → SlIn w6 (fun b => A + 3 ≤ b ∧ (Value.slice (some ⟨g, 0, none⟩) (ps.length + 1) cap).ownBlock ≠ some b) y ks := by
    intro y ks hs
    refine hs.alike ⟨by rw [hsz]; exact hg.size, fun b hb' hl => ?_⟩ fun b hb' hl => ⟨hb'.1, ?_⟩
    · rw [hoth b (hgn b hl hb'.2) (by omega)]
      exact hg.block b hl (fun e => hb'.2 e.symm)
    · simp only [Value.ownBlock, ne_eq, Option.some.injEq]
      exact fun e => hgn b hl hb'.2 e.symm
  refine ⟨(hoth A (by omega) (by omega)).trans f1, (hoth (A + 1) (by omega) (by omega)).trans f2, hnb, h.dv, ⟨by rw [ndRow_snoc, List.length_append]; exact hrow, fun p hp => ?_⟩, ⟨hos.trans f4.os, htape.trans f4.tape, hout.trans f4.output, by rw [hsz]; exact f4.size, fun b hb' => (hoth b (by omega) (by omega)).trans (f4.block b hb')⟩⟩
  rcases List.mem_append.1 hp with hp | hp
  · exact al _ _ (h3.own.kids p hp)
  · simp at hp; subst hp; exact al _ _ (hsk.below hb)

/-- A row's last node and the row itself are stored, in whatever order. -/
structure Filled (w5 w6 : World) (base g c n cap : Nat) (xs : List Value) (a0 a1 a2 y0 y1 y2 y3 : Value) : Prop where
  row : w6.ownsRow base 24 4 (.slice (some ⟨g, 0, none⟩) (n + 1) cap) (n + 1) (xs ++ [y0, y1, y2, y3])
  box : w6.heap[c]? = some (.cells #[a0, a1, a2, .slice (some ⟨g, 0, none⟩) (n + 1) cap] 24 (0, 0))
  oth : ∀ b, b ≠ g → b ≠ c → w6.heap[b]? = w5.heap[b]?
  size : w6.heap.size = w5.heap.size
  os : w6.os = w5.os
  tape : w6.tape = w5.tape
  output : w6.output = w5.output
theorem set_size (w : World) (a : Addr) (v : Value) : (w.setCell a v).heap.size = w.heap.size := by simp
theorem set_os (w : World) (a : Addr) (v : Value) : (w.setCell a v).os = w.os := rfl
theorem set_tape (w : World) (a : Addr) (v : Value) : (w.setCell a v).tape = w.tape := rfl
theorem set_output (w : World) (a : Addr) (v : Value) : (w.setCell a v).output = w.output := rfl
theorem filled1 {w5 : World} {base g c n cap : Nat} {xs : List Value} {a0 a1 a2 a3 z0 z1 z2 z3 : Value} (y0 y1 y2 y3 : Value) (h : w5.ownsRow base 24 4 (.slice (some ⟨g, 0, none⟩) (n + 1) cap) (n + 1) (xs ++ [z0, z1, z2, z3])) (hne : g ≠ c)
    (hb : w5.heap[c]? = some (.cells #[a0, a1, a2, a3] 24 (0, 0))) :
    Filled w5 (((((w5.setCell ⟨g, n * 4, none⟩ y0).setCell ⟨g, n * 4 + 1, none⟩ y1).setCell ⟨g, n * 4 + 2, none⟩ y2).setCell ⟨g, n * 4 + 3, none⟩ y3).setCell ⟨c, 3, none⟩ (.slice (some ⟨g, 0, none⟩) (n + 1) cap)) base g c n cap xs a0 a1 a2 y0 y1 y2 y3 := by
  obtain ⟨r1, r2⟩ := row_fill y0 y1 y2 y3 h
  have ho : ∀ b, b ≠ g → ((((w5.setCell ⟨g, n * 4, none⟩ y0).setCell ⟨g, n * 4 + 1, none⟩ y1).setCell ⟨g, n * 4 + 2, none⟩ y2).setCell ⟨g, n * 4 + 3, none⟩ y3).heap[b]? = w5.heap[b]? := fun b hb => by
    rw [set_other hb, set_other hb, set_other hb, set_other hb]
  have hz : ((((w5.setCell ⟨g, n * 4, none⟩ y0).setCell ⟨g, n * 4 + 1, none⟩ y1).setCell ⟨g, n * 4 + 2, none⟩ y2).setCell ⟨g, n * 4 + 3, none⟩ y3).heap.size = w5.heap.size := by rw [set_size, set_size, set_size, set_size]
  obtain ⟨f, hf⟩ : ∃ f, ((((w5.setCell ⟨g, n * 4, none⟩ y0).setCell ⟨g, n * 4 + 1, none⟩ y1).setCell ⟨g, n * 4 + 2, none⟩ y2).setCell ⟨g, n * 4 + 3, none⟩ y3) = f := ⟨_, rfl⟩
  rw [hf] at r1 r2 ho hz ⊢
  refine ⟨r1.kept (grown_set f c 3 _) (.inr (by simp only [Value.ownBlock, ne_eq, Option.some.injEq]; exact hne)), heap_set4 ((ho c (fun e => hne e.symm)).trans hb), fun b h1 h2 => (set_other h2).trans (ho b h1), (set_size _ _ _).trans hz, (set_os _ _ _).trans r2.os, (set_tape _ _ _).trans r2.tape, (set_output _ _ _).trans r2.output⟩
theorem filled2 {w5 : World} {base g c n cap : Nat} {xs : List Value} {a0 a1 a2 a3 z0 z1 z2 z3 : Value} (y0 y1 y2 y3 : Value) (h : w5.ownsRow base 24 4 (.slice (some ⟨g, 0, none⟩) (n + 1) cap) (n + 1) (xs ++ [z0, z1, z2, z3])) (hne : g ≠ c)
    (hb : w5.heap[c]? = some (.cells #[a0, a1, a2, a3] 24 (0, 0))) :
    Filled w5 (((((w5.setCell ⟨c, 3, none⟩ (.slice (some ⟨g, 0, none⟩) (n + 1) cap)).setCell ⟨g, n * 4, none⟩ y0).setCell ⟨g, n * 4 + 1, none⟩ y1).setCell ⟨g, n * 4 + 2, none⟩ y2).setCell ⟨g, n * 4 + 3, none⟩ y3) base g c n cap xs a0 a1 a2 y0 y1 y2 y3 := by
  have h' : (w5.setCell ⟨c, 3, none⟩ (.slice (some ⟨g, 0, none⟩) (n + 1) cap)).ownsRow base 24 4 (.slice (some ⟨g, 0, none⟩) (n + 1) cap) (n + 1) (xs ++ [z0, z1, z2, z3]) :=
    h.kept (grown_set w5 c 3 _) (.inr (by simp only [Value.ownBlock, ne_eq, Option.some.injEq]; exact hne))
  have hb' : (w5.setCell ⟨c, 3, none⟩ (.slice (some ⟨g, 0, none⟩) (n + 1) cap)).heap[c]? = some (.cells #[a0, a1, a2, .slice (some ⟨g, 0, none⟩) (n + 1) cap] 24 (0, 0)) := heap_set4 hb
  have ho5 : ∀ b, b ≠ c → (w5.setCell ⟨c, 3, none⟩ (.slice (some ⟨g, 0, none⟩) (n + 1) cap)).heap[b]? = w5.heap[b]? := fun b hb => set_other hb
  have hz5 := set_size w5 ⟨c, 3, none⟩ (.slice (some ⟨g, 0, none⟩) (n + 1) cap)
  have hs5 := set_os w5 ⟨c, 3, none⟩ (.slice (some ⟨g, 0, none⟩) (n + 1) cap)
  have ht5 := set_tape w5 ⟨c, 3, none⟩ (.slice (some ⟨g, 0, none⟩) (n + 1) cap)
  have hu5 := set_output w5 ⟨c, 3, none⟩ (.slice (some ⟨g, 0, none⟩) (n + 1) cap)
  obtain ⟨f, hf⟩ : ∃ f, w5.setCell ⟨c, 3, none⟩ (.slice (some ⟨g, 0, none⟩) (n + 1) cap) = f := ⟨_, rfl⟩
  rw [hf] at h' hb' ho5 hz5 hs5 ht5 hu5 ⊢
  obtain ⟨r1, r2⟩ := row_fill y0 y1 y2 y3 h'
  exact ⟨r1, by rw [set_other (Ne.symm hne), set_other (Ne.symm hne), set_other (Ne.symm hne), set_other (Ne.symm hne)]; exact hb', fun b h1 h2 => by rw [set_other h1, set_other h1, set_other h1, set_other h1]; exact ho5 b h2, by rw [set_size, set_size, set_size, set_size]; exact hz5, r2.os.trans hs5, r2.tape.trans ht5, r2.output.trans hu5⟩

end Go.Proofs.YtaolnpiemeaabaaGreatDoor

/- The walk of tree.built: the node with which events begin, and the events that are left. -/
namespace Go.Proofs.YtaolnpiemeaabaaGreatDoor
open Go.RowKit Ev5
set_option linter.unusedSimpArgs false
set_option linter.unusedVariables false

theorem walks_ge : ∀ l : List Nd, l.length ≤ (Nd.walks l).length
  | [] => Nat.zero_le _
  | x :: r => by
    have h1 := walks_ge r
    have h2 : 0 < x.walk.length := List.length_pos_iff.2 (walk_ne x)
    rw [walks_cons, List.length_append, List.length_cons]; omega
end Go.Proofs.YtaolnpiemeaabaaGreatDoor

/- The walk of tree.Build. -/
namespace Go.Proofs.YtaolnpiemeaabaaGreatDoor
open Go.RowKit Ev5
set_option linter.unusedSimpArgs false
set_option linter.unusedVariables false

/-- What Build hands back: the node, or none. -/
def BuildPost (l : List GoEv) (w : World) (e : Ending) (w' : World) : Prop := Below w.heap.size w w' ∧
  ((wholeP RP (l.map GoEv.ev)).2 ≠ 0 → e = .returned (.tuple #[.agg #[.int .i64 0, .string ⟨#[]⟩, .string ⟨#[]⟩, .slice none 0 0], .int .i64 (wholeP RP (l.map GoEv.ev)).2])) ∧
  (∀ x : Nd, x.good = true → x.walk = l → (wholeP RP (l.map GoEv.ev)).2 = 0 → ∃ a cap, e = .returned (.tuple #[.agg #[.int .i64 x.k, .string x.t, .string x.v, .slice a x.kids.length cap], .int .i64 0]) ∧ SlIn w' (fun b => w.heap.size ≤ b) (.slice a x.kids.length cap) x.kids)

end Go.Proofs.YtaolnpiemeaabaaGreatDoor

/- The walk of tree.At: what stands at a place. -/
namespace Go.Proofs.YtaolnpiemeaabaaGreatDoor
open Go.RowKit Ev5
set_option linter.unusedSimpArgs false
set_option linter.unusedVariables false

/-- A slice of whole numbers. -/
structure IntsIn (w : World) (v : Value) (l : List Int) : Prop where
  ex : ∃ (ao : Option Addr) (cap : Nat), v = .slice ao l.length cap ∧ l.length ≤ cap ∧ cap ≤ maxLen ∧
    ∀ (i : Nat) (h : i < l.length), ∃ b o, ao = some ⟨b, o, none⟩ ∧ w.cell? ⟨b, o + i, none⟩ = some (.int .i64 l[i])
  ok : ∀ x ∈ l, (Lit.int .i64 x).wf = true
theorem IntsIn.below {w w' : World} {v : Value} {l : List Int} (h : IntsIn w v l) (hb : Below w.heap.size w w') : IntsIn w' v l := by
  obtain ⟨ao, cap, h1, h2, h3, h4⟩ := h.ex
  refine ⟨⟨ao, cap, h1, h2, h3, fun i hi => ?_⟩, h.ok⟩
  obtain ⟨b, o, e, c⟩ := h4 i hi
  exact ⟨b, o, e, by rw [hb.cell (p := ⟨b, o + i, none⟩) (cell_lt c)]; exact c⟩
/-- What stands at a place. -/
def Nd.at_ : Nd → List Int → Option Nd
  | n, [] => some n
  | n, k :: r => if h : 0 ≤ k ∧ k < n.kids.length then (n.kids[k.toNat]'(by omega)).at_ r else none
theorem at_nil (n : Nd) : n.at_ [] = some n := by rw [Nd.at_]
theorem at_yes {n : Nd} {k : Int} {r : List Int} {i : Nat} (hk : k = i) (hi : i < n.kids.length) : n.at_ (k :: r) = n.kids[i].at_ r := by
  subst hk
  rw [Nd.at_, dif_pos ⟨by omega, by omega⟩]; rfl
theorem at_no {n : Nd} {k : Int} {r : List Int} (h : ¬ (0 ≤ k ∧ k < n.kids.length)) : n.at_ (k :: r) = none := by rw [Nd.at_, dif_neg h]
theorem kid_size {n : Nd} {i : Nat} (hi : i < n.kids.length) : n.kids[i].size < n.size := by
  cases n with
  | mk k t v ks => rw [size_mk]; have := size_mem (List.getElem_mem hi); simp only [Nd.kids] at this ⊢; omega
theorem kids_size (n : Nd) : n.size = 1 + Nd.sizes n.kids := by cases n; rw [size_mk]; rfl

/-- What At hands back. -/
def AtPost (o : Option Nd) (w : World) (e : Ending) (w' : World) : Prop := Below w.heap.size w w' ∧
  match o with
  | none => e = .returned (.tuple #[.agg #[.int .i64 0, .string ⟨#[]⟩, .string ⟨#[]⟩, .slice none 0 0], .int .i64 21])
  | some m => ∃ a cap, e = .returned (.tuple #[.agg #[.int .i64 m.k, .string m.t, .string m.v, .slice a m.kids.length cap], .int .i64 0]) ∧ SlIn w' (fun b => w.heap.size ≤ b) (.slice a m.kids.length cap) m.kids

/-- A call of At: the node's box, the result's block. -/
structure AtS (w wr : World) (m : Nd) (u : Value) : Prop where
  box : wr.heap[w.heap.size]? = some (.cells #[.int .i64 m.k, .string m.t, .string m.v, u] 24 (0, 0))
  res : wr.heap[w.heap.size + 1]? = some (.cells #[.int .i64 0, .string ⟨#[]⟩, .string ⟨#[]⟩, .slice none 0 0] 24 (0, 0))
  sl : SlIn wr (fun b => b < w.heap.size) u m.kids
  bel : Below w.heap.size w wr
/-- One step down. -/
theorem AtS.down {w wr : World} {m x : Nd} {u uk : Value} (h : AtS w wr m u) (hk : SlIn wr (fun b => b < w.heap.size) uk x.kids) :
    AtS w ((((wr.setCell ⟨w.heap.size, 0, none⟩ (.int .i64 x.k)).setCell ⟨w.heap.size, 1, none⟩ (.string x.t)).setCell ⟨w.heap.size, 2, none⟩ (.string x.v)).setCell ⟨w.heap.size, 3, none⟩ uk) x uk := by
  obtain ⟨hf, hg⟩ := fill4 (.int .i64 x.k) (.string x.t) (.string x.v) uk h.box
  refine ⟨hf, ?_, ?_, ?_⟩
  · rw [hg.block _ (lt_blk h.res) (fun e => by injection e with e; omega)]; exact h.res
  · exact hk.alike ⟨hg.size, fun b hb hl => hg.block b hl (fun e => by injection e with e; omega)⟩ fun b hb _ => hb
  · exact h.bel.grown hg h.bel.size (fun b hb => by injection hb; omega)

end Go.Proofs.YtaolnpiemeaabaaGreatDoor

/- The walks of the reference's Same of two rows of events (where they are one), and of few. -/
namespace Go.Proofs.YtaolnpiemeaabaaGreatDoor
open Go.RowKit Ev5
set_option linter.unusedSimpArgs false
set_option linter.unusedVariables false

end Go.Proofs.YtaolnpiemeaabaaGreatDoor
