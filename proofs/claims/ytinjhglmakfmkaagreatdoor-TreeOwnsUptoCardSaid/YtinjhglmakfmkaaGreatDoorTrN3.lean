import Derived.Test.YtinjhglmakfmkaaGreatDoorTrN2
import Derived.Deep.RegionLaw
import Derived.Deep.LoopGhost
import Derived.Deep.RegionHeld3
import Derived.Deep.DeepCutAuto
import Derived.Deep.CutBlock
import Derived.Test.YtinjhglmakfmkaaGreatDoorEvZ
import Derived.Test.YtinjhglmakfmkaaGreatDoorTrN1
/- What tree.built keeps; the walk of the closure in it. -/
namespace Go.Proofs.YtinjhglmakfmkaaGreatDoor
open Go.RowKit Ev5
set_option linter.unusedSimpArgs false
set_option linter.unusedVariables false

/-- v' is what is left of v behind the first n events, in whatever world. -/
def Dv (v : Value) (n : Nat) (v' : Value) : Prop := ∀ (W : World) (l : List GoEv), EvIn W v l → n ≤ l.length → EvIn W v' (l.drop n)
theorem Dv.refl (v : Value) : Dv v 0 v := fun W l h _ => by rw [List.drop_zero]; exact h
theorem Dv.trans {u v x : Value} {n m : Nat} (h : Dv u n v) (k : Dv v m x) : Dv u (n + m) x := fun W l hl hn => by
  rw [← List.drop_drop]; exact k W _ (h W l hl (by omega)) (by rw [List.length_drop]; omega)
/-- What built hands back. -/
def BuiltPost (x : Nd) (lv : Value) (w : World) (e : Ending) (w' : World) : Prop :=
  ∃ a cap lv', e = .returned (.tuple #[.agg #[.int .i64 x.k, .string x.t, .string x.v, .slice a x.kids.length cap], lv']) ∧ SlIn w' (fun b => w.heap.size ≤ b) (.slice a x.kids.length cap) x.kids ∧ Dv lv x.walk.length lv' ∧ Below w.heap.size w w'
def BuiltOf (x : Nd) : Prop := ∀ (w : World) (lv : Value) (rest : List GoEv), EvIn w lv (x.walk ++ rest) → Calls Tryz.prog 45 #[lv] w (BuiltPost x lv w)

/-- The state of a call of built: the box of the events that are left, the result's block, the node's box. -/
structure Bd (w0 w : World) (A : Nat) (k : Int) (t v : ByteArray) (lv0 lv : Value) (m : Nat) (u : Value) (ps : List (Nd × Value)) : Prop where
  lb : w.heap[A]? = some (.cells #[lv] 22 (0, 0))
  rs : w.heap[A + 1]? = some (.cells #[.int .i64 0, .string ⟨#[]⟩, .string ⟨#[]⟩, .slice none 0 0] 39 (0, 0))
  nb : w.heap[A + 2]? = some (.cells #[.int .i64 k, .string t, .string v, u] 39 (0, 0))
  dv : Dv lv0 m lv
  own : OwnK w (A + 3) u ps
  bel : Below A w0 w
theorem Bd.below {w0 w w' : World} {A : Nat} {k : Int} {t v : ByteArray} {lv0 lv : Value} {m : Nat} {u : Value} {ps : List (Nd × Value)} (h : Bd w0 w A k t v lv0 lv m u ps) (hb : Below w.heap.size w w') : Bd w0 w' A k t v lv0 lv m u ps :=
  ⟨(hb.block _ (lt_blk h.lb)).trans h.lb, (hb.block _ (lt_blk h.rs)).trans h.rs, (hb.block _ (lt_blk h.nb)).trans h.nb, h.dv, h.own.below hb, h.bel.trans (hb.mono (by have := lt_blk h.lb; omega))⟩
/-- The box of the events that are left is turned. -/
theorem Bd.left {w0 w : World} {A : Nat} {k : Int} {t v : ByteArray} {lv0 lv lv' : Value} {m n : Nat} {u : Value} {ps : List (Nd × Value)} (h : Bd w0 w A k t v lv0 lv m u ps) (hd : Dv lv n lv') :
    Bd w0 (w.setCell ⟨A, 0, none⟩ lv') A k t v lv0 lv' (m + n) u ps := by
  have o : ∀ b, b ≠ A → (w.setCell ⟨A, 0, none⟩ lv').heap[b]? = w.heap[b]? := fun b hb => Below.heap_setCell w _ _ b (by simpa using hb)
  exact ⟨heap_set1 h.lb, (o _ (by omega)).trans h.rs, (o _ (by omega)).trans h.nb, h.dv.trans hd, h.own.other (grown_set w A 0 _) (by omega), h.bel.setCell (p := ⟨A, 0, none⟩) (Nat.le_refl _) _⟩

/-- The events behind the first ones. -/
theorem evIn_drop {w : World} {b o len cap : Nat} {l : List GoEv} (h : EvIn w (.slice (some ⟨b, o, none⟩) len cap) l) (n : Nat) (hn : n ≤ l.length) (a : Option Addr) (ha : a = some ⟨b, o + n * 3, none⟩ ∨ n = cap) :
    EvIn w (.slice a (len - n) (cap - n)) (l.drop n) := by
  obtain ⟨ao', cap', h1, h2, h3, h4⟩ := h.ex
  injection h1 with e1 e2 e3
  subst e2; subst e3
  have hl : (l.drop n).length = l.length - n := List.length_drop
  refine ⟨⟨a, cap - n, by rw [hl], by omega, by omega, fun i hi => ?_⟩, fun x hx => h.ok x (List.mem_of_mem_drop hx), by have := h.len; omega⟩
  have hi2 : n + i < l.length := by omega
  obtain ⟨b', o', e, c0, c1, c2⟩ := h4 (n + i) hi2
  rw [← e1] at e
  injection e with e
  injection e with e4 e5
  subst e4; subst e5
  rcases ha with rfl | rfl
  · refine ⟨b, o + n * 3, rfl, ?_, ?_, ?_⟩
    · rw [List.getElem_drop, show o + n * 3 + i * 3 = o + (n + i) * 3 by omega]; exact c0
    · rw [List.getElem_drop, show o + n * 3 + i * 3 + 1 = o + (n + i) * 3 + 1 by omega]; exact c1
    · rw [List.getElem_drop, show o + n * 3 + i * 3 + 2 = o + (n + i) * 3 + 2 by omega]; exact c2
  · omega

/-- The events behind the first ones, as a step of the box. -/
theorem dv_slice {b o len cap : Nat} (n : Nat) (a : Option Addr) (ha : a = some ⟨b, o + n * 3, none⟩ ∨ n = cap) : Dv (.slice (some ⟨b, o, none⟩) len cap) n (.slice a (len - n) (cap - n)) := fun W l h hn => evIn_drop h n hn a ha
/-- The first event of a row. -/
theorem evIn_first {w : World} {v : Value} {x : GoEv} {l : List GoEv} (h : EvIn w v (x :: l)) : ∃ b o cap, v = .slice (some ⟨b, o, none⟩) (l.length + 1) cap ∧ l.length + 1 ≤ cap ∧ cap ≤ maxLen ∧
    w.cell? ⟨b, o, none⟩ = some (.int .i64 x.k) ∧ w.cell? ⟨b, o + 1, none⟩ = some (.string x.t) ∧ w.cell? ⟨b, o + 2, none⟩ = some (.string x.v) ∧ b < w.heap.size := by
  obtain ⟨ao, cap, rfl, hcap, hcm, hcells⟩ := h.ex
  obtain ⟨b, o, rfl, c0, c1, c2⟩ := hcells 0 (by simp)
  simp only [List.getElem_cons_zero, Nat.zero_mul, Nat.add_zero] at c0 c1 c2
  exact ⟨b, o, cap, by rw [List.length_cons], by simpa using hcap, hcm, c0, c1, c2, cell_lt c0⟩

/-- The last of a row's nodes is stored whole. -/
theorem row_fill {w : World} {base g cap n : Nat} {xs : List Value} {z0 z1 z2 z3 : Value} (y0 y1 y2 y3 : Value) (h : w.ownsRow base 39 4 (.slice (some ⟨g, 0, none⟩) (n + 1) cap) (n + 1) (xs ++ [z0, z1, z2, z3])) :
    ((((w.setCell ⟨g, n * 4, none⟩ y0).setCell ⟨g, n * 4 + 1, none⟩ y1).setCell ⟨g, n * 4 + 2, none⟩ y2).setCell ⟨g, n * 4 + 3, none⟩ y3).ownsRow base 39 4 (.slice (some ⟨g, 0, none⟩) (n + 1) cap) (n + 1) (xs ++ [y0, y1, y2, y3]) ∧
    w.grownBy ((((w.setCell ⟨g, n * 4, none⟩ y0).setCell ⟨g, n * 4 + 1, none⟩ y1).setCell ⟨g, n * 4 + 2, none⟩ y2).setCell ⟨g, n * 4 + 3, none⟩ y3) (some g) := by
  have st : ∀ (w : World) (cs : Array Value) (i : Nat) (y : Value), w.heap[g]? = some (.cells cs 39 (0, 0)) → (w.setCell ⟨g, i, none⟩ y).heap[g]? = some (.cells (cs.setIfInBounds i y) 39 (0, 0)) := by
    intro w cs i y h
    obtain ⟨hlt, he⟩ := Array.getElem?_eq_some_iff.1 h
    show (w.heap.modify g _)[g]? = _
    rw [Array.getElem?_eq_getElem (by rw [Array.size_modify]; exact hlt), Array.getElem_modify_self, he]
    rfl
  have hl := h.1
  simp only [List.length_append, List.length_cons, List.length_nil] at hl
  rcases h.2 with ⟨e, _⟩ | ⟨g', cap', cur, e, hb, hg, hc, hm, hs, ht⟩
  · cases e
  · injection e with e1 e2 e3
    injection e1 with e1
    injection e1 with e1 _
    subst e1; subst e3
    refine ⟨⟨by simp; omega, .inr ⟨g, cap, _, rfl, hb, st _ _ (n * 4 + 3) y3 (st _ _ (n * 4 + 2) y2 (st _ _ (n * 4 + 1) y1 (st _ _ (n * 4) y0 hg))), hc, hm, by simpa using hs, ?_⟩⟩, grown_trans (grown_trans (grown_trans (grown_set _ g _ _) (grown_set _ g _ _)) (grown_set _ g _ _)) (grown_set _ g _ _)⟩
    simp only [Array.toList_setIfInBounds, List.take_set, ht]
    have hx : xs.length = n * 4 := by omega
    rw [← hx]
    simp [List.set_append_right]
/-- The cells of a row's last node. -/
theorem row_last {w : World} {base g cap n : Nat} {xs : List Value} {z0 z1 z2 z3 : Value} (h : w.ownsRow base 39 4 (.slice (some ⟨g, 0, none⟩) (n + 1) cap) (n + 1) (xs ++ [z0, z1, z2, z3])) :
    (w.cell? ⟨g, n * 4, none⟩ = some z0 ∧ w.cell? ⟨g, n * 4 + 1, none⟩ = some z1 ∧ w.cell? ⟨g, n * 4 + 2, none⟩ = some z2 ∧ w.cell? ⟨g, n * 4 + 3, none⟩ = some z3) ∧
    (w.frozen? ⟨g, n * 4, none⟩ = false ∧ w.frozen? ⟨g, n * 4 + 1, none⟩ = false ∧ w.frozen? ⟨g, n * 4 + 2, none⟩ = false ∧ w.frozen? ⟨g, n * 4 + 3, none⟩ = false) ∧ g < w.heap.size ∧ n + 1 ≤ cap := by
  have hl := h.1
  simp only [List.length_append, List.length_cons, List.length_nil] at hl
  rcases h.2 with ⟨e, _⟩ | ⟨g', cap', cur, e, hb, hg, hc, hm, hs, ht⟩
  · cases e
  · injection e with e1 e2 e3
    injection e1 with e1
    injection e1 with e1 _
    subst e1; subst e3
    have hx : xs.length = n * 4 := by omega
    have hcs : ∀ j z, j < 4 → [z0, z1, z2, z3][j]? = some z → ∃ hj : n * 4 + j < cur.size, cur[n * 4 + j] = z := by
      intro j z hj hz
      have hjs : n * 4 + j < cur.size := by rw [hs]; omega
      refine ⟨hjs, ?_⟩
      have h1 : (cur.toList.take ((n + 1) * 4))[n * 4 + j]? = some z := by
        rw [ht, List.getElem?_append_right (by omega), hx, show n * 4 + j - n * 4 = j by omega]; exact hz
      rw [List.getElem?_take_of_lt (by omega), List.getElem?_eq_getElem (by simpa using hjs)] at h1
      simpa using h1
    have c : ∀ j z, j < 4 → [z0, z1, z2, z3][j]? = some z → w.cell? ⟨g, n * 4 + j, none⟩ = some z ∧ w.frozen? ⟨g, n * 4 + j, none⟩ = false := by
      intro j z hj hz
      obtain ⟨hjs, he⟩ := hcs j z hj hz
      have := blk_cell hg (n * 4 + j) hjs
      rw [he] at this
      exact this
    exact ⟨⟨(c 0 _ (by omega) rfl).1, (c 1 _ (by omega) rfl).1, (c 2 _ (by omega) rfl).1, (c 3 _ (by omega) rfl).1⟩, ⟨(c 0 _ (by omega) rfl).2, (c 1 _ (by omega) rfl).2, (c 2 _ (by omega) rfl).2, (c 3 _ (by omega) rfl).2⟩, lt_blk hg, hc⟩

/-- Where the old row lies; what an append to it leaves alone. -/
theorem Bd.far {w0 w W3 w5 : World} {A : Nat} {k : Int} {t v : ByteArray} {lv0 lv : Value} {m : Nat} {u : Value} {ps : List (Nd × Value)} (h : Bd w0 w A k t v lv0 lv m u ps) (hb : Below w.heap.size w W3) (hg : W3.grownBy w5 u.ownBlock) :
    w5.heap[A]? = some (.cells #[lv] 22 (0, 0)) ∧ w5.heap[A + 1]? = some (.cells #[.int .i64 0, .string ⟨#[]⟩, .string ⟨#[]⟩, .slice none 0 0] 39 (0, 0)) ∧ w5.heap[A + 2]? = some (.cells #[.int .i64 k, .string t, .string v, u] 39 (0, 0)) ∧ Below A w0 w5 := by
  have h3 := h.below hb
  have hne : ∀ b, b < A + 3 → u.ownBlock ≠ some b := by
    intro b hb' e
    rcases h3.own.row.2 with ⟨rfl, _⟩ | ⟨g, cap, cur, rfl, hg', _⟩
    · simp [Value.ownBlock] at e
    · simp [Value.ownBlock] at e; omega
  refine ⟨(hg.block A (lt_blk h3.lb) (fun e => hne A (by omega) e.symm)).trans h3.lb, (hg.block _ (lt_blk h3.rs) (fun e => hne _ (by omega) e.symm)).trans h3.rs, (hg.block _ (lt_blk h3.nb) (fun e => hne _ (by omega) e.symm)).trans h3.nb, ?_⟩
  refine h3.bel.trans (Below.grown (Below.refl A W3) hg (by have := lt_blk h3.lb; omega) (fun b hb' => ?_))
  rcases Nat.lt_or_ge b A with h1 | h1
  · exact absurd hb' (hne b (by omega))
  · exact h1
/-- A kid has been appended: in whatever order its cells and the row were stored. -/
theorem Bd.push {w0 w W3 w5 w6 : World} {A : Nat} {k : Int} {t v : ByteArray} {lv0 lv : Value} {m g cap : Nat} {u ux : Value} {ps : List (Nd × Value)} {x : Nd} (h : Bd w0 w A k t v lv0 lv m u ps) (hb : Below w.heap.size w W3) (hg : W3.grownBy w5 u.ownBlock) (hat : u.ownBlock = some g ∨ W3.heap.size ≤ g)
    (hsk : SlIn w (fun b => A + 3 ≤ b ∧ u.ownBlock ≠ some b) ux x.kids)
    (hrow : w6.ownsRow (A + 3) 39 4 (.slice (some ⟨g, 0, none⟩) (ps.length + 1) cap) (ps.length + 1) (ndRow ps ++ ndL x ux))
    (hnb : w6.heap[A + 2]? = some (.cells #[.int .i64 k, .string t, .string v, .slice (some ⟨g, 0, none⟩) (ps.length + 1) cap] 39 (0, 0)))
    (hoth : ∀ b, b ≠ g → b ≠ A + 2 → w6.heap[b]? = w5.heap[b]?) (hsz : w6.heap.size = w5.heap.size) (hos : w6.os = w5.os) (htape : w6.tape = w5.tape) (hout : w6.output = w5.output) :
    Bd w0 w6 A k t v lv0 lv m (.slice (some ⟨g, 0, none⟩) (ps.length + 1) cap) (ps ++ [(x, ux)]) := by
  have h3 := h.below hb
  obtain ⟨f1, f2, f3, f4⟩ := h.far hb hg
  have hgA : A + 3 ≤ g := by
    rcases hat with e | e
    · rcases h3.own.row.2 with ⟨rfl, _⟩ | ⟨g', cap', cur, rfl, hg', _⟩
      · simp [Value.ownBlock] at e
      · simp [Value.ownBlock] at e; omega
    · have := lt_blk h3.nb; omega
  have hgn : ∀ b, b < W3.heap.size → u.ownBlock ≠ some b → b ≠ g := by
    intro b hb' hne e
    subst e
    rcases hat with e | e
    · exact hne e
    · omega
  have al : ∀ (y : Value) (ks : List Nd), SlIn W3 (fun b => A + 3 ≤ b ∧ u.ownBlock ≠ some b) y ks → SlIn w6 (fun b => A + 3 ≤ b ∧ (Value.slice (some ⟨g, 0, none⟩) (ps.length + 1) cap).ownBlock ≠ some b) y ks := by
    intro y ks hs
    refine hs.alike ⟨by rw [hsz]; exact hg.size, fun b hb' hl => ?_⟩ fun b hb' hl => ⟨hb'.1, ?_⟩
    · rw [hoth b (hgn b hl hb'.2) (by omega)]
      exact hg.block b hl (fun e => hb'.2 e.symm)
    · simp only [Value.ownBlock, ne_eq, Option.some.injEq]
      exact fun e => hgn b hl hb'.2 e.symm
  refine ⟨(hoth A (by omega) (by omega)).trans f1, (hoth (A + 1) (by omega) (by omega)).trans f2, hnb, h.dv, ⟨by rw [ndRow_snoc, List.length_append]; exact hrow, fun p hp => ?_⟩, ⟨hos.trans f4.os, htape.trans f4.tape, hout.trans f4.output, by rw [hsz]; exact f4.size, fun b hb' => (hoth b (by omega) (by omega)).trans (f4.block b hb')⟩⟩
  rcases List.mem_append.1 hp with hp | hp
  · exact al _ _ (h3.own.kids p hp)
  · simp at hp; subst hp; exact al _ _ (hsk.below hb)

/-- A row's last node and the row itself are stored, in whatever order. -/
structure Filled (w5 w6 : World) (base g c n cap : Nat) (xs : List Value) (a0 a1 a2 y0 y1 y2 y3 : Value) : Prop where
  row : w6.ownsRow base 39 4 (.slice (some ⟨g, 0, none⟩) (n + 1) cap) (n + 1) (xs ++ [y0, y1, y2, y3])
  box : w6.heap[c]? = some (.cells #[a0, a1, a2, .slice (some ⟨g, 0, none⟩) (n + 1) cap] 39 (0, 0))
  oth : ∀ b, b ≠ g → b ≠ c → w6.heap[b]? = w5.heap[b]?
  size : w6.heap.size = w5.heap.size
  os : w6.os = w5.os
  tape : w6.tape = w5.tape
  output : w6.output = w5.output
theorem set_size (w : World) (a : Addr) (v : Value) : (w.setCell a v).heap.size = w.heap.size := by simp
theorem set_os (w : World) (a : Addr) (v : Value) : (w.setCell a v).os = w.os := rfl
theorem set_tape (w : World) (a : Addr) (v : Value) : (w.setCell a v).tape = w.tape := rfl
theorem set_output (w : World) (a : Addr) (v : Value) : (w.setCell a v).output = w.output := rfl
theorem filled1 {w5 : World} {base g c n cap : Nat} {xs : List Value} {a0 a1 a2 a3 z0 z1 z2 z3 : Value} (y0 y1 y2 y3 : Value) (h : w5.ownsRow base 39 4 (.slice (some ⟨g, 0, none⟩) (n + 1) cap) (n + 1) (xs ++ [z0, z1, z2, z3])) (hne : g ≠ c)
    (hb : w5.heap[c]? = some (.cells #[a0, a1, a2, a3] 39 (0, 0))) :
    Filled w5 (((((w5.setCell ⟨g, n * 4, none⟩ y0).setCell ⟨g, n * 4 + 1, none⟩ y1).setCell ⟨g, n * 4 + 2, none⟩ y2).setCell ⟨g, n * 4 + 3, none⟩ y3).setCell ⟨c, 3, none⟩ (.slice (some ⟨g, 0, none⟩) (n + 1) cap)) base g c n cap xs a0 a1 a2 y0 y1 y2 y3 := by
  obtain ⟨r1, r2⟩ := row_fill y0 y1 y2 y3 h
  have ho : ∀ b, b ≠ g → ((((w5.setCell ⟨g, n * 4, none⟩ y0).setCell ⟨g, n * 4 + 1, none⟩ y1).setCell ⟨g, n * 4 + 2, none⟩ y2).setCell ⟨g, n * 4 + 3, none⟩ y3).heap[b]? = w5.heap[b]? := fun b hb => by
    rw [set_other hb, set_other hb, set_other hb, set_other hb]
  have hz : ((((w5.setCell ⟨g, n * 4, none⟩ y0).setCell ⟨g, n * 4 + 1, none⟩ y1).setCell ⟨g, n * 4 + 2, none⟩ y2).setCell ⟨g, n * 4 + 3, none⟩ y3).heap.size = w5.heap.size := by rw [set_size, set_size, set_size, set_size]
  obtain ⟨f, hf⟩ : ∃ f, ((((w5.setCell ⟨g, n * 4, none⟩ y0).setCell ⟨g, n * 4 + 1, none⟩ y1).setCell ⟨g, n * 4 + 2, none⟩ y2).setCell ⟨g, n * 4 + 3, none⟩ y3) = f := ⟨_, rfl⟩
  rw [hf] at r1 r2 ho hz ⊢
  refine ⟨r1.kept (grown_set f c 3 _) (.inr (by simp only [Value.ownBlock, ne_eq, Option.some.injEq]; exact hne)), heap_set4 ((ho c (fun e => hne e.symm)).trans hb), fun b h1 h2 => (set_other h2).trans (ho b h1), (set_size _ _ _).trans hz, (set_os _ _ _).trans r2.os, (set_tape _ _ _).trans r2.tape, (set_output _ _ _).trans r2.output⟩
theorem filled2 {w5 : World} {base g c n cap : Nat} {xs : List Value} {a0 a1 a2 a3 z0 z1 z2 z3 : Value} (y0 y1 y2 y3 : Value) (h : w5.ownsRow base 39 4 (.slice (some ⟨g, 0, none⟩) (n + 1) cap) (n + 1) (xs ++ [z0, z1, z2, z3])) (hne : g ≠ c)
    (hb : w5.heap[c]? = some (.cells #[a0, a1, a2, a3] 39 (0, 0))) :
    Filled w5 (((((w5.setCell ⟨c, 3, none⟩ (.slice (some ⟨g, 0, none⟩) (n + 1) cap)).setCell ⟨g, n * 4, none⟩ y0).setCell ⟨g, n * 4 + 1, none⟩ y1).setCell ⟨g, n * 4 + 2, none⟩ y2).setCell ⟨g, n * 4 + 3, none⟩ y3) base g c n cap xs a0 a1 a2 y0 y1 y2 y3 := by
  have h' : (w5.setCell ⟨c, 3, none⟩ (.slice (some ⟨g, 0, none⟩) (n + 1) cap)).ownsRow base 39 4 (.slice (some ⟨g, 0, none⟩) (n + 1) cap) (n + 1) (xs ++ [z0, z1, z2, z3]) :=
    h.kept (grown_set w5 c 3 _) (.inr (by simp only [Value.ownBlock, ne_eq, Option.some.injEq]; exact hne))
  have hb' : (w5.setCell ⟨c, 3, none⟩ (.slice (some ⟨g, 0, none⟩) (n + 1) cap)).heap[c]? = some (.cells #[a0, a1, a2, .slice (some ⟨g, 0, none⟩) (n + 1) cap] 39 (0, 0)) := heap_set4 hb
  have ho5 : ∀ b, b ≠ c → (w5.setCell ⟨c, 3, none⟩ (.slice (some ⟨g, 0, none⟩) (n + 1) cap)).heap[b]? = w5.heap[b]? := fun b hb => set_other hb
  have hz5 := set_size w5 ⟨c, 3, none⟩ (.slice (some ⟨g, 0, none⟩) (n + 1) cap)
  have hs5 := set_os w5 ⟨c, 3, none⟩ (.slice (some ⟨g, 0, none⟩) (n + 1) cap)
  have ht5 := set_tape w5 ⟨c, 3, none⟩ (.slice (some ⟨g, 0, none⟩) (n + 1) cap)
  have hu5 := set_output w5 ⟨c, 3, none⟩ (.slice (some ⟨g, 0, none⟩) (n + 1) cap)
  obtain ⟨f, hf⟩ : ∃ f, w5.setCell ⟨c, 3, none⟩ (.slice (some ⟨g, 0, none⟩) (n + 1) cap) = f := ⟨_, rfl⟩
  rw [hf] at h' hb' ho5 hz5 hs5 ht5 hu5 ⊢
  obtain ⟨r1, r2⟩ := row_fill y0 y1 y2 y3 h'
  exact ⟨r1, by rw [set_other (Ne.symm hne), set_other (Ne.symm hne), set_other (Ne.symm hne), set_other (Ne.symm hne)]; exact hb', fun b h1 h2 => by rw [set_other h1, set_other h1, set_other h1, set_other h1]; exact ho5 b h2, by rw [set_size, set_size, set_size, set_size]; exact hz5, r2.os.trans hs5, r2.tape.trans ht5, r2.output.trans hu5⟩

set_option maxRecDepth 1000000 in
set_option maxHeartbeats 8000000 in
theorem kid_any (x : Nd) (hx : BuiltOf x) (w0 w : World) (k : Int) (t v : ByteArray) (lv0 lv : Value) (m : Nat) (u : Value) (ps : List (Nd × Value)) (h : Bd w0 w w0.heap.size k t v lv0 lv m u ps) (hps : ps.length ≤ 1048576)
    (all rest : List GoEv) (hev : EvIn w0 lv0 all) (hm : m ≤ all.length) (hall : all.drop m = x.walk ++ rest) :
    Calls Tryz.prog 59 #[.pointer (some ⟨w0.heap.size, 0, none⟩), .pointer (some ⟨w0.heap.size + 2, 0, none⟩)] w fun e w' => (∃ r, e = .returned r) ∧ ∃ lv' u' ux, Bd w0 w' w0.heap.size k t v lv0 lv' (m + x.walk.length) u' (ps ++ [(x, ux)]) := by
  have HEV := Lib.hid (show EvIn w0 lv (x.walk ++ rest) by rw [← hall]; exact h.dv w0 all hev hm)
  have HX := Lib.hid hx
  have HB := Lib.hid h
  obtain ⟨ua, uc, rfl⟩ := h.own.shape
  clear hx h hev hm hall
  obtain ⟨i0, hi, hz0, hz1, hz2⟩ := info_parts infoN
  have HI := Lib.hid hi; clear hi
  obtain ⟨hl0, hl1⟩ := blk_cell HB.out.lb 0 (by simp)
  simp only [List.getElem_toArray, List.getElem_cons_zero] at hl0
  have hal := lt_blk HB.out.lb
  obtain ⟨la, ln, lc, hle⟩ : ∃ a n c, lv = .slice a n c := by obtain ⟨a, c, e, _⟩ := HEV.out.ex; exact ⟨_, _, _, e⟩
  subst hle
  go_enter Tryz.func59, Tryz.ntmps59
  go_wp2_with fail
  have HB1 := Lib.hid (show Below w.heap.size w (w.alloc (.cells #[.int .i64 0, .string ⟨#[]⟩, .string ⟨#[]⟩, .slice none 0 0] 39)) from (Below.refl _ _).alloc (Nat.le_refl _) _)
  refine (HX.out _ _ rest (HEV.out.below (HB.out.bel.trans (HB1.out.mono (by omega))))).mono ?_
  rintro e w2 ⟨a2, c2, lv', rfl, hsk, hdv, hb⟩
  obtain ⟨la2, ln2, lc2, hle⟩ : ∃ a n c, lv' = .slice a n c := by
    obtain ⟨a, c, e, _⟩ := (hdv _ _ HEV.out (by simp)).ex
    exact ⟨_, _, _, e⟩
  subst hle
  have hK := (hb.block w.heap.size (by simp)).trans (heap_alloc_new w _)
  obtain ⟨z0, z1, z2, z3, y0, y1, y2, y3, hKl⟩ := nd_cells hK
  have hA2 := HB.out.below (bthen HB1.out hb)
  obtain ⟨hl2, hl3⟩ := blk_cell hA2.lb 0 (by simp)
  simp only [List.getElem_toArray, List.getElem_cons_zero] at hl2
  have hal2 := lt_blk hA2.lb
  have HK := Lib.hid hK; have HDV := Lib.hid hdv; have HSK := Lib.hid hsk; have HBB := Lib.hid (bthen HB1.out hb)
  have hb2 := hb.size
  rw [World.size_alloc] at hb2
  clear hK hdv hsk hA2 hb
  go_upto_region 2 with (fail)
  obtain ⟨hf, hgr⟩ := fill4 (.int .i64 x.k) (.string x.t) (.string x.v) (.slice a2 x.kids.length c2) HK.out
  obtain ⟨w3, hw3⟩ : ∃ w3, ((((w2.setCell ⟨w.heap.size, 0, none⟩ (.int .i64 x.k)).setCell ⟨w.heap.size, 1, none⟩ (.string x.t)).setCell ⟨w.heap.size, 2, none⟩ (.string x.v)).setCell ⟨w.heap.size, 3, none⟩ (.slice a2 x.kids.length c2)) = w3 := ⟨_, rfl⟩
  rw [hw3] at hf hgr
  rw [hw3]
  have hBl3 : Below w.heap.size w w3 := HBB.out.grown hgr HBB.out.size (fun b e => by injection e with e; omega)
  have hB4 := (HB.out.below hBl3).left HDV.out
  have hsk4 : SlIn (w3.setCell ⟨w0.heap.size, 0, none⟩ (.slice la2 ln2 lc2)) (fun b => w.heap.size + 1 ≤ b) (.slice a2 x.kids.length c2) x.kids := by
    have h0 := HSK.out
    rw [World.size_alloc] at h0
    refine h0.alike ⟨by have := hgr.size; simpa using this, fun b hb hl => ?_⟩ fun _ h _ => h
    rw [Below.heap_setCell w3 _ _ b (by simp; omega)]
    exact hgr.block b hl (fun e => by injection e with e; omega)
  have hK4 : (w3.setCell ⟨w0.heap.size, 0, none⟩ (.slice la2 ln2 lc2)).heap[w.heap.size]? = some (.cells #[.int .i64 x.k, .string x.t, .string x.v, .slice a2 x.kids.length c2] 39 (0, 0)) := by
    rw [Below.heap_setCell w3 _ _ w.heap.size (by simp; omega)]; exact hf
  obtain ⟨w4, hw4⟩ : ∃ w4, w3.setCell ⟨w0.heap.size, 0, none⟩ (.slice la2 ln2 lc2) = w4 := ⟨_, rfl⟩
  rw [hw4] at hB4 hsk4 hK4
  rw [hw4]
  have hw34 : w.heap.size + 1 ≤ w4.heap.size := by have := lt_blk hK4; omega
  have HB4 := Lib.hid hB4; have HSK4 := Lib.hid hsk4; have HK4 := Lib.hid hK4
  have HW4 := Lib.hid hw34
  have HLO := Lib.hid (show ∀ g, (Value.slice ua ps.length uc).ownBlock = some g → g < w.heap.size from fun g e => by
    rcases HB.out.own.row.2 with ⟨e', _⟩ | ⟨g', cap', cur, e', _, hg', _⟩
    · rw [e'] at e; simp [Value.ownBlock] at e
    · rw [e'] at e; simp [Value.ownBlock] at e; subst e; exact lt_blk hg')
  have HA3 := Lib.hid (show w0.heap.size + 3 ≤ w.heap.size from lt_blk HB.out.nb)
  clear hw3 hw4 hf hgr hBl3 hB4 hsk4 hK4 hw34 z0 z1 z2 z3 y0 y1 y2 y3 hKl hl2 hl3 hal2 hl0 hl1 hb2 HK HDV HSK HBB HB1 HB
  have HF := Lib.hid (show ∀ w', Below w4.heap.size w4 w' → NdCells w' (w0.heap.size + 2) k t v (.slice ua ps.length uc) ∧ NdCells w' w.heap.size x.k x.t x.v (.slice a2 x.kids.length c2) from fun w' hb => ⟨nd_cells (HB4.out.below hb).nb, nd_cells ((hb.block _ (lt_blk HK4.out)).trans HK4.out)⟩)
  have q0 := HF.out _ (Below.refl _ _).drew
  obtain ⟨⟨k0, k1, k2, k3, f0, f1, f2, f3, hnl⟩, j0, j1, j2, j3, e0, e1, e2, e3, hjl⟩ := q0
  have q1 := HF.out _ ((Below.refl w4.heap.size w4).alloc (Nat.le_refl _) (.cells #[.int .i64 0, .string ⟨#[]⟩, .string ⟨#[]⟩, .slice none 0 0] 39)).drew
  obtain ⟨⟨k0', k1', k2', k3', f0', f1', f2', f3', hnl'⟩, j0', j1', j2', j3', e0', e1', e2', e3', hjl'⟩ := q1
  have hn0 : (0 : Int) ≤ (ps.length : Int) := Int.natCast_nonneg _
  have hn1 : (ps.length : Int) < (ps.length : Int) + 1 := by omega
  go_region_law? ((refine step_append_lies _ (by rfl) _ _ _ (by rfl) (w0.heap.size + 3) 39 i0 _ 4 64 Tryz.underlying37 HI.out hz0 hz1 hz2 rfl (by omega) _ ps.length _ (by rfl) ((HB4.out.own.row.alloc _).drew) ⟨w4.heap.size, 0, none⟩ 1 1 [.int .i64 0, .string ⟨#[]⟩, .string ⟨#[]⟩, .slice none 0 0] (by rfl) (by rfl) (World.news_of_block (heap_alloc_new w4 _)) (by simp [Value.oneCell']) (by omega) (by unfold maxLen; omega) (by omega) (by have := lt_blk HB4.out.nb; simp; omega) (w4.heap.size + 1) (by simp) ?_
                   intro gg cap' w5 hown1 hgrow hat hlt2
                   obtain ⟨⟨rc0, rc1, rc2, rc3⟩, ⟨rf0, rf1, rf2, rf3⟩, hgl, hgc⟩ := row_last hown1
                   obtain ⟨_, _, hnbx, _⟩ := HB4.out.far ((Below.refl w4.heap.size w4).alloc (Nat.le_refl _) (.cells #[.int .i64 0, .string ⟨#[]⟩, .string ⟨#[]⟩, .slice none 0 0] 39)).drew hgrow
                   obtain ⟨k0, k1, k2, k3, f0, f1, f2, f3, hnl⟩ := nd_cells hnbx
                   have hga : w0.heap.size + 3 ≤ gg := (hown1.lt gg (by simp [Value.ownBlock])).1
                   have hne1 : ¬ gg = w0.heap.size + 2 := by omega
                   have hne2 : ¬ w0.heap.size + 2 = gg := by omega))
  all_goals
    have hsk5 : SlIn w4 (fun b => w0.heap.size + 3 ≤ b ∧ (Value.slice ua ps.length uc).ownBlock ≠ some b) (.slice a2 x.kids.length c2) x.kids :=
      HSK4.out.alike ⟨Nat.le_refl _, fun _ _ _ => rfl⟩ fun b hb _ => ⟨by have := HA3.out; omega, fun e => by have := HLO.out b e; omega⟩
    have hBx := ((Below.refl w4.heap.size w4).alloc (Nat.le_refl _) (.cells #[.int .i64 0, .string ⟨#[]⟩, .string ⟨#[]⟩, .slice none 0 0] 39)).drew
    have hat' : (Value.slice ua ps.length uc).ownBlock = some gg ∨ (w4.alloc (.cells #[.int .i64 0, .string ⟨#[]⟩, .string ⟨#[]⟩, .slice none 0 0] 39)).drew.heap.size ≤ gg := by
      rcases hat with h | h
      · exact .inl h
      · refine .inr ?_
        show (w4.alloc _).heap.size ≤ gg
        rw [World.size_alloc]; omega
    obtain ⟨_, _, hnbx, _⟩ := HB4.out.far hBx hgrow
    have hga2 : gg ≠ w0.heap.size + 2 := by have := (hown1.lt gg (by simp [Value.ownBlock])).1; omega
    have HFN := Lib.hid (show ∀ w6, Filled w5 w6 (w0.heap.size + 3) gg (w0.heap.size + 2) ps.length cap' (ndRow ps) (.int .i64 k) (.string t) (.string v) (.int .i64 x.k) (.string x.t) (.string x.v) (.slice a2 x.kids.length c2) → Bd w0 w6 w0.heap.size k t v lv0 (.slice la2 ln2 lc2) (m + x.walk.length) (.slice (some ⟨gg, 0, none⟩) (ps.length + 1) cap') (ps ++ [(x, .slice a2 x.kids.length c2)]) from
      fun w6 hf => HB4.out.push hBx hgrow hat' hsk5 hf.row hf.box hf.oth hf.size hf.os hf.tape hf.output)
    have HF1 := Lib.hid (filled1 (.int .i64 x.k) (.string x.t) (.string x.v) (.slice a2 x.kids.length c2) hown1 hga2 hnbx)
    have HF2 := Lib.hid (filled2 (.int .i64 x.k) (.string x.t) (.string x.v) (.slice a2 x.kids.length c2) hown1 hga2 hnbx)
    clear hsk5 hBx hat' hnbx hga2
    go_end0
    first
    | exact ⟨⟨_, rfl⟩, _, _, _, HFN.out _ (by with_reducible exact HF1.out)⟩
    | exact ⟨⟨_, rfl⟩, _, _, _, HFN.out _ (by with_reducible exact HF2.out)⟩
end Go.Proofs.YtinjhglmakfmkaaGreatDoor

/- The walk of tree.built: the node with which events begin, and the events that are left. -/
namespace Go.Proofs.YtinjhglmakfmkaaGreatDoor
open Go.RowKit Ev5
set_option linter.unusedSimpArgs false
set_option linter.unusedVariables false

theorem walks_ge : ∀ l : List Nd, l.length ≤ (Nd.walks l).length
  | [] => Nat.zero_le _
  | x :: r => by
    have h1 := walks_ge r
    have h2 : 0 < x.walk.length := List.length_pos_iff.2 (walk_ne x)
    rw [walks_cons, List.length_append, List.length_cons]; omega
set_option maxRecDepth 1000000 in
set_option maxHeartbeats 8000000 in
theorem built_any (x : Nd) : x.good = true → BuiltOf x := by
  refine Nd.ind (C := fun x => x.good = true → BuiltOf x) ?_ x
  intro k t v ks ih hg w lv rest hev
  rw [walk_good hg] at hev
  rw [good_mk] at hg
  simp only [Bool.and_eq_true, Bool.not_eq_true'] at hg
  have hgs := (goods_iff _).1 hg.2
  have HOD := Lib.hid hg.1
  have HIH := Lib.hid (fun x hx => ih x hx (hgs x hx))
  have HGS := Lib.hid hgs
  obtain ⟨E, hE⟩ : ∃ E, endK k = E := ⟨_, rfl⟩
  rw [hE, List.cons_append] at hev
  have HEK := Lib.hid hE; clear hE
  obtain ⟨L, hL⟩ : ∃ L, Nd.walks ks ++ (if E = 0 then [] else [endEv k]) ++ rest = L := ⟨_, rfl⟩
  rw [hL] at hev
  have HL := Lib.hid hL; clear hL
  have HEV := Lib.hid hev
  obtain ⟨b, o, cap, rfl, hcap, hcm, c0, c1, c2, hbl⟩ := evIn_first hev
  clear ih hg hgs hev
  unfold maxLen at hcm
  go_enter Tryz.func45, Tryz.ntmps45
  go_wp2_with fail
  have HB2 := Lib.hid (show Below w.heap.size w ((w.alloc (.cells #[.slice (some ⟨b, o, none⟩) (L.length + 1) cap] 22)).alloc (.cells #[.int .i64 0, .string ⟨#[]⟩, .string ⟨#[]⟩, .slice none 0 0] 39)) from ((Below.refl _ _).alloc (Nat.le_refl _) _).alloc (by simp) _)
  have hA := two_first w (.cells #[.slice (some ⟨b, o, none⟩) (L.length + 1) cap] 22) (.cells #[.int .i64 0, .string ⟨#[]⟩, .string ⟨#[]⟩, .slice none 0 0] 39)
  have hR := two_last w (.cells #[.slice (some ⟨b, o, none⟩) (L.length + 1) cap] 22) (.cells #[.int .i64 0, .string ⟨#[]⟩, .string ⟨#[]⟩, .slice none 0 0] 39)
  obtain ⟨w1, hw1⟩ : ∃ w1, ((w.alloc (.cells #[.slice (some ⟨b, o, none⟩) (L.length + 1) cap] 22)).alloc (.cells #[.int .i64 0, .string ⟨#[]⟩, .string ⟨#[]⟩, .slice none 0 0] 39)) = w1 := ⟨_, rfl⟩
  have hs1 : w1.heap.size = w.heap.size + 2 := by rw [← hw1]; simp
  rw [hw1] at HB2 hA hR
  rw [hw1]
  have HAR := Lib.hid (And.intro hA hR)
  have HS1 := Lib.hid hs1
  have HD := Lib.hid (show ∀ w' : World, Below w1.heap.size w1 w' → w'.cell? ⟨w.heap.size, 0, none⟩ = some (.slice (some ⟨b, o, none⟩) (L.length + 1) cap) ∧ w'.cell? ⟨b, o, none⟩ = some (.int .i64 k) ∧ w'.cell? ⟨b, o + 1, none⟩ = some (.string t) ∧ w'.cell? ⟨b, o + 2, none⟩ = some (.string v) from fun w' hb => by
    have hb0 : Below w.heap.size w w' := HB2.out.trans (hb.mono HB2.out.size)
    refine ⟨?_, by rw [hb0.cell (p := ⟨b, o, none⟩) hbl]; exact c0, by rw [hb0.cell (p := ⟨b, o + 1, none⟩) hbl]; exact c1, by rw [hb0.cell (p := ⟨b, o + 2, none⟩) hbl]; exact c2⟩
    have := hb.block w.heap.size (by omega)
    exact (blk_cell (this.trans HAR.out.1) 0 (by simp)).1)
  have hbl1 : b < w1.heap.size := by omega
  have hwl1 : w.heap.size < w1.heap.size := by omega
  clear c0 c1 c2 hw1 hA hR hs1
  go_region_held3? (fun w' => w'.cell? ⟨w.heap.size, 0, none⟩ = some (.slice (some ⟨b, o, none⟩) (L.length + 1) cap) ∧ w'.cell? ⟨b, o, none⟩ = some (.int .i64 k) ∧ w'.cell? ⟨b, o + 1, none⟩ = some (.string t) ∧ w'.cell? ⟨b, o + 2, none⟩ = some (.string v)) (first | exact HD.out _ (Below.refl _ _).drew | exact HD.out _ ((Below.refl _ _).alloc (Nat.le_refl _) _).drew | exact HD.out _ (((((((Below.refl _ _).alloc (Nat.le_refl _) _).drew).setCell (by exact Nat.le_refl _) _).setCell (by exact Nat.le_refl _) _).setCell (by exact Nat.le_refl _) _).setCell (by exact Nat.le_refl _) _) | go_keep) ((first | fail))
  have HB3 := Lib.hid (show Below w1.heap.size w1 (w1.alloc (.cells #[.int .i64 k, .string t, .string v, .slice none 0 0] 39)).drew from ((Below.refl _ _).alloc (Nat.le_refl _) _).drew)
  have hnb : (w1.alloc (.cells #[.int .i64 k, .string t, .string v, .slice none 0 0] 39)).drew.heap[w1.heap.size]? = some (.cells #[.int .i64 k, .string t, .string v, .slice none 0 0] 39 (0, 0)) := heap_alloc_new w1 _
  obtain ⟨w2, hw2⟩ : ∃ w2, (w1.alloc (.cells #[.int .i64 k, .string t, .string v, .slice none 0 0] 39)).drew = w2 := ⟨_, rfl⟩
  rw [hw2] at HB3 hnb
  rw [hw2]
  have hsz1 := HS1.out
  rw [hsz1] at hnb
  have HBD := Lib.hid (show Bd w w2 w.heap.size k t v (.slice (some ⟨b, o, none⟩) (L.length + 1) cap) (.slice (some ⟨b, o, none⟩) (L.length + 1) cap) 0 (.slice none 0 0) [] from
    ⟨(HB3.out.block _ (by omega)).trans HAR.out.1, (HB3.out.block _ (by omega)).trans HAR.out.2, hnb, Dv.refl _, OwnK.nil _ _, bthen HB2.out HB3.out⟩)
  rw [hsz1]
  clear hnb hw2 hsz1 HB3 HD hbl1 hwl1 HAR HS1 HB2
  obtain ⟨hl0, hl1⟩ := blk_cell HBD.out.lb 0 (by simp)
  obtain ⟨n0, n1, n2, n3, m0, m1, m2, m3, hnl⟩ := nd_cells HBD.out.nb
  have hal := lt_blk HBD.out.lb
  simp only [List.getElem_toArray, List.getElem_cons_zero] at hl0
  have hcap1 : (1 : Int) ≤ (cap : Int) := by omega
  have hlen1 : (1 : Int) ≤ ((L.length : Int) + 1) := by omega
  go_upto_region 2 with (fail)
  go_cut [21] (fun u wx => ∃ a c, u = .slice a L.length c ∧ Hid (Bd w wx w.heap.size k t v (.slice (some ⟨b, o, none⟩) (L.length + 1) cap) u 1 (.slice none 0 0) []))
  case first =>
    by_cases h1 : 1 = cap
    · have HD1 := Lib.hid (show Dv (.slice (some ⟨b, o, none⟩) (L.length + 1) cap) 1 (.slice (some ⟨b, o, none⟩) L.length 0) from by
        have := dv_slice (b := b) (o := o) (len := L.length + 1) (cap := cap) 1 (some ⟨b, o, none⟩) (.inr h1)
        rwa [show L.length + 1 - 1 = L.length by omega, show cap - 1 = 0 by omega] at this)
      have hL0 : L = [] := List.eq_nil_of_length_eq_zero (by omega)
      subst hL0
      subst h1
      go_wp2_with fail
      go_meet
      case rel => exact ⟨_, _, rfl, HBD.out.left HD1.out⟩
    · have HD1 := Lib.hid (show Dv (.slice (some ⟨b, o, none⟩) (L.length + 1) cap) 1 (.slice (some ⟨b, o + 3, none⟩) L.length (cap - 1)) from by
        have := dv_slice (b := b) (o := o) (len := L.length + 1) (cap := cap) 1 (some ⟨b, o + 3, none⟩) (.inl (by simp))
        rwa [show L.length + 1 - 1 = L.length by omega] at this)
      go_wp2_with fail
      go_meet
      case rel => exact ⟨_, _, rfl, HBD.out.left HD1.out⟩
  case rest =>
  clear hl0 hl1 n0 n1 n2 n3 m0 m1 m2 m3 hnl hal HBD
  obtain ⟨la, lc, rfl, HBD⟩ := hcut
  obtain ⟨n0, n1, n2, n3, m0, m1, m2, m3, hnl⟩ := nd_cells HBD.out.nb
  go_wp2_with fail
  refine (ends_any _ _).mono ?_
  rintro e w4 ⟨rfl, hw⟩
  subst hw
  rw [HEK.out]
  go_upto_block 0 with (fail)
  have HWL := Lib.hid (show (Nd.mk k t v ks).walk.length = 1 + (Nd.walks ks).length + (if E = 0 then 0 else 1) by
    rw [walk_mk, if_neg (by rw [HOD.out]; simp), HEK.out, List.length_cons, List.length_append]; split <;> simp <;> omega)
  have HALL := Lib.hid (show ∀ done todo, ks = done ++ todo → (⟨k, t, v⟩ :: L : List GoEv).drop (1 + (Nd.walks done).length) = Nd.walks todo ++ ((if E = 0 then [] else [endEv k]) ++ rest) ∧ 1 + (Nd.walks done).length ≤ (⟨k, t, v⟩ :: L : List GoEv).length from fun done todo hk => by
    have hl := HL.out
    rw [hk, walks_app, List.append_assoc, List.append_assoc] at hl
    rw [← hl]
    constructor
    · rw [show 1 + (Nd.walks done).length = (Nd.walks done).length + 1 by omega, List.drop_succ_cons, List.drop_left]
    · simp; omega)
  have hal := lt_blk HBD.out.lb
  go_cut [26] (fun u wx => ∃ (lv' u' : Value) (ps : List (Nd × Value)), Hid (Bd w wx w.heap.size k t v (.slice (some ⟨b, o, none⟩) (L.length + 1) cap) lv' (Nd.mk k t v ks).walk.length u' ps) ∧ Hid (ps.map (·.1) = ks))
  case first =>
    by_cases h8 : k = 8
    · have hks : ∃ x, ks = [x] := by
        rcases odd_kind HOD.out with ⟨h, _⟩ | ⟨_, h⟩ | h
        · omega
        · match ks, h with
          | [x], _ => exact ⟨x, rfl⟩
        · omega
      obtain ⟨x, rfl⟩ := hks
      have hE : E = 0 := by rw [← HEK.out, h8]; rfl
      have h8b : (k == 8) = true := by simp [h8]
      have HE := Lib.hid hE
      clear hE h8
      obtain ⟨ha1, ha2⟩ := HALL.out [] [x] rfl
      rw [walks_nil] at ha1 ha2
      simp only [List.length_nil, Nat.add_zero] at ha1 ha2
      rw [walks_one] at ha1
      have HA1 := Lib.hid ha1; have HA2 := Lib.hid ha2
      clear ha1 ha2
      go_wp2_with fail
      refine (kid_any x (HIH.out x (by simp)) w w4 k t v _ _ 1 _ [] HBD.out (by simp) _ _ HEV.out HA2.out HA1.out).mono ?_
      rintro e w5 ⟨⟨r, rfl⟩, lv', u', ux, hB⟩
      have HB5 := Lib.hid hB; clear hB
      have HW2 := Lib.hid (show (Nd.mk k t v [x]).walk.length = 1 + x.walk.length by rw [HWL.out, HE.out, walks_one]; simp)
      go_wp2_with fail
      go_meet
      case rel => exact ⟨lv', u', [(x, ux)], by show Bd _ _ _ _ _ _ _ _ _ _ _; rw [HW2.out]; exact HB5.out, by show _ = _; rfl⟩
    · have h8b : (k == 8) = false := by simp [h8]
      by_cases hE : E = 0
      · have hks : ks = [] := by
          rcases odd_kind HOD.out with ⟨_, h⟩ | ⟨h, _⟩ | h
          · exact List.eq_nil_of_length_eq_zero h
          · omega
          · have := HEK.out
            rcases endK_cases k with ⟨_, a⟩ | ⟨_, a⟩ | ⟨_, a⟩ | ⟨a, b, c, _⟩ <;> omega
        subst hks
        have hEb : (E != 0) = false := by simp [hE]
        have HW2 := Lib.hid (show (Nd.mk k t v []).walk.length = 1 by rw [HWL.out, hE, walks_nil]; rfl)
        clear hE h8
        go_wp2_with fail
        go_meet
        case rel => exact ⟨_, _, [], by show Bd _ _ _ _ _ _ _ _ _ _ _; rw [HW2.out]; exact HBD.out, by show _ = _; rfl⟩
      · have hEb : (E != 0) = true := by simp [hE]
        have hE3 : E = 6 ∨ E = 9 ∨ E = 12 := by
          have := HEK.out
          rcases endK_cases k with ⟨_, a⟩ | ⟨_, a⟩ | ⟨_, a⟩ | ⟨_, _, _, a⟩ <;> omega
        have HE3 := Lib.hid hE3
        have HE0 := Lib.hid hE
        have HW2 := Lib.hid (show (Nd.mk k t v ks).walk.length = 1 + (Nd.walks ks).length + 1 by rw [HWL.out, if_neg hE])
        clear hE h8 hE3
        go_wp2_with fail
        go_loopg [40] ks.length (fun g u wx => ∃ (done todo : List Nd) (lv' u' : Value) (ps : List (Nd × Value)), g = todo.length ∧ Hid (ks = done ++ todo) ∧ Hid (Bd w wx w.heap.size k t v (.slice (some ⟨b, o, none⟩) (L.length + 1) cap) lv' (1 + (Nd.walks done).length) u' ps) ∧ Hid (ps.map (·.1) = done))
        case atStart => exact ⟨[], ks, _, _, [], rfl, rfl, HBD.out, rfl⟩
        case round =>
          obtain ⟨done, todo, lv', u', ps, hg, HSP, HBr, HPS⟩ := hrel
          obtain ⟨hd1, hd2⟩ := HALL.out done todo HSP.out
          rw [if_neg HE0.out] at hd1
          have hall := HBr.out.dv w _ HEV.out hd2
          rw [hd1] at hall
          obtain ⟨hr0, hr1⟩ := blk_cell HBr.out.lb 0 (by simp)
          simp only [List.getElem_toArray, List.getElem_cons_zero] at hr0
          have hrl := lt_blk HBr.out.lb
          have hbel := HBr.out.bel
          cases todo with
          | nil =>
            rw [walks_nil, List.nil_append, List.singleton_append] at hall
            obtain ⟨b', o', cap', rfl, hcap', hcm', e0, e1, e2, hbl'⟩ := evIn_first hall
            have hkE : (endEv k).k = E := HEK.out
            rw [hkE] at e0
            have d0 : wr.cell? ⟨b', o', none⟩ = some (.int .i64 E) := by rw [hbel.cell (p := ⟨b', o', none⟩) hbl']; exact e0
            have hbr' : b' < wr.heap.size := by omega
            have hEE : (E != E) = false := by simp
            have hl1 : (1 : Int) ≤ (rest.length : Int) + 1 := by omega
            have HPS2 := Lib.hid (show ps.map (·.1) = ks by rw [HPS.out, HSP.out, List.append_nil])
            have HW3 := Lib.hid (show 1 + (Nd.walks done).length + 1 = (Nd.mk k t v ks).walk.length by rw [HW2.out, HSP.out, List.append_nil])
            unfold maxLen at hcm'
            clear hall hd1 hd2 e0 e1 e2 hkE hbel
            by_cases h1 : 1 = cap'
            · have HD1 := Lib.hid (show Dv (.slice (some ⟨b', o', none⟩) (rest.length + 1) cap') 1 (.slice (some ⟨b', o', none⟩) rest.length 0) from by
                have := dv_slice (b := b') (o := o') (len := rest.length + 1) (cap := cap') 1 (some ⟨b', o', none⟩) (.inr h1)
                rwa [show rest.length + 1 - 1 = rest.length by omega, show cap' - 1 = 0 by omega] at this)
              have hL0 : rest = [] := List.eq_nil_of_length_eq_zero (by omega)
              subst hL0
              subst h1
              go_wp2_with fail
              go_meet
              case rel => exact ⟨_, _, ps, by show Bd _ _ _ _ _ _ _ _ _ _ _; rw [← HW3.out]; exact HBr.out.left HD1.out, HPS2.out⟩
            · have HD1 := Lib.hid (show Dv (.slice (some ⟨b', o', none⟩) (rest.length + 1) cap') 1 (.slice (some ⟨b', o' + 3, none⟩) rest.length (cap' - 1)) from by
                have := dv_slice (b := b') (o := o') (len := rest.length + 1) (cap := cap') 1 (some ⟨b', o' + 3, none⟩) (.inl (by simp))
                rwa [show rest.length + 1 - 1 = rest.length by omega] at this)
              have hc1 : (1 : Int) ≤ (cap' : Int) := by omega
              go_wp2_with fail
              go_meet
              case rel => exact ⟨_, _, ps, by show Bd _ _ _ _ _ _ _ _ _ _ _; rw [← HW3.out]; exact HBr.out.left HD1.out, HPS2.out⟩
          | cons x todo' =>
            have hxg : x ∈ ks := by rw [HSP.out]; simp
            obtain ⟨r', hwx, h6, h9, h12, _⟩ := walk_head x (HGS.out x hxg)
            have hall2 := hall
            rw [walks_cons, hwx, List.cons_append, List.cons_append] at hall2
            obtain ⟨b', o', cap', rfl, hcap', hcm', e0, e1, e2, hbl'⟩ := evIn_first hall2
            have d0 : wr.cell? ⟨b', o', none⟩ = some (.int .i64 x.k) := by rw [hbel.cell (p := ⟨b', o', none⟩) hbl']; exact e0
            have hbr' : b' < wr.heap.size := by omega
            have hEE : (x.k != E) = true := by have := HE3.out; simp; omega
            have hl1 : (0 : Int) < ((r' ++ Nd.walks todo' ++ ([endEv k] ++ rest)).length : Int) + 1 := by omega
            rw [walks_cons, List.append_assoc] at hd1
            have HD1 := Lib.hid hd1; have HD2 := Lib.hid hd2
            have HPL := Lib.hid (show ps.length ≤ 1048576 by
              have h1 := congrArg List.length HPS.out
              rw [List.length_map] at h1
              have h2 := walks_ge done
              have h3 := HEV.out.len
              omega)
            have HX := Lib.hid (HIH.out x hxg)
            have HSP2 := Lib.hid (show ks = (done ++ [x]) ++ todo' by rw [HSP.out, List.append_assoc]; rfl)
            have HPS2 := Lib.hid (fun ux : Value => show (ps ++ [(x, ux)]).map (·.1) = done ++ [x] by rw [List.map_append, HPS.out]; rfl)
            have HLN := Lib.hid (show 1 + (Nd.walks done).length + x.walk.length = 1 + (Nd.walks (done ++ [x])).length by rw [walks_app, walks_one, List.length_append]; omega)
            unfold maxLen at hcm'
            generalize (r' ++ Nd.walks todo' ++ ([endEv k] ++ rest)).length = nr at *
            clear hall hall2 hd1 hd2 e0 e1 e2 h6 h9 h12 hbel hxg hwx
            go_wp2_with fail
            refine (kid_any x HX.out w wr k t v _ _ _ _ ps HBr.out HPL.out _ _ HEV.out HD2.out HD1.out).mono ?_
            rintro e w5 ⟨⟨r, rfl⟩, lv5, u5, ux, hB⟩
            have HB5 := Lib.hid hB; clear hB
            go_wp2_with fail
            go_roundg todo'.length
            case measure => simp at hg; omega
            case rel => exact ⟨done ++ [x], todo', lv5, u5, ps ++ [(x, ux)], rfl, HSP2.out, by show Bd _ _ _ _ _ _ _ _ _ _ _; rw [← HLN.out]; exact HB5.out, HPS2.out ux⟩
  case rest =>
  clear n0 n1 n2 n3 m0 m1 m2 m3 hnl hal HBD
  obtain ⟨lv', u', ps, HBD, HPS⟩ := hcut
  obtain ⟨l2, n2, c2, hle⟩ : ∃ a n c, lv' = .slice a n c := by
    have h := HBD.out.dv w _ HEV.out (by have h1 := HWL.out; have h2 := (HALL.out ks [] (by simp)); have h3 := HL.out; rw [List.length_cons, ← h3, h1]; simp; split <;> simp <;> omega)
    obtain ⟨a, c, e, _⟩ := h.ex
    exact ⟨_, _, _, e⟩
  subst hle
  obtain ⟨ua, uc, hus⟩ := HBD.out.own.shape
  subst hus
  obtain ⟨hl0, hl1⟩ := blk_cell HBD.out.lb 0 (by simp)
  simp only [List.getElem_toArray, List.getElem_cons_zero] at hl0
  obtain ⟨n0, n1, n2', n3, m0, m1, m2, m3, hnl⟩ := nd_cells HBD.out.nb
  obtain ⟨r0, r1, r2, r3, s0, s1, s2, s3, hrl⟩ := nd_cells HBD.out.rs
  have hal := lt_blk HBD.out.lb
  go_wp2_with fail
  go_region
  all_goals
    go_wp2_with fail
    obtain ⟨hf, hgr⟩ := fill4 (.int .i64 k) (.string t) (.string v) (.slice ua ps.length uc) HBD.out.rs
    have hbe := HBD.out.bel.grown hgr (by omega) (fun b hb => by injection hb; omega)
    have hsl := (HBD.out.own.other hgr (by omega)).slIn
    obtain ⟨w5, hw5⟩ : ∃ w5, ((((wc.setCell ⟨w.heap.size + 1, 0, none⟩ (.int .i64 k)).setCell ⟨w.heap.size + 1, 1, none⟩ (.string t)).setCell ⟨w.heap.size + 1, 2, none⟩ (.string v)).setCell ⟨w.heap.size + 1, 3, none⟩ (.slice ua ps.length uc)) = w5 := ⟨_, rfl⟩
    rw [hw5] at hf hgr hbe hsl
    rw [hw5]
    obtain ⟨q0, q1, q2, q3, _, _, _, _, hql⟩ := nd_cells hf
    rw [HPS.out] at hsl
    have hpl : ps.length = ks.length := by have := congrArg List.length HPS.out; rwa [List.length_map] at this
    rw [hpl] at q3 hsl
    refine bodyPost_ret (v := .tuple #[.agg #[.int .i64 k, .string t, .string v, .slice ua ks.length uc], .slice l2 n2 c2]) (by simp [results, Tryz.results45, go_sem, q0, q1, q2, q3]) rfl ⟨ua, uc, .slice l2 n2 c2, rfl, (hsl.below (Below.refl _ _).drew).alike ⟨Nat.le_refl _, fun _ _ _ => rfl⟩ fun b hb _ => by omega, HBD.out.dv, hbe.drew⟩
end Go.Proofs.YtinjhglmakfmkaaGreatDoor

/- The walk of tree.Build. -/
namespace Go.Proofs.YtinjhglmakfmkaaGreatDoor
open Go.RowKit Ev5
set_option linter.unusedSimpArgs false
set_option linter.unusedVariables false

/-- What Build hands back: the node, or none. -/
def BuildPost (l : List GoEv) (w : World) (e : Ending) (w' : World) : Prop := Below w.heap.size w w' ∧
  ((wholeP RP (l.map GoEv.ev)).2 ≠ 0 → e = .returned (.tuple #[.agg #[.int .i64 0, .string ⟨#[]⟩, .string ⟨#[]⟩, .slice none 0 0], .int .i64 (wholeP RP (l.map GoEv.ev)).2])) ∧
  (∀ x : Nd, x.good = true → x.walk = l → (wholeP RP (l.map GoEv.ev)).2 = 0 → ∃ a cap, e = .returned (.tuple #[.agg #[.int .i64 x.k, .string x.t, .string x.v, .slice a x.kids.length cap], .int .i64 0]) ∧ SlIn w' (fun b => w.heap.size ≤ b) (.slice a x.kids.length cap) x.kids)

set_option maxRecDepth 1000000 in
set_option maxHeartbeats 8000000 in
theorem build_any (w : World) (hE : EnvU w) (lv : Value) (l : List GoEv) (hin : EvIn w lv l) : Calls Tryz.prog 28 #[lv] w (BuildPost l w) := by
  have HE := Lib.hid hE
  have HIN := Lib.hid hin
  clear hE
  obtain ⟨ao, cap, rfl, hcap, hcm, _⟩ := hin.ex
  clear hin
  have HB1 := Lib.hid (show Below w.heap.size w (w.alloc (.cells #[.int .i64 0, .string ⟨#[]⟩, .string ⟨#[]⟩, .slice none 0 0] 39)) from (Below.refl _ _).alloc (Nat.le_refl _) _)
  have HRS := Lib.hid (heap_alloc_new w (.cells #[.int .i64 0, .string ⟨#[]⟩, .string ⟨#[]⟩, .slice none 0 0] 39))
  go_enter Tryz.func28, Tryz.ntmps28
  go_wp2_with fail
  refine (whole_any _ (HE.out.below HB1.out) _ l (HIN.out.below HB1.out)).mono ?_
  rintro e w2 ⟨rfl, hb⟩
  have HB2 := Lib.hid (bthen HB1.out hb)
  have hr := (hb.block w.heap.size (by simp)).trans HRS.out
  have HR2 := Lib.hid hr
  obtain ⟨r0, r1, r2, r3, s0, s1, s2, s3, hrl⟩ := nd_cells hr
  clear hb hr
  obtain ⟨E, hE⟩ : ∃ E, (wholeP RP (l.map GoEv.ev)).2 = E := ⟨_, rfl⟩
  have HEQ := Lib.hid hE
  rw [hE]
  generalize (wholeP RP (l.map GoEv.ev)).1 = n0
  by_cases hz : E = 0
  · subst hz
    obtain ⟨x, hg, hw⟩ := doc_walk (rk_right _) l hE
    have HG := Lib.hid hg; have HW := Lib.hid hw
    clear hE hg hw
    go_wp2_with fail
    refine (built_any x HG.out _ _ [] (by rw [HW.out, List.append_nil]; exact HIN.out.below HB2.out)).mono ?_
    rintro e w3 ⟨a, c, lv', rfl, hsl, _, hb3⟩
    have HB3 := Lib.hid (bthen HB2.out hb3)
    have hr := (hb3.block w.heap.size hrl).trans HR2.out
    have HR3 := Lib.hid hr
    have HSL := Lib.hid hsl
    clear r0 r1 r2 r3 s0 s1 s2 s3
    obtain ⟨r0, r1, r2, r3, s0, s1, s2, s3, hrl3⟩ := nd_cells hr
    have HSZ := Lib.hid hb3.size
    clear hr hsl hb3
    go_wp2_with fail
    obtain ⟨hf, hgr⟩ := fill4 (.int .i64 x.k) (.string x.t) (.string x.v) (.slice a x.kids.length c) HR3.out
    have hbe := HB3.out.grown hgr HB3.out.size (fun b hb => by injection hb; omega)
    have hsl : SlIn _ (fun b => w.heap.size ≤ b) (.slice a x.kids.length c) x.kids := HSL.out.alike ⟨hgr.size, fun b hb hl => hgr.block b hl (fun e => by injection e with e; have := HB2.out.size; have := HB1.out.size; simp at this; omega)⟩ fun b hb _ => by have := HB2.out.size; omega
    obtain ⟨w5, hw5⟩ : ∃ w5, ((((w3.setCell ⟨w.heap.size, 0, none⟩ (.int .i64 x.k)).setCell ⟨w.heap.size, 1, none⟩ (.string x.t)).setCell ⟨w.heap.size, 2, none⟩ (.string x.v)).setCell ⟨w.heap.size, 3, none⟩ (.slice a x.kids.length c)) = w5 := ⟨_, rfl⟩
    rw [hw5] at hf hbe hsl
    rw [hw5]
    obtain ⟨q0, q1, q2, q3, _, _, _, _, hql⟩ := nd_cells hf
    refine bodyPost_ret (v := .tuple #[.agg #[.int .i64 x.k, .string x.t, .string x.v, .slice a x.kids.length c], .int .i64 0]) (by simp [results, Tryz.results28, go_sem, q0, q1, q2, q3, hql]) rfl ⟨hbe.alloc (by have := HB3.out.size; omega) _, fun h => absurd HEQ.out h, fun y hy hyw _ => ?_⟩
    obtain ⟨rfl, _⟩ := walk_inj x y [] [] HG.out hy (by rw [hyw, HW.out])
    exact ⟨a, c, rfl, hsl.below ((Below.refl w5.heap.size w5).alloc (Nat.le_refl _) _)⟩
  · have hzb : (E != 0) = true := by simp [hz]
    have HZ := Lib.hid hz
    clear hz hE
    go_wp2_with fail
    obtain ⟨hf, hgr⟩ := fill4 (.int .i64 0) (.string ⟨#[]⟩) (.string ⟨#[]⟩) (.slice none 0 0) HR2.out
    have hbe := HB2.out.grown hgr HB2.out.size (fun b hb => by injection hb; omega)
    obtain ⟨w5, hw5⟩ : ∃ w5, ((((w2.setCell ⟨w.heap.size, 0, none⟩ (.int .i64 0)).setCell ⟨w.heap.size, 1, none⟩ (.string ⟨#[]⟩)).setCell ⟨w.heap.size, 2, none⟩ (.string ⟨#[]⟩)).setCell ⟨w.heap.size, 3, none⟩ (.slice none 0 0)) = w5 := ⟨_, rfl⟩
    rw [hw5] at hf hbe
    rw [hw5]
    obtain ⟨q0, q1, q2, q3, _, _, _, _, hql⟩ := nd_cells hf
    exact bodyPost_ret (v := .tuple #[.agg #[.int .i64 0, .string ⟨#[]⟩, .string ⟨#[]⟩, .slice none 0 0], .int .i64 E]) (by simp [results, Tryz.results28, go_sem, q0, q1, q2, q3]) rfl ⟨hbe, fun _ => by rw [HEQ.out], fun y _ _ h => absurd (HEQ.out.symm.trans h) HZ.out⟩
end Go.Proofs.YtinjhglmakfmkaaGreatDoor

/- The walk of tree.At: what stands at a place. -/
namespace Go.Proofs.YtinjhglmakfmkaaGreatDoor
open Go.RowKit Ev5
set_option linter.unusedSimpArgs false
set_option linter.unusedVariables false

/-- A slice of whole numbers. -/
structure IntsIn (w : World) (v : Value) (l : List Int) : Prop where
  ex : ∃ (ao : Option Addr) (cap : Nat), v = .slice ao l.length cap ∧ l.length ≤ cap ∧ cap ≤ maxLen ∧
    ∀ (i : Nat) (h : i < l.length), ∃ b o, ao = some ⟨b, o, none⟩ ∧ w.cell? ⟨b, o + i, none⟩ = some (.int .i64 l[i])
  ok : ∀ x ∈ l, (Lit.int .i64 x).wf = true
theorem IntsIn.below {w w' : World} {v : Value} {l : List Int} (h : IntsIn w v l) (hb : Below w.heap.size w w') : IntsIn w' v l := by
  obtain ⟨ao, cap, h1, h2, h3, h4⟩ := h.ex
  refine ⟨⟨ao, cap, h1, h2, h3, fun i hi => ?_⟩, h.ok⟩
  obtain ⟨b, o, e, c⟩ := h4 i hi
  exact ⟨b, o, e, by rw [hb.cell (p := ⟨b, o + i, none⟩) (cell_lt c)]; exact c⟩
/-- What stands at a place. -/
def Nd.at_ : Nd → List Int → Option Nd
  | n, [] => some n
  | n, k :: r => if h : 0 ≤ k ∧ k < n.kids.length then (n.kids[k.toNat]'(by omega)).at_ r else none
theorem at_nil (n : Nd) : n.at_ [] = some n := by rw [Nd.at_]
theorem at_yes {n : Nd} {k : Int} {r : List Int} {i : Nat} (hk : k = i) (hi : i < n.kids.length) : n.at_ (k :: r) = n.kids[i].at_ r := by
  subst hk
  rw [Nd.at_, dif_pos ⟨by omega, by omega⟩]; rfl
theorem at_no {n : Nd} {k : Int} {r : List Int} (h : ¬ (0 ≤ k ∧ k < n.kids.length)) : n.at_ (k :: r) = none := by rw [Nd.at_, dif_neg h]
theorem kid_size {n : Nd} {i : Nat} (hi : i < n.kids.length) : n.kids[i].size < n.size := by
  cases n with
  | mk k t v ks => rw [size_mk]; have := size_mem (List.getElem_mem hi); simp only [Nd.kids] at this ⊢; omega
theorem kids_size (n : Nd) : n.size = 1 + Nd.sizes n.kids := by cases n; rw [size_mk]; rfl

/-- What At hands back. -/
def AtPost (o : Option Nd) (w : World) (e : Ending) (w' : World) : Prop := Below w.heap.size w w' ∧
  match o with
  | none => e = .returned (.tuple #[.agg #[.int .i64 0, .string ⟨#[]⟩, .string ⟨#[]⟩, .slice none 0 0], .int .i64 21])
  | some m => ∃ a cap, e = .returned (.tuple #[.agg #[.int .i64 m.k, .string m.t, .string m.v, .slice a m.kids.length cap], .int .i64 0]) ∧ SlIn w' (fun b => w.heap.size ≤ b) (.slice a m.kids.length cap) m.kids

/-- A call of At: the node's box, the result's block. -/
structure AtS (w wr : World) (m : Nd) (u : Value) : Prop where
  box : wr.heap[w.heap.size]? = some (.cells #[.int .i64 m.k, .string m.t, .string m.v, u] 39 (0, 0))
  res : wr.heap[w.heap.size + 1]? = some (.cells #[.int .i64 0, .string ⟨#[]⟩, .string ⟨#[]⟩, .slice none 0 0] 39 (0, 0))
  sl : SlIn wr (fun b => b < w.heap.size) u m.kids
  bel : Below w.heap.size w wr
/-- One step down. -/
theorem AtS.down {w wr : World} {m x : Nd} {u uk : Value} (h : AtS w wr m u) (hk : SlIn wr (fun b => b < w.heap.size) uk x.kids) :
    AtS w ((((wr.setCell ⟨w.heap.size, 0, none⟩ (.int .i64 x.k)).setCell ⟨w.heap.size, 1, none⟩ (.string x.t)).setCell ⟨w.heap.size, 2, none⟩ (.string x.v)).setCell ⟨w.heap.size, 3, none⟩ uk) x uk := by
  obtain ⟨hf, hg⟩ := fill4 (.int .i64 x.k) (.string x.t) (.string x.v) uk h.box
  refine ⟨hf, ?_, ?_, ?_⟩
  · rw [hg.block _ (lt_blk h.res) (fun e => by injection e with e; omega)]; exact h.res
  · exact hk.alike ⟨hg.size, fun b hb hl => hg.block b hl (fun e => by injection e with e; omega)⟩ fun b hb _ => hb
  · exact h.bel.grown hg h.bel.size (fun b hb => by injection hb; omega)

set_option maxRecDepth 100000 in
set_option maxHeartbeats 8000000 in
theorem treeAt_any (n : Nd) (w : World) (S : Nat → Prop) (val pv : Value) (place : List Int) (hv : NdV w S val n) (hp : IntsIn w pv place) (hsz : n.size ≤ 1048576) :
    Calls Tryz.prog 32 #[val, pv] w (AtPost (n.at_ place) w) := by
  obtain ⟨u, rfl, hs⟩ := hv
  obtain ⟨pa, pcap, rfl, hpc, hpm, hcells⟩ := hp.ex
  have HPC := Lib.hid hcells
  have HPO := Lib.hid hp.ok
  obtain ⟨ao, cap, rfl, hcap, hcm⟩ := hs.shape
  have HS := Lib.hid hs
  have HSZ := Lib.hid hsz
  clear hcells hs hsz hp
  unfold maxLen at hcm hpm
  unfold ndV
  go_enter Tryz.func32, Tryz.ntmps32
  go_wp2_with fail
  have H0 := Lib.hid (show AtS w ((w.alloc (.cells #[.int .i64 n.k, .string n.t, .string n.v, .slice ao n.kids.length cap] 39)).alloc (.cells #[.int .i64 0, .string ⟨#[]⟩, .string ⟨#[]⟩, .slice none 0 0] 39)) n (.slice ao n.kids.length cap) from by
    have hb : Below w.heap.size w ((w.alloc (.cells #[.int .i64 n.k, .string n.t, .string n.v, .slice ao n.kids.length cap] 39)).alloc (.cells #[.int .i64 0, .string ⟨#[]⟩, .string ⟨#[]⟩, .slice none 0 0] 39)) := ((Below.refl _ _).alloc (Nat.le_refl _) _).alloc (by simp) _
    exact ⟨two_first _ _ _, two_last _ _ _, HS.out.alike (alike_below hb) fun b _ h => h, hb⟩)
  go_loopw [10] (fun vi wr => ∃ (i : Nat) (m : Nd) (u : Value), i ≤ place.length ∧ vi = .int .i64 i ∧ m.size ≤ 1048576 ∧ Hid (n.at_ place = m.at_ (place.drop i)) ∧ Hid (AtS w wr m u))
    (fun vi _ => place.length - (intOf vi).toNat)
  case atStart => exact ⟨0, n, _, Nat.zero_le _, rfl, HSZ.out, rfl, H0.out⟩
  case round =>
    obtain ⟨i, m, u, hi, rfl, hms, HR, HA⟩ := hrel
    have HMS := Lib.hid hms
    obtain ⟨ma, mc, rfl, hmc, hmm⟩ := HA.out.sl.shape
    unfold maxLen at hmm
    obtain ⟨b0, b1, b2, b3, f0, f1, f2, f3, hbl⟩ := nd_cells HA.out.box
    obtain ⟨r0, r1, r2, r3, s0, s1, s2, s3, hrl⟩ := nd_cells HA.out.res
    have hkl : m.kids.length ≤ 1048576 := by
      have := kids_size m
      have : m.kids.length ≤ Nd.sizes m.kids := sizes_len m.kids
      omega
    clear H0 hms
    by_cases hlt : i < place.length
    · obtain ⟨pb, po, rfl, hpc0⟩ := HPC.out i hlt
      have hwf := HPO.out _ (List.getElem_mem hlt)
      have hpl := cell_lt hpc0
      have hpc1 : wr.cell? ⟨pb, po + i, none⟩ = some (.int .i64 place[i]) := by rw [HA.out.bel.cell (p := ⟨pb, po + i, none⟩) hpl]; exact hpc0
      have hsz := HA.out.bel.size
      have hplr : pb < wr.heap.size := by (have hpl2 : pb < w.heap.size := hpl); omega
      have HD := Lib.hid (show place.drop i = place[i] :: place.drop (i + 1) from List.drop_eq_getElem_cons hlt)
      obtain ⟨K, hK⟩ : ∃ K, place[i] = K := ⟨_, rfl⟩
      rw [hK] at hpc1 hwf HD
      have HWF := Lib.hid hwf
      clear hpc0 hK hwf hpl
      by_cases hneg : K < 0
      · have hnb : decide (K < 0) = true := decide_eq_true hneg
        have HNO := Lib.hid (show n.at_ place = none by rw [HR.out, HD.out]; exact at_no (fun h => absurd h.1 (Int.not_le.2 hneg)))
        go_wp2_with fail
        obtain ⟨hf, hgr⟩ := fill4 (.int .i64 0) (.string ⟨#[]⟩) (.string ⟨#[]⟩) (.slice none 0 0) HA.out.res
        obtain ⟨q0, q1, q2, q3, _, _, _, _, hql⟩ := nd_cells hf
        refine bodyPost_ret (v := .tuple #[.agg #[.int .i64 0, .string ⟨#[]⟩, .string ⟨#[]⟩, .slice none 0 0], .int .i64 21]) (by simp [results, Tryz.results32, go_sem, q0, q1, q2, q3]) rfl ⟨HA.out.bel.grown hgr HA.out.bel.size (fun b hb => by injection hb; omega), ?_⟩
        rw [HNO.out]
      · have hnb : decide (K < 0) = false := decide_eq_false hneg
        by_cases hge : (m.kids.length : Int) ≤ K
        · have HNO := Lib.hid (show n.at_ place = none by rw [HR.out, HD.out]; exact at_no (fun h => absurd h.2 (by omega)))
          go_wp2_with fail
          obtain ⟨hf, hgr⟩ := fill4 (.int .i64 0) (.string ⟨#[]⟩) (.string ⟨#[]⟩) (.slice none 0 0) HA.out.res
          obtain ⟨q0, q1, q2, q3, _, _, _, _, hql⟩ := nd_cells hf
          refine bodyPost_ret (v := .tuple #[.agg #[.int .i64 0, .string ⟨#[]⟩, .string ⟨#[]⟩, .slice none 0 0], .int .i64 21]) (by simp [results, Tryz.results32, go_sem, q0, q1, q2, q3]) rfl ⟨HA.out.bel.grown hgr HA.out.bel.size (fun b hb => by injection hb; omega), ?_⟩
          rw [HNO.out]
        · obtain ⟨j, rfl⟩ : ∃ j : Nat, K = j := ⟨K.toNat, by omega⟩
          have hj : j < m.kids.length := by omega
          have HYES := Lib.hid (show n.at_ place = m.kids[j].at_ (place.drop (i + 1)) by rw [HR.out, HD.out]; exact at_yes rfl hj)
          obtain ⟨b, o, uk, rfl, hbw, c0, c1, c2, c3, hsk⟩ := HA.out.sl.at_ j hj
          have hxs := kid_size hj
          obtain ⟨x, hx⟩ : ∃ x, m.kids[j] = x := ⟨_, rfl⟩
          rw [hx] at c0 c1 c2 hsk hxs HYES
          have HN2 := Lib.hid (HA.out.down hsk)
          have HXS := Lib.hid (show x.size ≤ 1048576 by have := HMS.out; omega)
          obtain ⟨ua, uc, rfl, _, _⟩ := hsk.shape
          clear hx hsk hxs
          go_wp2_with fail
          go_roundw
          case rel => exact ⟨i + 1, x, _, by omega, by go_num, HXS.out, HYES.out, HN2.out⟩
          case measure => simp [intOf]; omega
    · obtain rfl : i = place.length := by omega
      have HE := Lib.hid (show n.at_ place = some m by rw [HR.out, List.drop_length]; exact at_nil m)
      go_wp2_with fail
      refine (copy_any m wr _ _ ⟨_, rfl, HA.out.sl⟩ hkl (by have := kids_size m; have := HMS.out; omega)).mono ?_
      rintro e w2 ⟨a, c, rfl, hsl, hb⟩
      clear r0 r1 r2 r3 s0 s1 s2 s3 hrl
      have hr2 := (hb.block _ (lt_blk HA.out.res)).trans HA.out.res
      obtain ⟨r0, r1, r2, r3, s0, s1, s2, s3, hrl⟩ := nd_cells hr2
      have HR2 := Lib.hid hr2
      have HSL := Lib.hid hsl
      have HB2 := Lib.hid (bthen HA.out.bel hb)
      have HSZ2 := Lib.hid hb.size
      have HWL := Lib.hid (show w.heap.size + 2 ≤ wr.heap.size by have := lt_blk HA.out.res; omega)
      clear b0 b1 b2 b3 f0 f1 f2 f3 hr2 hsl hb hbl hlt
      go_wp2_with fail
      obtain ⟨hf, hgr⟩ := fill4 (.int .i64 m.k) (.string m.t) (.string m.v) (.slice a m.kids.length c) HR2.out
      have hbe := HB2.out.grown hgr HB2.out.size (fun b hb => by injection hb; omega)
      have hsl : SlIn _ (fun b => w.heap.size ≤ b) (.slice a m.kids.length c) m.kids := HSL.out.alike ⟨hgr.size, fun b hb hl => hgr.block b hl (fun e => by injection e with e; have := HWL.out; omega)⟩ fun b hb _ => by have := HWL.out; omega
      obtain ⟨w5, hw5⟩ : ∃ w5, ((((w2.setCell ⟨w.heap.size + 1, 0, none⟩ (.int .i64 m.k)).setCell ⟨w.heap.size + 1, 1, none⟩ (.string m.t)).setCell ⟨w.heap.size + 1, 2, none⟩ (.string m.v)).setCell ⟨w.heap.size + 1, 3, none⟩ (.slice a m.kids.length c)) = w5 := ⟨_, rfl⟩
      rw [hw5] at hf hbe hsl
      rw [hw5]
      obtain ⟨q0, q1, q2, q3, _, _, _, _, hql⟩ := nd_cells hf
      refine bodyPost_ret (v := .tuple #[.agg #[.int .i64 m.k, .string m.t, .string m.v, .slice a m.kids.length c], .int .i64 0]) (by simp [results, Tryz.results32, go_sem, q0, q1, q2, q3]) rfl ⟨hbe, ?_⟩
      rw [HE.out]
      exact ⟨a, c, rfl, hsl⟩
end Go.Proofs.YtinjhglmakfmkaaGreatDoor

/- The walks of the reference's Same of two rows of events (where they are one), and of few. -/
namespace Go.Proofs.YtinjhglmakfmkaaGreatDoor
open Go.RowKit Ev5
set_option linter.unusedSimpArgs false
set_option linter.unusedVariables false

set_option maxRecDepth 100000 in
set_option maxHeartbeats 4000000 in
theorem refRow_any (w : World) (va vb : Value) (l : List GoEv) (ha : EvIn w va l) (hb : EvIn w vb l) :
    Calls Tryz.prog 26 #[va, vb] w fun e w' => e = .returned (.bool true) ∧ Below w.heap.size w w' := by
  have HA := Lib.hid ha; have HB := Lib.hid hb
  obtain ⟨ao, cap, rfl, hcap, hcm, hca⟩ := ha.ex
  obtain ⟨ao', cap', rfl, hcap', hcm', hcb⟩ := hb.ex
  have HCA := Lib.hid hca; have HCB := Lib.hid hcb
  have hlen := ha.len
  clear ha hb hca hcb
  unfold maxLen at hcm hcm'
  go_enter Tryz.func26, Tryz.ntmps26
  have hll : (((l.length : Nat) : Int) != ((l.length : Nat) : Int)) = false := by simp
  go_wp2_with fail
  clear hll
  go_loopw [5] (fun vi wr => ∃ i : Nat, i ≤ l.length ∧ vi = .int .i64 i ∧ Hid (Below w.heap.size w wr))
    (fun vi _ => l.length - (intOf vi).toNat)
  case atStart => exact ⟨0, Nat.zero_le _, rfl, Below.refl _ _⟩
  case round =>
    obtain ⟨i, hi, rfl, HW⟩ := hrel
    by_cases hlt : i < l.length
    · obtain ⟨b, o, hao, c0, c1, c2⟩ := HCA.out i hlt
      obtain ⟨b', o', hao', c0', c1', c2'⟩ := HCB.out i hlt
      subst hao; subst hao'
      have hbw : b < w.heap.size := cell_lt c0
      have hbw' : b' < w.heap.size := cell_lt c0'
      obtain ⟨x, hx⟩ : ∃ x, l[i] = x := ⟨_, rfl⟩
      rw [hx] at c0 c1 c2 c0' c1' c2'
      have hD : ∀ w' : World, Below wr.heap.size wr w' → (w'.cell? ⟨b, o + i * 3, none⟩ = some (.int .i64 x.k) ∧ w'.cell? ⟨b, o + i * 3 + 1, none⟩ = some (.string x.t) ∧ w'.cell? ⟨b, o + i * 3 + 2, none⟩ = some (.string x.v)) ∧
          w'.cell? ⟨b', o' + i * 3, none⟩ = some (.int .i64 x.k) ∧ w'.cell? ⟨b', o' + i * 3 + 1, none⟩ = some (.string x.t) ∧ w'.cell? ⟨b', o' + i * 3 + 2, none⟩ = some (.string x.v) := by
        intro w' hb
        have hb0 : Below w.heap.size w w' := bthen HW.out hb
        exact ⟨⟨by rw [hb0.cell (p := ⟨b, o + i * 3, none⟩) hbw]; exact c0, by rw [hb0.cell (p := ⟨b, o + i * 3 + 1, none⟩) hbw]; exact c1, by rw [hb0.cell (p := ⟨b, o + i * 3 + 2, none⟩) hbw]; exact c2⟩,
          by rw [hb0.cell (p := ⟨b', o' + i * 3, none⟩) hbw']; exact c0', by rw [hb0.cell (p := ⟨b', o' + i * 3 + 1, none⟩) hbw']; exact c1', by rw [hb0.cell (p := ⟨b', o' + i * 3 + 2, none⟩) hbw']; exact c2'⟩
      have HD := Lib.hid hD
      have hsz := HW.out.size
      have hbr : b < wr.heap.size := by omega
      have hbr' : b' < wr.heap.size := by omega
      have hcl : i < cap := by omega
      have hcl' : i < cap' := by omega
      have hi64 : (i : Int) ≤ 9223372036854775807 := by omega
      have ht : (x.t.toList == x.t.toList) = true := by simp
      have hv : (x.v.toList == x.v.toList) = true := by simp
      clear c0 c1 c2 c0' c1' c2' hx hD
      obtain ⟨⟨c0, c1, c2⟩, c0', c1', c2'⟩ := HD.out wr (Below.refl _ _)
      go_wp2_with fail
      go_region_held3? (fun w' => (w'.cell? ⟨b, o + i * 3, none⟩ = some (.int .i64 x.k) ∧ w'.cell? ⟨b, o + i * 3 + 1, none⟩ = some (.string x.t) ∧ w'.cell? ⟨b, o + i * 3 + 2, none⟩ = some (.string x.v)) ∧
          w'.cell? ⟨b', o' + i * 3, none⟩ = some (.int .i64 x.k) ∧ w'.cell? ⟨b', o' + i * 3 + 1, none⟩ = some (.string x.t) ∧ w'.cell? ⟨b', o' + i * 3 + 2, none⟩ = some (.string x.v)) (first | exact HD.out _ (Below.refl _ _).drew | go_keep) ((first | fail))
      go_wp2_with fail
      go_roundw
      case rel => exact ⟨i + 1, by omega, by go_num, bthen HW.out (Below.refl _ wr).drew⟩
      case measure => simp [intOf]; omega
    · obtain rfl : i = l.length := by omega
      go_wp2_with fail
      go_ret
      exact ⟨rfl, HW.out⟩

set_option maxRecDepth 100000 in
set_option maxHeartbeats 4000000 in
/-- few tells whether a node is small. -/
theorem fewB_any (n : Nd) (w : World) (S : Nat → Prop) (val : Value) (hv : NdV w S val n) :
    Calls Tryz.prog 22 #[val] w fun e w' => e = .returned (.bool (decide (0 ≤ n.few 300 20))) ∧ Below w.heap.size w w' := by
  obtain ⟨u, rfl, hs⟩ := hv
  obtain ⟨ao, cap, rfl, hcap, hcm⟩ := hs.shape
  have HS := Lib.hid hs
  have HB := Lib.hid (show Below w.heap.size w (w.alloc (.cells #[.int .i64 n.k, .string n.t, .string n.v, .slice ao n.kids.length cap] 39)) from (Below.refl _ _).alloc (Nat.le_refl _) _)
  clear hs
  unfold ndV
  go_enter Tryz.func22, Tryz.ntmps22
  go_wp2_with fail
  refine (few_any n _ S _ 300 20 ⟨_, rfl, HS.out.below HB.out⟩ (by omega) (by omega) (by omega) (by omega)).mono ?_
  rintro e w2 ⟨rfl, hb⟩
  have HB2 := Lib.hid (bthen HB.out hb)
  obtain ⟨F, hF⟩ : ∃ F, n.few 300 20 = F := ⟨_, rfl⟩
  rw [hF]
  have HF := Lib.hid hF
  clear hb hF
  go_wp2_with fail
  go_ret
  exact ⟨by rw [HF.out]; rfl, HB2.out⟩
end Go.Proofs.YtinjhglmakfmkaaGreatDoor
