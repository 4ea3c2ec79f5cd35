import Derived.Test.YtaolnpiemeaabaaGreatDoorTrN4
import Derived.Deep.AppendLies
import Derived.Deep.RegionLaw
import Derived.Test.YtaolnpiemeaabaaGreatDoorEvO
import Derived.ChangeSlices
import Derived.Maps.AppendAt
import Derived.Lib.Overlaps
import Derived.Lib.SliceRun
import Derived.Lib.AppendZerosOnto
import Derived.Shelf.Spec.SlicesInsert
import Derived.Shelf.Spec.SlicesInsertGrow
/- Rows of nodes that may be written into: each at the head of a block of its own, known whole. -/
namespace Go.Proofs.YtaolnpiemeaabaaGreatDoor
open Go.RowKit Ev5
set_option linter.unusedSimpArgs false
set_option linter.unusedVariables false

/-- Readable to a depth, every row at the head of a block of S. -/
def Rd (w : World) (S : Nat → Prop) : Nat → Value → Prop
  | 0, u => ∃ a c, u = .slice a 0 c
  | d + 1, u => (∃ a c, u = .slice a 0 c) ∨ ∃ g n c cs, u = .slice (some ⟨g, 0, none⟩) n c ∧ S g ∧ n ≤ c ∧ c ≤ maxLen ∧ w.heap[g]? = some (.cells cs 24 (0, 0)) ∧ cs.size = c * 4 ∧
      ∀ i, i < n → ∃ k t v u', cs[i * 4]? = some (.int .i64 k) ∧ cs[i * 4 + 1]? = some (.string t) ∧ cs[i * 4 + 2]? = some (.string v) ∧ cs[i * 4 + 3]? = some u' ∧ Rd w S d u'
theorem Rd.nil {w : World} {S : Nat → Prop} {d : Nat} {a : Option Addr} {c : Nat} : Rd w S d (.slice a 0 c) := by
  cases d with
  | zero => exact ⟨a, c, rfl⟩
  | succ d => exact .inl ⟨a, c, rfl⟩
theorem Rd.mono {w : World} {S : Nat → Prop} : ∀ {d d' : Nat} {u : Value}, d ≤ d' → Rd w S d u → Rd w S d' u
  | 0, d', u, _, ⟨a, c, e⟩ => by subst e; exact Rd.nil
  | d + 1, 0, u, h, _ => by omega
  | d + 1, d' + 1, u, h, hr => by
    rcases hr with ⟨a, c, e⟩ | ⟨g, n, c, cs, e, hs, hn, hc, hg, hz, hk⟩
    · exact .inl ⟨a, c, e⟩
    · exact .inr ⟨g, n, c, cs, e, hs, hn, hc, hg, hz, fun i hi => by
        obtain ⟨k, t, v, u', h1, h2, h3, h4, h5⟩ := hk i hi
        exact ⟨k, t, v, u', h1, h2, h3, h4, h5.mono (by omega)⟩⟩
/-- The rows' blocks are as they were. -/
theorem Rd.alike {S S' : Nat → Prop} {w w' : World} : ∀ {d : Nat} {u : Value}, Rd w S d u → Alike S w w' → (∀ b, S b → b < w.heap.size → S' b) → Rd w' S' d u
  | 0, u, h, _, _ => h
  | d + 1, u, h, ha, hS => by
    rcases h with ⟨a, c, e⟩ | ⟨g, n, c, cs, e, hs, hn, hc, hg, hz, hk⟩
    · exact .inl ⟨a, c, e⟩
    · exact .inr ⟨g, n, c, cs, e, hS _ hs (lt_blk hg), hn, hc, (ha.2 g hs (lt_blk hg)).trans hg, hz, fun i hi => by
        obtain ⟨k, t, v, u', h1, h2, h3, h4, h5⟩ := hk i hi
        exact ⟨k, t, v, u', h1, h2, h3, h4, h5.alike ha hS⟩⟩
/-- Nodes of S's blocks have been written over, and nothing else. -/
structure Pk (S : Nat → Prop) (w w' : World) : Prop where
  size : w.heap.size ≤ w'.heap.size
  os : w'.os = w.os
  tape : w'.tape = w.tape
  output : w'.output = w.output
  oth : ∀ b, b < w.heap.size → ¬ S b → w'.heap[b]? = w.heap[b]?
  row : ∀ g cs, S g → w.heap[g]? = some (.cells cs 24 (0, 0)) → ∃ cs', w'.heap[g]? = some (.cells cs' 24 (0, 0)) ∧ cs'.size = cs.size ∧
    ∀ j, (∀ r, r < 4 → cs'[j * 4 + r]? = cs[j * 4 + r]?) ∨ (cs'[j * 4]? = some (.int .i64 77) ∧ cs'[j * 4 + 1]? = some (.string ⟨#[]⟩) ∧ cs'[j * 4 + 2]? = some (.string ⟨#[]⟩) ∧ cs'[j * 4 + 3]? = some (.slice none 0 0))
theorem Pk.refl (S : Nat → Prop) (w : World) : Pk S w w := ⟨Nat.le_refl _, rfl, rfl, rfl, fun _ _ _ => rfl, fun g cs _ h => ⟨cs, h, rfl, fun j => .inl fun _ _ => rfl⟩⟩
theorem Pk.trans {S : Nat → Prop} {a b c : World} (h : Pk S a b) (k : Pk S b c) : Pk S a c := by
  refine ⟨Nat.le_trans h.size k.size, k.os.trans h.os, k.tape.trans h.tape, k.output.trans h.output, fun q hq hn => (k.oth q (Nat.lt_of_lt_of_le hq h.size) hn).trans (h.oth q hq hn), fun g cs hs hg => ?_⟩
  obtain ⟨cs1, h1, z1, j1⟩ := h.row g cs hs hg
  obtain ⟨cs2, h2, z2, j2⟩ := k.row g cs1 hs h1
  refine ⟨cs2, h2, z2.trans z1, fun j => ?_⟩
  rcases j2 j with e | e
  · rcases j1 j with e' | ⟨e0, e1, e2, e3⟩
    · exact .inl fun r hr => (e r hr).trans (e' r hr)
    · exact .inr ⟨(e 0 (by omega)).trans e0, (e 1 (by omega)).trans e1, (e 2 (by omega)).trans e2, (e 3 (by omega)).trans e3⟩
  · exact .inr e
theorem Pk.below {S : Nat → Prop} {w w' : World} (h : Below w.heap.size w w') : Pk S w w' :=
  ⟨h.size, h.os, h.tape, h.output, fun b hb _ => h.block b hb, fun g cs _ hg => ⟨cs, (h.block g (lt_blk hg)).trans hg, rfl, fun j => .inl fun _ _ => rfl⟩⟩
theorem Rd.poked {S : Nat → Prop} {w w' : World} : ∀ {d : Nat} {u : Value}, Rd w S d u → Pk S w w' → Rd w' S d u
  | 0, u, h, _ => h
  | d + 1, u, h, hp => by
    rcases h with ⟨a, c, e⟩ | ⟨g, n, c, cs, e, hs, hn, hc, hg, hz, hk⟩
    · exact .inl ⟨a, c, e⟩
    · obtain ⟨cs', hg', hz', hj⟩ := hp.row g cs hs hg
      refine .inr ⟨g, n, c, cs', e, hs, hn, hc, hg', hz'.trans hz, fun i hi => ?_⟩
      obtain ⟨k, t, v, u', h1, h2, h3, h4, h5⟩ := hk i hi
      rcases hj i with e | ⟨e0, e1, e2, e3⟩
      · exact ⟨k, t, v, u', (e 0 (by omega)).trans h1, (e 1 (by omega)).trans h2, (e 2 (by omega)).trans h3, (e 3 (by omega)).trans h4, h5.poked hp⟩
      · exact ⟨77, ⟨#[]⟩, ⟨#[]⟩, _, e0, e1, e2, e3, Rd.nil⟩
end Go.Proofs.YtaolnpiemeaabaaGreatDoor

/- tree.Copy's copy may be written into: its rows lie each at the head of a block of its own. -/
namespace Go.Proofs.YtaolnpiemeaabaaGreatDoor
open Go.RowKit Ev5
set_option linter.unusedSimpArgs false
set_option linter.unusedVariables false

def Rk (w : World) (S : Nat → Prop) (u : Value) (ks : List Nd) : Prop := SlIn w S u ks ∧ Rd w S (Nd.sizes ks) u
theorem Rk.alike {S S' : Nat → Prop} {w w' : World} {u : Value} {ks : List Nd} (h : Rk w S u ks) (ha : Alike S w w') (hS : ∀ b, S b → b < w.heap.size → S' b) : Rk w' S' u ks := ⟨h.1.alike ha hS, h.2.alike ha hS⟩
theorem Rk.below {S : Nat → Prop} {w w' : World} {u : Value} {ks : List Nd} (h : Rk w S u ks) (hb : Below w.heap.size w w') : Rk w' S u ks := h.alike (alike_below hb) fun _ h _ => h

/-- A row of nodes of the call's own: the nodes ps (each with its kids' slice), in v; their kids' rows lie beyond base too, in other blocks than the row. -/
structure OwnR (w : World) (base : Nat) (v : Value) (ps : List (Nd × Value)) : Prop where
  row : w.ownsRow base 24 4 v ps.length (ndRow ps)
  kids : ∀ p ∈ ps, Rk w (fun b => base ≤ b ∧ v.ownBlock ≠ some b) p.2 p.1.kids
theorem OwnR.nil (w : World) (base : Nat) : OwnR w base (.slice none 0 0) [] := ⟨World.ownsRow_nil _ _ _ _, fun p hp => by cases hp⟩
theorem OwnR.shape {w : World} {base : Nat} {v : Value} {ps : List (Nd × Value)} (h : OwnR w base v ps) : ∃ a cap, v = .slice a ps.length cap := by
  rcases h.row.2 with ⟨rfl, h0⟩ | ⟨g, cap, cur, rfl, _⟩
  · exact ⟨none, 0, by rw [h0]⟩
  · exact ⟨_, _, rfl⟩
theorem OwnR.rk {w : World} {base : Nat} {v : Value} {ps : List (Nd × Value)} (h : OwnR w base v ps) : Rk w (fun b => base ≤ b) v (ps.map (·.1)) := by
  refine ⟨OwnK.slIn ⟨h.row, fun p hp => (h.kids p hp).1⟩, ?_⟩
  rcases h.row.2 with ⟨rfl, h0⟩ | ⟨g, cap, cur, rfl, hb, hg, hc, hm, hs, ht⟩
  · exact Rd.nil
  · cases hsz : Nd.sizes (ps.map (·.1)) with
    | zero =>
      have hl := sizes_len (ps.map (·.1))
      rw [hsz, List.length_map] at hl
      have h0 : ps.length = 0 := by omega
      rw [h0]; exact Rd.nil
    | succ d =>
      refine .inr ⟨g, ps.length, cap, cur, rfl, hb, hc, hm, hg, hs, fun i hi => ?_⟩
      have c : ∀ j u, j < 4 → (ndL ps[i].1 ps[i].2)[j]? = some u → cur[i * 4 + j]? = some u := by
        intro j u hj hu
        have h1 : (cur.toList.take (ps.length * 4))[i * 4 + j]? = some u := by rw [ht, ndRow_at ps i hi j hj]; exact hu
        rw [List.getElem?_take_of_lt (by omega)] at h1
        simpa using h1
      refine ⟨ps[i].1.k, ps[i].1.t, ps[i].1.v, ps[i].2, by simpa using c 0 _ (by omega) rfl, c 1 _ (by omega) rfl, c 2 _ (by omega) rfl, c 3 _ (by omega) rfl, ?_⟩
      have hk := (h.kids ps[i] (List.getElem_mem hi)).2
      have hsz2 := size_mem (x := ps[i].1) (l := ps.map (·.1)) (List.mem_map.2 ⟨ps[i], List.getElem_mem hi, rfl⟩)
      have hsz3 := kids_size ps[i].1
      exact (hk.mono (by omega)).alike ⟨Nat.le_refl _, fun _ _ _ => rfl⟩ fun b hb _ => hb.1
theorem OwnR.below {w w' : World} {base : Nat} {v : Value} {ps : List (Nd × Value)} (h : OwnR w base v ps) (hb : Below w.heap.size w w') : OwnR w' base v ps := by
  refine ⟨h.row.kept (row := none) ⟨hb.os, hb.tape, hb.output, hb.size, fun k hk _ => hb.block k hk⟩ (by cases hv : v.ownBlock <;> simp), fun p hp => (h.kids p hp).below hb⟩
/-- A block that is none of the row's is turned. -/
theorem OwnR.other {w w' : World} {base B : Nat} {v : Value} {ps : List (Nd × Value)} (h : OwnR w base v ps) (hg : w.grownBy w' (some B)) (hB : B < base) : OwnR w' base v ps := by
  refine ⟨h.row.kept hg ?_, fun p hp => (h.kids p hp).alike ⟨hg.size, fun b hb hl => hg.block b hl (fun e => by injection e with e; have := hb.1; omega)⟩ fun _ h _ => h⟩
  rcases h.row.2 with ⟨rfl, _⟩ | ⟨g, cap, cur, rfl, hb, _⟩
  · exact .inl rfl
  · exact .inr (by simp [Value.ownBlock]; omega)
/-- A node is appended. -/
theorem OwnR.snoc {w w' : World} {base : Nat} {v : Value} {ps : List (Nd × Value)} {g cap : Nat} {x : Nd} {u : Value} (h : OwnR w base v ps) (hx : Rk w (fun b => base ≤ b ∧ v.ownBlock ≠ some b) u x.kids)
    (hown : w'.ownsRow base 24 4 (.slice (some ⟨g, 0, none⟩) (ps.length + 1) cap) (ps.length + 1) (ndRow ps ++ ndL x u)) (hg : w.grownBy w' v.ownBlock) (hat : v.ownBlock = some g ∨ w.heap.size ≤ g) :
    OwnR w' base (.slice (some ⟨g, 0, none⟩) (ps.length + 1) cap) (ps ++ [(x, u)]) := by
  have al : ∀ (u : Value) (ks : List Nd), Rk w (fun b => base ≤ b ∧ v.ownBlock ≠ some b) u ks → Rk w' (fun b => base ≤ b ∧ (Value.slice (some ⟨g, 0, none⟩) (ps.length + 1) cap).ownBlock ≠ some b) u ks := by
    intro u ks hs
    refine hs.alike ⟨hg.size, fun b hb hl => hg.block b hl (fun e => hb.2 e.symm)⟩ fun b hb hl => ⟨hb.1, ?_⟩
    simp only [Value.ownBlock, ne_eq, Option.some.injEq]
    rcases hat with e | e
    · intro e2; subst e2; exact hb.2 e
    · omega
  refine ⟨by rw [ndRow_snoc, List.length_append]; exact hown, fun p hp => ?_⟩
  rcases List.mem_append.1 hp with hp | hp
  · exact al _ _ (h.kids p hp)
  · simp at hp; subst hp; exact al _ _ hx
/-- What is new lies apart from the row. -/
theorem OwnR.apart {w w' : World} {base : Nat} {v u : Value} {ps : List (Nd × Value)} {ks : List Nd} (h : OwnR w base v ps) (hbw : base ≤ w.heap.size) (hs : Rk w' (fun b => w.heap.size ≤ b) u ks) : Rk w' (fun b => base ≤ b ∧ v.ownBlock ≠ some b) u ks := by
  refine hs.alike ⟨Nat.le_refl _, fun _ _ _ => rfl⟩ fun b hb _ => ⟨by omega, ?_⟩
  rcases h.row.2 with ⟨rfl, _⟩ | ⟨g, cap, cur, rfl, _, hg, _⟩
  · simp [Value.ownBlock]
  · simp only [Value.ownBlock, ne_eq, Option.some.injEq]
    have := lt_blk hg
    omega

def NewRd (n : Nd) (w : World) (e : Ending) (w' : World) : Prop := ∃ a cap, e = .returned (.agg #[.int .i64 n.k, .string n.t, .string n.v, .slice a n.kids.length cap]) ∧ Rk w' (fun b => w.heap.size ≤ b) (.slice a n.kids.length cap) n.kids ∧ Below w.heap.size w w'

/-- The node that is being made: its box, the result's block, its kids so far. -/
structure Cr (w0 w : World) (B : Nat) (k : Int) (t v : ByteArray) (u : Value) (ps : List (Nd × Value)) : Prop where
  blk : w.heap[B]? = some (.cells #[.int .i64 k, .string t, .string v, u] 24 (0, 0))
  res : w.heap[B + 1]? = some (.cells #[.int .i64 0, .string ⟨#[]⟩, .string ⟨#[]⟩, .slice none 0 0] 24 (0, 0))
  own : OwnR w (B + 2) u ps
  bel : Below B w0 w
theorem Cr.below {w0 w w' : World} {B : Nat} {k : Int} {t v : ByteArray} {u : Value} {ps : List (Nd × Value)} (h : Cr w0 w B k t v u ps) (hb : Below w.heap.size w w') : Cr w0 w' B k t v u ps :=
  ⟨(hb.block _ (lt_blk h.blk)).trans h.blk, (hb.block _ (lt_blk h.res)).trans h.res, h.own.below hb, h.bel.trans (hb.mono (by have := lt_blk h.blk; omega))⟩
/-- Behind an append to the kids' row the node's own box is as it was. -/
theorem Cr.far {w0 w : World} {B : Nat} {k : Int} {t v : ByteArray} {u : Value} {ps : List (Nd × Value)} (h : Cr w0 w B k t v u ps) (W3 w5 : World) (hb : Below w.heap.size w W3) (hg : W3.grownBy w5 u.ownBlock) :
    w5.heap[B]? = some (.cells #[.int .i64 k, .string t, .string v, u] 24 (0, 0)) ∧ w5.heap[B + 1]? = some (.cells #[.int .i64 0, .string ⟨#[]⟩, .string ⟨#[]⟩, .slice none 0 0] 24 (0, 0)) ∧ Below B w0 w5 := by
  have h3 := h.below hb
  have hne : ∀ b, b < B + 2 → u.ownBlock ≠ some b := by
    intro b hb' e
    rcases h3.own.row.2 with ⟨rfl, _⟩ | ⟨g, cap, cur, rfl, hg', _⟩
    · simp [Value.ownBlock] at e
    · simp [Value.ownBlock] at e; omega
  refine ⟨?_, ?_, ?_⟩
  · rw [hg.block B (lt_blk h3.blk) (fun e => hne B (by omega) e.symm)]; exact h3.blk
  · rw [hg.block (B + 1) (lt_blk h3.res) (fun e => hne (B + 1) (by omega) e.symm)]; exact h3.res
  · refine h3.bel.trans (Below.grown (Below.refl B W3) hg (by have := lt_blk h3.blk; omega) (fun b hb' => ?_))
    rcases Nat.lt_or_ge b B with h1 | h1
    · exact absurd hb' (hne b (by omega))
    · exact h1
/-- A kid has been appended, and the row laid in the node's box. -/
theorem Cr.push {w0 w W3 w5 : World} {B : Nat} {k : Int} {t v : ByteArray} {u uk : Value} {ps : List (Nd × Value)} {x : Nd} {g cap : Nat} (h : Cr w0 w B k t v u ps) (hb : Below w.heap.size w W3) (hsk : Rk W3 (fun b => w.heap.size ≤ b) uk x.kids)
    (hown : w5.ownsRow (B + 2) 24 4 (.slice (some ⟨g, 0, none⟩) (ps.length + 1) cap) (ps.length + 1) (ndRow ps ++ ndL x uk)) (hg : W3.grownBy w5 u.ownBlock) (hat : u.ownBlock = some g ∨ W3.heap.size ≤ g) :
    Cr w0 (w5.setCell ⟨B, 3, none⟩ (.slice (some ⟨g, 0, none⟩) (ps.length + 1) cap)) B k t v (.slice (some ⟨g, 0, none⟩) (ps.length + 1) cap) (ps ++ [(x, uk)]) := by
  obtain ⟨f1, f2, f3⟩ := h.far W3 w5 hb hg
  have hBw : B + 2 ≤ w.heap.size := by have := lt_blk h.res; omega
  have ho : OwnR W3 (B + 2) u ps := h.own.below hb
  have hsk' := h.own.apart hBw hsk
  have ho2 := ho.snoc hsk' hown hg hat
  refine ⟨heap_set4 f1, ?_, ho2.other (grown_set w5 B 3 _) (by omega), f3.setCell (p := ⟨B, 3, none⟩) (Nat.le_refl _) _⟩
  rw [show (w5.setCell ⟨B, 3, none⟩ (.slice (some ⟨g, 0, none⟩) (ps.length + 1) cap)).heap[B + 1]? = w5.heap[B + 1]? from Below.heap_setCell w5 _ _ (B + 1) (by simp)]
  exact f2

end Go.Proofs.YtaolnpiemeaabaaGreatDoor

/- The walk of spoil. -/
namespace Go.Proofs.YtaolnpiemeaabaaGreatDoor
open Go.RowKit Ev5
set_option linter.unusedSimpArgs false
set_option linter.unusedVariables false

theorem Rd.shape {w : World} {S : Nat → Prop} {d : Nat} {u : Value} (h : Rd w S d u) : ∃ a n c, u = .slice a n c ∧ n ≤ maxLen := by
  cases d with
  | zero => obtain ⟨a, c, e⟩ := h; exact ⟨a, 0, c, e, Nat.zero_le _⟩
  | succ d =>
    rcases h with ⟨a, c, e⟩ | ⟨g, n, c, cs, e, hs, hn, hc, _⟩
    · exact ⟨a, 0, c, e, Nat.zero_le _⟩
    · exact ⟨_, n, c, e, by omega⟩
theorem Rd.kid {w : World} {S : Nat → Prop} {d n c : Nat} {a : Option Addr} (h : Rd w S d (.slice a n c)) {i : Nat} (hi : i < n) :
    ∃ d' g cs, d = d' + 1 ∧ a = some ⟨g, 0, none⟩ ∧ S g ∧ n ≤ c ∧ w.heap[g]? = some (.cells cs 24 (0, 0)) ∧ cs.size = c * 4 ∧ ∃ k t v u', cs[i * 4]? = some (.int .i64 k) ∧ cs[i * 4 + 1]? = some (.string t) ∧ cs[i * 4 + 2]? = some (.string v) ∧ cs[i * 4 + 3]? = some u' ∧ Rd w S d' u' := by
  cases d with
  | zero => obtain ⟨a, c, e⟩ := h; injection e with _ e _; omega
  | succ d =>
    rcases h with ⟨a, c, e⟩ | ⟨g, n', c', cs, e, hs, hn, hc, hg, hz, hk⟩
    · injection e with _ e _; omega
    · injection e with e1 e2 e3
      subst e1; subst e2; subst e3
      exact ⟨d, g, cs, rfl, rfl, hs, hn, hg, hz, hk i hi⟩
theorem cell_arr {w : World} {g : Nat} {cs : Array Value} {j : Nat} {u : Value} (hg : w.heap[g]? = some (.cells cs 24 (0, 0))) (h : cs[j]? = some u) : w.cell? ⟨g, j, none⟩ = some u ∧ w.frozen? ⟨g, j, none⟩ = false := by
  obtain ⟨hj, he⟩ := Array.getElem?_eq_some_iff.1 h
  have := blk_cell hg j hj
  rw [he] at this
  exact this
theorem set_blk {w : World} {g j : Nat} {cs : Array Value} {y : Value} (h : w.heap[g]? = some (.cells cs 24 (0, 0))) : (w.setCell ⟨g, j, none⟩ y).heap[g]? = some (.cells (cs.setIfInBounds j y) 24 (0, 0)) := by
  obtain ⟨hlt, he⟩ := Array.getElem?_eq_some_iff.1 h
  show (w.heap.modify g _)[g]? = _
  rw [Array.getElem?_eq_getElem (by rw [Array.size_modify]; exact hlt), Array.getElem_modify_self, he]
  rfl
theorem Pk.store {S : Nat → Prop} {w : World} {g i : Nat} {cs : Array Value} (hs : S g) (hg : w.heap[g]? = some (.cells cs 24 (0, 0))) (hi : i * 4 + 3 < cs.size) :
    Pk S w ((((w.setCell ⟨g, i * 4, none⟩ (.int .i64 77)).setCell ⟨g, i * 4 + 1, none⟩ (.string ⟨#[]⟩)).setCell ⟨g, i * 4 + 2, none⟩ (.string ⟨#[]⟩)).setCell ⟨g, i * 4 + 3, none⟩ (.slice none 0 0)) := by
  have ho : ∀ b, b ≠ g → ((((w.setCell ⟨g, i * 4, none⟩ (.int .i64 77)).setCell ⟨g, i * 4 + 1, none⟩ (.string ⟨#[]⟩)).setCell ⟨g, i * 4 + 2, none⟩ (.string ⟨#[]⟩)).setCell ⟨g, i * 4 + 3, none⟩ (.slice none 0 0)).heap[b]? = w.heap[b]? := fun b hb => by
    rw [set_other hb, set_other hb, set_other hb, set_other hb]
  have hb := set_blk (j := i * 4 + 3) (y := .slice none 0 0) (set_blk (j := i * 4 + 2) (y := .string ⟨#[]⟩) (set_blk (j := i * 4 + 1) (y := .string ⟨#[]⟩) (set_blk (j := i * 4) (y := .int .i64 77) hg)))
  refine ⟨by simp, rfl, rfl, rfl, fun b _ hn => ho b (fun e => hn (e ▸ hs)), fun g' cs' _ hg' => ?_⟩
  by_cases e : g' = g
  · subst e
    rw [hg] at hg'
    injection hg' with hg'
    injection hg' with hg' _ _
    subst hg'
    refine ⟨_, hb, by simp, fun j => ?_⟩
    by_cases hj : j = i
    · subst hj
      right
      refine ⟨?_, ?_, ?_, ?_⟩ <;> simp [Array.getElem?_setIfInBounds] <;> omega
    · left
      intro r hr
      have h0 : i * 4 + 3 ≠ j * 4 + r := by omega
      have h1 : i * 4 + 2 ≠ j * 4 + r := by omega
      have h2 : i * 4 + 1 ≠ j * 4 + r := by omega
      have h3 : i * 4 ≠ j * 4 + r := by omega
      rw [Array.getElem?_setIfInBounds_ne h0, Array.getElem?_setIfInBounds_ne h1, Array.getElem?_setIfInBounds_ne h2, Array.getElem?_setIfInBounds_ne h3]
  · exact ⟨cs', (ho g' e).trans hg', rfl, fun j => .inl fun _ _ => rfl⟩

end Go.Proofs.YtaolnpiemeaabaaGreatDoor

/- A slice of whole numbers that is handed in. -/
namespace Go.Proofs.YtaolnpiemeaabaaGreatDoor
open Go.RowKit Ev5
set_option linter.unusedSimpArgs false
set_option linter.unusedVariables false

theorem ints_open {H : Type} {enc : TypeId × Value → H} {w : World} {v : Value} {d : DataW H} {p : List MemPlace} (hv : ∃ a n c, v = .slice a n c) (h : DataW.Trod enc Tryz.prog w 0 (fun _ => true) true 27 v d p) (hbk : Rows.uptoBulk d ≤ 1048576) :
    ∃ l : List Int, IntsIn w v l := by
  obtain ⟨a0, n0, c0, rfl⟩ := hv
  obtain ⟨fuel, hf⟩ := h
  rcases Go.ChangeShapes.open_ints Tryz.underlying27 Tryz.underlying3 (by kernel_rfl) hf with ⟨hcs, hx⟩ | ⟨a, len, cap, zs, hcs, _, hl, hm, hmm, hx, hi, hwf⟩
  · simp [Value.cells] at hcs
    obtain ⟨rfl, rfl, rfl⟩ := hcs
    exact ⟨[], ⟨none, 0, rfl, Nat.le_refl _, by decide, fun i h => by simp at h⟩, fun x hx => by cases hx⟩
  · simp [Value.cells] at hcs
    obtain ⟨rfl, rfl, rfl⟩ := hcs
    simp only [if_true] at hmm
    have hlen : (zs.take n0).length = n0 := by rw [List.length_take]; omega
    refine ⟨zs.take n0, ⟨some a, c0, by rw [hlen], by omega, hm, fun i hin => ?_⟩, fun x hx => hwf x (List.mem_of_mem_take hx)⟩
    rw [hlen] at hin
    have hc := hi i (by omega)
    have hc0 := hi 0 (by omega)
    have hspot : a.spot = none := by
      have h := World.cell?_spot hc0
      simpa [Addr.add] using h
    obtain ⟨b, o, s⟩ := a
    simp only at hspot
    subst hspot
    refine ⟨b, o, rfl, ?_⟩
    have ha : (⟨b, o, none⟩ : Addr).add i = ⟨b, o + i, none⟩ := by
      unfold Addr.add; split
      · subst_vars; rfl
      · rfl
    rw [ha] at hc
    rw [hc, List.getElem_take, List.getD_eq_getElem?_getD, List.getElem?_eq_getElem (by omega)]
    rfl
end Go.Proofs.YtaolnpiemeaabaaGreatDoor

/- What the laws of trees share. -/
namespace Go.Proofs.YtaolnpiemeaabaaGreatDoor
open Go.RowKit Ev5
set_option linter.unusedSimpArgs false
set_option linter.unusedVariables false

theorem walk_le (x : Nd) : x.walk.length ≤ 2 * x.size := by
  refine Nd.ind (C := fun x => x.walk.length ≤ 2 * x.size) ?_ x
  intro k t v ks ih
  have hk : ∀ (l : List Nd), (∀ y ∈ l, y ∈ ks) → (Nd.walks l).length ≤ 2 * Nd.sizes l := by
    intro l
    induction l with
    | nil => intro _; rw [walks_nil]; simp
    | cons y r ihr =>
      intro h
      rw [walks_cons, sizes_cons, List.length_append]
      have h1 := ih y (h y (by simp))
      have h2 := ihr (fun z hz => h z (by simp [hz]))
      omega
  have hks := hk ks (fun _ h => h)
  rw [walk_mk, size_mk]
  split
  · simp; omega
  · rw [List.length_cons, List.length_append]
    have : (if endK k = 0 then [] else [endEv k]).length ≤ 1 := by split <;> simp
    omega
theorem few_size {x : Nd} (h : 0 ≤ x.few 300 20) : x.size ≤ 300 := by
  have := (few_says x 300 20 (by omega)).2.2 h
  omega
theorem evIn_nil (w : World) : EvIn w (.slice none 0 0) [] := (show EvOwn w 0 (.slice none 0 0) [] from World.ownsRow_nil _ _ _ _).evIn (by simp) (by simp)
/-- What a walk hands back, as a row. -/
theorem WalkPost.row {x : Nd} {w w' : World} {e : Ending} (h : WalkPost x w e w') (hok : x.ok) (hl : x.walk.length ≤ 100000) : ∃ lv : Value, e = .returned (.tuple #[lv, .int .i64 (wholeP RP (x.walk.map GoEv.ev)).2]) ∧ Below w.heap.size w w' ∧ EvIn w' lv (if (wholeP RP (x.walk.map GoEv.ev)).2 = 0 then x.walk else []) := by
  obtain ⟨lv, he, hb, h0, h1⟩ := h
  refine ⟨lv, he, hb, ?_⟩
  split
  · exact (h1 (by assumption)).evIn (walk_ok x hok) (by omega)
  · rw [h0 (by assumption)]; exact evIn_nil _
end Go.Proofs.YtaolnpiemeaabaaGreatDoor

/- Plain Lean: operations on trees (layer 23): put, one, play. -/
namespace Go.Proofs.YtaolnpiemeaabaaGreatDoor
open Ev5
set_option linter.unusedSimpArgs false
set_option linter.unusedVariables false

/-- An operation as Go has it. -/
structure GoOp where
  k : Int
  place : List Int
  node : Nd
  t : ByteArray
/-- What a walk of a node is told to be. -/
def Nd.wh (n : Nd) : Int := (wholeP RP (n.walk.map GoEv.ev)).2
def zeroNd : Nd := .mk 0 ⟨#[]⟩ ⟨#[]⟩ []
/-- A tree with some nodes at the place of the one at a place. -/
def Nd.put : Nd → List Int → List Nd → Nd
  | n, [], l => l.headD n
  | n, p :: r, l =>
    if h : 0 ≤ p ∧ p < n.kids.length then
      .mk n.k n.t n.v (n.kids.take p.toNat ++ (if r = [] then l else [(n.kids[p.toNat]'(by omega)).put r l]) ++ n.kids.drop (p.toNat + 1))
    else n
theorem k_mk (k : Int) (t v : ByteArray) (ks : List Nd) : (Nd.mk k t v ks).k = k := rfl
theorem t_mk (k : Int) (t v : ByteArray) (ks : List Nd) : (Nd.mk k t v ks).t = t := rfl
theorem v_mk (k : Int) (t v : ByteArray) (ks : List Nd) : (Nd.mk k t v ks).v = v := rfl
theorem kids_mk (k : Int) (t v : ByteArray) (ks : List Nd) : (Nd.mk k t v ks).kids = ks := rfl
theorem put_nil (n m : Nd) : n.put [] [m] = m := by rw [Nd.put]; rfl
theorem put_yes {n : Nd} {p : Int} {r : List Int} {l : List Nd} {i : Nat} (hp : p = i) (hi : i < n.kids.length) :
    n.put (p :: r) l = .mk n.k n.t n.v (n.kids.take i ++ (if r = [] then l else [n.kids[i].put r l]) ++ n.kids.drop (i + 1)) := by
  subst hp
  rw [Nd.put, dif_pos ⟨by omega, by omega⟩]; rfl
theorem put_one {n m : Nd} {p : Int} {r : List Int} {i : Nat} (hp : p = i) (hi : i < n.kids.length) :
    n.put (p :: r) [m] = .mk n.k n.t n.v (n.kids.take i ++ [n.kids[i].put r [m]] ++ n.kids.drop (i + 1)) := by
  rw [put_yes hp hi]
  split
  · rename_i h; rw [h, put_nil]
  · rfl
theorem put_no {n : Nd} {p : Int} {r : List Int} {l : List Nd} (h : ¬ (0 ≤ p ∧ p < n.kids.length)) : n.put (p :: r) l = n := by rw [Nd.put, dif_neg h]
/-- A step of a place that leads somewhere. -/
theorem at_cons {n x : Nd} {p : Int} {r : List Int} (h : n.at_ (p :: r) = some x) : ∃ (i : Nat) (hi : i < n.kids.length), p = i ∧ n.kids[i].at_ r = some x := by
  by_cases hp : 0 ≤ p ∧ p < n.kids.length
  · have hi : p.toNat < n.kids.length := by omega
    exact ⟨p.toNat, hi, by omega, by rw [← at_yes (k := p) (r := r) (by omega) hi]; exact h⟩
  · rw [at_no hp] at h; cases h
theorem nd_eta (n : Nd) : Nd.mk n.k n.t n.v n.kids = n := by cases n; rfl
theorem take_mid {α : Type} (l : List α) (i : Nat) (h : i < l.length) : l.take i ++ [l[i]] ++ l.drop (i + 1) = l := by
  rw [List.append_assoc, List.singleton_append, ← List.drop_eq_getElem_cons h, List.take_append_drop]
theorem len_mid {α : Type} (l : List α) (i : Nat) (h : i < l.length) (x : α) : (l.take i ++ [x] ++ l.drop (i + 1)).length = l.length := by
  simp; omega
theorem get_mid {α : Type} (l : List α) (i : Nat) (h : i < l.length) (x : α) (h2 : i < (l.take i ++ [x] ++ l.drop (i + 1)).length) : (l.take i ++ [x] ++ l.drop (i + 1))[i] = x := by
  have : (l.take i ++ [x] ++ l.drop (i + 1))[i]? = some x := by
    rw [List.append_assoc, List.getElem?_append_right (by simp; omega)]
    simp [Nat.min_eq_left (Nat.le_of_lt h)]
  rw [List.getElem?_eq_getElem h2] at this
  exact Option.some.inj this
theorem mid_twice {α : Type} (l : List α) (i : Nat) (h : i < l.length) (x y : α) : (l.take i ++ [x] ++ l.drop (i + 1)).take i ++ [y] ++ (l.take i ++ [x] ++ l.drop (i + 1)).drop (i + 1) = l.take i ++ [y] ++ l.drop (i + 1) := by
  have e1 : (l.take i ++ [x] ++ l.drop (i + 1)).take i = l.take i := by
    rw [List.append_assoc, List.take_append_of_le_length (by simp; omega), List.take_take, Nat.min_self]
  have e2 : (l.take i ++ [x] ++ l.drop (i + 1)).drop (i + 1) = l.drop (i + 1) := by
    have hl : (l.take i ++ [x]).length = i + 1 := by simp; omega
    rw [List.drop_append_of_le_length (by omega), List.drop_of_length_le (by omega), List.nil_append]
  rw [e1, e2]
theorem put_at {n m x : Nd} : ∀ {p : List Int}, n.at_ p = some x → (n.put p [m]).at_ p = some m := by
  intro p
  induction p generalizing n with
  | nil => intro _; rw [put_nil, at_nil]
  | cons q r ih =>
    intro h
    obtain ⟨i, hi, rfl, h2⟩ := at_cons h
    rw [put_one rfl hi]
    have hl : i < (n.kids.take i ++ [n.kids[i].put r [m]] ++ n.kids.drop (i + 1)).length := by rw [len_mid _ _ hi]; exact hi
    rw [at_yes (i := i) rfl (by rw [kids_mk]; exact hl)]
    show ((n.kids.take i ++ [n.kids[i].put r [m]] ++ n.kids.drop (i + 1))[i]).at_ r = some m
    rw [get_mid _ _ hi]
    exact ih h2
theorem put_self {n x : Nd} : ∀ {p : List Int}, n.at_ p = some x → n.put p [x] = n := by
  intro p
  induction p generalizing n with
  | nil => intro h; rw [at_nil] at h; rw [put_nil]; exact (Option.some.inj h).symm
  | cons q r ih =>
    intro h
    obtain ⟨i, hi, rfl, h2⟩ := at_cons h
    rw [put_one rfl hi, ih h2, take_mid _ _ hi, nd_eta]
theorem put_put {n m m' x : Nd} : ∀ {p : List Int}, n.at_ p = some x → (n.put p [m]).put p [m'] = n.put p [m'] := by
  intro p
  induction p generalizing n with
  | nil => intro h; rw [put_nil, put_nil]
  | cons q r ih =>
    intro h
    obtain ⟨i, hi, rfl, h2⟩ := at_cons h
    rw [put_one rfl hi, put_one rfl hi]
    have hl : i < (n.kids.take i ++ [n.kids[i].put r [m]] ++ n.kids.drop (i + 1)).length := by rw [len_mid _ _ hi]; exact hi
    rw [put_one (i := i) rfl (by rw [kids_mk]; exact hl)]
    simp only [k_mk, t_mk, v_mk, kids_mk]
    rw [get_mid _ _ hi, mid_twice _ _ hi, ih h2]
/-- What stands at a place behind a place. -/
theorem at_app {n x : Nd} : ∀ {p q : List Int}, n.at_ p = some x → n.at_ (p ++ q) = x.at_ q := by
  intro p
  induction p generalizing n with
  | nil => intro q h; rw [at_nil] at h; injection h with h; subst h; rfl
  | cons k r ih =>
    intro q h
    obtain ⟨i, hi, rfl, h2⟩ := at_cons h
    rw [List.cons_append, at_yes rfl hi]
    exact ih h2
theorem at_app_none {n : Nd} : ∀ {p q : List Int}, n.at_ p = none → n.at_ (p ++ q) = none := by
  intro p
  induction p generalizing n with
  | nil => intro q h; rw [at_nil] at h; cases h
  | cons k r ih =>
    intro q h
    by_cases hp : 0 ≤ k ∧ k < n.kids.length
    · have hi : k.toNat < n.kids.length := by omega
      rw [at_yes (i := k.toNat) (by omega) hi] at h
      rw [List.cons_append, at_yes (i := k.toNat) (by omega) hi]
      exact ih h
    · rw [List.cons_append, at_no hp]
/-- The last step of a place, apart. -/
theorem put_last {n up : Nd} {i : Nat} {l : List Nd} : ∀ {q : List Int}, n.at_ q = some up → (hi : i < up.kids.length) →
    n.put (q ++ [(i : Int)]) l = n.put q [.mk up.k up.t up.v (up.kids.take i ++ l ++ up.kids.drop (i + 1))] := by
  intro q
  induction q generalizing n with
  | nil =>
    intro h hi
    rw [at_nil] at h; injection h with h; subst h
    rw [List.nil_append, put_yes rfl hi, if_pos rfl, put_nil]
  | cons k r ih =>
    intro h hi
    obtain ⟨j, hj, rfl, h2⟩ := at_cons h
    rw [List.cons_append, put_yes rfl hj, if_neg (by simp), ih h2 hi, put_one rfl hj]
theorem at_snoc {n : Nd} {q : List Int} {p : Int} : n.at_ (q ++ [p]) = match n.at_ q with
    | none => none
    | some up => if h : 0 ≤ p ∧ p < up.kids.length then some (up.kids[p.toNat]'(by omega)) else none := by
  cases h : n.at_ q with
  | none => exact at_app_none h
  | some up =>
    simp only []
    rw [at_app h]
    by_cases hp : 0 ≤ p ∧ p < up.kids.length
    · rw [dif_pos hp, at_yes (i := p.toNat) (by omega) (by omega), at_nil]
    · rw [dif_neg hp, at_no hp]

open Classical in
/-- An operation on a tree, whatever comes of it. -/
noncomputable def oneP (n : Nd) (o : GoOp) : Nd × Int :=
  if o.k < 1 ∨ 5 < o.k then (n, 1)
  else if o.k = 1 then
    if o.place = [] then (n, 21) else
    match n.at_ o.place.dropLast with
    | none => (n, 21)
    | some up => if 0 ≤ o.place.getLastD 0 ∧ o.place.getLastD 0 ≤ up.kids.length then (n.put o.place.dropLast [.mk up.k up.t up.v (up.kids.take (o.place.getLastD 0).toNat ++ [o.node] ++ up.kids.drop (o.place.getLastD 0).toNat)], 0) else (n, 21)
  else
    match n.at_ o.place with
    | none => (n, 21)
    | some x =>
      if o.k = 2 then (if o.place = [] then (n, 21) else (n.put o.place [], 0))
      else if o.k = 3 then (n.put o.place [o.node], 0)
      else if o.k = 4 then (if x = o.node then (n, 0) else (n, 31))
      else if x.k = 8 ∨ x.k = 10 ∨ x.k = 11 then (n.put o.place [.mk x.k o.t x.v x.kids], 0) else (n, 22)
/-- Operations from a tree on: what has come of it, how many were done, what was told. -/
noncomputable def playP : Nd → List GoOp → Nd × Nat × Int
  | x, [] => (x, 0, 0)
  | x, o :: r =>
    if (oneP x o).2 ≠ 0 then (x, 0, (oneP x o).2)
    else if (oneP x o).1.wh ≠ 0 then (x, 0, (oneP x o).1.wh)
    else ((playP (oneP x o).1 r).1, (playP (oneP x o).1 r).2.1 + 1, (playP (oneP x o).1 r).2.2)
noncomputable def applyP (n : Nd) (l : List GoOp) : Nd × Nat × Int :=
  if n.wh ≠ 0 then (zeroNd, 0, n.wh)
  else if (playP n l).2.2 ≠ 0 then (n, (playP n l).2.1, (playP n l).2.2)
  else ((playP n l).1, l.length, 0)
theorem play_app : ∀ (x : Nd) (l r : List GoOp), (playP x l).2.2 = 0 → playP x (l ++ r) = ((playP (playP x l).1 r).1, l.length + (playP (playP x l).1 r).2.1, (playP (playP x l).1 r).2.2)
  | x, [], r, _ => by simp [playP]
  | x, o :: l, r, h => by
    simp only [List.cons_append, playP] at h ⊢
    split at h
    · rename_i h1; exact absurd h h1
    · rename_i h1
      rw [if_neg h1]
      split at h
      · rename_i h2; exact absurd h h2
      · rename_i h2
        rw [if_neg h2, if_neg h1, if_neg h2, play_app _ l r h]
        simp only [List.length_cons]
        refine Prod.ext rfl (Prod.ext ?_ rfl)
        simp only []
        omega
theorem play_count : ∀ (x : Nd) (l : List GoOp), (playP x l).2.1 ≤ l.length ∧ ((playP x l).2.2 = 0 → (playP x l).2.1 = l.length) ∧ ((playP x l).2.2 ≠ 0 → (playP x l).2.1 < l.length)
  | x, [] => by simp [playP]
  | x, o :: l => by
    simp only [playP]
    split
    · rename_i h; simp only []; exact ⟨by simp, fun h2 => absurd h2 h, fun _ => by simp⟩
    · split
      · rename_i h; simp only []; exact ⟨by simp, fun h2 => absurd h2 h, fun _ => by simp⟩
      · have := play_count (oneP x o).1 l
        simp only [List.length_cons]
        exact ⟨by omega, fun h => by have := this.2.1 h; omega, fun h => by have := this.2.2 h; omega⟩
/-- Those ahead of the one that is refused can be done. -/
theorem play_take : ∀ (x : Nd) (l : List GoOp), (playP x (l.take (playP x l).2.1)).2.2 = 0
  | x, [] => by simp [playP]
  | x, o :: l => by
    have ih := play_take (oneP x o).1 l
    simp only [playP]
    split
    · simp [playP]
    · rename_i h1
      split
      · simp [playP]
      · rename_i h2
        simp only [List.take_succ_cons, playP, if_neg h1, if_neg h2]
        exact ih
theorem wh_good {n : Nd} (h : n.wh = 0) : n.good = true := good_of_whole (rk_right _) n h

/-! sizes and what may be -/
theorem sizes_app (a b : List Nd) : Nd.sizes (a ++ b) = Nd.sizes a + Nd.sizes b := by
  induction a with
  | nil => rw [sizes_nil, List.nil_append, Nat.zero_add]
  | cons x r ih => rw [List.cons_append, sizes_cons, sizes_cons, ih]; omega
theorem sizes_mid (l : List Nd) (i : Nat) (h : i < l.length) : Nd.sizes l = Nd.sizes (l.take i) + l[i].size + Nd.sizes (l.drop (i + 1)) := by
  have := congrArg Nd.sizes (take_mid l i h)
  rw [sizes_app, sizes_app, sizes_cons, sizes_nil] at this
  omega
theorem oks_app (a b : List Nd) : Nd.oks (a ++ b) ↔ Nd.oks a ∧ Nd.oks b := by
  rw [oks_iff, oks_iff, oks_iff]
  exact ⟨fun h => ⟨fun x hx => h x (List.mem_append_left _ hx), fun x hx => h x (List.mem_append_right _ hx)⟩, fun h x hx => (List.mem_append.1 hx).elim (h.1 x) (h.2 x)⟩
theorem ok_kids {n : Nd} : n.ok ↔ EvOK ⟨n.k, n.t, n.v⟩ ∧ Nd.oks n.kids := by cases n; exact ok_mk _ _ _ _
theorem at_size {n x : Nd} : ∀ {p : List Int}, n.at_ p = some x → x.size ≤ n.size := by
  intro p
  induction p generalizing n with
  | nil => intro h; rw [at_nil] at h; injection h with h; subst h; exact Nat.le_refl _
  | cons q r ih =>
    intro h
    obtain ⟨i, hi, rfl, h2⟩ := at_cons h
    have := kid_size hi
    have := ih h2
    omega
theorem at_ok {n x : Nd} : ∀ {p : List Int}, n.at_ p = some x → n.ok → x.ok := by
  intro p
  induction p generalizing n with
  | nil => intro h hok; rw [at_nil] at h; injection h with h; subst h; exact hok
  | cons q r ih =>
    intro h hok
    obtain ⟨i, hi, rfl, h2⟩ := at_cons h
    exact ih h2 ((oks_iff _).1 (ok_kids.1 hok).2 _ (List.getElem_mem hi))
theorem put_size {n m x : Nd} : ∀ {p : List Int}, n.at_ p = some x → (n.put p [m]).size + x.size = n.size + m.size := by
  intro p
  induction p generalizing n with
  | nil => intro h; rw [at_nil] at h; injection h with h; subst h; rw [put_nil]; omega
  | cons q r ih =>
    intro h
    obtain ⟨i, hi, rfl, h2⟩ := at_cons h
    have h3 := ih h2
    rw [put_one rfl hi, size_mk, sizes_app, sizes_app, sizes_cons, sizes_nil, kids_size n, sizes_mid _ _ hi]
    omega
theorem put_ok {n m x : Nd} : ∀ {p : List Int}, n.at_ p = some x → n.ok → m.ok → (n.put p [m]).ok := by
  intro p
  induction p generalizing n with
  | nil => intro h _ hm; rw [put_nil]; exact hm
  | cons q r ih =>
    intro h hn hm
    obtain ⟨i, hi, rfl, h2⟩ := at_cons h
    obtain ⟨h0, hk⟩ := ok_kids.1 hn
    have hk' := (oks_iff _).1 hk
    rw [put_one rfl hi, ok_mk, oks_app, oks_app]
    refine ⟨h0, ⟨(oks_iff _).2 fun x hx => hk' x (List.mem_of_mem_take hx), (oks_iff _).2 fun x hx => ?_⟩, (oks_iff _).2 fun x hx => hk' x (List.mem_of_mem_drop hx)⟩
    obtain rfl := List.mem_singleton.1 hx
    exact ih h2 (hk' _ (List.getElem_mem hi)) hm
/-- An operation that may be handed in. -/
structure GoOp.ok (o : GoOp) : Prop where
  kind : (Lit.int .i64 o.k).wf = true
  place : ∀ x ∈ o.place, (Lit.int .i64 x).wf = true
  node : o.node.ok
  text : o.t.size ≤ 1048576
theorem snoc_of {l : List Int} (h : l ≠ []) : l = l.dropLast ++ [l.getLastD 0] := by
  rw [List.getLastD_eq_getLast?, List.getLast?_eq_some_getLast h]
  exact (List.dropLast_concat_getLast h).symm
theorem one_size (n : Nd) (o : GoOp) : (oneP n o).1.size ≤ n.size + o.node.size := by
  unfold oneP
  split
  · simp only []; omega
  split
  · split
    · simp only []; omega
    cases h : n.at_ o.place.dropLast with
    | none => simp only []; omega
    | some up =>
      simp only []
      split
      · rename_i hi
        have h1 := put_size (m := .mk up.k up.t up.v (up.kids.take (o.place.getLastD 0).toNat ++ [o.node] ++ up.kids.drop (o.place.getLastD 0).toNat)) h
        have h2 := kids_size up
        have h3 := congrArg Nd.sizes (List.take_append_drop (o.place.getLastD 0).toNat up.kids)
        rw [size_mk, sizes_app, sizes_app, sizes_cons, sizes_nil] at h1
        rw [sizes_app] at h3
        simp only []; omega
      · simp only []; omega
  · cases h : n.at_ o.place with
    | none => simp only []; omega
    | some x =>
      simp only []
      split
      · split
        · simp only []; omega
        · rename_i hne
          obtain ⟨q, p, hpl⟩ : ∃ q p, o.place = q ++ [p] := ⟨_, _, snoc_of hne⟩
          rw [hpl, at_snoc] at h
          rw [hpl]
          cases h2 : n.at_ q with
          | none => rw [h2] at h; cases h
          | some up =>
            rw [h2] at h
            simp only [] at h
            split at h
            · rename_i hp
              obtain ⟨i, rfl⟩ : ∃ i : Nat, p = i := ⟨p.toNat, by omega⟩
              have hil : i < up.kids.length := by omega
              simp only []
              rw [put_last h2 hil]
              have h1 := put_size (m := .mk up.k up.t up.v (up.kids.take i ++ [] ++ up.kids.drop (i + 1))) h2
              have h3 := kids_size up
              have h4 := sizes_mid _ _ hil
              rw [size_mk, sizes_app, sizes_app, sizes_nil] at h1
              omega
            · cases h
      split
      · have := put_size (m := o.node) h
        simp only []; omega
      split
      · split <;> (simp only []; omega)
      split
      · have := put_size (m := .mk x.k o.t x.v x.kids) h
        rw [size_mk] at this
        have := kids_size x
        simp only []; omega
      · simp only []; omega
theorem one_ok {n : Nd} {o : GoOp} (hn : n.ok) (ho : o.ok) : (oneP n o).1.ok := by
  unfold oneP
  split
  · exact hn
  split
  · split
    · exact hn
    cases h : n.at_ o.place.dropLast with
    | none => exact hn
    | some up =>
      simp only []
      split
      · obtain ⟨h0, hk⟩ := ok_kids.1 (at_ok h hn)
        have hk' := (oks_iff _).1 hk
        refine put_ok h hn ?_
        rw [ok_mk, oks_app, oks_app]
        exact ⟨h0, ⟨(oks_iff _).2 fun x hx => hk' x (List.mem_of_mem_take hx), (oks_iff _).2 fun x hx => by rw [List.mem_singleton.1 hx]; exact ho.node⟩, (oks_iff _).2 fun x hx => hk' x (List.mem_of_mem_drop hx)⟩
      · exact hn
  · cases h : n.at_ o.place with
    | none => exact hn
    | some x =>
      simp only []
      split
      · split
        · exact hn
        · rename_i hne
          obtain ⟨q, p, hpl⟩ : ∃ q p, o.place = q ++ [p] := ⟨_, _, snoc_of hne⟩
          rw [hpl, at_snoc] at h
          rw [hpl]
          cases h2 : n.at_ q with
          | none => rw [h2] at h; cases h
          | some up =>
            rw [h2] at h
            simp only [] at h
            split at h
            · rename_i hp
              obtain ⟨i, rfl⟩ : ∃ i : Nat, p = i := ⟨p.toNat, by omega⟩
              have hil : i < up.kids.length := by omega
              simp only []
              rw [put_last h2 hil]
              obtain ⟨h0, hk⟩ := ok_kids.1 (at_ok h2 hn)
              have hk' := (oks_iff _).1 hk
              refine put_ok h2 hn ?_
              rw [ok_mk, oks_app, oks_app]
              exact ⟨h0, ⟨(oks_iff _).2 fun x hx => hk' x (List.mem_of_mem_take hx), (oks_iff _).2 fun x hx => by cases hx⟩, (oks_iff _).2 fun x hx => hk' x (List.mem_of_mem_drop hx)⟩
            · cases h
      split
      · exact put_ok h hn ho.node
      split
      · split <;> exact hn
      split
      · obtain ⟨h0, hk⟩ := ok_kids.1 (at_ok h hn)
        refine put_ok h hn ?_
        rw [ok_mk]
        exact ⟨⟨h0.k, ho.text, h0.v⟩, hk⟩
      · exact hn
/-- What stands behind operations: how great it is at most. -/
def opsSize (l : List GoOp) : Nat := (l.map fun o => o.node.size).sum
theorem play_size : ∀ (x : Nd) (l : List GoOp), (playP x l).1.size ≤ x.size + opsSize l
  | x, [] => by simp [playP, opsSize]
  | x, o :: l => by
    have h1 := one_size x o
    have h2 := play_size (oneP x o).1 l
    have h3 : opsSize (o :: l) = o.node.size + opsSize l := by simp [opsSize]
    simp only [playP]
    split
    · simp only []; omega
    · split
      · simp only []; omega
      · simp only []; omega
theorem play_ok : ∀ (x : Nd) (l : List GoOp), x.ok → (∀ o ∈ l, o.ok) → (playP x l).1.ok
  | x, [], h, _ => by simpa [playP] using h
  | x, o :: l, h, hl => by
    simp only [playP]
    split
    · exact h
    · split
      · exact h
      · exact play_ok _ l (one_ok h (hl o (by simp))) fun q hq => hl q (by simp [hq])
end Go.Proofs.YtaolnpiemeaabaaGreatDoor

/- Plain Lean: what lies between two trees that may be is a tree that may be; the operations of diff lead from one to the other (layer 23). -/
namespace Go.Proofs.YtaolnpiemeaabaaGreatDoor
open Ev5
set_option linter.unusedSimpArgs false
set_option linter.unusedVariables false

/-- Two open things of which the same is taken. -/
structure Eqo (o o' : Ev5.Op) : Prop where
  kind : o.kind = o'.kind
  key : o.key = o'.key
  had : o.had = o'.had
  full : o.full = o'.full
  text : o.kind = 10 → o.text = o'.text
def Eqs : List Ev5.Op → List Ev5.Op → Prop
  | [], [] => True
  | o :: r, o' :: r' => Eqo o o' ∧ Eqs r r'
  | _, _ => False
structure Eqt (s s' : St) : Prop where
  opn : Eqs s.opn s'.opn
  over : s.over = s'.over
theorem Eqo.refl (o : Ev5.Op) : Eqo o o := ⟨rfl, rfl, rfl, rfl, fun _ => rfl⟩
theorem Eqo.trans {a b c : Ev5.Op} (h : Eqo a b) (k : Eqo b c) : Eqo a c := ⟨h.kind.trans k.kind, h.key.trans k.key, h.had.trans k.had, h.full.trans k.full, fun e => (h.text e).trans (k.text (h.kind.symm.trans e))⟩
theorem eqs_refl : ∀ l, Eqs l l
  | [] => trivial
  | o :: r => ⟨Eqo.refl o, eqs_refl r⟩
theorem eqs_trans : ∀ {a b c}, Eqs a b → Eqs b c → Eqs a c
  | [], [], [], _, _ => trivial
  | [], [], _ :: _, _, h => h.elim
  | [], _ :: _, _, h, _ => h.elim
  | _ :: _, [], _, h, _ => h.elim
  | _ :: _, _ :: _, [], _, h => h.elim
  | _ :: _, _ :: _, _ :: _, h, k => ⟨h.1.trans k.1, eqs_trans h.2 k.2⟩
theorem eqs_len : ∀ {a b}, Eqs a b → a.length = b.length
  | [], [], _ => rfl
  | [], _ :: _, h => h.elim
  | _ :: _, [], h => h.elim
  | _ :: _, _ :: _, h => by rw [List.length_cons, List.length_cons, eqs_len h.2]
theorem Eqt.refl (s : St) : Eqt s s := ⟨eqs_refl _, rfl⟩
theorem Eqt.trans {a b c : St} (h : Eqt a b) (k : Eqt b c) : Eqt a c := ⟨eqs_trans h.opn k.opn, h.over.trans k.over⟩
theorem step_eq {R : Ev → Bool} {s s' : St} (x : Ev) (h : Eqt s s') : (stepP R s x).2 = (stepP R s' x).2 ∧ Eqt (stepP R s x).1 (stepP R s' x).1 := by
  obtain ⟨opn, ov⟩ := s
  obtain ⟨opn', ov'⟩ := s'
  obtain ⟨h1, h2⟩ := h
  simp only [] at h1 h2
  subst h2
  cases opn with
  | nil =>
    cases opn' with
    | nil => exact ⟨rfl, Eqt.refl _⟩
    | cons o' r' => exact h1.elim
  | cons o r =>
    cases opn' with
    | nil => exact h1.elim
    | cons o' r' =>
      obtain ⟨ho, hr⟩ := h1
      have hv : valueP ⟨o' :: r', ov⟩ x = valueP ⟨o :: r, ov⟩ x := by
        unfold valueP
        simp only []
        rw [← ho.kind, ← ho.key]
        split
        · rfl
        · split
          · rename_i h10; rw [ho.text h10]
          · rfl
      have hs : Eqt (standsP ⟨o :: r, ov⟩ x) (standsP ⟨o' :: r', ov⟩ x) := ⟨⟨⟨ho.kind, rfl, ho.had, rfl, fun _ => rfl⟩, hr⟩, rfl⟩
      have hn : (namedP o x).2 = (namedP o' x).2 ∧ Eqo (namedP o x).1 (namedP o' x).1 := by
        unfold namedP
        rw [← ho.had]
        split
        · exact ⟨rfl, ho⟩
        · split
          · exact ⟨rfl, ho⟩
          · exact ⟨rfl, ho.kind, rfl, rfl, ho.full, ho.text⟩
      have hl : (o' :: r').length = (o :: r).length := by rw [List.length_cons, List.length_cons, eqs_len hr]
      have he : Eqt ⟨o :: r, ov⟩ ⟨o' :: r', ov⟩ := ⟨⟨ho, hr⟩, rfl⟩
      unfold stepP
      simp only [hv, ← ho.kind, ← ho.key, hl]
      by_cases c1 : R x = false
      · simp only [if_pos c1]; exact ⟨trivial, he⟩
      simp only [if_neg c1]
      by_cases c2 : x.kind = 1 ∨ x.kind = 2 ∨ x.kind = 3 ∨ x.kind = 4
      · simp only [if_pos c2]
        by_cases c3 : valueP ⟨o :: r, ov⟩ x = true
        · simp only [if_pos c3]; exact ⟨trivial, hs⟩
        · simp only [if_neg c3]; exact ⟨trivial, he⟩
      simp only [if_neg c2]
      by_cases c3 : x.kind = 5 ∨ x.kind = 7 ∨ x.kind = 10
      · simp only [if_pos c3]
        by_cases c4 : valueP ⟨o :: r, ov⟩ x = false
        · simp only [if_pos c4]; exact ⟨trivial, he⟩
        simp only [if_neg c4]
        by_cases c5 : 6 ≤ (o :: r).length
        · simp only [if_pos c5]; exact ⟨trivial, he⟩
        · simp only [if_neg c5]; exact ⟨trivial, ⟨Eqo.refl _, hs.opn⟩, hs.over⟩
      simp only [if_neg c3]
      by_cases c4 : x.kind = 8
      · simp only [if_pos c4]
        by_cases c5 : o.kind ≠ 7 ∨ o.key = true
        · simp only [if_pos c5]; exact ⟨trivial, he⟩
        · simp only [if_neg c5]; exact ⟨hn.1, ⟨hn.2, hr⟩, rfl⟩
      simp only [if_neg c4]
      by_cases c5 : x.kind = 11
      · simp only [if_pos c5, ← ho.full]
        by_cases c6 : o.kind ≠ 10 ∨ o.full = true
        · simp only [if_pos c6]; exact ⟨trivial, he⟩
        · simp only [if_neg c6]; exact ⟨hn.1, ⟨hn.2, hr⟩, rfl⟩
      simp only [if_neg c5]
      by_cases c6 : o.kind ≠ endOf x.kind ∨ o.key = true
      · simp only [if_pos c6]; exact ⟨trivial, he⟩
      · simp only [if_neg c6]; exact ⟨trivial, hr, rfl⟩
theorem run_eq {R : Ev → Bool} : ∀ (l : List Ev) {s s' : St}, Eqt s s' → (runP R s l).2.2 = (runP R s' l).2.2 ∧ Eqt (runP R s l).1 (runP R s' l).1
  | [], s, s', h => ⟨rfl, h⟩
  | x :: r, s, s', h => by
    obtain ⟨h1, h2⟩ := step_eq (R := R) x h
    simp only [runP, ← h1]
    split
    · exact run_eq r h2
    · exact ⟨rfl, h⟩

/-- A node's events la the machine takes them. -/
def Nd.evs (n : Nd) : List Ev := n.walk.map GoEv.ev
def Nd.evss (l : List Nd) : List Ev := (Nd.walks l).map GoEv.ev
def Nd.e (n : Nd) : Ev := GoEv.ev ⟨n.k, n.t, n.v⟩
theorem evss_cons (n : Nd) (l : List Nd) : Nd.evss (n :: l) = n.evs ++ Nd.evss l := by unfold Nd.evss Nd.evs; rw [walks_cons, List.map_append]
theorem evss_nil : Nd.evss [] = [] := by unfold Nd.evss; rw [walks_nil]; rfl
theorem evss_app (a b : List Nd) : Nd.evss (a ++ b) = Nd.evss a ++ Nd.evss b := by unfold Nd.evss; rw [walks_app, List.map_append]
theorem evs_good {k : Int} {t v : ByteArray} {ks : List Nd} (h : (Nd.mk k t v ks).good = true) : (Nd.mk k t v ks).evs = GoEv.ev ⟨k, t, v⟩ :: (Nd.evss ks ++ (if endK k = 0 then [] else [GoEv.ev (endEv k)])) := by
  unfold Nd.evs Nd.evss
  rw [walk_good h, List.map_cons, List.map_append]
  split <;> rfl
def valK (k : Int) : Prop := k = 1 ∨ k = 2 ∨ k = 3 ∨ k = 4 ∨ k = 5 ∨ k = 7 ∨ k = 10

/-- Where a node's events lead. -/
def Fin (R : Ev → Bool) (n : Nd) : Prop := ∀ st, (runP R st n.evs).2.2 = 0 →
  (valK n.k ∧ (runP R st n.evs).1 = standsP st n.e) ∨
  (n.k = 8 ∧ ∃ l r b, st.opn = l :: r ∧ l.kind = 7 ∧ l.key = false ∧ (runP R st n.evs).1 = ⟨{ l with had := l.had ++ [n.e.text], key := false, full := true, text := b } :: r, st.over⟩) ∨
  (n.k = 11 ∧ ∃ l r, st.opn = l :: r ∧ l.kind = 10 ∧ (runP R st n.evs).1 = ⟨{ l with had := l.had ++ [n.e.text], key := false } :: r, st.over⟩)
theorem fin_keeps {R : Ev → Bool} {n : Nd} (h : Fin R n) {o : Ev5.Op} {os : List Ev5.Op} {ov : Bool} (hr : (runP R ⟨o :: os, ov⟩ n.evs).2.2 = 0) : ∃ o', (runP R ⟨o :: os, ov⟩ n.evs).1 = ⟨o' :: os, ov⟩ ∧ o'.kind = o.kind := by
  rcases h _ hr with ⟨_, e⟩ | ⟨_, l, r, b, e1, _, _, e⟩ | ⟨_, l, r, e1, _, e⟩
  · exact ⟨_, e, rfl⟩
  · simp only [List.cons.injEq] at e1; obtain ⟨rfl, rfl⟩ := e1; exact ⟨_, e, rfl⟩
  · simp only [List.cons.injEq] at e1; obtain ⟨rfl, rfl⟩ := e1; exact ⟨_, e, rfl⟩
theorem fins_keep {R : Ev → Bool} : ∀ (l : List Nd), (∀ x ∈ l, Fin R x) → ∀ {o : Ev5.Op} {os : List Ev5.Op} {ov : Bool}, (runP R ⟨o :: os, ov⟩ (Nd.evss l)).2.2 = 0 → ∃ o', (runP R ⟨o :: os, ov⟩ (Nd.evss l)).1 = ⟨o' :: os, ov⟩ ∧ o'.kind = o.kind
  | [], _, o, os, ov, _ => ⟨o, by rw [evss_nil]; rfl, rfl⟩
  | x :: r, h, o, os, ov, hr => by
    rw [evss_cons] at hr ⊢
    obtain ⟨h1, h2⟩ := run_append R _ _ _ hr
    obtain ⟨o1, e1, k1⟩ := fin_keeps (h x (by simp)) h1
    rw [(run_more R _ _ _ h1).2, e1]
    rw [e1] at h2
    obtain ⟨o2, e2, k2⟩ := fins_keep r (fun y hy => h y (by simp [hy])) h2
    exact ⟨o2, e2, k2.trans k1⟩
theorem fin_all {R : Ev → Bool} (n : Nd) : n.good = true → Fin R n := by
  refine Nd.ind (C := fun n => n.good = true → Fin R n) ?_ n
  intro k t v ks ih hg st hr
  rw [evs_good hg] at hr ⊢
  have hg' := hg
  rw [good_mk] at hg'
  simp only [Bool.and_eq_true, Bool.not_eq_true'] at hg'
  have hks := (goods_iff _).1 hg'.2
  obtain ⟨h0, h1, h2⟩ := runP_step hr
  rw [h2]
  have hfk : ∀ x ∈ ks, Fin R x := fun x hx => ih x hx (hks x hx)
  simp only [Nd.k]
  rcases odd_kind hg'.1 with ⟨hk, hn⟩ | ⟨hk, hn⟩ | hk
  · obtain rfl := List.eq_nil_of_length_eq_zero hn
    have e0 : endK k = 0 := by rcases endK_cases k with ⟨a, _⟩ | ⟨a, _⟩ | ⟨a, _⟩ | ⟨_, _, _, a⟩; omega; omega; omega; exact a
    rw [e0, evss_nil]
    simp only [if_true, List.append_nil, runP]
    by_cases h11 : k = 11
    · right; right
      obtain ⟨l, r, ho, hc⟩ := step_other h0 (by show ¬ (k = 1 ∨ k = 2 ∨ k = 3 ∨ k = 4); omega) (by show ¬ (k = 5 ∨ k = 7 ∨ k = 10); omega)
      rcases hc with ⟨a, _⟩ | ⟨_, b, c⟩ | ⟨_, a, _⟩
      · have : k = 8 := a; omega
      · exact ⟨h11, l, r, ho, b, c⟩
      · exact absurd h11 a
    · left
      exact ⟨by unfold valK; omega, step_leaf h0 (by show k = 1 ∨ k = 2 ∨ k = 3 ∨ k = 4; omega)⟩
  · right; left
    obtain ⟨l, r, ho, hc⟩ := step_other h0 (by show ¬ (k = 1 ∨ k = 2 ∨ k = 3 ∨ k = 4); omega) (by show ¬ (k = 5 ∨ k = 7 ∨ k = 10); omega)
    match ks, hn with
    | [x], _ =>
      have e0 : endK k = 0 := by rw [hk]; rfl
      rw [e0] at h1 ⊢
      simp only [if_true, List.append_nil, evss_cons, evss_nil] at h1 ⊢
      rcases hc with ⟨_, h7, hkey, hs⟩ | ⟨a, _⟩ | ⟨a, _⟩
      · rw [hs] at h1 ⊢
        rcases hfk x (by simp) _ h1 with ⟨_, e⟩ | ⟨_, l', r', b, e1, _, e2, _⟩ | ⟨_, l', r', e1, e2, _⟩
        · exact ⟨hk, l, r, decide (x.k = 4), ho, h7, hkey, e⟩
        · simp only [List.cons.injEq] at e1; obtain ⟨rfl, rfl⟩ := e1; cases e2
        · simp only [List.cons.injEq] at e1; obtain ⟨rfl, rfl⟩ := e1; simp only [] at e2; omega
      · have : k = 11 := a; omega
      · exact absurd hk a
  · left
    have hs := step_open h0 hk
    have hne : endK k ≠ 0 := by rcases endK_cases k with ⟨_, a⟩ | ⟨_, a⟩ | ⟨_, a⟩ | ⟨a, b, c, _⟩ <;> omega
    have hee : endK k = 6 ∨ endK k = 9 ∨ endK k = 12 := by rcases endK_cases k with ⟨_, a⟩ | ⟨_, a⟩ | ⟨_, a⟩ | ⟨a, b, c, _⟩ <;> omega
    rw [hs, if_neg hne] at h1 ⊢
    obtain ⟨h3, h4⟩ := run_append R _ _ _ h1
    obtain ⟨o', e, ek⟩ := fins_keep ks hfk h3
    rw [(run_more R _ _ _ h3).2, e]
    rw [e] at h4
    obtain ⟨h5, _, h6⟩ := runP_step h4
    obtain ⟨l, r, ho, hc⟩ := step_other h5 (by show ¬ (endK k = 1 ∨ endK k = 2 ∨ endK k = 3 ∨ endK k = 4); omega) (by show ¬ (endK k = 5 ∨ endK k = 7 ∨ endK k = 10); omega)
    simp only [List.cons.injEq] at ho
    obtain ⟨rfl, rfl⟩ := ho
    refine ⟨by unfold valK; omega, ?_⟩
    rcases hc with ⟨a, _⟩ | ⟨a, _⟩ | ⟨_, _, _, _, hc⟩
    · have : endK k = 8 := a; omega
    · have : endK k = 11 := a; omega
    · rw [h6, hc]; rfl

/-- What the others of its kin see of a node. -/
def Nd.sk (n : Nd) : Int × ByteArray := (n.k, if n.k = 8 ∨ n.k = 11 then n.t else emp)
def InL (st : St) : Prop := ∃ l r, st.opn = l :: r ∧ l.kind = 5
theorem fin_eq {R : Ev → Bool} {x z : Nd} (hx : Fin R x) (hz : Fin R z) {st : St} (h1 : (runP R st x.evs).2.2 = 0) (h2 : (runP R st z.evs).2.2 = 0) (hk : InL st ∨ x.sk = z.sk) : Eqt (runP R st x.evs).1 (runP R st z.evs).1 := by
  have hsk : x.sk = z.sk → x.k = z.k := fun h => congrArg Prod.fst h
  have hst : x.sk = z.sk → (x.k = 8 ∨ x.k = 11) → x.e.text = z.e.text := fun h h8 => by
    have h3 := congrArg Prod.snd h
    simp only [Nd.sk] at h3
    rw [if_pos h8, if_pos (by rw [← hsk h]; exact h8)] at h3
    unfold Nd.e; rw [h3]; rfl
  have hL : ∀ l r, st.opn = l :: r → l.kind ≠ 5 → x.sk = z.sk := fun l r ho hne => by
    rcases hk with ⟨l', r', ho', h5⟩ | h
    · rw [ho] at ho'; simp only [List.cons.injEq] at ho'; obtain ⟨rfl, rfl⟩ := ho'; exact absurd h5 hne
    · exact h
  rcases hx st h1 with ⟨vx, ex⟩ | ⟨kx, l, r, b, e1, e2, _, ex⟩ | ⟨kx, l, r, e1, e2, ex⟩
  · rcases hz st h2 with ⟨vz, ez⟩ | ⟨kz, l', r', b', f1, f2, _, ez⟩ | ⟨kz, l', r', f1, f2, ez⟩
    · rw [ex, ez]
      obtain ⟨opn, ov⟩ := st
      cases opn with
      | nil => exact ⟨trivial, rfl⟩
      | cons o os =>
        refine ⟨⟨⟨rfl, rfl, rfl, rfl, fun h10 => ?_⟩, eqs_refl _⟩, rfl⟩
        have h10' : o.kind = 10 := h10
        have := hsk (hL o os rfl (by omega))
        show decide (x.k = 4) = decide (z.k = 4)
        rw [this]
    · have := hsk (hL l' r' f1 (by omega)); unfold valK at vx; omega
    · have := hsk (hL l' r' f1 (by omega)); unfold valK at vx; omega
  · have hs := hL l r e1 (by omega)
    have hkk := hsk hs
    rcases hz st h2 with ⟨vz, ez⟩ | ⟨kz, l', r', b', f1, f2, _, ez⟩ | ⟨kz, l', r', f1, f2, ez⟩
    · unfold valK at vz; omega
    · rw [e1] at f1; simp only [List.cons.injEq] at f1; obtain ⟨rfl, rfl⟩ := f1
      rw [ex, ez]
      refine ⟨⟨⟨rfl, rfl, by rw [hst hs (.inl kx)], rfl, fun h10 => ?_⟩, eqs_refl _⟩, rfl⟩
      have h10' : l.kind = 10 := h10
      omega
    · omega
  · have hs := hL l r e1 (by omega)
    have hkk := hsk hs
    rcases hz st h2 with ⟨vz, ez⟩ | ⟨kz, l', r', b', f1, f2, _, ez⟩ | ⟨kz, l', r', f1, f2, ez⟩
    · unfold valK at vz; omega
    · omega
    · rw [e1] at f1; simp only [List.cons.injEq] at f1; obtain ⟨rfl, rfl⟩ := f1
      rw [ex, ez]
      exact ⟨⟨⟨rfl, rfl, by rw [hst hs (.inr kx)], rfl, fun _ => rfl⟩, eqs_refl _⟩, rfl⟩
theorem inL_eq {s s' : St} (h : Eqt s s') (hs : InL s) : InL s' := by
  obtain ⟨l, r, e, h5⟩ := hs
  have ho := h.opn
  rw [e] at ho
  cases he : s'.opn with
  | nil => rw [he] at ho; exact ho.elim
  | cons l' r' => rw [he] at ho; exact ⟨l', r', he, ho.1.kind ▸ h5⟩
theorem inL_fin {R : Ev → Bool} {x : Nd} (hx : Fin R x) {st : St} (h1 : (runP R st x.evs).2.2 = 0) (hs : InL st) : InL (runP R st x.evs).1 := by
  obtain ⟨l, r, e, h5⟩ := hs
  obtain ⟨opn, ov⟩ := st
  simp only [] at e
  subst e
  obtain ⟨o', e, hk⟩ := fin_keeps hx h1
  exact ⟨o', r, by rw [e], hk.trans h5⟩
/-- One more node on both sides. -/
theorem fin_step {R : Ev → Bool} {x z : Nd} (hx : Fin R x) (hz : Fin R z) {st st' : St} (he : Eqt st st') (h1 : (runP R st x.evs).2.2 = 0) (h2 : (runP R st' z.evs).2.2 = 0) (hk : InL st ∨ x.sk = z.sk) : Eqt (runP R st x.evs).1 (runP R st' z.evs).1 := by
  obtain ⟨h3, h4⟩ := run_eq (R := R) x.evs he
  exact h4.trans (fin_eq hx hz (h3.symm.trans h1) h2 (hk.imp (inL_eq he) id))
theorem fin_steps {R : Ev → Bool} : ∀ (l m : List Nd), l.length = m.length → (∀ x ∈ l, Fin R x) → (∀ x ∈ m, Fin R x) → ∀ {st st' : St}, Eqt st st' → (runP R st (Nd.evss l)).2.2 = 0 → (runP R st' (Nd.evss m)).2.2 = 0 → (InL st ∨ l.map Nd.sk = m.map Nd.sk) →
    Eqt (runP R st (Nd.evss l)).1 (runP R st' (Nd.evss m)).1 ∧ (InL st → InL (runP R st (Nd.evss l)).1)
  | [], [], _, _, _, st, st', he, _, _, _ => by rw [evss_nil]; exact ⟨he, id⟩
  | [], _ :: _, h, _, _, _, _, _, _, _, _ => by simp at h
  | _ :: _, [], h, _, _, _, _, _, _, _, _ => by simp at h
  | x :: l, z :: m, h, hl, hm, st, st', he, h1, h2, hk => by
    rw [evss_cons] at h1 h2 ⊢
    rw [evss_cons]
    obtain ⟨a1, a2⟩ := run_append R _ _ _ h1
    obtain ⟨b1, b2⟩ := run_append R _ _ _ h2
    rw [(run_more R _ _ _ a1).2, (run_more R _ _ _ b1).2]
    have hk1 : InL st ∨ x.sk = z.sk := hk.imp id fun h => by simp only [List.map_cons, List.cons.injEq] at h; exact h.1
    have e1 := fin_step (hl x (by simp)) (hm z (by simp)) he a1 b1 hk1
    have hk2 : InL (runP R st x.evs).1 ∨ l.map Nd.sk = m.map Nd.sk := hk.imp (inL_fin (hl x (by simp)) a1) fun h => by simp only [List.map_cons, List.cons.injEq] at h; exact h.2
    obtain ⟨r1, r2⟩ := fin_steps l m (by simpa using h) (fun y hy => hl y (by simp [hy])) (fun y hy => hm y (by simp [hy])) e1 a2 b2 hk2
    exact ⟨r1, fun hi => r2 (inL_fin (hl x (by simp)) a1 hi)⟩

/-- Can the kids of a node of that kind be made into others one after the other? -/
def Free (k : Int) (la lb : List Nd) : Prop := (∀ i j : Nat, la[i]? ≠ lb[i]? → la[j]? ≠ lb[j]? → i = j) ∨ k = 5 ∨ la.map Nd.sk = lb.map Nd.sk
/-- What lies between two trees. -/
inductive Mdl : Nd → Nd → Nd → Prop
  | left (a b : Nd) : Mdl a b a
  | right (a b : Nd) : Mdl a b b
  | step (k : Int) (t v : ByteArray) (l1 r1 l2 r2 : List Nd) (x y z : Nd) (h1 : l1.length = l2.length) (h2 : r1.length = r2.length) (hf : Free k (l1 ++ x :: r1) (l2 ++ y :: r2)) (hz : Mdl x y z) :
      Mdl (.mk k t v (l1 ++ x :: r1)) (.mk k t v (l2 ++ y :: r2)) (.mk k t v (l2 ++ z :: r1))
theorem mid_sk {x y z : Nd} (h : Mdl x y z) : z = y ∨ z.sk = x.sk := by
  cases h with
  | left => exact .inr rfl
  | right => exact .inl rfl
  | step => exact .inr rfl
theorem mid_self {a b m : Nd} (h : Mdl a b m) : a = b → m = a := by
  induction h with
  | left => intro _; rfl
  | right => intro h; exact h.symm
  | step k t v l1 r1 l2 r2 x y z h1 h2 hf hz ih =>
    intro h
    have h3 := (nd_ext.1 h).2.2.2
    obtain ⟨e1, e2⟩ := List.append_inj h3 h1
    simp only [List.cons.injEq] at e2
    rw [ih e2.1, e1]
theorem mid_good {a b m : Nd} (h : Mdl a b m) : a.good = true → b.good = true → m.good = true := by
  induction h with
  | left => intro h _; exact h
  | right => intro _ h; exact h
  | step k t v l1 r1 l2 r2 x y z h1 h2 hf hz ih =>
    intro ha hb
    rw [good_mk] at ha hb ⊢
    simp only [Bool.and_eq_true, Bool.not_eq_true'] at ha hb ⊢
    have ga := (goods_iff _).1 ha.2
    have gb := (goods_iff _).1 hb.2
    refine ⟨by rw [← hb.1]; simp [h2], (goods_iff _).2 fun w hw => ?_⟩
    rcases List.mem_append.1 hw with hw | hw
    · exact gb w (List.mem_append_left _ hw)
    · rcases List.mem_cons.1 hw with rfl | hw
      · exact ih (ga x (by simp)) (gb y (by simp))
      · exact ga w (by simp [hw])
theorem differ {l m : List Nd} (h : l ≠ m) : ∃ i : Nat, l[i]? ≠ m[i]? := Classical.byContradiction fun hn => h (List.ext_getElem? fun i => Classical.byContradiction fun hi => hn ⟨i, hi⟩)
theorem mid_run {R : Ev → Bool} {a b m : Nd} (h : Mdl a b m) : ∀ st, a.good = true → b.good = true → (runP R st a.evs).2.2 = 0 → (runP R st b.evs).2.2 = 0 → (runP R st m.evs).2.2 = 0 := by
  induction h with
  | left => intro st _ _ h _; exact h
  | right => intro st _ _ _ h; exact h
  | step k t v l1 r1 l2 r2 x y z h1 h2 hf hz ih =>
    intro st ha hb hra hrb
    have hm := mid_good (.step k t v l1 r1 l2 r2 x y z h1 h2 hf hz) ha hb
    by_cases hma : l2 ++ z :: r1 = l1 ++ x :: r1
    · rw [hma]; exact hra
    by_cases hmb : l2 ++ z :: r1 = l2 ++ y :: r2
    · rw [hmb]; exact hrb
    have key : (k = 5 ∨ (l1.map Nd.sk = l2.map Nd.sk)) ∧ (k = 5 ∨ x.sk = z.sk) := by
      rcases hf with hf | hf | hf
      · -- one place
        by_cases e1 : l1 = l2
        · refine ⟨.inr (by rw [e1]), ?_⟩
          by_cases e2 : r1 = r2
          · rcases mid_sk hz with e | e
            · exact absurd (by rw [e, e2]) hmb
            · exact .inr e.symm
          · exfalso
            obtain ⟨i, hi⟩ := differ e2
            have hxy : x = y := Classical.byContradiction fun hne => by
              have := hf l1.length (l1.length + 1 + i) (by rw [List.getElem?_append_right (Nat.le_refl _), h1, List.getElem?_append_right (Nat.le_refl _)]; simpa using hne) (by
                rw [List.getElem?_append_right (by omega), List.getElem?_append_right (by omega), show l1.length + 1 + i - l1.length = i + 1 by omega, show l1.length + 1 + i - l2.length = i + 1 by omega]
                simpa using hi)
              omega
            exact hma (by rw [mid_self hz hxy, e1])
        · exfalso
          obtain ⟨i, hi⟩ := differ e1
          have hil : i < l1.length := by
            rcases Nat.lt_or_ge i l1.length with h | h
            · exact h
            · rw [List.getElem?_eq_none h, List.getElem?_eq_none (by omega)] at hi; exact absurd rfl hi
          have hi' : (l1 ++ x :: r1)[i]? ≠ (l2 ++ y :: r2)[i]? := by rw [List.getElem?_append_left hil, List.getElem?_append_left (by omega)]; exact hi
          have hxy : x = y := Classical.byContradiction fun hne => by
            have := hf i l1.length hi' (by rw [List.getElem?_append_right (Nat.le_refl _), h1, List.getElem?_append_right (Nat.le_refl _)]; simpa using hne)
            omega
          have hrr : r1 = r2 := Classical.byContradiction fun hne => by
            obtain ⟨j, hj⟩ := differ hne
            have := hf i (l1.length + 1 + j) hi' (by
              rw [List.getElem?_append_right (by omega), List.getElem?_append_right (by omega), show l1.length + 1 + j - l1.length = j + 1 by omega, show l1.length + 1 + j - l2.length = j + 1 by omega]
              simpa using hj)
            omega
          exact hmb (by rw [mid_self hz hxy, hxy, hrr])
      · exact ⟨.inl hf, .inl hf⟩
      · rw [List.map_append, List.map_append, List.map_cons, List.map_cons] at hf
        obtain ⟨e1, e2⟩ := List.append_inj hf (by simpa using h1)
        simp only [List.cons.injEq] at e2
        refine ⟨.inr e1, .inr ?_⟩
        rcases mid_sk hz with e | e
        · rw [e]; exact e2.1
        · exact e.symm
    rw [evs_good ha] at hra
    rw [evs_good hb] at hrb
    rw [evs_good hm]
    obtain ⟨s0, a1, a2⟩ := runP_step hra
    obtain ⟨_, b1, b2⟩ := runP_step hrb
    have hL : k = 5 → InL (stepP R st (GoEv.ev ⟨k, t, v⟩)).1 := fun h5 => by
      rw [step_open s0 (.inl h5)]
      exact ⟨_, _, rfl, h5⟩
    obtain ⟨s1, hs1⟩ : ∃ s1, (stepP R st (GoEv.ev ⟨k, t, v⟩)).1 = s1 := ⟨_, rfl⟩
    rw [hs1] at a1 b1 hL
    have hgo : (runP R s1 (Nd.evss (l2 ++ z :: r1) ++ (if endK k = 0 then [] else [GoEv.ev (endEv k)]))).2.2 = 0 := by
      rw [good_mk] at ha hb
      simp only [Bool.and_eq_true, Bool.not_eq_true'] at ha hb
      have ga := (goods_iff _).1 ha.2
      have gb := (goods_iff _).1 hb.2
      have gz := mid_good hz (ga x (by simp)) (gb y (by simp))
      obtain ⟨a3, a4⟩ := run_append R _ _ _ a1
      obtain ⟨b3, b4⟩ := run_append R _ _ _ b1
      rw [evss_app, evss_cons] at a3 b3
      obtain ⟨a5, a6⟩ := run_append R _ _ _ a3
      obtain ⟨b5, b6⟩ := run_append R _ _ _ b3
      obtain ⟨a7, a8⟩ := run_append R _ _ _ a6
      obtain ⟨b7, b8⟩ := run_append R _ _ _ b6
      obtain ⟨e1, i1⟩ := fin_steps l1 l2 h1 (fun w hw => fin_all w (ga w (by simp [hw]))) (fun w hw => fin_all w (gb w (by simp [hw]))) (Eqt.refl s1) a5 b5 (key.1.imp hL id)
      have hxb : (runP R (runP R s1 (Nd.evss l2)).1 x.evs).2.2 = 0 := (run_eq (R := R) x.evs e1).1.symm.trans a7
      have hzz := ih _ (ga x (by simp)) (gb y (by simp)) hxb b7
      have e2 := fin_step (fin_all x (ga x (by simp))) (fin_all z gz) e1 a7 hzz (key.2.imp (fun h5 => i1 (hL h5)) id)
      have hr := (run_eq (R := R) (Nd.evss r1) e2).1.symm.trans a8
      have e3 := (run_eq (R := R) (Nd.evss r1) e2).2
      have m1 : (runP R s1 (Nd.evss (l2 ++ z :: r1))).2.2 = 0 := by
        rw [evss_app, evss_cons, (run_more R _ _ _ b5).1, (run_more R _ _ _ hzz).1]; exact hr
      have m2 : (runP R s1 (Nd.evss (l2 ++ z :: r1))).1 = (runP R (runP R (runP R s1 (Nd.evss l2)).1 z.evs).1 (Nd.evss r1)).1 := by
        rw [evss_app, evss_cons, (run_more R _ _ _ b5).2, (run_more R _ _ _ hzz).2]
      have m3 : (runP R s1 (Nd.evss (l1 ++ x :: r1))).1 = (runP R (runP R (runP R s1 (Nd.evss l1)).1 x.evs).1 (Nd.evss r1)).1 := by
        rw [evss_app, evss_cons, (run_more R _ _ _ a5).2, (run_more R _ _ _ a7).2]
      rw [(run_more R _ _ _ m1).1, m2]
      rw [m3] at a4
      exact (run_eq (R := R) _ e3).1.symm.trans a4
    rw [← hs1] at hgo
    simp only [runP, if_pos s0]
    exact hgo
theorem mid_wh {a b m : Nd} (h : Mdl a b m) (ha : a.wh = 0) (hb : b.wh = 0) : m.wh = 0 := by
  have ga := wh_good ha
  have gb := wh_good hb
  have hr := mid_run h St.new ga gb (whole_run ha) (whole_run hb)
  have hm := mid_good h ga gb
  unfold Nd.wh wholeP
  rw [if_neg (by rw [show m.walk.map GoEv.ev = m.evs from rfl, hr]; simp)]
  have hd : (runP RP St.new (m.walk.map GoEv.ev)).1.done = true := by
    rcases fin_all (R := RP) m hm St.new hr with ⟨_, e⟩ | ⟨_, l, r, _, e, _⟩ | ⟨_, l, r, e, _⟩
    · show (runP RP St.new m.evs).1.done = true
      rw [e]; rfl
    · cases e
    · cases e
  rw [if_pos hd]
end Go.Proofs.YtaolnpiemeaabaaGreatDoor

/- Rows of nodes of the call's own, cut and made longer: slices.Clone, Delete and Insert at []api.Node. -/
namespace Go.Proofs.YtaolnpiemeaabaaGreatDoor
open Go.RowKit Ev5
set_option linter.unusedSimpArgs false
set_option linter.unusedVariables false

/-! Laws of no program: cells stored over a row that is known whole. -/
def rowPut (cur : Array Value) (o : Nat) (cs : List Value) : Array Value := (cur.toList.take o ++ cs ++ cur.toList.drop (o + cs.length)).toArray
theorem rowPut_toList (cur : Array Value) (o : Nat) (cs : List Value) : (rowPut cur o cs).toList = cur.toList.take o ++ cs ++ cur.toList.drop (o + cs.length) := by simp [rowPut]
theorem rowPut_size {cur : Array Value} {o : Nat} {cs : List Value} (h : o + cs.length ≤ cur.size) : (rowPut cur o cs).size = cur.size := by
  unfold rowPut; simp; omega
theorem run_copy_rowN {P : Program} (w : World) (dT sT ty elem : TypeId) (sz : Nat) (g o dLen dCap : Nat) (a : Addr) (sLen sCap : Nat) (cur : Array Value) (t : TypeId) (cs : List Value)
    (hu : P.underlying dT = some (.slice elem)) (hs : (P.info? elem).map (·.size) = some sz)
    (hg : w.heap[g]? = some (.cells cur t (0, 0))) (hn : cs.length = Nat.min sLen dLen * sz)
    (hsrc : ∀ j v, cs[j]? = some v → w.cell? (a.add j) = some v) (hfit : o + cs.length ≤ cur.size) (h1 : ∀ v ∈ cs, v.oneCell' = true) :
    (Builtin.copy_ #[dT, sT] ty #[.slice (some ⟨g, o, none⟩) dLen dCap, .slice (some a) sLen sCap]).run P w =
      .ok (goInt (Nat.min sLen dLen : Nat)) (w.setRow g (rowPut cur o cs)) := by
  have hl := run_loadCells_list (P := P) w a cs hsrc
  have hst := run_storeCells_at P g o t cs 0 cur w hg (by simpa using hfit) h1
  rw [Nat.add_zero] at hst
  cases hq : P.info? elem with
  | none => simp [hq] at hs
  | some i =>
    have hi : i.size = sz := by simpa [hq] using hs
    simp [Builtin.copy_, run_underlying hu, Builtin.lenOf, Builtin.firstCells, sizeOf, typeInfo, hq, hi, ← hn, hl, hst, rowPut]
theorem run_append_rowN {P : Program} (w : World) (t ty e : TypeId) (i : TypeInfo) (ht : P.underlying t = some (.slice e)) (hi : P.info? e = some i)
    (g off sLen sCap : Nat) (a : Addr) (m c : Nat) (cur : Array Value) (tt : TypeId) (news : List Value) (hl : news.length = m * i.size) (hnews : ∀ j u, news[j]? = some u → w.cell? (a.add j) = some u) (h1 : ∀ u ∈ news, u.oneCell' = true)
    (hroom : sLen + m ≤ sCap) (hg : w.heap[g]? = some (.cells cur tt (0, 0))) (hfit : off + sLen * i.size + news.length ≤ cur.size) :
    (Builtin.append_ #[t, t] ty #[.slice (some ⟨g, off, none⟩) sLen sCap, .slice (some a) m c]).run P w = .ok (.slice (some ⟨g, off, none⟩) (sLen + m) sCap) (w.setRow g (rowPut cur (off + sLen * i.size) news)) := by
  have hfc := run_firstCells_some (P := P) w i.size m a m c news hl hnews
  have hst := run_storeCells_at P g (off + sLen * i.size) tt news 0 cur w hg (by simpa using hfit) h1
  simp only [Nat.add_zero] at hst
  simp [Builtin.append_, run_underlying ht, sizeOf, typeInfo, hi, Builtin.lenOf, hroom, hfc, Addr.add_lit, hst, rowPut]
theorem step_append_rowN {P : Program} {ops : Array Oper} {o : Oper} {a : Act} {w : World} {K : Act → World → Prop} {Q : Exit → Act → World → Prop} {E : Prop}
    (hgd : o.guard = none) (s x : Operand) (t : TypeId) (hop : o.op = Op.call { callee := Callee.builtin Builtin.append, args := #[s, x], argTypes := #[t, t] })
    {v u v' : Value} {w' : World} (hs : a.eval s = v) (hx : a.eval x = u) (hr : (Builtin.append_ #[t, t] o.type #[v, u]).run P w = .ok v' w')
    (hK : K (a.put o.dst v') w') :
    if Region.wanted o (yielded ops a.tmps) = true then Oper.wp P o a w K Q else E := by
  have hw : Region.wanted o (yielded ops a.tmps) = true := by simp [Region.wanted, hgd]
  rw [if_pos hw]
  unfold Oper.wp
  simp [execOp, hop, resolve, invoke, builtin, hs, hx, hr, Result.andThen]
  exact hK
theorem grown_setRow (w : World) (g : Nat) (cs : Array Value) : w.grownBy (w.setRow g cs) (some g) :=
  ⟨rfl, rfl, rfl, by simp, fun k _ hk => setRow_other w g k cs (fun e => hk (by rw [e]))⟩

/-! Rows of nodes. -/
theorem ndRow_app (a b : List (Nd × Value)) : ndRow (a ++ b) = ndRow a ++ ndRow b := by simp [ndRow]
theorem ndRow_take (l : List (Nd × Value)) (i : Nat) (h : i ≤ l.length) : (ndRow l).take (i * 4) = ndRow (l.take i) := by
  conv => lhs; rw [← List.take_append_drop i l, ndRow_app]
  rw [List.take_append_of_le_length (by rw [ndRow_len, List.length_take]; omega), List.take_of_length_le (by rw [ndRow_len, List.length_take]; omega)]
theorem ndRow_drop (l : List (Nd × Value)) (i : Nat) (h : i ≤ l.length) : (ndRow l).drop (i * 4) = ndRow (l.drop i) := by
  conv => lhs; rw [← List.take_append_drop i l, ndRow_app]
  rw [List.drop_append_of_le_length (by rw [ndRow_len, List.length_take]; omega), List.drop_of_length_le (by rw [ndRow_len, List.length_take]; omega), List.nil_append]
/-- A slice of nodes as its nodes and their kids' slices. -/
theorem SlIn.pairs {S : Nat → Prop} {w : World} {ao : Option Addr} {len cap : Nat} {ks : List Nd} (h : SlIn w S (.slice ao len cap) ks) :
    ∃ ps : List (Nd × Value), ps.map (·.1) = ks ∧ (∀ p ∈ ps, SlIn w S p.2 p.1.kids) ∧ (ks = [] ∨ ∃ b o, ao = some ⟨b, o, none⟩ ∧ S b ∧ b < w.heap.size ∧ ∀ j u, (ndRow ps)[j]? = some u → w.cell? ⟨b, o + j, none⟩ = some u) := by
  obtain ⟨a, cap', e, hc, hm, h4⟩ := h
  injection e with e1 e2 e3
  subst e1
  rcases h4 with rfl | ⟨b, o, rfl, hs, hlt, hk⟩
  · exact ⟨[], rfl, fun p hp => (by cases hp), .inl rfl⟩
  · have gen : ∀ (ks : List Nd) (o : Nat), KidsIn w S b o ks → ∃ ps : List (Nd × Value), ps.map (·.1) = ks ∧ (∀ p ∈ ps, SlIn w S p.2 p.1.kids) ∧ ∀ j u, (ndRow ps)[j]? = some u → w.cell? ⟨b, o + j, none⟩ = some u := by
      intro ks
      induction ks with
      | nil => intro o _; exact ⟨[], rfl, fun p hp => (by cases hp), fun j u hj => by simp [ndRow] at hj⟩
      | cons x r ih =>
        intro o hk
        obtain ⟨h0, hr⟩ := kidsIn_cons.1 hk
        obtain ⟨c0, c1, c2, u, c3, hu⟩ := ndAt_iff.1 h0
        obtain ⟨ps, hp, hq, hcell⟩ := ih (o + 4) hr
        refine ⟨(x, u) :: ps, by rw [List.map_cons, hp], fun p hp => ?_, fun j v hj => ?_⟩
        · rcases List.mem_cons.1 hp with rfl | hp
          · exact hu
          · exact hq p hp
        · have e : ndRow ((x, u) :: ps) = ndL x u ++ ndRow ps := by simp [ndRow]
          rw [e] at hj
          by_cases hj4 : j < 4
          · rw [List.getElem?_append_left (by simp [ndL]; omega)] at hj
            match j, hj4 with
            | 0, _ => simp [ndL] at hj; subst hj; exact c0
            | 1, _ => simp [ndL] at hj; subst hj; exact c1
            | 2, _ => simp [ndL] at hj; subst hj; exact c2
            | 3, _ => simp [ndL] at hj; subst hj; exact c3
          · rw [List.getElem?_append_right (by simp [ndL]; omega)] at hj
            have := hcell (j - 4) v (by simpa [ndL] using hj)
            rwa [show o + 4 + (j - 4) = o + j by omega] at this
    obtain ⟨ps, h1, h2, h3⟩ := gen ks o hk
    exact ⟨ps, h1, h2, .inr ⟨b, o, rfl, hs, hlt, h3⟩⟩
theorem ndRow_one (ps : List (Nd × Value)) (h : ∀ p ∈ ps, p.2.oneCell' = true) : ∀ u ∈ ndRow ps, u.oneCell' = true := by
  intro u hu
  unfold ndRow at hu
  obtain ⟨p, hp, hu⟩ := List.mem_flatMap.1 hu
  simp [ndL] at hu
  rcases hu with rfl | rfl | rfl | rfl
  · rfl
  · rfl
  · rfl
  · exact h p hp
theorem SlIn.one {S : Nat → Prop} {w : World} {u : Value} {ks : List Nd} (h : SlIn w S u ks) : u.oneCell' = true := by
  obtain ⟨a, cap, rfl, _⟩ := h; rfl

/-- What Clone hands back. -/
def NClone (S : Nat → Prop) (ks : List Nd) (w : World) (e : Ending) (w' : World) : Prop := ∃ v ps, e = .returned v ∧ ps.map (·.1) = ks ∧ w'.ownsRow w.heap.size 24 4 v ps.length (ndRow ps) ∧ (∀ p ∈ ps, SlIn w S p.2 p.1.kids) ∧ Below w.heap.size w w'
/-- What Delete and Insert hand back: the row ps in the place of the row v. -/
def NRow (base : Nat) (v : Value) (ps : List (Nd × Value)) (w : World) (e : Ending) (w' : World) : Prop := ∃ v', e = .returned v' ∧ w'.ownsRow base 24 4 v' ps.length (ndRow ps) ∧ w.grownBy w' v.ownBlock ∧ (v'.ownBlock = v.ownBlock ∨ v'.ownBlock = some w.heap.size)
theorem take_rowPut {cur : Array Value} {o k : Nat} {cs : List Value} (h : k ≤ o) (ho : o ≤ cur.size) : (rowPut cur o cs).toList.take k = cur.toList.take k := by
  rw [rowPut_toList, List.append_assoc]
  rw [List.take_append_of_le_length (by simp; omega), List.take_take, Nat.min_eq_left h]
/-- A gap is made and filled. -/
theorem put_gap {cur : Array Value} {X N : List Value} {n i : Nat} (hX : X.length = n * 4) (ht : cur.toList.take (n * 4) = X) (hN : N.length = 4) (hi : i ≤ n) (hs : (n + 1) * 4 ≤ cur.size) :
    (rowPut (rowPut cur ((i + 1) * 4) (X.drop (i * 4))) (i * 4) N).toList.take ((n + 1) * 4) = X.take (i * 4) ++ N ++ X.drop (i * 4) := by
  have hd : (X.drop (i * 4)).length = (n - i) * 4 := by rw [List.length_drop, hX]; omega
  have hs1 : (rowPut cur ((i + 1) * 4) (X.drop (i * 4))).size = cur.size := rowPut_size (by rw [hd]; omega)
  have e1 : (rowPut cur ((i + 1) * 4) (X.drop (i * 4))).toList.take (i * 4) = X.take (i * 4) := by
    rw [take_rowPut (by omega) (by omega), ← ht, List.take_take, Nat.min_eq_left (by omega)]
  have e2 : (rowPut cur ((i + 1) * 4) (X.drop (i * 4))).toList.drop (i * 4 + N.length) = X.drop (i * 4) ++ cur.toList.drop ((i + 1) * 4 + (X.drop (i * 4)).length) := by
    rw [rowPut_toList, List.append_assoc]
    rw [List.drop_append_of_le_length (by simp; omega), List.drop_of_length_le (by simp; omega), List.nil_append]
  have e3 : (rowPut (rowPut cur ((i + 1) * 4) (X.drop (i * 4))) (i * 4) N).toList = X.take (i * 4) ++ N ++ (X.drop (i * 4) ++ cur.toList.drop ((i + 1) * 4 + (X.drop (i * 4)).length)) := by
    rw [rowPut_toList (rowPut cur ((i + 1) * 4) (X.drop (i * 4))), e1, e2]
  rw [e3, ← List.append_assoc, List.take_append_of_le_length (by simp only [List.length_append, List.length_take, hN, hd, hX]; omega), List.take_of_length_le (by simp only [List.length_append, List.length_take, hN, hd, hX]; omega)]
/-- The new row is filled: what is laid in, then what stood behind. -/
theorem put_new {cur : Array Value} {A N T : List Value} {n i : Nat} (hA : A.length = i * 4) (ht : cur.toList.take (i * 4) = A) (hN : N.length = 4) (hT : T.length = (n - i) * 4) (hi : i ≤ n) (hs : (n + 1) * 4 ≤ cur.size) :
    (rowPut (rowPut cur (i * 4) N) ((i + 1) * 4) T).toList.take ((n + 1) * 4) = A ++ N ++ T := by
  have hs1 : (rowPut cur (i * 4) N).size = cur.size := rowPut_size (by omega)
  have e1 : (rowPut cur (i * 4) N).toList.take ((i + 1) * 4) = A ++ N := by
    rw [rowPut_toList]
    rw [ht, List.take_append_of_le_length (by simp; omega), List.take_of_length_le (by simp; omega)]
  have e3 : (rowPut (rowPut cur (i * 4) N) ((i + 1) * 4) T).toList = A ++ N ++ T ++ (rowPut cur (i * 4) N).toList.drop ((i + 1) * 4 + T.length) := by
    rw [rowPut_toList (rowPut cur (i * 4) N), e1]
  rw [e3, List.take_append_of_le_length (by simp only [List.length_append, hA, hN, hT]; omega), List.take_of_length_le (by simp only [List.length_append, hA, hN, hT]; omega)]
theorem put_cut {cur : Array Value} {X Z : List Value} {n i : Nat} (hX : X.length = n * 4) (ht : cur.toList.take (n * 4) = X) (hZ : Z.length = 4) (hi : i < n) (hs : n * 4 ≤ cur.size) :
    (rowPut (rowPut cur (i * 4) (X.drop ((i + 1) * 4))) ((n - 1) * 4) Z).toList.take ((n - 1) * 4) = X.take (i * 4) ++ X.drop ((i + 1) * 4) := by
  have hd : (X.drop ((i + 1) * 4)).length = (n - 1 - i) * 4 := by rw [List.length_drop, hX]; omega
  have hs1 : (rowPut cur (i * 4) (X.drop ((i + 1) * 4))).size = cur.size := rowPut_size (by rw [hd]; omega)
  rw [take_rowPut (Nat.le_refl _) (by omega)]
  rw [rowPut_toList]
  rw [show cur.toList.take (i * 4) = X.take (i * 4) by rw [← ht, List.take_take, Nat.min_eq_left (by omega)], List.take_append_of_le_length (by simp only [List.length_append, List.length_take, hd, hX]; omega), List.take_of_length_le (by simp only [List.length_append, List.length_take, hd, hX]; omega)]
/-- What a value looks like that owns some nodes. -/
theorem owns_form {w : World} {base : Nat} {v : Value} {ps : List (Nd × Value)} (h : w.ownsRow base 24 4 v ps.length (ndRow ps)) (hn : 0 < ps.length) :
    ∃ g cap cur, v = .slice (some ⟨g, 0, none⟩) ps.length cap ∧ base ≤ g ∧ w.heap[g]? = some (.cells cur 24 (0, 0)) ∧ ps.length ≤ cap ∧ cap ≤ maxLen ∧ cur.size = cap * 4 ∧ cur.toList.take (ps.length * 4) = ndRow ps := by
  rcases h.2 with ⟨_, h0⟩ | ⟨g, cap, cur, hv, hb, hg, hc, hm, hs, ht⟩
  · omega
  · exact ⟨g, cap, cur, hv, hb, hg, hc, hm, hs, ht⟩
theorem cell_row {w : World} {g : Nat} {cur : Array Value} {t : TypeId} {fr : Nat × Nat} (h : w.heap[g]? = some (.cells cur t fr)) (j : Nat) (u : Value) (hu : cur.toList[j]? = some u) : w.cell? ⟨g, j, none⟩ = some u := by
  rw [cell_of_row w g j cur t fr h]; simpa using hu
theorem row_at {cur : Array Value} {X : List Value} {n : Nat} (ht : cur.toList.take n = X) (j : Nat) (u : Value) (hu : X[j]? = some u) : cur.toList[j]? = some u := by
  rw [← ht, List.getElem?_take] at hu
  split at hu
  · exact hu
  · cases hu
def zeroN : List Value := [.int .i64 0, .string ⟨#[]⟩, .string ⟨#[]⟩, .slice none 0 0]

end Go.Proofs.YtaolnpiemeaabaaGreatDoor

/- slices.Insert of one node. -/
namespace Go.Proofs.YtaolnpiemeaabaaGreatDoor
open Go.RowKit Ev5
set_option linter.unusedSimpArgs false
set_option linter.unusedVariables false

theorem shape_of_blk {w : World} {b : Nat} {cs : Array Value} {t : TypeId} {fr : Nat × Nat} (h : w.heap[b]? = some (.cells cs t fr)) : w.shape? b = some (t, cs.size) := by
  simp [World.shape?, h]
theorem zeroCells_size (z : Array Value) (n : Nat) : (Builtin.zeroCells z n).size = n * z.size := by simp [Builtin.zeroCells]
theorem mixedN : Tryz.prog.follows .mixedOrders = true := by kernel_rfl

end Go.Proofs.YtaolnpiemeaabaaGreatDoor

/- A tree that is changed in place: the node at a place, known whole, and what stands around it; the walk of (*work).at. -/
namespace Go.Proofs.YtaolnpiemeaabaaGreatDoor
open Go.RowKit Ev5
set_option linter.unusedSimpArgs false
set_option linter.unusedVariables false

/-- What may have turned: four cells of one block; and there may be new blocks. -/
structure Far (w w' : World) (g o : Nat) : Prop where
  size : w.heap.size ≤ w'.heap.size
  os : w'.os = w.os
  tape : w'.tape = w.tape
  output : w'.output = w.output
  oth : ∀ b, b < w.heap.size → b ≠ g → w'.heap[b]? = w.heap[b]?
  row : ∀ cs ty, w.heap[g]? = some (.cells cs ty (0, 0)) → ∃ cs', w'.heap[g]? = some (.cells cs' ty (0, 0)) ∧ cs'.size = cs.size ∧ ∀ j, (j < o ∨ o + 4 ≤ j) → cs'[j]? = cs[j]?
theorem Far.of {w w' : World} (h : Below w.heap.size w w') (g o : Nat) : Far w w' g o :=
  ⟨h.size, h.os, h.tape, h.output, fun b hb _ => h.block b hb, fun cs ty hg => ⟨cs, (h.block g (lt_blk hg)).trans hg, rfl, fun _ _ => rfl⟩⟩
theorem Far.trans {a b c : World} {g o : Nat} (h : Far a b g o) (k : Far b c g o) : Far a c g o := by
  refine ⟨Nat.le_trans h.size k.size, k.os.trans h.os, k.tape.trans h.tape, k.output.trans h.output, fun q hq hn => (k.oth q (Nat.lt_of_lt_of_le hq h.size) hn).trans (h.oth q hq hn), fun cs ty hg => ?_⟩
  obtain ⟨c1, h1, z1, j1⟩ := h.row cs ty hg
  obtain ⟨c2, h2, z2, j2⟩ := k.row c1 ty h1
  exact ⟨c2, h2, z2.trans z1, fun j hj => (j2 j hj).trans (j1 j hj)⟩
/-- A block that is new to the first world may be turned besides. -/
theorem Far.grown {a b c : World} {g o : Nat} {r : Option Nat} (h : Far a b g o) (hg : g < a.heap.size) (k : b.grownBy c r) (hr : ∀ q, r = some q → a.heap.size ≤ q) : Far a c g o := by
  have hne : ∀ q, q < a.heap.size → some q ≠ r := fun q hq e => by have := hr q e.symm; omega
  refine ⟨Nat.le_trans h.size k.size, k.os.trans h.os, k.tape.trans h.tape, k.output.trans h.output, fun q hq hn => (k.block q (Nat.lt_of_lt_of_le hq h.size) (hne q hq)).trans (h.oth q hq hn), fun cs ty hgc => ?_⟩
  obtain ⟨c1, h1, z1, j1⟩ := h.row cs ty hgc
  exact ⟨c1, (k.block g (lt_blk h1) (hne g hg)).trans h1, z1, j1⟩
theorem Far.below {w w' : World} {g o base : Nat} (h : Far w w' g o) (hg : base ≤ g) (hb : base ≤ w.heap.size) : Below base w w' :=
  ⟨h.os, h.tape, h.output, h.size, fun k hk => h.oth k (by omega) (by omega)⟩
theorem blk_set {w : World} {g j : Nat} {cs : Array Value} {ty : TypeId} {y : Value} (h : w.heap[g]? = some (.cells cs ty (0, 0))) : (w.setCell ⟨g, j, none⟩ y).heap[g]? = some (.cells (cs.setIfInBounds j y) ty (0, 0)) := by
  obtain ⟨hlt, he⟩ := Array.getElem?_eq_some_iff.1 h
  show (w.heap.modify g _)[g]? = _
  rw [Array.getElem?_eq_getElem (by rw [Array.size_modify]; exact hlt), Array.getElem_modify_self, he]
  rfl
theorem Far.store {w : World} {g o j : Nat} {y : Value} (hj : o ≤ j) (hj2 : j < o + 4) : Far w (w.setCell ⟨g, j, none⟩ y) g o := by
  refine ⟨by simp, rfl, rfl, rfl, fun b _ hn => set_other hn, fun cs ty hg => ⟨_, blk_set hg, by simp, fun k hk => ?_⟩⟩
  rw [Array.getElem?_setIfInBounds_ne (by omega)]
theorem cell_set_same {w : World} {g j : Nat} {cs : Array Value} {ty : TypeId} {y : Value} (h : w.heap[g]? = some (.cells cs ty (0, 0))) (hj : j < cs.size) : (w.setCell ⟨g, j, none⟩ y).cell? ⟨g, j, none⟩ = some y := by
  rw [cell_of_row _ g j _ ty (0, 0) (blk_set (j := j) (y := y) h), Array.getElem?_setIfInBounds_self_of_lt hj]
theorem cell_set_ne {w : World} {g j k : Nat} {cs : Array Value} {ty : TypeId} {y : Value} (h : w.heap[g]? = some (.cells cs ty (0, 0))) (hk : k ≠ j) : (w.setCell ⟨g, j, none⟩ y).cell? ⟨g, k, none⟩ = w.cell? ⟨g, k, none⟩ := by
  rw [cell_of_row _ g k _ ty (0, 0) (blk_set (j := j) (y := y) h), cell_of_row _ g k _ ty (0, 0) h, Array.getElem?_setIfInBounds_ne (by omega)]

/-- A node that may be written into; its kids' rows lie in other blocks. -/
structure Np (w : World) (B g o : Nat) (m : Nd) : Prop where
  blk : ∃ cs ty, w.heap[g]? = some (.cells cs ty (0, 0)) ∧ o + 4 ≤ cs.size
  nd : NdAt w (fun b => b ≠ g ∧ b ≠ B) g o m
  lo : B ≤ g
structure NpCells (w : World) (g o : Nat) (k : Int) (t v : ByteArray) (u : Value) : Prop where
  c0 : w.cell? ⟨g, o, none⟩ = some (.int .i64 k)
  c1 : w.cell? ⟨g, o + 1, none⟩ = some (.string t)
  c2 : w.cell? ⟨g, o + 2, none⟩ = some (.string v)
  c3 : w.cell? ⟨g, o + 3, none⟩ = some u
  f0 : w.frozen? ⟨g, o, none⟩ = false
  f1 : w.frozen? ⟨g, o + 1, none⟩ = false
  f2 : w.frozen? ⟨g, o + 2, none⟩ = false
  f3 : w.frozen? ⟨g, o + 3, none⟩ = false
  lt : g < w.heap.size
theorem Np.cells {w : World} {B g o : Nat} {m : Nd} (h : Np w B g o m) : ∃ a cap, NpCells w g o m.k m.t m.v (.slice a m.kids.length cap) ∧ SlIn w (fun b => b ≠ g ∧ b ≠ B) (.slice a m.kids.length cap) m.kids ∧ m.kids.length ≤ cap ∧ cap ≤ maxLen := by
  obtain ⟨cs, ty, hg, hs⟩ := h.blk
  obtain ⟨c0, c1, c2, u, c3, hu⟩ := ndAt_iff.1 h.nd
  obtain ⟨a, cap, rfl, hc, hm⟩ := hu.shape
  have fz : ∀ j, w.frozen? ⟨g, j, none⟩ = false := fun j => by simp [World.frozen?, hg]
  exact ⟨a, cap, ⟨c0, c1, c2, c3, fz _, fz _, fz _, fz _, lt_blk hg⟩, hu, hc, hm⟩
theorem Np.below {w w' : World} {B g o : Nat} {m : Nd} (h : Np w B g o m) (hb : Below w.heap.size w w') : Np w' B g o m := by
  obtain ⟨cs, ty, hg, hs⟩ := h.blk
  have := hb.block g (lt_blk hg)
  exact ⟨⟨cs, ty, this.trans hg, hs⟩, ndAt_alike (alike_below hb) (fun b h _ => h) m g o this h.nd, h.lo⟩
/-- Whatever is laid there: what the whole tree is then. -/
def Hole (w : World) (B : Nat) (n : Nd) (place : List Int) (g o : Nat) : Prop := ∀ w' m', Far w w' g o → NdAt w' (fun b => b ≠ B) g o m' → NdAt w' (fun b => b ≠ B) B 0 (n.put place [m'])
theorem hole_root (w : World) (B : Nat) (n : Nd) : Hole w B n [] B 0 := fun w' m' _ h => by rw [put_nil]; exact h

theorem owns_cells {w : World} {base g cap : Nat} {ps : List (Nd × Value)} {cur : Array Value} (ht : cur.toList.take (ps.length * 4) = ndRow ps) (i : Nat) (hi : i < ps.length) :
    cur[i * 4]? = some (.int .i64 ps[i].1.k) ∧ cur[i * 4 + 1]? = some (.string ps[i].1.t) ∧ cur[i * 4 + 2]? = some (.string ps[i].1.v) ∧ cur[i * 4 + 3]? = some ps[i].2 := by
  have c : ∀ j u, j < 4 → (ndL ps[i].1 ps[i].2)[j]? = some u → cur[i * 4 + j]? = some u := by
    intro j u hj hu
    have h1 := row_at ht (i * 4 + j) u (by rw [ndRow_at ps i hi j hj]; exact hu)
    simpa using h1
  exact ⟨by simpa using c 0 _ (by omega) rfl, c 1 _ (by omega) rfl, c 2 _ (by omega) rfl, c 3 _ (by omega) rfl⟩

/-- A node's kids' row is made anew, and laid in the node: the i-th kid, and what stands around it. -/
theorem np_down {w w1 : World} {B g o : Nat} {n m : Nd} {place : List Int} {v : Value} {ps : List (Nd × Value)} {i : Nat} (hN : Np w B g o m) (hH : Hole w B n place g o) (hat : n.at_ place = some m) (hi : i < m.kids.length)
    (hps : ps.map (·.1) = m.kids) (hown : w1.ownsRow w.heap.size 24 4 v ps.length (ndRow ps)) (hsl : ∀ p ∈ ps, SlIn w (fun b => b ≠ g ∧ b ≠ B) p.2 p.1.kids) (hb : Below w.heap.size w w1) :
    ∃ g2 cap, v = .slice (some ⟨g2, 0, none⟩) m.kids.length cap ∧ m.kids.length ≤ cap ∧ cap ≤ maxLen ∧ Np (w1.setCell ⟨g, o + 3, none⟩ v) B g2 (i * 4) m.kids[i] ∧ Hole (w1.setCell ⟨g, o + 3, none⟩ v) B n (place ++ [(i : Int)]) g2 (i * 4) := by
  have hpl : ps.length = m.kids.length := by rw [← hps, List.length_map]
  obtain ⟨g2, cap, cur, rfl, hb2, hg2, hc, hm, hs, ht⟩ := owns_form hown (by omega)
  obtain ⟨cs, ty, hg, hos⟩ := hN.blk
  have hgl := lt_blk hg
  have hne : g2 ≠ g := by omega
  have hlo := hN.lo
  obtain ⟨W, hW⟩ : ∃ W, w1.setCell ⟨g, o + 3, none⟩ (.slice (some ⟨g2, 0, none⟩) ps.length cap) = W := ⟨_, rfl⟩
  have hg1 : w1.heap[g]? = some (.cells cs ty (0, 0)) := (hb.block g hgl).trans hg
  have hWg : W.heap[g]? = some (.cells (cs.setIfInBounds (o + 3) (.slice (some ⟨g2, 0, none⟩) ps.length cap)) ty (0, 0)) := by rw [← hW]; exact blk_set hg1
  have hWg2 : W.heap[g2]? = some (.cells cur 24 (0, 0)) := by rw [← hW, set_other hne]; exact hg2
  have hWo : ∀ b, b < w.heap.size → b ≠ g → W.heap[b]? = w.heap[b]? := fun b hbl hn => by rw [← hW, set_other hn]; exact hb.block b hbl
  have hWs : w.heap.size ≤ W.heap.size := by rw [← hW]; simpa using hb.size
  have hkid : ∀ (j : Nat) (hj : j < ps.length), ps[j].1 = m.kids[j]'(by omega) := fun j hj => by
    have : (ps.map (·.1))[j]? = m.kids[j]? := by rw [hps]
    rw [List.getElem?_map, List.getElem?_eq_getElem hj, List.getElem?_eq_getElem (by omega)] at this
    exact Option.some.inj this
  refine ⟨g2, cap, by rw [hpl], by omega, hm, ?_, ?_⟩
  · rw [hW]
    obtain ⟨r0, r1, r2, r3⟩ := owns_cells (w := w) (base := 0) (g := g2) (cap := cap) ht i (by omega)
    rw [hkid i (by omega)] at r0 r1 r2
    have cc : ∀ j u, cur[j]? = some u → W.cell? ⟨g2, j, none⟩ = some u := fun j u hu => by rw [cell_of_row W g2 j _ _ _ hWg2]; exact hu
    refine ⟨⟨cur, _, hWg2, by omega⟩, ndAt_iff.2 ⟨cc _ _ r0, cc _ _ r1, cc _ _ r2, ps[i].2, cc _ _ r3, ?_⟩, by omega⟩
    rw [← hkid i (by omega)]
    exact (hsl ps[i] (List.getElem_mem (by omega))).alike ⟨hWs, fun b hb hl => hWo b hl hb.1⟩ fun b hb hl => ⟨by omega, hb.2⟩
  · rw [hW]
    intro w' m' hF hm'
    obtain ⟨cur', h2', hz', hj'⟩ := hF.row cur _ hWg2
    have hgW := lt_blk hWg
    have h1' : w'.heap[g]? = some (.cells (cs.setIfInBounds (o + 3) (.slice (some ⟨g2, 0, none⟩) ps.length cap)) ty (0, 0)) := (hF.oth g hgW (fun e => hne e.symm)).trans hWg
    have ho' : ∀ b, b < w.heap.size → b ≠ g → w'.heap[b]? = w.heap[b]? := fun b hbl hn => (hF.oth b (by omega) (by omega)).trans (hWo b hbl hn)
    have hFar : Far w w' g o := by
      refine ⟨Nat.le_trans hWs hF.size, hF.os.trans (by rw [← hW]; exact hb.os), hF.tape.trans (by rw [← hW]; exact hb.tape), hF.output.trans (by rw [← hW]; exact hb.output), ho', fun cs2 ty2 h => ?_⟩
      rw [hg] at h; injection h with h; injection h with e1 e2; subst e1; subst e2
      exact ⟨_, h1', by simp, fun j hj => by rw [Array.getElem?_setIfInBounds_ne (by omega)]⟩
    rw [put_last hat hi]
    refine hH w' _ hFar ?_
    obtain ⟨c0, c1, c2, _⟩ := ndAt_iff.1 hN.nd
    have cg : ∀ j, j ≠ o + 3 → w'.cell? ⟨g, j, none⟩ = w.cell? ⟨g, j, none⟩ := fun j hj => by
      rw [cell_of_row w' g j _ _ _ h1', cell_of_row w g j _ _ _ hg, Array.getElem?_setIfInBounds_ne (by omega)]
    have hset : m.kids.take i ++ [m'] ++ m.kids.drop (i + 1) = m.kids.set i m' := by
      rw [List.set_eq_take_append_cons_drop, if_pos hi, List.append_assoc]; rfl
    refine ndAt_iff.2 ⟨by rw [cg _ (by omega)]; exact c0, by rw [cg _ (by omega)]; exact c1, by rw [cg _ (by omega)]; exact c2, .slice (some ⟨g2, 0, none⟩) ps.length cap, ?_, ?_⟩
    · rw [cell_of_row w' g (o + 3) _ _ _ h1', Array.getElem?_setIfInBounds_self_of_lt (by omega)]
    · show SlIn w' (fun b => b ≠ B) _ (m.kids.take i ++ [m'] ++ m.kids.drop (i + 1))
      rw [hset]
      refine ⟨some ⟨g2, 0, none⟩, cap, by rw [List.length_set, hpl], by rw [List.length_set]; omega, hm, .inr ⟨g2, 0, rfl, by omega, lt_blk h2', kidsIn_iff.2 fun j hj => ?_⟩⟩
      rw [List.length_set] at hj
      rw [Nat.zero_add, List.getElem_set]
      split
      · rename_i e; subst e; exact hm'
      · rename_i hji
        obtain ⟨r0, r1, r2, r3⟩ := owns_cells (w := w) (base := 0) (g := g2) (cap := cap) ht j (by omega)
        rw [hkid j (by omega)] at r0 r1 r2
        have cc : ∀ q u, cur[j * 4 + q]? = some u → q < 4 → w'.cell? ⟨g2, j * 4 + q, none⟩ = some u := fun q u hu hq => by rw [cell_of_row w' g2 _ _ _ _ h2', hj' _ (by omega)]; exact hu
        refine ndAt_iff.2 ⟨by simpa using cc 0 _ r0 (by omega), cc 1 _ r1 (by omega), cc 2 _ r2 (by omega), ps[j].2, cc 3 _ r3 (by omega), ?_⟩
        rw [← hkid j (by omega)]
        exact (hsl ps[j] (List.getElem_mem (by omega))).alike ⟨Nat.le_trans hWs hF.size, fun b hb hl => ho' b hl hb.1⟩ fun b hb _ => hb.2

/-- What is done to the node at a place, and what is told. -/
noncomputable def atP (n : Nd) (place : List Int) (f : Nd → Nd × Int) : Nd × Int :=
  match n.at_ place with
  | none => (n, 21)
  | some m => if (f m).2 = 0 then (n.put place [(f m).1], 0) else (n, (f m).2)
def DoPost (B g o : Nat) (r : Nd × Int) (w : World) (e : Ending) (w' : World) : Prop := e = .returned (.int .i64 r.2) ∧ Far w w' g o ∧ (r.2 = 0 → NdAt w' (fun b => b ≠ B) g o r.1)
/-- A function value that does something to a node. -/
def DoOf (w0 : World) (B N : Nat) (F : Nat) (caps : Array Value) (f : Nd → Nd × Int) : Prop := ∀ (w : World) (g o : Nat) (m : Nd), Far w0 w B 0 → Np w B g o m → m.size ≤ N → ((g = B ∧ o = 0) ∨ w0.heap.size ≤ g) → Calls Tryz.prog F (#[.pointer (some ⟨g, o, none⟩)] ++ caps) w (DoPost B g o (f m) w)
def RootPost (B : Nat) (r : Nd × Int) (w : World) (e : Ending) (w' : World) : Prop := e = .returned (.int .i64 r.2) ∧ Below B w w' ∧ (r.2 = 0 → Np w' B B 0 r.1)
theorem np_root {w w' : World} {B : Nat} {n m : Nd} (h : Np w B B 0 n) (hb : Far w w' B 0) (hm : NdAt w' (fun b => b ≠ B) B 0 m) : Np w' B B 0 m := by
  obtain ⟨cs, ty, hg, hs⟩ := h.blk
  obtain ⟨c1, h1, z1, _⟩ := hb.row cs ty hg
  exact ⟨⟨c1, ty, h1, by omega⟩, ndAt_alike ⟨Nat.le_refl _, fun _ _ _ => rfl⟩ (fun b h _ => ⟨h, h⟩) m B 0 rfl hm, Nat.le_refl _⟩
end Go.Proofs.YtaolnpiemeaabaaGreatDoor

/- The walk of (*work).at. -/
namespace Go.Proofs.YtaolnpiemeaabaaGreatDoor
open Go.RowKit Ev5
set_option linter.unusedSimpArgs false
set_option linter.unusedVariables false

theorem atP_none {n : Nd} {place : List Int} {f : Nd → Nd × Int} (h : n.at_ place = none) : atP n place f = (n, 21) := by unfold atP; rw [h]
theorem atP_some {n m : Nd} {place : List Int} {f : Nd → Nd × Int} (h : n.at_ place = some m) : atP n place f = if (f m).2 = 0 then (n.put place [(f m).1], 0) else (n, (f m).2) := by unfold atP; rw [h]
theorem far_step {w0 w w' : World} {B g o : Nat} (h : Far w0 w B 0) (hB : B < w0.heap.size) (hf : Far w w' g o) (hg : (g = B ∧ o = 0) ∨ w0.heap.size ≤ g) : Far w0 w' B 0 := by
  rcases hg with ⟨rfl, rfl⟩ | hg
  · exact h.trans hf
  · refine ⟨Nat.le_trans h.size hf.size, hf.os.trans h.os, hf.tape.trans h.tape, hf.output.trans h.output, fun b hb hn => (hf.oth b (Nat.lt_of_lt_of_le hb h.size) (by omega)).trans (h.oth b hb hn), fun cs ty hc => ?_⟩
    obtain ⟨c1, h1, z1, j1⟩ := h.row cs ty hc
    exact ⟨c1, (hf.oth B (lt_blk h1) (by omega)).trans h1, z1, j1⟩
theorem far_refl (w : World) (g o : Nat) : Far w w g o := Far.of (Below.refl _ _) g o
/-- A function with a body of its own. -/
def EntersF (F : Nat) : Prop := ∀ (args : Array Value) (w : World), (callFunc F args).run Tryz.prog w = .ok (.enter F args) w
theorem enters_of {F : Nat} {fn : Func} (hf : Tryz.prog.funcs[F]? = some fn) (hn : (fn.name == "runtime.NumGoroutine") = false) (hb : fn.body.isSome = true) : EntersF F := fun args w => by
  have h1 : ¬ fn.name = "runtime.NumGoroutine" := by simpa using hn
  have h2 : ¬ fn.body = none := by cases h : fn.body with | none => rw [h] at hb; cases hb | some b => simp
  simp [callFunc, hf, h1, h2]
theorem grown_refl (w : World) (r : Option Nat) : w.grownBy w r := ⟨rfl, rfl, rfl, Nat.le_refl _, fun _ _ _ => rfl⟩

end Go.Proofs.YtaolnpiemeaabaaGreatDoor
