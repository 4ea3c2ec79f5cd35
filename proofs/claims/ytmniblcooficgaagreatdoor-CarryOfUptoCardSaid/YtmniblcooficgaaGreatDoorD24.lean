import Derived.Deep.AppendLies
import Derived.Deep.RegionLaw
import Derived.ChangeSlices
import Derived.Maps.AppendAt
import Derived.Lib.Overlaps
import Derived.Lib.SliceRun
import Derived.Lib.AppendZerosOnto
import Derived.Shelf.Spec.SlicesInsert
import Derived.Shelf.Spec.SlicesInsertGrow
import Derived.Test.YtmniblcooficgaaGreatDoorD23
import Derived.Test.YtmniblcooficgaaGreatDoorD20
import Derived.Shelf.Strings.OnBuilder
import Derived.Shelf.Strings.Search3
import Derived.Shelf.Strings.Replace
import Derived.Shelf.Strings.Builder1
import Derived.Shelf.Strings.Builder2
import Derived.Shelf.Small.Strs
import Derived.Shelf.Small.Wraps
import Derived.Test.YtmniblcooficgaaGreatDoorProg
namespace Go.Proofs.YtmniblcooficgaaGreatDoor
open Go.RowKit Ev5
set_option linter.unusedSimpArgs false
set_option linter.unusedVariables false

def Rd (w : World) (S : Nat → Prop) : Nat → Value → Prop
  | 0, u => ∃ a c, u = .slice a 0 c
  | d + 1, u => (∃ a c, u = .slice a 0 c) ∨ ∃ g n c cs, u = .slice (some ⟨g, 0, none⟩) n c ∧ S g ∧ n ≤ c ∧ c ≤ maxLen ∧ w.heap[g]? = some (.cells cs 24 (0, 0)) ∧ cs.size = c * 4 ∧
      ∀ i, i < n → ∃ k t v u', cs[i * 4]? = some (.int .i64 k) ∧ cs[i * 4 + 1]? = some (.string t) ∧ cs[i * 4 + 2]? = some (.string v) ∧ cs[i * 4 + 3]? = some u' ∧ Rd w S d u'
theorem Rd.nil {w : World} {S : Nat → Prop} {d : Nat} {a : Option Addr} {c : Nat} : Rd w S d (.slice a 0 c) := by
  cases d with
  | zero => exact ⟨a, c, rfl⟩
  | succ d => exact .inl ⟨a, c, rfl⟩
theorem Rd.mono {w : World} {S : Nat → Prop} : ∀ {d d' : Nat} {u : Value}, d ≤ d' → Rd w S d u → Rd w S d' u
  | 0, d', u, _, ⟨a, c, e⟩ => by subst e; exact Rd.nil
  | d + 1, 0, u, h, _ => by omega
  | d + 1, d' + 1, u, h, hr => by
    rcases hr with ⟨a, c, e⟩ | ⟨g, n, c, cs, e, hs, hn, hc, hg, hz, hk⟩
    · exact .inl ⟨a, c, e⟩
    · exact .inr ⟨g, n, c, cs, e, hs, hn, hc, hg, hz, fun i hi => by
        obtain ⟨k, t, v, u', h1, h2, h3, h4, h5⟩ := hk i hi
        exact ⟨k, t, v, u', h1, h2, h3, h4, h5.mono (by omega)⟩⟩
theorem Rd.alike {S S' : Nat → Prop} {w w' : World} : ∀ {d : Nat} {u : Value}, Rd w S d u → Alike S w w' → (∀ b, S b → b < w.heap.size → S' b) → Rd w' S' d u
  | 0, u, h, _, _ => h
  | d + 1, u, h, ha, hS => by
    rcases h with ⟨a, c, e⟩ | ⟨g, n, c, cs, e, hs, hn, hc, hg, hz, hk⟩
    · exact .inl ⟨a, c, e⟩
    · exact .inr ⟨g, n, c, cs, e, hS _ hs (lt_blk hg), hn, hc, (ha.2 g hs (lt_blk hg)).trans hg, hz, fun i hi => by
        obtain ⟨k, t, v, u', h1, h2, h3, h4, h5⟩ := hk i hi
        exact ⟨k, t, v, u', h1, h2, h3, h4, h5.alike ha hS⟩⟩
structure Pk (S : Nat → Prop) (w w' : World) : Prop where
  size : w.heap.size ≤ w'.heap.size
  os : w'.os = w.os
  tape : w'.tape = w.tape
  output : w'.output = w.output
  oth : ∀ b, b < w.heap.size → ¬ S b → w'.heap[b]? = w.heap[b]?
  row : ∀ g cs, S g → w.heap[g]? = some (.cells cs 24 (0, 0)) → ∃ cs', w'.heap[g]? = some (.cells cs' 24 (0, 0)) ∧ cs'.size = cs.size ∧
    ∀ j, (∀ r, r < 4 → cs'[j * 4 + r]? = cs[j * 4 + r]?) ∨ (cs'[j * 4]? = some (.int .i64 77) ∧ cs'[j * 4 + 1]? = some (.string ⟨#[]⟩) ∧ cs'[j * 4 + 2]? = some (.string ⟨#[]⟩) ∧ cs'[j * 4 + 3]? = some (.slice none 0 0))
theorem Pk.refl (S : Nat → Prop) (w : World) : Pk S w w := ⟨Nat.le_refl _, rfl, rfl, rfl, fun _ _ _ => rfl, fun g cs _ h => ⟨cs, h, rfl, fun j => .inl fun _ _ => rfl⟩⟩
theorem Pk.trans {S : Nat → Prop} {a b c : World} (h : Pk S a b) (k : Pk S b c) : Pk S a c := by
  refine ⟨Nat.le_trans h.size k.size, k.os.trans h.os, k.tape.trans h.tape, k.output.trans h.output, fun q hq hn => (k.oth q (Nat.lt_of_lt_of_le hq h.size) hn).trans (h.oth q hq hn), fun g cs hs hg => ?_⟩
  obtain ⟨cs1, h1, z1, j1⟩ := h.row g cs hs hg
  obtain ⟨cs2, h2, z2, j2⟩ := k.row g cs1 hs h1
  refine ⟨cs2, h2, z2.trans z1, fun j => ?_⟩
  rcases j2 j with e | e
  · rcases j1 j with e' | ⟨e0, e1, e2, e3⟩
    · exact .inl fun r hr => (e r hr).trans (e' r hr)
    · exact .inr ⟨(e 0 (by omega)).trans e0, (e 1 (by omega)).trans e1, (e 2 (by omega)).trans e2, (e 3 (by omega)).trans e3⟩
  · exact .inr e
theorem Pk.below {S : Nat → Prop} {w w' : World} (h : Below w.heap.size w w') : Pk S w w' :=
  ⟨h.size, h.os, h.tape, h.output, fun b hb _ => h.block b hb, fun g cs _ hg => ⟨cs, (h.block g (lt_blk hg)).trans hg, rfl, fun j => .inl fun _ _ => rfl⟩⟩
end Go.Proofs.YtmniblcooficgaaGreatDoor

namespace Go.Proofs.YtmniblcooficgaaGreatDoor
open Go.RowKit Ev5
set_option linter.unusedSimpArgs false
set_option linter.unusedVariables false

def Rk (w : World) (S : Nat → Prop) (u : Value) (ks : List Nd) : Prop := SlIn w S u ks ∧ Rd w S (Nd.sizes ks) u
theorem Rk.alike {S S' : Nat → Prop} {w w' : World} {u : Value} {ks : List Nd} (h : Rk w S u ks) (ha : Alike S w w') (hS : ∀ b, S b → b < w.heap.size → S' b) : Rk w' S' u ks := ⟨h.1.alike ha hS, h.2.alike ha hS⟩
theorem Rk.below {S : Nat → Prop} {w w' : World} {u : Value} {ks : List Nd} (h : Rk w S u ks) (hb : Below w.heap.size w w') : Rk w' S u ks := h.alike (alike_below hb) fun _ h _ => h

structure OwnR (w : World) (base : Nat) (v : Value) (ps : List (Nd × Value)) : Prop where
  row : w.ownsRow base 24 4 v ps.length (ndRow ps)
  kids : ∀ p ∈ ps, Rk w (fun b => base ≤ b ∧ v.ownBlock ≠ some b) p.2 p.1.kids
theorem OwnR.nil (w : World) (base : Nat) : OwnR w base (.slice none 0 0) [] := ⟨World.ownsRow_nil _ _ _ _, fun p hp => by cases hp⟩
theorem OwnR.shape {w : World} {base : Nat} {v : Value} {ps : List (Nd × Value)} (h : OwnR w base v ps) : ∃ a cap, v = .slice a ps.length cap := by
  rcases h.row.2 with ⟨rfl, h0⟩ | ⟨g, cap, cur, rfl, _⟩
  · exact ⟨none, 0, by rw [h0]⟩
  · exact ⟨_, _, rfl⟩
theorem OwnR.below {w w' : World} {base : Nat} {v : Value} {ps : List (Nd × Value)} (h : OwnR w base v ps) (hb : Below w.heap.size w w') : OwnR w' base v ps := by
  refine ⟨h.row.kept (row := none) ⟨hb.os, hb.tape, hb.output, hb.size, fun k hk _ => hb.block k hk⟩ (by cases hv : v.ownBlock <;> simp), fun p hp => (h.kids p hp).below hb⟩
theorem OwnR.other {w w' : World} {base B : Nat} {v : Value} {ps : List (Nd × Value)} (h : OwnR w base v ps) (hg : w.grownBy w' (some B)) (hB : B < base) : OwnR w' base v ps := by
  refine ⟨h.row.kept hg ?_, fun p hp => (h.kids p hp).alike ⟨hg.size, fun b hb hl => hg.block b hl (fun e => by injection e with e; have := hb.1; omega)⟩ fun _ h _ => h⟩
  rcases h.row.2 with ⟨rfl, _⟩ | ⟨g, cap, cur, rfl, hb, _⟩
  · exact .inl rfl
  · exact .inr (by simp [Value.ownBlock]; omega)
theorem OwnR.snoc {w w' : World} {base : Nat} {v : Value} {ps : List (Nd × Value)} {g cap : Nat} {x : Nd} {u : Value} (h : OwnR w base v ps) (hx : Rk w (fun b => base ≤ b ∧ v.ownBlock ≠ some b) u x.kids)
    (hown : w'.ownsRow base 24 4 (.slice (some ⟨g, 0, none⟩) (ps.length + 1) cap) (ps.length + 1) (ndRow ps ++ ndL x u)) (hg : w.grownBy w' v.ownBlock) (hat : v.ownBlock = some g ∨ w.heap.size ≤ g) :
    OwnR w' base (.slice (some ⟨g, 0, none⟩) (ps.length + 1) cap) (ps ++ [(x, u)]) := by
  have al : ∀ (u : Value) (ks : List Nd), Rk w (fun b => base ≤ b ∧ v.ownBlock ≠ some b) u ks → Rk w' (fun b => base ≤ b ∧ (Value.slice (some ⟨g, 0, none⟩) (ps.length + 1) cap).ownBlock ≠ some b) u ks := by
    intro u ks hs
    refine hs.alike ⟨hg.size, fun b hb hl => hg.block b hl (fun e => hb.2 e.symm)⟩ fun b hb hl => ⟨hb.1, ?_⟩
    simp only [Value.ownBlock, ne_eq, Option.some.injEq]
    rcases hat with e | e
    · intro e2; subst e2; exact hb.2 e
    · omega
  refine ⟨by rw [ndRow_snoc, List.length_append]; exact hown, fun p hp => ?_⟩
  rcases List.mem_append.1 hp with hp | hp
  · exact al _ _ (h.kids p hp)
  · simp at hp; subst hp; exact al _ _ hx
theorem OwnR.apart {w w' : World} {base : Nat} {v u : Value} {ps : List (Nd × Value)} {ks : List Nd} (h : OwnR w base v ps) (hbw : base ≤ w.heap.size) (hs : Rk w' (fun b => w.heap.size ≤ b) u ks) : Rk w' (fun b => base ≤ b ∧ v.ownBlock ≠ some b) u ks := by
  refine hs.alike ⟨Nat.le_refl _, fun _ _ _ => rfl⟩ fun b hb _ => ⟨by omega, ?_⟩
  rcases h.row.2 with ⟨rfl, _⟩ | ⟨g, cap, cur, rfl, _, hg, _⟩
  · simp [Value.ownBlock]
  · simp only [Value.ownBlock, ne_eq, Option.some.injEq]
    have := lt_blk hg
    omega

structure Cr (w0 w : World) (B : Nat) (k : Int) (t v : ByteArray) (u : Value) (ps : List (Nd × Value)) : Prop where
  blk : w.heap[B]? = some (.cells #[.int .i64 k, .string t, .string v, u] 24 (0, 0))
  res : w.heap[B + 1]? = some (.cells #[.int .i64 0, .string ⟨#[]⟩, .string ⟨#[]⟩, .slice none 0 0] 24 (0, 0))
  own : OwnR w (B + 2) u ps
  bel : Below B w0 w
theorem Cr.below {w0 w w' : World} {B : Nat} {k : Int} {t v : ByteArray} {u : Value} {ps : List (Nd × Value)} (h : Cr w0 w B k t v u ps) (hb : Below w.heap.size w w') : Cr w0 w' B k t v u ps :=
  ⟨(hb.block _ (lt_blk h.blk)).trans h.blk, (hb.block _ (lt_blk h.res)).trans h.res, h.own.below hb, h.bel.trans (hb.mono (by have := lt_blk h.blk; omega))⟩
theorem Cr.far {w0 w : World} {B : Nat} {k : Int} {t v : ByteArray} {u : Value} {ps : List (Nd × Value)} (h : Cr w0 w B k t v u ps) (W3 w5 : World) (hb : Below w.heap.size w W3) (hg : W3.grownBy w5 u.ownBlock) :
    w5.heap[B]? = some (.cells #[.int .i64 k, .string t, .string v, u] 24 (0, 0)) ∧ w5.heap[B + 1]? = some (.cells #[.int .i64 0, .string ⟨#[]⟩, .string ⟨#[]⟩, .slice none 0 0] 24 (0, 0)) ∧ Below B w0 w5 := by
  have h3 := h.below hb
  have hne : ∀ b, b < B + 2 → u.ownBlock ≠ some b := by
    intro b hb' e
    rcases h3.own.row.2 with ⟨rfl, _⟩ | ⟨g, cap, cur, rfl, hg', _⟩
    · simp [Value.ownBlock] at e
    · simp [Value.ownBlock] at e; omega
  refine ⟨?_, ?_, ?_⟩
  · rw [hg.block B (lt_blk h3.blk) (fun e => hne B (by omega) e.symm)]; exact h3.blk
  · rw [hg.block (B + 1) (lt_blk h3.res) (fun e => hne (B + 1) (by omega) e.symm)]; exact h3.res
  · refine h3.bel.trans (Below.grown (Below.refl B W3) hg (by have := lt_blk h3.blk; omega) (fun b hb' => ?_))
    rcases Nat.lt_or_ge b B with h1 | h1
    · exact absurd hb' (hne b (by omega))
    · exact h1
theorem Cr.push {w0 w W3 w5 : World} {B : Nat} {k : Int} {t v : ByteArray} {u uk : Value} {ps : List (Nd × Value)} {x : Nd} {g cap : Nat} (h : Cr w0 w B k t v u ps) (hb : Below w.heap.size w W3) (hsk : Rk W3 (fun b => w.heap.size ≤ b) uk x.kids)
    (hown : w5.ownsRow (B + 2) 24 4 (.slice (some ⟨g, 0, none⟩) (ps.length + 1) cap) (ps.length + 1) (ndRow ps ++ ndL x uk)) (hg : W3.grownBy w5 u.ownBlock) (hat : u.ownBlock = some g ∨ W3.heap.size ≤ g) :
    Cr w0 (w5.setCell ⟨B, 3, none⟩ (.slice (some ⟨g, 0, none⟩) (ps.length + 1) cap)) B k t v (.slice (some ⟨g, 0, none⟩) (ps.length + 1) cap) (ps ++ [(x, uk)]) := by
  obtain ⟨f1, f2, f3⟩ := h.far W3 w5 hb hg
  have hBw : B + 2 ≤ w.heap.size := by have := lt_blk h.res; omega
  have ho : OwnR W3 (B + 2) u ps := h.own.below hb
  have hsk' := h.own.apart hBw hsk
  have ho2 := ho.snoc hsk' hown hg hat
  refine ⟨heap_set4 f1, ?_, ho2.other (grown_set w5 B 3 _) (by omega), f3.setCell (p := ⟨B, 3, none⟩) (Nat.le_refl _) _⟩
  rw [show (w5.setCell ⟨B, 3, none⟩ (.slice (some ⟨g, 0, none⟩) (ps.length + 1) cap)).heap[B + 1]? = w5.heap[B + 1]? from Below.heap_setCell w5 _ _ (B + 1) (by simp)]
  exact f2

end Go.Proofs.YtmniblcooficgaaGreatDoor

namespace Go.Proofs.YtmniblcooficgaaGreatDoor
open Go.RowKit Ev5
set_option linter.unusedSimpArgs false
set_option linter.unusedVariables false

theorem Rd.shape {w : World} {S : Nat → Prop} {d : Nat} {u : Value} (h : Rd w S d u) : ∃ a n c, u = .slice a n c ∧ n ≤ maxLen := by
  cases d with
  | zero => obtain ⟨a, c, e⟩ := h; exact ⟨a, 0, c, e, Nat.zero_le _⟩
  | succ d =>
    rcases h with ⟨a, c, e⟩ | ⟨g, n, c, cs, e, hs, hn, hc, _⟩
    · exact ⟨a, 0, c, e, Nat.zero_le _⟩
    · exact ⟨_, n, c, e, by omega⟩
theorem Rd.kid {w : World} {S : Nat → Prop} {d n c : Nat} {a : Option Addr} (h : Rd w S d (.slice a n c)) {i : Nat} (hi : i < n) :
    ∃ d' g cs, d = d' + 1 ∧ a = some ⟨g, 0, none⟩ ∧ S g ∧ n ≤ c ∧ w.heap[g]? = some (.cells cs 24 (0, 0)) ∧ cs.size = c * 4 ∧ ∃ k t v u', cs[i * 4]? = some (.int .i64 k) ∧ cs[i * 4 + 1]? = some (.string t) ∧ cs[i * 4 + 2]? = some (.string v) ∧ cs[i * 4 + 3]? = some u' ∧ Rd w S d' u' := by
  cases d with
  | zero => obtain ⟨a, c, e⟩ := h; injection e with _ e _; omega
  | succ d =>
    rcases h with ⟨a, c, e⟩ | ⟨g, n', c', cs, e, hs, hn, hc, hg, hz, hk⟩
    · injection e with _ e _; omega
    · injection e with e1 e2 e3
      subst e1; subst e2; subst e3
      exact ⟨d, g, cs, rfl, rfl, hs, hn, hg, hz, hk i hi⟩
end Go.Proofs.YtmniblcooficgaaGreatDoor

namespace Go.Proofs.YtmniblcooficgaaGreatDoor
open Go.RowKit Ev5
set_option linter.unusedSimpArgs false
set_option linter.unusedVariables false

end Go.Proofs.YtmniblcooficgaaGreatDoor

namespace Go.Proofs.YtmniblcooficgaaGreatDoor
open Go.RowKit Ev5
set_option linter.unusedSimpArgs false
set_option linter.unusedVariables false

theorem evIn_nil (w : World) : EvIn w (.slice none 0 0) [] := (show EvOwn w 0 (.slice none 0 0) [] from World.ownsRow_nil _ _ _ _).evIn (by simp) (by simp)
theorem WalkPost.row {x : Nd} {w w' : World} {e : Ending} (h : WalkPost x w e w') (hok : x.ok) (hl : x.walk.length ≤ 100000) : ∃ lv : Value, e = .returned (.tuple #[lv, .int .i64 (wholeP RP (x.walk.map GoEv.ev)).2]) ∧ Below w.heap.size w w' ∧ EvIn w' lv (if (wholeP RP (x.walk.map GoEv.ev)).2 = 0 then x.walk else []) := by
  obtain ⟨lv, he, hb, h0, h1⟩ := h
  refine ⟨lv, he, hb, ?_⟩
  split
  · exact (h1 (by assumption)).evIn (walk_ok x hok) (by omega)
  · rw [h0 (by assumption)]; exact evIn_nil _
end Go.Proofs.YtmniblcooficgaaGreatDoor

namespace Go.Proofs.YtmniblcooficgaaGreatDoor
open Ev5
set_option linter.unusedSimpArgs false
set_option linter.unusedVariables false

structure GoOp where
  k : Int
  place : List Int
  node : Nd
  t : ByteArray
def Nd.wh (n : Nd) : Int := (wholeP RP (n.walk.map GoEv.ev)).2
def Nd.put : Nd → List Int → List Nd → Nd
  | n, [], l => l.headD n
  | n, p :: r, l =>
    if h : 0 ≤ p ∧ p < n.kids.length then
      .mk n.k n.t n.v (n.kids.take p.toNat ++ (if r = [] then l else [(n.kids[p.toNat]'(by omega)).put r l]) ++ n.kids.drop (p.toNat + 1))
    else n
theorem wh_good {n : Nd} (h : n.wh = 0) : n.good = true := good_of_whole (rk_right _) n h

structure GoOp.ok (o : GoOp) : Prop where
  kind : (Lit.int .i64 o.k).wf = true
  place : ∀ x ∈ o.place, (Lit.int .i64 x).wf = true
  node : o.node.ok
  text : o.t.size ≤ 1048576
end Go.Proofs.YtmniblcooficgaaGreatDoor

namespace Go.Proofs.YtmniblcooficgaaGreatDoor
open Ev5
set_option linter.unusedSimpArgs false
set_option linter.unusedVariables false

structure Eqo (o o' : Ev5.Op) : Prop where
  kind : o.kind = o'.kind
  key : o.key = o'.key
  had : o.had = o'.had
  full : o.full = o'.full
  text : o.kind = 10 → o.text = o'.text
def Eqs : List Ev5.Op → List Ev5.Op → Prop
  | [], [] => True
  | o :: r, o' :: r' => Eqo o o' ∧ Eqs r r'
  | _, _ => False
structure Eqt (s s' : St) : Prop where
  opn : Eqs s.opn s'.opn
  over : s.over = s'.over
theorem Eqo.refl (o : Ev5.Op) : Eqo o o := ⟨rfl, rfl, rfl, rfl, fun _ => rfl⟩
theorem Eqo.trans {a b c : Ev5.Op} (h : Eqo a b) (k : Eqo b c) : Eqo a c := ⟨h.kind.trans k.kind, h.key.trans k.key, h.had.trans k.had, h.full.trans k.full, fun e => (h.text e).trans (k.text (h.kind.symm.trans e))⟩
theorem eqs_refl : ∀ l, Eqs l l
  | [] => trivial
  | o :: r => ⟨Eqo.refl o, eqs_refl r⟩
theorem eqs_trans : ∀ {a b c}, Eqs a b → Eqs b c → Eqs a c
  | [], [], [], _, _ => trivial
  | [], [], _ :: _, _, h => h.elim
  | [], _ :: _, _, h, _ => h.elim
  | _ :: _, [], _, h, _ => h.elim
  | _ :: _, _ :: _, [], _, h => h.elim
  | _ :: _, _ :: _, _ :: _, h, k => ⟨h.1.trans k.1, eqs_trans h.2 k.2⟩
theorem Eqt.refl (s : St) : Eqt s s := ⟨eqs_refl _, rfl⟩
theorem Eqt.trans {a b c : St} (h : Eqt a b) (k : Eqt b c) : Eqt a c := ⟨eqs_trans h.opn k.opn, h.over.trans k.over⟩
def Nd.evs (n : Nd) : List Ev := n.walk.map GoEv.ev
def Nd.evss (l : List Nd) : List Ev := (Nd.walks l).map GoEv.ev
def Nd.e (n : Nd) : Ev := GoEv.ev ⟨n.k, n.t, n.v⟩
theorem evss_cons (n : Nd) (l : List Nd) : Nd.evss (n :: l) = n.evs ++ Nd.evss l := by unfold Nd.evss Nd.evs; rw [walks_cons, List.map_append]
theorem evss_nil : Nd.evss [] = [] := by unfold Nd.evss; rw [walks_nil]; rfl
theorem evs_good {k : Int} {t v : ByteArray} {ks : List Nd} (h : (Nd.mk k t v ks).good = true) : (Nd.mk k t v ks).evs = GoEv.ev ⟨k, t, v⟩ :: (Nd.evss ks ++ (if endK k = 0 then [] else [GoEv.ev (endEv k)])) := by
  unfold Nd.evs Nd.evss
  rw [walk_good h, List.map_cons, List.map_append]
  split <;> rfl
def valK (k : Int) : Prop := k = 1 ∨ k = 2 ∨ k = 3 ∨ k = 4 ∨ k = 5 ∨ k = 7 ∨ k = 10

def Fin (R : Ev → Bool) (n : Nd) : Prop := ∀ st, (runP R st n.evs).2.2 = 0 →
  (valK n.k ∧ (runP R st n.evs).1 = standsP st n.e) ∨
  (n.k = 8 ∧ ∃ l r b, st.opn = l :: r ∧ l.kind = 7 ∧ l.key = false ∧ (runP R st n.evs).1 = ⟨{ l with had := l.had ++ [n.e.text], key := false, full := true, text := b } :: r, st.over⟩) ∨
  (n.k = 11 ∧ ∃ l r, st.opn = l :: r ∧ l.kind = 10 ∧ (runP R st n.evs).1 = ⟨{ l with had := l.had ++ [n.e.text], key := false } :: r, st.over⟩)
theorem fin_keeps {R : Ev → Bool} {n : Nd} (h : Fin R n) {o : Ev5.Op} {os : List Ev5.Op} {ov : Bool} (hr : (runP R ⟨o :: os, ov⟩ n.evs).2.2 = 0) : ∃ o', (runP R ⟨o :: os, ov⟩ n.evs).1 = ⟨o' :: os, ov⟩ ∧ o'.kind = o.kind := by
  rcases h _ hr with ⟨_, e⟩ | ⟨_, l, r, b, e1, _, _, e⟩ | ⟨_, l, r, e1, _, e⟩
  · exact ⟨_, e, rfl⟩
  · simp only [List.cons.injEq] at e1; obtain ⟨rfl, rfl⟩ := e1; exact ⟨_, e, rfl⟩
  · simp only [List.cons.injEq] at e1; obtain ⟨rfl, rfl⟩ := e1; exact ⟨_, e, rfl⟩
theorem fins_keep {R : Ev → Bool} : ∀ (l : List Nd), (∀ x ∈ l, Fin R x) → ∀ {o : Ev5.Op} {os : List Ev5.Op} {ov : Bool}, (runP R ⟨o :: os, ov⟩ (Nd.evss l)).2.2 = 0 → ∃ o', (runP R ⟨o :: os, ov⟩ (Nd.evss l)).1 = ⟨o' :: os, ov⟩ ∧ o'.kind = o.kind
  | [], _, o, os, ov, _ => ⟨o, by rw [evss_nil]; rfl, rfl⟩
  | x :: r, h, o, os, ov, hr => by
    rw [evss_cons] at hr ⊢
    obtain ⟨h1, h2⟩ := run_append R _ _ _ hr
    obtain ⟨o1, e1, k1⟩ := fin_keeps (h x (by simp)) h1
    rw [(run_more R _ _ _ h1).2, e1]
    rw [e1] at h2
    obtain ⟨o2, e2, k2⟩ := fins_keep r (fun y hy => h y (by simp [hy])) h2
    exact ⟨o2, e2, k2.trans k1⟩
theorem fin_all {R : Ev → Bool} (n : Nd) : n.good = true → Fin R n := by
  refine Nd.ind (C := fun n => n.good = true → Fin R n) ?_ n
  intro k t v ks ih hg st hr
  rw [evs_good hg] at hr ⊢
  have hg' := hg
  rw [good_mk] at hg'
  simp only [Bool.and_eq_true, Bool.not_eq_true'] at hg'
  have hks := (goods_iff _).1 hg'.2
  obtain ⟨h0, h1, h2⟩ := runP_step hr
  rw [h2]
  have hfk : ∀ x ∈ ks, Fin R x := fun x hx => ih x hx (hks x hx)
  simp only [Nd.k]
  rcases odd_kind hg'.1 with ⟨hk, hn⟩ | ⟨hk, hn⟩ | hk
  · obtain rfl := List.eq_nil_of_length_eq_zero hn
    have e0 : endK k = 0 := by rcases endK_cases k with ⟨a, _⟩ | ⟨a, _⟩ | ⟨a, _⟩ | ⟨_, _, _, a⟩; omega; omega; omega; exact a
    rw [e0, evss_nil]
    simp only [if_true, List.append_nil, runP]
    by_cases h11 : k = 11
    · right; right
      obtain ⟨l, r, ho, hc⟩ := step_other h0 (by show ¬ (k = 1 ∨ k = 2 ∨ k = 3 ∨ k = 4); omega) (by show ¬ (k = 5 ∨ k = 7 ∨ k = 10); omega)
      rcases hc with ⟨a, _⟩ | ⟨_, b, c⟩ | ⟨_, a, _⟩
      · have : k = 8 := a; omega
      · exact ⟨h11, l, r, ho, b, c⟩
      · exact absurd h11 a
    · left
      exact ⟨by unfold valK; omega, step_leaf h0 (by show k = 1 ∨ k = 2 ∨ k = 3 ∨ k = 4; omega)⟩
  · right; left
    obtain ⟨l, r, ho, hc⟩ := step_other h0 (by show ¬ (k = 1 ∨ k = 2 ∨ k = 3 ∨ k = 4); omega) (by show ¬ (k = 5 ∨ k = 7 ∨ k = 10); omega)
    match ks, hn with
    | [x], _ =>
      have e0 : endK k = 0 := by rw [hk]; rfl
      rw [e0] at h1 ⊢
      simp only [if_true, List.append_nil, evss_cons, evss_nil] at h1 ⊢
      rcases hc with ⟨_, h7, hkey, hs⟩ | ⟨a, _⟩ | ⟨a, _⟩
      · rw [hs] at h1 ⊢
        rcases hfk x (by simp) _ h1 with ⟨_, e⟩ | ⟨_, l', r', b, e1, _, e2, _⟩ | ⟨_, l', r', e1, e2, _⟩
        · exact ⟨hk, l, r, decide (x.k = 4), ho, h7, hkey, e⟩
        · simp only [List.cons.injEq] at e1; obtain ⟨rfl, rfl⟩ := e1; cases e2
        · simp only [List.cons.injEq] at e1; obtain ⟨rfl, rfl⟩ := e1; simp only [] at e2; omega
      · have : k = 11 := a; omega
      · exact absurd hk a
  · left
    have hs := step_open h0 hk
    have hne : endK k ≠ 0 := by rcases endK_cases k with ⟨_, a⟩ | ⟨_, a⟩ | ⟨_, a⟩ | ⟨a, b, c, _⟩ <;> omega
    have hee : endK k = 6 ∨ endK k = 9 ∨ endK k = 12 := by rcases endK_cases k with ⟨_, a⟩ | ⟨_, a⟩ | ⟨_, a⟩ | ⟨a, b, c, _⟩ <;> omega
    rw [hs, if_neg hne] at h1 ⊢
    obtain ⟨h3, h4⟩ := run_append R _ _ _ h1
    obtain ⟨o', e, ek⟩ := fins_keep ks hfk h3
    rw [(run_more R _ _ _ h3).2, e]
    rw [e] at h4
    obtain ⟨h5, _, h6⟩ := runP_step h4
    obtain ⟨l, r, ho, hc⟩ := step_other h5 (by show ¬ (endK k = 1 ∨ endK k = 2 ∨ endK k = 3 ∨ endK k = 4); omega) (by show ¬ (endK k = 5 ∨ endK k = 7 ∨ endK k = 10); omega)
    simp only [List.cons.injEq] at ho
    obtain ⟨rfl, rfl⟩ := ho
    refine ⟨by unfold valK; omega, ?_⟩
    rcases hc with ⟨a, _⟩ | ⟨a, _⟩ | ⟨_, _, _, _, hc⟩
    · have : endK k = 8 := a; omega
    · have : endK k = 11 := a; omega
    · rw [h6, hc]; rfl

end Go.Proofs.YtmniblcooficgaaGreatDoor

namespace Go.Proofs.YtmniblcooficgaaGreatDoor
open Go.RowKit Ev5
set_option linter.unusedSimpArgs false
set_option linter.unusedVariables false

/-! Rows of nodes. -/
theorem ndRow_app (a b : List (Nd × Value)) : ndRow (a ++ b) = ndRow a ++ ndRow b := by simp [ndRow]
theorem SlIn.pairs {S : Nat → Prop} {w : World} {ao : Option Addr} {len cap : Nat} {ks : List Nd} (h : SlIn w S (.slice ao len cap) ks) :
    ∃ ps : List (Nd × Value), ps.map (·.1) = ks ∧ (∀ p ∈ ps, SlIn w S p.2 p.1.kids) ∧ (ks = [] ∨ ∃ b o, ao = some ⟨b, o, none⟩ ∧ S b ∧ b < w.heap.size ∧ ∀ j u, (ndRow ps)[j]? = some u → w.cell? ⟨b, o + j, none⟩ = some u) := by
  obtain ⟨a, cap', e, hc, hm, h4⟩ := h
  injection e with e1 e2 e3
  subst e1
  rcases h4 with rfl | ⟨b, o, rfl, hs, hlt, hk⟩
  · exact ⟨[], rfl, fun p hp => (by cases hp), .inl rfl⟩
  · have gen : ∀ (ks : List Nd) (o : Nat), KidsIn w S b o ks → ∃ ps : List (Nd × Value), ps.map (·.1) = ks ∧ (∀ p ∈ ps, SlIn w S p.2 p.1.kids) ∧ ∀ j u, (ndRow ps)[j]? = some u → w.cell? ⟨b, o + j, none⟩ = some u := by
      intro ks
      induction ks with
      | nil => intro o _; exact ⟨[], rfl, fun p hp => (by cases hp), fun j u hj => by simp [ndRow] at hj⟩
      | cons x r ih =>
        intro o hk
        obtain ⟨h0, hr⟩ := kidsIn_cons.1 hk
        obtain ⟨c0, c1, c2, u, c3, hu⟩ := ndAt_iff.1 h0
        obtain ⟨ps, hp, hq, hcell⟩ := ih (o + 4) hr
        refine ⟨(x, u) :: ps, by rw [List.map_cons, hp], fun p hp => ?_, fun j v hj => ?_⟩
        · rcases List.mem_cons.1 hp with rfl | hp
          · exact hu
          · exact hq p hp
        · have e : ndRow ((x, u) :: ps) = ndL x u ++ ndRow ps := by simp [ndRow]
          rw [e] at hj
          by_cases hj4 : j < 4
          · rw [List.getElem?_append_left (by simp [ndL]; omega)] at hj
            match j, hj4 with
            | 0, _ => simp [ndL] at hj; subst hj; exact c0
            | 1, _ => simp [ndL] at hj; subst hj; exact c1
            | 2, _ => simp [ndL] at hj; subst hj; exact c2
            | 3, _ => simp [ndL] at hj; subst hj; exact c3
          · rw [List.getElem?_append_right (by simp [ndL]; omega)] at hj
            have := hcell (j - 4) v (by simpa [ndL] using hj)
            rwa [show o + 4 + (j - 4) = o + j by omega] at this
    obtain ⟨ps, h1, h2, h3⟩ := gen ks o hk
    exact ⟨ps, h1, h2, .inr ⟨b, o, rfl, hs, hlt, h3⟩⟩
theorem ndRow_one (ps : List (Nd × Value)) (h : ∀ p ∈ ps, p.2.oneCell' = true) : ∀ u ∈ ndRow ps, u.oneCell' = true := by
  intro u hu
  unfold ndRow at hu
  obtain ⟨p, hp, hu⟩ := List.mem_flatMap.1 hu
  simp [ndL] at hu
  rcases hu with rfl | rfl | rfl | rfl
  · rfl
  · rfl
  · rfl
  · exact h p hp
theorem SlIn.one {S : Nat → Prop} {w : World} {u : Value} {ks : List Nd} (h : SlIn w S u ks) : u.oneCell' = true := by
  obtain ⟨a, cap, rfl, _⟩ := h; rfl

theorem row_at {cur : Array Value} {X : List Value} {n : Nat} (ht : cur.toList.take n = X) (j : Nat) (u : Value) (hu : X[j]? = some u) : cur.toList[j]? = some u := by
  rw [← ht, List.getElem?_take] at hu
  split at hu
  · exact hu
  · cases hu
end Go.Proofs.YtmniblcooficgaaGreatDoor

namespace Go.Proofs.YtmniblcooficgaaGreatDoor
open Go.RowKit Ev5
set_option linter.unusedSimpArgs false
set_option linter.unusedVariables false

end Go.Proofs.YtmniblcooficgaaGreatDoor

namespace Go.Proofs.YtmniblcooficgaaGreatDoor
open Go.RowKit Ev5
set_option linter.unusedSimpArgs false
set_option linter.unusedVariables false

structure Far (w w' : World) (g o : Nat) : Prop where
  size : w.heap.size ≤ w'.heap.size
  os : w'.os = w.os
  tape : w'.tape = w.tape
  output : w'.output = w.output
  oth : ∀ b, b < w.heap.size → b ≠ g → w'.heap[b]? = w.heap[b]?
  row : ∀ cs ty, w.heap[g]? = some (.cells cs ty (0, 0)) → ∃ cs', w'.heap[g]? = some (.cells cs' ty (0, 0)) ∧ cs'.size = cs.size ∧ ∀ j, (j < o ∨ o + 4 ≤ j) → cs'[j]? = cs[j]?
theorem Far.of {w w' : World} (h : Below w.heap.size w w') (g o : Nat) : Far w w' g o :=
  ⟨h.size, h.os, h.tape, h.output, fun b hb _ => h.block b hb, fun cs ty hg => ⟨cs, (h.block g (lt_blk hg)).trans hg, rfl, fun _ _ => rfl⟩⟩
theorem Far.trans {a b c : World} {g o : Nat} (h : Far a b g o) (k : Far b c g o) : Far a c g o := by
  refine ⟨Nat.le_trans h.size k.size, k.os.trans h.os, k.tape.trans h.tape, k.output.trans h.output, fun q hq hn => (k.oth q (Nat.lt_of_lt_of_le hq h.size) hn).trans (h.oth q hq hn), fun cs ty hg => ?_⟩
  obtain ⟨c1, h1, z1, j1⟩ := h.row cs ty hg
  obtain ⟨c2, h2, z2, j2⟩ := k.row c1 ty h1
  exact ⟨c2, h2, z2.trans z1, fun j hj => (j2 j hj).trans (j1 j hj)⟩
theorem Far.grown {a b c : World} {g o : Nat} {r : Option Nat} (h : Far a b g o) (hg : g < a.heap.size) (k : b.grownBy c r) (hr : ∀ q, r = some q → a.heap.size ≤ q) : Far a c g o := by
  have hne : ∀ q, q < a.heap.size → some q ≠ r := fun q hq e => by have := hr q e.symm; omega
  refine ⟨Nat.le_trans h.size k.size, k.os.trans h.os, k.tape.trans h.tape, k.output.trans h.output, fun q hq hn => (k.block q (Nat.lt_of_lt_of_le hq h.size) (hne q hq)).trans (h.oth q hq hn), fun cs ty hgc => ?_⟩
  obtain ⟨c1, h1, z1, j1⟩ := h.row cs ty hgc
  exact ⟨c1, (k.block g (lt_blk h1) (hne g hg)).trans h1, z1, j1⟩
theorem Far.below {w w' : World} {g o base : Nat} (h : Far w w' g o) (hg : base ≤ g) (hb : base ≤ w.heap.size) : Below base w w' :=
  ⟨h.os, h.tape, h.output, h.size, fun k hk => h.oth k (by omega) (by omega)⟩
structure Np (w : World) (B g o : Nat) (m : Nd) : Prop where
  blk : ∃ cs ty, w.heap[g]? = some (.cells cs ty (0, 0)) ∧ o + 4 ≤ cs.size
  nd : NdAt w (fun b => b ≠ g ∧ b ≠ B) g o m
  lo : B ≤ g
structure NpCells (w : World) (g o : Nat) (k : Int) (t v : ByteArray) (u : Value) : Prop where
  c0 : w.cell? ⟨g, o, none⟩ = some (.int .i64 k)
  c1 : w.cell? ⟨g, o + 1, none⟩ = some (.string t)
  c2 : w.cell? ⟨g, o + 2, none⟩ = some (.string v)
  c3 : w.cell? ⟨g, o + 3, none⟩ = some u
  f0 : w.frozen? ⟨g, o, none⟩ = false
  f1 : w.frozen? ⟨g, o + 1, none⟩ = false
  f2 : w.frozen? ⟨g, o + 2, none⟩ = false
  f3 : w.frozen? ⟨g, o + 3, none⟩ = false
  lt : g < w.heap.size
theorem Np.cells {w : World} {B g o : Nat} {m : Nd} (h : Np w B g o m) : ∃ a cap, NpCells w g o m.k m.t m.v (.slice a m.kids.length cap) ∧ SlIn w (fun b => b ≠ g ∧ b ≠ B) (.slice a m.kids.length cap) m.kids ∧ m.kids.length ≤ cap ∧ cap ≤ maxLen := by
  obtain ⟨cs, ty, hg, hs⟩ := h.blk
  obtain ⟨c0, c1, c2, u, c3, hu⟩ := ndAt_iff.1 h.nd
  obtain ⟨a, cap, rfl, hc, hm⟩ := hu.shape
  have fz : ∀ j, w.frozen? ⟨g, j, none⟩ = false := fun j => by simp [World.frozen?, hg]
  exact ⟨a, cap, ⟨c0, c1, c2, c3, fz _, fz _, fz _, fz _, lt_blk hg⟩, hu, hc, hm⟩
theorem Np.below {w w' : World} {B g o : Nat} {m : Nd} (h : Np w B g o m) (hb : Below w.heap.size w w') : Np w' B g o m := by
  obtain ⟨cs, ty, hg, hs⟩ := h.blk
  have := hb.block g (lt_blk hg)
  exact ⟨⟨cs, ty, this.trans hg, hs⟩, ndAt_alike (alike_below hb) (fun b h _ => h) m g o this h.nd, h.lo⟩
theorem owns_cells {w : World} {base g cap : Nat} {ps : List (Nd × Value)} {cur : Array Value} (ht : cur.toList.take (ps.length * 4) = ndRow ps) (i : Nat) (hi : i < ps.length) :
    cur[i * 4]? = some (.int .i64 ps[i].1.k) ∧ cur[i * 4 + 1]? = some (.string ps[i].1.t) ∧ cur[i * 4 + 2]? = some (.string ps[i].1.v) ∧ cur[i * 4 + 3]? = some ps[i].2 := by
  have c : ∀ j u, j < 4 → (ndL ps[i].1 ps[i].2)[j]? = some u → cur[i * 4 + j]? = some u := by
    intro j u hj hu
    have h1 := row_at ht (i * 4 + j) u (by rw [ndRow_at ps i hi j hj]; exact hu)
    simpa using h1
  exact ⟨by simpa using c 0 _ (by omega) rfl, c 1 _ (by omega) rfl, c 2 _ (by omega) rfl, c 3 _ (by omega) rfl⟩

end Go.Proofs.YtmniblcooficgaaGreatDoor

namespace Go.Proofs.YtmniblcooficgaaGreatDoor
open Go.RowKit Ev5
set_option linter.unusedSimpArgs false
set_option linter.unusedVariables false

def EntersF (F : Nat) : Prop := ∀ (args : Array Value) (w : World), (callFunc F args).run Tryz.prog w = .ok (.enter F args) w
theorem enters_of {F : Nat} {fn : Func} (hf : Tryz.prog.funcs[F]? = some fn) (hn : (fn.name == "runtime.NumGoroutine") = false) (hb : fn.body.isSome = true) : EntersF F := fun args w => by
  have h1 : ¬ fn.name = "runtime.NumGoroutine" := by simpa using hn
  have h2 : ¬ fn.body = none := by cases h : fn.body with | none => rw [h] at hb; cases hb | some b => simp
  simp [callFunc, hf, h1, h2]
end Go.Proofs.YtmniblcooficgaaGreatDoor
/-
  DERIVED: THE SHELF's CONTRACTS AT THIS DUMP, IN PLAIN WORDS (tools/lay-plain.mjs out of 'YtmniblcooficgaaGreatDoorShelfB.lean', which tools/lay-shelf.mjs wrote): THE SAME DECLARATIONS UNDER THE SAME NAMES: 'import', 'namespace', 'open', 'def', 'theorem' AND NOTHING ELSE: no command of the shelf's: FOR A HAND-IN. Each laying: the table of numbers ('.._ren') and one theorem, a field a fact of the dump's own or the kernel's comparison; each contract: ONE APPLICATION.
-/
namespace Go.Proofs
open Go.Shelf
def Tryz.lays156_ren : Go.Shelf.Ren := ⟨fun | 156 => 41 | 165 => 71 | 166 => 46 | 169 => 47 | 240 => 74 | 241 => 101 | 276 => 107 | 277 => 125 | n => n, fun | 31 => 57 | 9 => 9 | 3 => 3 | 4 => 4 | 0 => 0 | 20 => 20 | 72 => 71 | 76 => 75 | 70 => 69 | 37 => 66 | 75 => 73 | 127 => 98 | 164 => 125 | 5 => 5 | 80 => 78 | n => n, fun | n => n⟩
theorem Tryz.lays156 : Go.Proofs.Lays.n156 Tryz.prog Tryz.lays156_ren := {
  mixed := by kernel_rfl
  f156 := Tryz.func41.trans (congrArg some (by kernel_rfl))
  f165 := Tryz.func71.trans (congrArg some (by kernel_rfl))
  f166 := Tryz.func46.trans (congrArg some (by kernel_rfl))
  f169 := Tryz.func47.trans (congrArg some (by kernel_rfl))
  f240 := Tryz.func74.trans (congrArg some (by kernel_rfl))
  f241 := Tryz.func101.trans (congrArg some (by kernel_rfl))
  f276 := Tryz.func107.trans (congrArg some (by kernel_rfl))
  f277 := Tryz.func125.trans (congrArg some (by kernel_rfl))
  t0 := Tryz.underlying0
  a0 := Tryz.isAgg0
  z0 := Tryz.sizeOf0
  v0 := Tryz.zeroValue0
  t3 := Tryz.underlying3
  a3 := Tryz.isAgg3
  z3 := Tryz.sizeOf3
  v3 := Tryz.zeroValue3
  t4 := Tryz.underlying4
  a4 := Tryz.isAgg4
  z4 := Tryz.sizeOf4
  v4 := Tryz.zeroValue4
  t9 := Tryz.underlying9
  a9 := Tryz.isAgg9
  z9 := Tryz.sizeOf9
  v9 := Tryz.zeroValue9
  t20 := Tryz.underlying20
  a20 := Tryz.isAgg20
  z20 := Tryz.sizeOf20
  v20 := Tryz.zeroValue20
  t31 := Tryz.underlying57
  a31 := Tryz.isAgg57
  z31 := Tryz.sizeOf57
  v31 := Tryz.zeroValue57
  t37 := Tryz.underlying66
  a37 := Tryz.isAgg66
  z37 := Tryz.sizeOf66
  v37 := Tryz.zeroValue66
  t70 := Tryz.underlying69
  a70 := Tryz.isAgg69
  z70 := Tryz.sizeOf69
  v70 := Tryz.zeroValue69
  t72 := Tryz.underlying71
  a72 := Tryz.isAgg71
  z72 := Tryz.sizeOf71
  v72 := Tryz.zeroValue71
  t75 := Tryz.underlying73
  a75 := Tryz.isAgg73
  z75 := Tryz.sizeOf73
  v75 := Tryz.zeroValue73
  t76 := Tryz.underlying75
  a76 := Tryz.isAgg75
  z76 := Tryz.sizeOf75
  v76 := Tryz.zeroValue75
  t127 := Tryz.underlying98
  a127 := Tryz.isAgg98
  z127 := Tryz.sizeOf98
  v127 := Tryz.zeroValue98
  t164 := Tryz.underlying125
  a164 := Tryz.isAgg125
  z164 := Tryz.sizeOf125
  v164 := Tryz.zeroValue125 }
theorem Tryz.Builder_Extra_156 : Builder.Extra Tryz.prog Tryz.lays156_ren := {
  sizeBuilder := by kernel_rfl
  liesBuilder := by kernel_rfl
  t5 := Tryz.underlying5
  a5 := Tryz.isAgg5
  z5 := Tryz.sizeOf5
  v5 := Tryz.zeroValue5
  infoByte := by kernel_rfl
  cellsByte := by kernel_rfl
  sizeByte := by kernel_rfl
  neB5 := by decide }
open Go.RowKit in
theorem Tryz.strings_Join_none (a : Option Addr) (c : Nat) (sep : ByteArray) (w : World) :
    Calls Tryz.prog 41 #[.slice a 0 c, .string sep] w fun e w' => e = .returned (.string ⟨#[]⟩) ∧ w' = w := Any.strings_Join_none Tryz.lays156 Tryz.Builder_Extra_156 a c sep w
open Go.RowKit in
theorem Tryz.strings_Join (bk o c : Nat) (xs : List ByteArray) (sep : ByteArray) (w : World) (hcells : ∀ (j : Nat) x, xs[j]? = some x → w.cell? ⟨bk, o + j, none⟩ = some (.string x)) (hbk : bk < w.heap.size) (hN : xs.length ≤ 140737488355328) (hcap : xs.length ≤ c) (hlen : (Lib.join (xs.map (·.data.toList)) sep.data.toList).length ≤ 140737488355328) :
    Calls Tryz.prog 41 #[.slice (some ⟨bk, o, none⟩) xs.length c, .string sep] w fun e w' => e = .returned (.string ⟨(Lib.join (xs.map (·.data.toList)) sep.data.toList).toArray⟩) ∧ Below w.heap.size w w' := Any.strings_Join Tryz.lays156 Tryz.Builder_Extra_156 bk o c xs sep w hcells hbk hN hcap hlen
def Tryz.lays144_ren : Go.Shelf.Ren := ⟨fun | 144 => 24 | 143 => 43 | 219 => 72 | 217 => 102 | 225 => 103 | 224 => 104 | 267 => 105 | 266 => 126 | 314 => 127 | n => n, fun | 9 => 9 | 4 => 4 | 3 => 3 | 5 => 5 | 46 => 77 | 146 => 131 | 51 => 130 | n => n, fun | 1 => 0 | n => n⟩
theorem Tryz.lays144 : Go.Proofs.Lays.n144 Tryz.prog Tryz.lays144_ren := {
  mixed := by kernel_rfl
  f143 := Tryz.func43.trans (congrArg some (by kernel_rfl))
  f144 := Tryz.func24.trans (congrArg some (by kernel_rfl))
  f217 := Tryz.func102.trans (congrArg some (by kernel_rfl))
  f219 := Tryz.func72.trans (congrArg some (by kernel_rfl))
  f224 := Tryz.func104.trans (congrArg some (by kernel_rfl))
  f225 := Tryz.func103.trans (congrArg some (by kernel_rfl))
  f266 := Tryz.func126.trans (congrArg some (by kernel_rfl))
  f267 := Tryz.func105.trans (congrArg some (by kernel_rfl))
  f314 := Tryz.func127.trans (congrArg some (by kernel_rfl))
  t3 := Tryz.underlying3
  a3 := Tryz.isAgg3
  z3 := Tryz.sizeOf3
  v3 := Tryz.zeroValue3
  t4 := Tryz.underlying4
  a4 := Tryz.isAgg4
  z4 := Tryz.sizeOf4
  v4 := Tryz.zeroValue4
  t5 := Tryz.underlying5
  a5 := Tryz.isAgg5
  z5 := Tryz.sizeOf5
  v5 := Tryz.zeroValue5
  t9 := Tryz.underlying9
  a9 := Tryz.isAgg9
  z9 := Tryz.sizeOf9
  v9 := Tryz.zeroValue9
  t46 := Tryz.underlying77
  a46 := Tryz.isAgg77
  z46 := Tryz.sizeOf77
  v46 := Tryz.zeroValue77
  t51 := Tryz.underlying130
  a51 := Tryz.isAgg130
  z51 := Tryz.sizeOf130
  v51 := Tryz.zeroValue130
  t146 := Tryz.underlying131
  a146 := Tryz.isAgg131
  z146 := Tryz.sizeOf131
  v146 := Tryz.zeroValue131
  g1 := by kernel_rfl }
open Go.RowKit Go.Lib in
theorem Tryz.strings_Contains_one (s : ByteArray) (c : UInt8) (w : World) :
    Calls Tryz.prog 24 #[.string s, .string ⟨#[c]⟩] w fun e w' => e = .returned (.bool (decide (0 ≤ Lib.indexByte s.data.toList c))) ∧ w' = w := Any.strings_Contains_one Tryz.lays144 s c w
end Go.Proofs
