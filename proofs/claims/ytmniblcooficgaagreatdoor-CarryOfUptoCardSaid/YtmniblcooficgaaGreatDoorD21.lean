import Derived.Deep.RegionLaw
import Derived.Deep.DeepCutAuto
import Derived.Deep.CutBlock
import Derived.Test.YtmniblcooficgaaGreatDoorD02
import Derived.Test.YtmniblcooficgaaGreatDoorD08
import Derived.Test.YtmniblcooficgaaGreatDoorD20
namespace Go.Proofs.YtmniblcooficgaaGreatDoor
open Go.RowKit Ev5
set_option linter.unusedSimpArgs false
set_option linter.unusedVariables false

theorem bthen {w w1 w2 : World} (h : Below w.heap.size w w1) (k : Below w1.heap.size w1 w2) : Below w.heap.size w w2 := h.trans (k.mono h.size)
structure Cp (w0 w : World) (B : Nat) (k : Int) (t v : ByteArray) (u : Value) (ps : List (Nd × Value)) : Prop where
  blk : w.heap[B]? = some (.cells #[.int .i64 k, .string t, .string v, u] 24 (0, 0))
  res : w.heap[B + 1]? = some (.cells #[.int .i64 0, .string ⟨#[]⟩, .string ⟨#[]⟩, .slice none 0 0] 24 (0, 0))
  own : OwnK w (B + 2) u ps
  bel : Below B w0 w
theorem Cp.below {w0 w w' : World} {B : Nat} {k : Int} {t v : ByteArray} {u : Value} {ps : List (Nd × Value)} (h : Cp w0 w B k t v u ps) (hb : Below w.heap.size w w') : Cp w0 w' B k t v u ps :=
  ⟨(hb.block _ (lt_blk h.blk)).trans h.blk, (hb.block _ (lt_blk h.res)).trans h.res, h.own.below hb, h.bel.trans (hb.mono (by have := lt_blk h.blk; omega))⟩
structure NdCells (w : World) (b : Nat) (k : Int) (t v : ByteArray) (u : Value) : Prop where
  c0 : w.cell? ⟨b, 0, none⟩ = some (.int .i64 k)
  c1 : w.cell? ⟨b, 1, none⟩ = some (.string t)
  c2 : w.cell? ⟨b, 2, none⟩ = some (.string v)
  c3 : w.cell? ⟨b, 3, none⟩ = some u
  f0 : w.frozen? ⟨b, 0, none⟩ = false
  f1 : w.frozen? ⟨b, 1, none⟩ = false
  f2 : w.frozen? ⟨b, 2, none⟩ = false
  f3 : w.frozen? ⟨b, 3, none⟩ = false
  lt : b < w.heap.size
theorem nd_cells {w : World} {b : Nat} {k : Int} {t v : ByteArray} {u : Value} (h : w.heap[b]? = some (.cells #[.int .i64 k, .string t, .string v, u] 24 (0, 0))) : NdCells w b k t v u :=
  ⟨(blk_cell h 0 (by simp)).1, (blk_cell h 1 (by simp)).1, (blk_cell h 2 (by simp)).1, (blk_cell h 3 (by simp)).1, (blk_cell h 0 (by simp)).2, (blk_cell h 1 (by simp)).2, (blk_cell h 2 (by simp)).2, (blk_cell h 3 (by simp)).2, lt_blk h⟩
theorem Cp.far {w0 w : World} {B : Nat} {k : Int} {t v : ByteArray} {u : Value} {ps : List (Nd × Value)} (h : Cp w0 w B k t v u ps) (W3 w5 : World) (hb : Below w.heap.size w W3) (hg : W3.grownBy w5 u.ownBlock) :
    w5.heap[B]? = some (.cells #[.int .i64 k, .string t, .string v, u] 24 (0, 0)) ∧ w5.heap[B + 1]? = some (.cells #[.int .i64 0, .string ⟨#[]⟩, .string ⟨#[]⟩, .slice none 0 0] 24 (0, 0)) ∧ Below B w0 w5 := by
  have h3 := h.below hb
  have hne : ∀ b, b < B + 2 → u.ownBlock ≠ some b := by
    intro b hb' e
    rcases h3.own.row.2 with ⟨rfl, _⟩ | ⟨g, cap, cur, rfl, hg', _⟩
    · simp [Value.ownBlock] at e
    · simp [Value.ownBlock] at e; omega
  refine ⟨?_, ?_, ?_⟩
  · rw [hg.block B (lt_blk h3.blk) (fun e => hne B (by omega) e.symm)]; exact h3.blk
  · rw [hg.block (B + 1) (lt_blk h3.res) (fun e => hne (B + 1) (by omega) e.symm)]; exact h3.res
  · refine h3.bel.trans (Below.grown (Below.refl B W3) hg (by have := lt_blk h3.blk; omega) (fun b hb' => ?_))
    rcases Nat.lt_or_ge b B with h1 | h1
    · exact absurd hb' (hne b (by omega))
    · exact h1
theorem heap_set4 {w : World} {b : Nat} {x0 x1 x2 x3 u : Value} {t : TypeId} (h : w.heap[b]? = some (.cells #[x0, x1, x2, x3] t (0, 0))) : (w.setCell ⟨b, 3, none⟩ u).heap[b]? = some (.cells #[x0, x1, x2, u] t (0, 0)) := by
  obtain ⟨hlt, he⟩ := Array.getElem?_eq_some_iff.1 h
  show (w.heap.modify b _)[b]? = _
  rw [Array.getElem?_eq_getElem (by rw [Array.size_modify]; exact hlt), Array.getElem_modify_self, he]
  rfl
theorem Cp.push {w0 w W3 w5 : World} {B : Nat} {k : Int} {t v : ByteArray} {u uk : Value} {ps : List (Nd × Value)} {x : Nd} {g cap : Nat} (h : Cp w0 w B k t v u ps) (hb : Below w.heap.size w W3) (hsk : SlIn W3 (fun b => w.heap.size ≤ b) uk x.kids)
    (hown : w5.ownsRow (B + 2) 24 4 (.slice (some ⟨g, 0, none⟩) (ps.length + 1) cap) (ps.length + 1) (ndRow ps ++ ndL x uk)) (hg : W3.grownBy w5 u.ownBlock) (hat : u.ownBlock = some g ∨ W3.heap.size ≤ g) :
    Cp w0 (w5.setCell ⟨B, 3, none⟩ (.slice (some ⟨g, 0, none⟩) (ps.length + 1) cap)) B k t v (.slice (some ⟨g, 0, none⟩) (ps.length + 1) cap) (ps ++ [(x, uk)]) := by
  obtain ⟨f1, f2, f3⟩ := h.far W3 w5 hb hg
  have hBw : B + 2 ≤ w.heap.size := by have := lt_blk h.res; omega
  have ho : OwnK W3 (B + 2) u ps := h.own.below hb
  have hsk' := h.own.apart hBw hsk
  have ho2 := ho.snoc hsk' hown hg hat
  refine ⟨heap_set4 f1, ?_, ho2.other (grown_set w5 B 3 _) (by omega), f3.setCell (p := ⟨B, 3, none⟩) (Nat.le_refl _) _⟩
  rw [show (w5.setCell ⟨B, 3, none⟩ (.slice (some ⟨g, 0, none⟩) (ps.length + 1) cap)).heap[B + 1]? = w5.heap[B + 1]? from Below.heap_setCell w5 _ _ (B + 1) (by simp)]
  exact f2

end Go.Proofs.YtmniblcooficgaaGreatDoor

namespace Go.Proofs.YtmniblcooficgaaGreatDoor
open Go.RowKit Ev5
set_option linter.unusedSimpArgs false
set_option linter.unusedVariables false

theorem set_other {w : World} {c i b : Nat} {v : Value} (h : b ≠ c) : (w.setCell ⟨c, i, none⟩ v).heap[b]? = w.heap[b]? := Below.heap_setCell w _ _ b (by simpa using h)
theorem heap_set1 {w : World} {b : Nat} {x u : Value} {t : TypeId} (h : w.heap[b]? = some (.cells #[x] t (0, 0))) : (w.setCell ⟨b, 0, none⟩ u).heap[b]? = some (.cells #[u] t (0, 0)) := by
  obtain ⟨hlt, he⟩ := Array.getElem?_eq_some_iff.1 h
  show (w.heap.modify b _)[b]? = _
  rw [Array.getElem?_eq_getElem (by rw [Array.size_modify]; exact hlt), Array.getElem_modify_self, he]
  rfl
structure Gw (w w' : World) (v v' : Value) : Prop where
  grown : w.grownBy w' v.ownBlock
  at_ : ∀ g, v'.ownBlock = some g → v.ownBlock = some g ∨ w.heap.size ≤ g
theorem grown_below {w w' : World} (h : Below w.heap.size w w') (r : Option Nat) : w.grownBy w' r := ⟨h.os, h.tape, h.output, h.size, fun k hk _ => h.block k hk⟩
theorem Gw.of {w w' : World} (h : Below w.heap.size w w') (v : Value) : Gw w w' v v := ⟨grown_below h _, fun g h => .inl h⟩
theorem Gw.trans {a b c : World} {u v x : Value} (h : Gw a b u v) (k : Gw b c v x) : Gw a c u x := by
  refine ⟨⟨k.grown.os.trans h.grown.os, k.grown.tape.trans h.grown.tape, k.grown.output.trans h.grown.output, Nat.le_trans h.grown.size k.grown.size, fun i hi hne => ?_⟩, fun g hg => ?_⟩
  · refine (k.grown.block i (Nat.lt_of_lt_of_le hi h.grown.size) (fun e => ?_)).trans (h.grown.block i hi hne)
    rcases h.at_ i e.symm with e2 | e2
    · exact hne e2.symm
    · omega
  · rcases k.at_ g hg with e | e
    · exact h.at_ g e
    · exact .inr (Nat.le_trans h.grown.size e)
theorem Gw.below {w w' : World} {v v' : Value} {base : Nat} (h : Gw w w' v v') (hb : base ≤ w.heap.size) (hv : ∀ g, v.ownBlock = some g → base ≤ g) : Below base w w' :=
  ⟨h.grown.os, h.grown.tape, h.grown.output, h.grown.size, fun k hk => h.grown.block k (by omega) (fun e => by have := hv k e.symm; omega)⟩
theorem Gw.blk {w w' : World} {v v' : Value} {b : Nat} {o : Obj} (h : Gw w w' v v') (hb : w.heap[b]? = some o) (hne : v.ownBlock ≠ some b) : w'.heap[b]? = some o :=
  (h.grown.block b (lt_blk hb) (fun e => hne e.symm)).trans hb
theorem EvOwn.lies {w : World} {base : Nat} {v : Value} {l : List GoEv} (h : EvOwn w base v l) (g : Nat) (hg : v.ownBlock = some g) : base ≤ g ∧ g < w.heap.size := by
  rcases h.2 with ⟨rfl, _⟩ | ⟨g', cap, cur, rfl, hb, hgg, _⟩
  · simp [Value.ownBlock] at hg
  · simp [Value.ownBlock] at hg; subst hg; exact ⟨hb, lt_blk hgg⟩

mutual
def Nd.ok : Nd → Prop
  | .mk k t v ks => EvOK ⟨k, t, v⟩ ∧ Nd.oks ks
def Nd.oks : List Nd → Prop
  | [] => True
  | n :: r => n.ok ∧ Nd.oks r
end
theorem ok_mk (k : Int) (t v : ByteArray) (ks : List Nd) : (Nd.mk k t v ks).ok ↔ EvOK ⟨k, t, v⟩ ∧ Nd.oks ks := by rw [Nd.ok]
theorem oks_iff (l : List Nd) : Nd.oks l ↔ ∀ x ∈ l, x.ok := by
  induction l with
  | nil => simp [Nd.oks]
  | cons x r ih => rw [Nd.oks]; simp [ih]
theorem emp_size : emp.size ≤ 1048576 := by show (0 : Nat) ≤ 1048576; decide
theorem endEv_ok (k : Int) : EvOK (endEv k) := by
  refine ⟨?_, emp_size, emp_size⟩
  show (Lit.int .i64 (endK k)).wf = true
  rcases endK_cases k with ⟨_, e⟩ | ⟨_, e⟩ | ⟨_, e⟩ | ⟨_, _, _, e⟩ <;> rw [e] <;> decide
theorem walk_ok (n : Nd) : n.ok → ∀ x ∈ n.walk, EvOK x := by
  refine Nd.ind (C := fun n => n.ok → ∀ x ∈ n.walk, EvOK x) ?_ n
  intro k t v ks ih hok
  rw [ok_mk] at hok
  have hks := (oks_iff _).1 hok.2
  have hk : ∀ l : List Nd, (∀ x ∈ l, x ∈ ks) → ∀ x ∈ Nd.walks l, EvOK x := by
    intro l
    induction l with
    | nil => intro _ x hx; rw [walks_nil] at hx; cases hx
    | cons a r ihl =>
      intro hin x hx
      rw [walks_cons] at hx
      rcases List.mem_append.1 hx with hx | hx
      · exact ih a (hin a (by simp)) (hks a (hin a (by simp))) x hx
      · exact ihl (fun y hy => hin y (List.mem_cons_of_mem _ hy)) x hx
  intro x hx
  rw [walk_mk] at hx
  split at hx
  · simp at hx; subst hx; exact ⟨by show (Lit.int .i64 0).wf = true; decide, emp_size, emp_size⟩
  · rcases List.mem_cons.1 hx with rfl | hx
    · exact hok.1
    · rcases List.mem_append.1 hx with hx | hx
      · exact hk ks (fun _ h => h) x hx
      · split at hx
        · cases hx
        · simp at hx; subst hx; exact endEv_ok k
theorem refEnd_any (k : Int) (w : World) : Calls Tryz.prog 64 #[.int .i64 k] w fun e w' => e = .returned (.int .i64 (endK k)) ∧ w' = w := by
  rcases endK_cases k with ⟨rfl, he⟩ | ⟨rfl, he⟩ | ⟨rfl, he⟩ | ⟨h5, h7, h10, he⟩
  · go_enter Tryz.func64, Tryz.ntmps64
    go_wp2
    go_ret
    exact ⟨rfl, rfl⟩
  · go_enter Tryz.func64, Tryz.ntmps64
    go_wp2
    go_ret
    exact ⟨rfl, rfl⟩
  · go_enter Tryz.func64, Tryz.ntmps64
    go_wp2
    go_ret
    exact ⟨rfl, rfl⟩
  · have q5 : (k == 5) = false := by simpa using h5
    have q7 : (k == 7) = false := by simpa using h7
    have q10 : (k == 10) = false := by simpa using h10
    have HE := Lib.hid he; clear he h5 h7 h10
    go_enter Tryz.func64, Tryz.ntmps64
    go_wp2
    go_ret
    exact ⟨by rw [HE.out]; rfl, rfl⟩
theorem ends_any (k : Int) (w : World) : Calls Tryz.prog 109 #[.int .i64 k] w fun e w' => e = .returned (.int .i64 (endK k)) ∧ w' = w := by
  rcases endK_cases k with ⟨rfl, he⟩ | ⟨rfl, he⟩ | ⟨rfl, he⟩ | ⟨h5, h7, h10, he⟩
  · go_enter Tryz.func109, Tryz.ntmps109
    go_wp2
    go_ret
    exact ⟨rfl, rfl⟩
  · go_enter Tryz.func109, Tryz.ntmps109
    go_wp2
    go_ret
    exact ⟨rfl, rfl⟩
  · go_enter Tryz.func109, Tryz.ntmps109
    go_wp2
    go_ret
    exact ⟨rfl, rfl⟩
  · have q5 : (k == 5) = false := by simpa using h5
    have q7 : (k == 7) = false := by simpa using h7
    have q10 : (k == 10) = false := by simpa using h10
    have HE := Lib.hid he; clear he h5 h7 h10
    go_enter Tryz.func109, Tryz.ntmps109
    go_wp2
    go_ret
    exact ⟨by rw [HE.out]; rfl, rfl⟩
end Go.Proofs.YtmniblcooficgaaGreatDoor

namespace Go.Proofs.YtmniblcooficgaaGreatDoor
open Go.RowKit Ev5
set_option linter.unusedSimpArgs false
set_option linter.unusedVariables false

def GoesPost (n : Nd) (w0 w : World) (base : Nat) (v : Value) (had : List GoEv) (st : St) (e : Ending) (w' : World) : Prop :=
  ∃ (v' : Value) (E : Int), e = .returned (.tuple #[v', .int .i64 E]) ∧ E = (runP RP st (n.walk.map GoEv.ev)).2.2 ∧ Gw w w' v v' ∧ (E = 0 → Had w0 w' base v' (had ++ n.walk) (runP RP st (n.walk.map GoEv.ev)).1)
def GoesOf (n : Nd) : Prop := ∀ (w0 w : World) (base : Nat) (S : Nat → Prop) (val v : Value) (had : List GoEv) (st : St), NdV w S val n → (∀ b, S b → b < base) → n.ok → Had w0 w base v had st → w0.heap.size ≤ base → base ≤ w.heap.size → had.length + n.walk.length ≤ 900000 →
  Calls Tryz.prog 38 #[val, v] w (GoesPost n w0 w base v had st)

theorem run_refuse (R : Ev → Bool) (st : St) (x : Ev) (l : List Ev) (h : (stepP R st x).2 ≠ 0) : (runP R st (x :: l)).2.2 = (stepP R st x).2 := by
  simp only [runP]; rw [if_neg h]
theorem run_take (R : Ev → Bool) (st : St) (x : Ev) (l : List Ev) (h : (stepP R st x).2 = 0) : (runP R st (x :: l)).2.2 = (runP R (stepP R st x).1 l).2.2 ∧ (runP R st (x :: l)).1 = (runP R (stepP R st x).1 l).1 := by
  simp only [runP]; rw [if_pos h]; exact ⟨rfl, rfl⟩
theorem run_more (R : Ev → Bool) : ∀ (a b : List Ev) (st : St), (runP R st a).2.2 = 0 → (runP R st (a ++ b)).2.2 = (runP R (runP R st a).1 b).2.2 ∧ (runP R st (a ++ b)).1 = (runP R (runP R st a).1 b).1
  | [], b, st, _ => ⟨rfl, rfl⟩
  | x :: a, b, st, h => by
    obtain ⟨h0, h1, h2⟩ := runP_step h
    obtain ⟨e1, e2⟩ := run_take R st x (a ++ b) h0
    obtain ⟨f1, f2⟩ := run_more R a b _ h1
    rw [List.cons_append, e1, e2, f1, f2, h2]; exact ⟨rfl, rfl⟩
theorem run_stop (R : Ev → Bool) : ∀ (a b : List Ev) (st : St), (runP R st a).2.2 ≠ 0 → (runP R st (a ++ b)).2.2 = (runP R st a).2.2
  | [], b, st, h => absurd rfl h
  | x :: a, b, st, h => by
    by_cases h0 : (stepP R st x).2 = 0
    · obtain ⟨e1, _⟩ := run_take R st x (a ++ b) h0
      obtain ⟨f1, _⟩ := run_take R st x a h0
      rw [List.cons_append, e1, f1]
      exact run_stop R a b _ (by rw [← f1]; exact h)
    · rw [List.cons_append, run_refuse R st x _ h0, run_refuse R st x _ h0]
theorem step_none (st : St) : stepP RP st ⟨0, [], []⟩ = (st, 19) := by unfold stepP; rw [if_pos (by rfl)]

theorem Gw.side {w w' w'' : World} {u v : Value} {b : Nat} (h : Gw w w' u v) (hg : w'.grownBy w'' (some b)) (hb : w.heap.size ≤ b) : Gw w w'' u v :=
  ⟨⟨hg.os.trans h.grown.os, hg.tape.trans h.grown.tape, hg.output.trans h.grown.output, Nat.le_trans h.grown.size hg.size, fun k hk hne => (hg.block k (Nat.lt_of_lt_of_le hk h.grown.size) (fun e => by injection e with e; omega)).trans (h.grown.block k hk hne)⟩, h.at_⟩
theorem Had.other {w0 w w' : World} {base B : Nat} {v : Value} {had : List GoEv} {st : St} (h : Had w0 w base v had st) (hg : w.grownBy w' (some B)) (hne : v.ownBlock ≠ some B) (hB : w0.heap.size ≤ B) : Had w0 w' base v had st := by
  refine ⟨h.own.kept hg (.inr hne), h.ok, h.tk, h.bel.grown hg h.bel.size (fun b e => by injection e with e; omega)⟩
theorem Had.app {w0 w2 w3 : World} {base g cap : Nat} {v : Value} {had : List GoEv} {st : St} (h : Had w0 w2 base v had st) (x : GoEv) (hx : EvOK x) (hbase : w0.heap.size ≤ base) (hbw : base ≤ w2.heap.size) (hz : (stepP RP st x.ev).2 = 0)
    (hown : w3.ownsRow base 85 3 (.slice (some ⟨g, 0, none⟩) (had.length + 1) cap) (had.length + 1) (evRow had ++ evL x)) (hgrow : (w2.alloc (.cells #[.int .i64 x.k, .string x.t, .string x.v] 85)).grownBy w3 v.ownBlock) (hat : v.ownBlock = some g ∨ g = w2.heap.size + 1) :
    Had w0 w3 base (.slice (some ⟨g, 0, none⟩) (had.length + 1) cap) (had ++ [x]) (stepP RP st x.ev).1 ∧ Gw w2 w3 v (.slice (some ⟨g, 0, none⟩) (had.length + 1) cap) := by
  refine ⟨h.snoc x hx hbase hbw hown hgrow (h.tk.step hz), (Gw.of ((Below.refl _ _).alloc (Nat.le_refl _) _) v).trans ⟨hgrow, fun g' e => ?_⟩⟩
  simp only [Value.ownBlock, Option.some.injEq] at e
  subst e
  rcases hat with h | h
  · exact .inl h
  · exact .inr (by simp; omega)
theorem fill3 {w : World} {b : Nat} {x0 x1 x2 : Value} {t : TypeId} (y0 y1 y2 : Value) (h : w.heap[b]? = some (.cells #[x0, x1, x2] t (0, 0))) :
    (((w.setCell ⟨b, 0, none⟩ y0).setCell ⟨b, 1, none⟩ y1).setCell ⟨b, 2, none⟩ y2).heap[b]? = some (.cells #[y0, y1, y2] t (0, 0)) ∧
    w.grownBy (((w.setCell ⟨b, 0, none⟩ y0).setCell ⟨b, 1, none⟩ y1).setCell ⟨b, 2, none⟩ y2) (some b) := by
  have st : ∀ (w : World) (cs : Array Value) (i : Nat) (y : Value), w.heap[b]? = some (.cells cs t (0, 0)) → (w.setCell ⟨b, i, none⟩ y).heap[b]? = some (.cells (cs.setIfInBounds i y) t (0, 0)) := by
    intro w cs i y h
    obtain ⟨hlt, he⟩ := Array.getElem?_eq_some_iff.1 h
    show (w.heap.modify b _)[b]? = _
    rw [Array.getElem?_eq_getElem (by rw [Array.size_modify]; exact hlt), Array.getElem_modify_self, he]
    rfl
  refine ⟨?_, grown_trans (grown_trans (grown_set _ b 0 _) (grown_set _ b 1 _)) (grown_set _ b 2 _)⟩
  exact st _ _ 2 y2 (st _ _ 1 y1 (st _ _ 0 y0 h))
theorem leaf_bool (k : Int) : leafK k = ((k == 1) || ((k == 2) || ((k == 3) || ((k == 4) || (k == 11))))) := by
  unfold leafK; rw [Bool.eq_iff_iff]; simp

set_option maxRecDepth 1000000 in
set_option maxHeartbeats 16000000 in
theorem refGoes_any (n : Nd) : GoesOf n := by
  refine Nd.ind (C := GoesOf) ?_ n
  intro k t v ks ih w0 w base S val vl had st hnv hS hok hH hw0 hbw hlen
  obtain ⟨u, rfl, hs⟩ := hnv
  simp only [ndV, Nd.k, Nd.t, Nd.v, Nd.kids] at hs ⊢
  have HS := Lib.hid hs
  obtain ⟨ao, cap, rfl, hcap, hcm⟩ := hs.shape
  clear hs
  unfold maxLen at hcm
  rw [ok_mk] at hok
  have HIH := Lib.hid ih
  have HOX := Lib.hid hok.1
  have HOK := Lib.hid ((oks_iff _).1 hok.2)
  have HSS := Lib.hid hS
  have HLEN := Lib.hid hlen
  have HW0 := Lib.hid hw0
  clear ih hok hS hlen hw0
  obtain ⟨i0, hi, hz0, hz1, hz2⟩ := info_parts infoE
  have HI := Lib.hid hi; clear hi
  obtain ⟨va, vcap, rfl⟩ := hH.shape
  have HB1 := Lib.hid (show Below w.heap.size w (w.alloc (.cells #[.int .i64 k, .string t, .string v, .slice ao ks.length cap] 24)) from (Below.refl _ _).alloc (Nat.le_refl _) _)
  have HH := Lib.hid hH
  clear hH
  go_enter Tryz.func38, Tryz.ntmps38
  go_wp2_with fail
  refine (refEnd_any _ _).mono ?_
  rintro e w1 ⟨rfl, hw⟩
  subst hw
  go_upto_region 2 with (fail)
  go_cut [7] (fun c wx => c = .bool (leafK k) ∧ w.alloc (.cells #[.int .i64 k, .string t, .string v, .slice ao ks.length cap] 24) = wx)
  case first =>
    have hks : ((k == 1) = true) ∨ ((k == 1) = false ∧ (k == 2) = true) ∨ ((k == 1) = false ∧ (k == 2) = false ∧ (k == 3) = true) ∨ ((k == 1) = false ∧ (k == 2) = false ∧ (k == 3) = false ∧ (k == 4) = true) ∨ ((k == 1) = false ∧ (k == 2) = false ∧ (k == 3) = false ∧ (k == 4) = false ∧ (k == 11) = true) ∨ ((k == 1) = false ∧ (k == 2) = false ∧ (k == 3) = false ∧ (k == 4) = false ∧ (k == 11) = false) := by
      cases (k == 1) <;> cases (k == 2) <;> cases (k == 3) <;> cases (k == 4) <;> cases (k == 11) <;> simp
    have HL := Lib.hid (leaf_bool k)
    rcases hks with q1 | ⟨q1, q2⟩ | ⟨q1, q2, q3⟩ | ⟨q1, q2, q3, q4⟩ | ⟨q1, q2, q3, q4, q11⟩ | ⟨q1, q2, q3, q4, q11⟩
    all_goals
      go_wp2_with fail
      go_meet
      case rel => exact ⟨by rw [HL.out]; simp [*], rfl⟩
  case rest =>
  obtain ⟨rfl, rfl⟩ := hcut
  obtain ⟨E, hE⟩ : ∃ E, endK k = E := ⟨_, rfl⟩
  rw [hE]
  have HEK := Lib.hid hE; clear hE
  go_upto_region 3 with (fail)
  go_cut [7, 59] (fun c7 c wx => c7 = .bool (leafK k) ∧ c = .bool (oddK k ks.length) ∧ w.alloc (.cells #[.int .i64 k, .string t, .string v, .slice ao ks.length cap] 24) = wx)
  case first =>
    by_cases hE : E = 0
    · have hEb : (E != 0) = false := by simp [hE]
      cases hL : leafK k
      · by_cases h8 : k = 8
        · have h8b : (k == 8) = true := by simp [h8]
          by_cases h1 : ks.length = 1
          · have h1b : ((ks.length : Int) == 1) = true := by simp [h1]
            have HO := Lib.hid (show oddK k ks.length = false by unfold oddK; rw [hL, if_neg (by simp), if_pos h8]; simp [h1])
            clear hE h8 h1
            go_wp2_with fail
            go_meet
            case rel => exact ⟨by rw [hL], by rw [HO.out], rfl⟩
          · have h1b : ((ks.length : Int) == 1) = false := by rw [beq_eq_false_iff_ne]; omega
            have HO := Lib.hid (show oddK k ks.length = true by unfold oddK; rw [hL, if_neg (by simp), if_pos h8]; simp [h1])
            clear hE h8 h1
            go_wp2_with fail
            go_meet
            case rel => exact ⟨by rw [hL], by rw [HO.out], rfl⟩
        · have h8b : (k == 8) = false := by simp [h8]
          have HO := Lib.hid (show oddK k ks.length = true by unfold oddK; rw [hL, if_neg (by simp), if_neg h8, HEK.out, hE]; rfl)
          clear hE h8
          go_wp2_with fail
          go_meet
          case rel => exact ⟨by rw [hL], by rw [HO.out], rfl⟩
      · have h8 : k ≠ 8 := by rintro rfl; revert hL; decide
        have h8b : (k == 8) = false := by simp [h8]
        by_cases h0 : ks.length = 0
        · have h0b : ((ks.length : Int) == 0) = true := by simp [h0]
          have HO := Lib.hid (show oddK k ks.length = false by unfold oddK; rw [hL, if_pos rfl]; simp [h0])
          clear hE h8 h0
          go_wp2_with fail
          go_meet
          case rel => exact ⟨by rw [hL], by rw [HO.out], rfl⟩
        · have h0b : ((ks.length : Int) == 0) = false := by rw [beq_eq_false_iff_ne]; omega
          have HO := Lib.hid (show oddK k ks.length = true by unfold oddK; rw [hL, if_pos rfl]; simp; omega)
          clear hE h8 h0
          go_wp2_with fail
          go_meet
          case rel => exact ⟨by rw [hL], by rw [HO.out], rfl⟩
    · have hEb : (E != 0) = true := by simp [hE]
      have HO := Lib.hid (show oddK k ks.length = false by
        have he := HEK.out
        rcases endK_cases k with ⟨rfl, _⟩ | ⟨rfl, _⟩ | ⟨rfl, _⟩ | ⟨_, _, _, h⟩
        · rfl
        · rfl
        · rfl
        · omega)
      clear hE
      go_wp2_with fail
      go_meet
      case rel => exact ⟨rfl, by rw [HO.out], rfl⟩
  case rest =>
  obtain ⟨rfl, rfl, rfl⟩ := hcut
  cases hod : oddK k ks.length
  · have HWK := Lib.hid (show (Nd.mk k t v ks).walk = ⟨k, t, v⟩ :: (Nd.walks ks ++ (if E = 0 then [] else [endEv k])) by rw [walk_mk, if_neg (by rw [hod]; simp), HEK.out])
    clear hod
    have hwl := HLEN.out
    rw [HWK.out, List.length_cons, List.length_append] at hwl
    have HB2 := Lib.hid (show Below w.heap.size w ((w.alloc (.cells #[.int .i64 k, .string t, .string v, .slice ao ks.length cap] 24)).alloc (.cells #[.int .i64 k, .string t, .string v] 85)) from HB1.out.alloc (by simp) _)
    have HEV := Lib.hid ((HH.out.below HB2.out).own.evIn HH.out.ok (by omega))
    have HRS := Lib.hid (ref_step RP st (had.map GoEv.ev) ⟨k, t.data.toList, v.data.toList⟩ HH.out.tk.inv HH.out.tk.knows)
    clear hwl
    go_wp2_with fail
    refine (refStep_any _ _ had HEV.out ⟨k, t, v⟩ HOX.out).mono ?_
    rintro e w2 ⟨rfl, hb⟩
    rw [show refStepP RP (had.map GoEv.ev) (GoEv.ev ⟨k, t, v⟩) = (stepP RP st ⟨k, t.data.toList, v.data.toList⟩).2 from HRS.out]
    have hbw2 : base ≤ w2.heap.size := by have := HB2.out.size; have := hb.size; omega
    have hb1 : w2.heap[w.heap.size]? = some (.cells #[.int .i64 k, .string t, .string v, .slice ao ks.length cap] 24 (0, 0)) := by
      rw [hb.block _ (by simp; omega)]; exact two_first _ _ _
    have hb2 : w2.heap[w.heap.size + 1]? = some (.cells #[.int .i64 k, .string t, .string v] 85 (0, 0)) := by
      rw [hb.block _ (by simp)]; exact two_last _ _ _
    have HBX := Lib.hid (bthen HB2.out hb)
    have HH2 := Lib.hid (HH.out.below HBX.out)
    have HSZ2 := Lib.hid (show w.heap.size + 2 ≤ w2.heap.size by have := hb.size; simp at this; omega)
    clear hb HEV HRS
    by_cases hz : (stepP RP st ⟨k, t.data.toList, v.data.toList⟩).2 = 0
    · have HZ := Lib.hid hz
      rw [hz]
      clear hz
      have hhl : had.length + 1 ≤ maxLen ∧ (had.length + 1) * 40 ≤ 140737488355328 := by have := HLEN.out; unfold maxLen; omega
      obtain ⟨n1, n2⟩ := hhl
      obtain ⟨ec0, ec1, ec2, ec3⟩ := ev_cells (x := ⟨k, t, v⟩) hb2
      have HO2 := Lib.hid HH2.out.own
      have HB12 := Lib.hid (And.intro hb1 hb2)
      clear hb1 hb2
      go_wp2_with (first
        | (at_builtin; refine wpList_append_lies _ (by rfl) _ _ _ (by rfl) base 85 i0 _ 3 40 Tryz.underlying44 HI.out hz0 hz1 hz2 rfl (by omega) _ had.length _ (by rfl) (HO2.out.alloc _) ⟨w2.heap.size, 0, none⟩ 1 1 (evL ⟨k, t, v⟩) (by rfl) (by rfl) ev_news ev_one (by omega) n1 n2 (by simp; omega) (w2.heap.size + 1) (by simp) ?_)
        | fail)
      intro g gcap w3 hown hgrow hat hglt
      obtain ⟨hH3, hG3⟩ := HH2.out.app ⟨k, t, v⟩ HOX.out HW0.out hbw2 HZ.out hown hgrow hat
      have hne : ∀ b, b < w.heap.size + 2 → w.heap.size ≤ b → (Value.slice va had.length vcap).ownBlock ≠ some b := fun b _ hb e => by have := HH.out.own.lies b e; omega
      have hne2 : ∀ b, b < w.heap.size + 2 → w.heap.size ≤ b → (Value.slice (some ⟨g, 0, none⟩) (had.length + 1) gcap).ownBlock ≠ some b := fun b hb1 hb2 e => by
        rcases hG3.at_ b e with h | h
        · exact hne b hb1 hb2 h
        · have := HSZ2.out; omega
      have hb1 := hG3.blk HB12.out.1 (hne _ (by omega) (by omega))
      have hb2 := hG3.blk HB12.out.2 (hne _ (by omega) (by omega))
      have HB3 := Lib.hid (And.intro hb1 hb2)
      have HNE := Lib.hid hne2
      have HH3 := Lib.hid hH3
      have HG3 := Lib.hid ((Gw.of HBX.out _).trans hG3)
      have HSZ3 := Lib.hid (Nat.le_trans HSZ2.out hG3.grown.size)
      clear hown hgrow hat hglt hH3 hG3 hne hne2 hb1 hb2 ec0 ec1 ec2 ec3 n1 n2 HO2 HB12 hbw2
      obtain ⟨v1, hv1⟩ : ∃ v1, Value.slice (some ⟨g, 0, none⟩) (had.length + 1) gcap = v1 := ⟨_, rfl⟩
      rw [hv1] at HNE HH3 HG3
      rw [hv1]
      clear hv1
      have HR0 := Lib.hid (run_take RP st ⟨k, t.data.toList, v.data.toList⟩ [] HZ.out)
      go_wp2_with fail
      go_loopw [1, 10] (fun u1 u10 wr => ∃ (i : Nat) (v' : Value), i ≤ ks.length ∧ u10 = .int .i64 i ∧ v' = u1 ∧ Hid ((runP RP st (((⟨k, t, v⟩ :: Nd.walks (ks.take i)) : List GoEv).map GoEv.ev)).2.2 = 0) ∧ Hid (Had w0 wr base v' (had ++ (⟨k, t, v⟩ :: Nd.walks (ks.take i))) (runP RP st (((⟨k, t, v⟩ :: Nd.walks (ks.take i)) : List GoEv).map GoEv.ev)).1) ∧ Hid (Gw w3 wr v1 v'))
        (fun _ u10 _ => ks.length - (intOf u10).toNat)
      case atStart =>
        have e1 : (runP RP st (((⟨k, t, v⟩ :: Nd.walks (ks.take 0)) : List GoEv).map GoEv.ev)).2.2 = 0 ∧ (runP RP st (((⟨k, t, v⟩ :: Nd.walks (ks.take 0)) : List GoEv).map GoEv.ev)).1 = (stepP RP st ⟨k, t.data.toList, v.data.toList⟩).1 := by
          rw [List.take_zero, walks_nil]
          exact HR0.out
        refine ⟨0, v1, Nat.zero_le _, rfl, rfl, e1.1, ?_, Gw.of (Below.refl _ _) _⟩
        show Had _ _ _ _ _ _
        rw [e1.2, List.take_zero, walks_nil]
        exact HH3.out
      case round =>
        obtain ⟨i, v', hi, rfl, rfl, HRN, HHr, HGr⟩ := hrel
        have hBW : Below base w wr := (HG3.out.trans HGr.out).below hbw (fun g' e => (HH.out.own.lies g' e).1)
        have HBW := Lib.hid hBW; clear hBW
        have hbx := HGr.out.blk HB3.out.1 (HNE.out _ (by omega) (Nat.le_refl _))
        have hbe := HGr.out.blk HB3.out.2 (HNE.out _ (by omega) (by omega))
        have hvne : ∀ b, b < w.heap.size + 2 → w.heap.size ≤ b → v'.ownBlock ≠ some b := fun b h1 h2 e => by
          rcases HGr.out.at_ b e with h | h
          · exact HNE.out b h1 h2 h
          · have := HSZ3.out; omega
        have HVNE := Lib.hid hvne
        have hbwr : base ≤ wr.heap.size := by have := HBW.out.size; omega
        by_cases hlt : i < ks.length
        · obtain ⟨kc0, kc1, kc2, hc3, _, _, _, _, hbl⟩ := nd_cells hbx
          have HBE := Lib.hid hbe
          obtain ⟨b, o, ux, hao, hbw', c0, c1, c2, c3, hsx, hSb⟩ := HS.out.at2 i hlt
          subst hao
          obtain ⟨ax, cx, rfl, _, _⟩ := hsx.shape
          have hX := HIH.out ks[i] (List.getElem_mem hlt)
          have hOx := HOK.out ks[i] (List.getElem_mem hlt)
          have hbb := HSS.out b hSb
          have HTK := Lib.hid (show Nd.walks (ks.take (i + 1)) = Nd.walks (ks.take i) ++ ks[i].walk by rw [List.take_add_one, List.getElem?_eq_getElem hlt, walks_app]; show _ ++ Nd.walks [ks[i]] = _; rw [walks_one])
          have HSP := Lib.hid (show Nd.walks ks = Nd.walks (ks.take i) ++ (ks[i].walk ++ Nd.walks (ks.drop (i + 1))) by
            conv => lhs; rw [← List.take_append_drop i ks, walks_app, List.drop_eq_getElem_cons hlt, walks_cons])
          obtain ⟨x, hx⟩ : ∃ x, ks[i] = x := ⟨_, rfl⟩
          rw [hx] at c0 c1 c2 c3 hsx hX hOx HTK HSP
          have d0 : wr.cell? ⟨b, o + i * 4, none⟩ = some (.int .i64 x.k) := by rw [HBW.out.cell (p := ⟨b, o + i * 4, none⟩) hbb]; exact c0
          have d1 : wr.cell? ⟨b, o + i * 4 + 1, none⟩ = some (.string x.t) := by rw [HBW.out.cell (p := ⟨b, o + i * 4 + 1, none⟩) hbb]; exact c1
          have d2 : wr.cell? ⟨b, o + i * 4 + 2, none⟩ = some (.string x.v) := by rw [HBW.out.cell (p := ⟨b, o + i * 4 + 2, none⟩) hbb]; exact c2
          have d3 : wr.cell? ⟨b, o + i * 4 + 3, none⟩ = some (.slice ax x.kids.length cx) := by rw [HBW.out.cell (p := ⟨b, o + i * 4 + 3, none⟩) hbb]; exact c3
          have hbr : b < wr.heap.size := by have := HBW.out.size; omega
          have HNX := Lib.hid (show NdV wr S (ndV x (.slice ax x.kids.length cx)) x from .mk (hsx.alike ⟨HBW.out.size, fun b' hb' _ => HBW.out.block b' (HSS.out b' hb')⟩ fun _ h _ => h))
          have HX := Lib.hid hX; have HOKX := Lib.hid hOx
          have HL2 := Lib.hid (show (had ++ (⟨k, t, v⟩ :: Nd.walks (ks.take i)) : List GoEv).length + x.walk.length ≤ 900000 by
            have h1 := HLEN.out
            rw [HWK.out, HSP.out] at h1
            simp only [List.length_append, List.length_cons] at h1 ⊢
            omega)
          have HVS := Lib.hid HHr.out.shape
          clear c0 c1 c2 c3 hsx hx hX hOx hbx hbe hvne hSb kc0 kc1 kc2
          go_wp2_with fail
          refine (HX.out w0 wr base S _ v' _ _ HNX.out HSS.out HOKX.out HHr.out HW0.out hbwr HL2.out).mono ?_
          rintro e w5 ⟨v'', E1, rfl, hE, hG, hHd⟩
          have HG5 := Lib.hid (HGr.out.trans hG)
          have HE1 := Lib.hid hE
          have HHd := Lib.hid hHd
          clear hG hE hHd
          by_cases hz1 : E1 = 0
          · have HZ1 := Lib.hid hz1
            have hz1b : (E1 != 0) = false := by simp [hz1]
            have HR5 := Lib.hid (show (runP RP st (((⟨k, t, v⟩ :: Nd.walks (ks.take (i + 1))) : List GoEv).map GoEv.ev)).2.2 = 0 by
              rw [HTK.out, ← List.cons_append, List.map_append, (run_more RP _ _ st HRN.out).1, ← HE1.out]; exact HZ1.out)
            have HH5 := Lib.hid (show Had w0 w5 base v'' (had ++ (⟨k, t, v⟩ :: Nd.walks (ks.take (i + 1)))) (runP RP st (((⟨k, t, v⟩ :: Nd.walks (ks.take (i + 1))) : List GoEv).map GoEv.ev)).1 by
              rw [HTK.out, ← List.cons_append, List.map_append, (run_more RP _ _ st HRN.out).2, ← List.append_assoc]; exact HHd.out HZ1.out)
            clear hz1
            go_wp2_with fail
            go_roundw
            case rel => exact ⟨i + 1, v'', by omega, by go_num, rfl, HR5.out, HH5.out, HG5.out⟩
            case measure => simp [intOf]; omega
          · have HZ1 := Lib.hid hz1
            have hz1b : (E1 != 0) = true := by simp [hz1]
            have HT := Lib.hid (show E1 = (runP RP st ((Nd.mk k t v ks).walk.map GoEv.ev)).2.2 by
              rw [HWK.out, HSP.out, List.append_assoc, ← List.cons_append, List.map_append, (run_more RP _ _ st HRN.out).1, List.append_assoc, List.map_append]
              rw [run_stop RP _ _ _ (by rw [← HE1.out]; exact HZ1.out)]; exact HE1.out)
            clear hz1
            go_wp2_with fail
            go_ret2
            exact ⟨_, E1, rfl, HT.out, HG3.out.trans HG5.out, fun h => absurd h HZ1.out⟩
        · obtain rfl : i = ks.length := by omega
          clear hlt
          obtain ⟨kc0, kc1, kc2, hc3, _, _, _, _, hbl⟩ := nd_cells hbx
          rw [List.take_length] at HRN HHr
          obtain ⟨ec0, ec1, ec2, ec3⟩ := ev_cells (x := ⟨k, t, v⟩) hbe
          have ff0 := (blk_cell hbe 0 (by simp)).2
          have ff1 := (blk_cell hbe 1 (by simp)).2
          have ff2 := (blk_cell hbe 2 (by simp)).2
          have HBE := Lib.hid hbe
          clear hbe hbx hvne
          by_cases hE0 : E = 0
          · have hEb : (E != 0) = false := by simp [hE0]
            have HW2 := Lib.hid (show (Nd.mk k t v ks).walk = ⟨k, t, v⟩ :: Nd.walks ks by rw [HWK.out, if_pos hE0, List.append_nil])
            clear hE0
            go_wp2_with fail
            go_ret2
            exact ⟨_, 0, rfl, by rw [HW2.out]; exact HRN.out.symm, HG3.out.trans HGr.out, fun _ => by rw [HW2.out]; exact HHr.out⟩
          · have hEb : (E != 0) = true := by simp [hE0]
            have HW2 := Lib.hid (show (Nd.mk k t v ks).walk = (⟨k, t, v⟩ :: Nd.walks ks) ++ [⟨E, emp, emp⟩] by rw [HWK.out, if_neg hE0, List.cons_append]; show _ = _ :: (_ ++ [_]); rw [endEv, HEK.out])
            have HEO := Lib.hid (show EvOK ⟨E, emp, emp⟩ from by have := endEv_ok k; rw [endEv, HEK.out] at this; exact this)
            clear hE0
            obtain ⟨hd, hhd⟩ : ∃ hd, had ++ (⟨k, t, v⟩ :: Nd.walks ks) = hd := ⟨_, rfl⟩
            obtain ⟨sR, hsR⟩ : ∃ sR, (runP RP st (((⟨k, t, v⟩ :: Nd.walks ks) : List GoEv).map GoEv.ev)).1 = sR := ⟨_, rfl⟩
            have HR1 := Lib.hid (show (runP RP st ((Nd.mk k t v ks).walk.map GoEv.ev)).2.2 = (runP RP sR [⟨E, [], []⟩]).2.2 ∧ (runP RP st ((Nd.mk k t v ks).walk.map GoEv.ev)).1 = (runP RP sR [⟨E, [], []⟩]).1 by
              rw [HW2.out, List.map_append, (run_more RP _ _ st HRN.out).1, (run_more RP _ _ st HRN.out).2, hsR]; exact ⟨rfl, rfl⟩)
            have HR2 := Lib.hid (show had ++ (Nd.mk k t v ks).walk = hd ++ [⟨E, emp, emp⟩] by rw [HW2.out, ← hhd, List.append_assoc])
            have HLN := Lib.hid (show hd.length + 1 ≤ 900000 by have := HLEN.out; rw [← List.length_append, HR2.out, List.length_append] at this; simpa using this)
            rw [hhd, hsR] at HHr
            clear hhd hsR
            go_upto_region 18 with (fail)
            obtain ⟨w5, hw5⟩ : ∃ w5, (((wr.setCell ⟨w.heap.size + 1, 0, none⟩ (.int .i64 E)).setCell ⟨w.heap.size + 1, 1, none⟩ (.string ⟨#[]⟩)).setCell ⟨w.heap.size + 1, 2, none⟩ (.string ⟨#[]⟩)) = w5 := ⟨_, rfl⟩
            obtain ⟨hf, hgr⟩ := fill3 (.int .i64 E) (.string ⟨#[]⟩) (.string ⟨#[]⟩) HBE.out
            rw [hw5] at hf hgr
            rw [hw5]
            have HH5 := Lib.hid (HHr.out.other hgr (HVNE.out (w.heap.size + 1) (by omega) (by omega)) (by have := HW0.out; omega))
            have HGA := Lib.hid ((HG3.out.trans HGr.out).side hgr (by omega))
            have hf' : w5.heap[w.heap.size + 1]? = some (.cells (evC ⟨E, emp, emp⟩) 85 (0, 0)) := hf
            obtain ⟨fc0, fc1, fc2, fc3⟩ := ev_cells hf'
            have hbw5 : base ≤ w5.heap.size := by have := hgr.size; omega
            have HEV := Lib.hid (HH5.out.own.evIn HH5.out.ok (by have := HLN.out; omega))
            have HRS := Lib.hid (ref_step RP sR (hd.map GoEv.ev) ⟨E, [], []⟩ HH5.out.tk.inv HH5.out.tk.knows)
            have HF5 := Lib.hid hf'
            clear hf hf' hw5 hgr ff0 ff1 ff2 ec0 ec1 ec2 ec3 kc0 kc1 kc2 hc3 hbl HGr HHr hbwr HBE
            go_wp2_with fail
            refine (refStep_any _ _ hd HEV.out ⟨E, emp, emp⟩ HEO.out).mono ?_
            rintro e w6 ⟨rfl, hb⟩
            rw [show refStepP RP (hd.map GoEv.ev) (GoEv.ev ⟨E, emp, emp⟩) = (stepP RP sR ⟨E, [], []⟩).2 from HRS.out]
            have HH6 := Lib.hid (HH5.out.below hb)
            have HG6 := Lib.hid (HGA.out.trans (Gw.of hb _))
            have hbw6 : base ≤ w6.heap.size := by have := hb.size; omega
            have hf6 := (hb.block _ (lt_blk HF5.out)).trans HF5.out
            obtain ⟨gc0, gc1, gc2, gc3⟩ := ev_cells hf6
            clear hb HEV HRS fc0 fc1 fc2 fc3 hf6 HH5 HGA hbw5 HF5
            by_cases hz2 : (stepP RP sR ⟨E, [], []⟩).2 = 0
            · have HZ2 := Lib.hid hz2
              rw [hz2]
              clear hz2
              have hhl : hd.length + 1 ≤ maxLen ∧ (hd.length + 1) * 40 ≤ 140737488355328 := by have := HLN.out; unfold maxLen; omega
              obtain ⟨n1, n2⟩ := hhl
              have HO6 := Lib.hid HH6.out.own
              have HR3 := Lib.hid (run_take RP sR ⟨E, [], []⟩ [] HZ2.out)
              go_wp2_with (first
                | (at_builtin; refine wpList_append_lies _ (by rfl) _ _ _ (by rfl) base 85 i0 _ 3 40 Tryz.underlying44 HI.out hz0 hz1 hz2 rfl (by omega) _ hd.length _ (by rfl) (HO6.out.alloc _) ⟨w6.heap.size, 0, none⟩ 1 1 (evL ⟨E, emp, emp⟩) (by rfl) (by rfl) ev_news ev_one (by omega) n1 n2 (by simp; omega) (w6.heap.size + 1) (by simp) ?_)
                | fail)
              intro g gcap w7 hown hgrow hat hglt
              obtain ⟨hH7, hG7⟩ := HH6.out.app ⟨E, emp, emp⟩ HEO.out HW0.out hbw6 HZ2.out hown hgrow hat
              have HH7 := Lib.hid hH7
              have HG7 := Lib.hid (HG6.out.trans hG7)
              clear hown hgrow hat hglt hH7 hG7 gc0 gc1 gc2 gc3 n1 n2 HO6
              go_wp2_with fail
              go_ret2
              exact ⟨_, 0, rfl, by rw [HR1.out.1, HR3.out.1]; rfl, HG7.out, fun _ => by rw [HR2.out, HR1.out.2, HR3.out.2]; exact HH7.out⟩
            · obtain ⟨E2, hE2⟩ : ∃ E2, (stepP RP sR ⟨E, [], []⟩).2 = E2 := ⟨_, rfl⟩
              have HZ2 := Lib.hid hz2
              have HE2 := Lib.hid hE2
              have hz' : E2 ≠ 0 := by rw [← hE2]; exact hz2
              have hzb : (E2 != 0) = true := by simp [hz']
              have HZ' := Lib.hid hz'
              rw [hE2]
              clear hz2 hE2 hz' gc0 gc1 gc2 gc3
              go_wp2_with fail
              go_ret2
              exact ⟨_, E2, rfl, by rw [HR1.out.1, run_refuse RP _ _ _ HZ2.out, HE2.out], HG6.out, fun h => absurd h HZ'.out⟩
    · obtain ⟨E0, hE0⟩ : ∃ E0, (stepP RP st ⟨k, t.data.toList, v.data.toList⟩).2 = E0 := ⟨_, rfl⟩
      have HZ := Lib.hid hz
      have hz' : E0 ≠ 0 := by rw [← hE0]; exact hz
      have hzb : (E0 != 0) = true := by simp [hz']
      rw [hE0]
      have HE0 := Lib.hid hE0
      have HZ' := Lib.hid hz'
      clear hz hE0 hz' hb1 hb2 hbw2
      go_wp2_with fail
      go_ret2
      exact ⟨_, E0, rfl, by rw [HWK.out, List.map_cons]; exact (HE0.out.symm.trans (run_refuse RP st _ _ HZ.out).symm), Gw.of HBX.out _, fun h => absurd h HZ'.out⟩
  · have HWK := Lib.hid (show (Nd.mk k t v ks).walk = [⟨0, emp, emp⟩] by rw [walk_mk, if_pos hod])
    clear hod
    go_wp2_with fail
    go_ret2
    exact ⟨_, 19, rfl, by rw [HWK.out]; show _ = (runP RP st [⟨0, [], []⟩]).2.2; rw [run_refuse _ _ _ _ (by rw [step_none]; show (19 : Int) ≠ 0; decide), step_none], Gw.of HB1.out _, fun h => by cases h⟩
end Go.Proofs.YtmniblcooficgaaGreatDoor

namespace Go.Proofs.YtmniblcooficgaaGreatDoor
open Go.RowKit Ev5
set_option linter.unusedSimpArgs false
set_option linter.unusedVariables false

theorem odd_leaf {k : Int} {n : Nat} (h : leafK k = true) : oddK k n = decide (0 < n) := by unfold oddK; rw [if_pos h]
theorem odd_key {n : Nat} : oddK 8 n = decide (n ≠ 1) := by unfold oddK; rw [if_neg (by decide), if_pos rfl]
theorem odd_rest {k : Int} {n : Nat} (h : leafK k = false) (h8 : k ≠ 8) : oddK k n = decide (endK k = 0) := by unfold oddK; rw [if_neg (by rw [h]; simp), if_neg h8]

set_option maxRecDepth 100000 in
set_option maxHeartbeats 4000000 in
theorem treeOdd_any (x : Nd) (w : World) (S : Nat → Prop) (val : Value) (hv : NdV w S val x) :
    Calls Tryz.prog 108 #[val] w fun e w' => e = .returned (.bool (oddK x.k x.kids.length)) ∧ Below w.heap.size w w' := by
  obtain ⟨k, t, v, ks⟩ := x
  obtain ⟨u, rfl, hs⟩ := hv
  simp only [ndV, Nd.k, Nd.t, Nd.v, Nd.kids] at hs ⊢
  obtain ⟨ao, cap, rfl, hcap, hcm⟩ := hs.shape
  clear hs
  unfold maxLen at hcm
  have HB := Lib.hid (show Below w.heap.size w (w.alloc (.cells #[.int .i64 k, .string t, .string v, .slice ao ks.length cap] 24)) from (Below.refl _ _).alloc (Nat.le_refl _) _)
  by_cases hL : k = 1 ∨ k = 2 ∨ k = 3 ∨ k = 4 ∨ k = 11
  · have HO := Lib.hid (odd_leaf (k := k) (n := ks.length) (by simpa [leafK] using hL))
    have hks : ((k == 1) = true) ∨ ((k == 1) = false ∧ (k == 2) = true) ∨ ((k == 1) = false ∧ (k == 2) = false ∧ (k == 3) = true) ∨ ((k == 1) = false ∧ (k == 2) = false ∧ (k == 3) = false ∧ (k == 4) = true) ∨ ((k == 1) = false ∧ (k == 2) = false ∧ (k == 3) = false ∧ (k == 4) = false ∧ (k == 11) = true) := by
      rcases hL with rfl | rfl | rfl | rfl | rfl <;> simp
    clear hL
    rcases hks with q1 | ⟨q1, q2⟩ | ⟨q1, q2, q3⟩ | ⟨q1, q2, q3, q4⟩ | ⟨q1, q2, q3, q4, q11⟩
    all_goals
      go_enter Tryz.func108, Tryz.ntmps108
      go_wp2_with fail
      go_ret
      exact ⟨by rw [HO.out]; rfl, HB.out⟩
  · have q1 : (k == 1) = false := by simp; omega
    have q2 : (k == 2) = false := by simp; omega
    have q3 : (k == 3) = false := by simp; omega
    have q4 : (k == 4) = false := by simp; omega
    have q11 : (k == 11) = false := by simp; omega
    by_cases h8 : k = 8
    · subst h8
      have q8 : ((8 : Int) == 8) = true := rfl
      by_cases h1 : ks.length = 1
      · have HD := Lib.hid ((odd_key (n := ks.length)).trans (decide_eq_false (by simpa using h1)))
        have h1b : ((ks.length : Int) != 1) = false := by simp [h1]
        have h1c : ((ks.length : Int) == 1) = true := by simp [h1]
        clear h1 hL q1 q2 q3 q4 q11 q8
        go_enter Tryz.func108, Tryz.ntmps108
        go_wp2_with fail
        go_ret
        exact ⟨by rw [HD.out]; rfl, HB.out⟩
      · have HD := Lib.hid ((odd_key (n := ks.length)).trans (decide_eq_true h1))
        have h1c : ((ks.length : Int) == 1) = false := by rw [beq_eq_false_iff_ne]; omega
        have h1b : ((ks.length : Int) != 1) = true := by simp [bne, h1c]
        clear h1 hL q1 q2 q3 q4 q11 q8
        go_enter Tryz.func108, Tryz.ntmps108
        go_wp2_with fail
        go_ret
        exact ⟨by rw [HD.out]; rfl, HB.out⟩
    · have q8 : (k == 8) = false := by simpa using h8
      have HD := Lib.hid (odd_rest (n := ks.length) (show leafK k = false by simp [leafK]; omega) h8)
      clear hL h8
      go_enter Tryz.func108, Tryz.ntmps108
      go_wp2_with fail
      refine (ends_any _ _).mono ?_
      rintro e w1 ⟨rfl, hw⟩
      subst hw
      obtain ⟨E, hE⟩ : ∃ E, endK k = E := ⟨_, rfl⟩
      rw [hE] at HD
      rw [hE]
      clear hE
      by_cases h0 : E = 0
      · have HD2 := Lib.hid (HD.out.trans (decide_eq_true h0))
        have hb : (E == 0) = true := by simp [h0]
        clear h0 HD
        go_wp2_with fail
        go_ret
        exact ⟨by rw [HD2.out]; rfl, HB.out⟩
      · have HD2 := Lib.hid (HD.out.trans (decide_eq_false h0))
        have hb : (E == 0) = false := by simp [h0]
        clear h0 HD
        go_wp2_with fail
        go_ret
        exact ⟨by rw [HD2.out]; rfl, HB.out⟩
end Go.Proofs.YtmniblcooficgaaGreatDoor

namespace Go.Proofs.YtmniblcooficgaaGreatDoor
open Go.ChangeShapes Go.WideShapes Go.Deep Go.RowKit Ev5
set_option linter.unusedSimpArgs false
set_option linter.unusedVariables false

theorem addr_spot {H : Type} {w : World} {a : Addr} {q : Nat} {u : Value} (h : w.cell? (a.add q) = some u) (h0 : q ≠ 0 → ∃ u0, w.cell? (a.add 0) = some u0) : a.spot = none := by
  by_cases hq : q = 0
  · subst hq
    have := World.cell?_spot h
    simpa [Addr.add] using this
  · obtain ⟨u0, h0⟩ := h0 hq
    have := World.cell?_spot h0
    simpa [Addr.add] using this
theorem sizes_bulk {H : Type} : ∀ (l : List Nd) (D : Nat → DataW H), (∀ i (h : i < l.length), 5 * l[i].size ≤ Rows.uptoBulk (D i)) → 5 * Nd.sizes l ≤ Rows.uptoBulkAll ((List.range l.length).map D)
  | [], D, _ => by rw [sizes_nil, Nat.mul_zero]; exact Nat.zero_le _
  | x :: r, D, h => by
    have h0 := h 0 (by simp)
    have hr := sizes_bulk r (fun i => D (i + 1)) fun i hi => h (i + 1) (by simpa using hi)
    rw [sizes_cons, List.length_cons, List.range_succ_eq_map, List.map_cons]
    simp only [Rows.uptoBulkAll, List.map_map]
    have e : (D ∘ Nat.succ) = fun i => D (i + 1) := rfl
    rw [e]
    simp only [List.getElem_cons_zero] at h0
    omega

theorem bulk_four {H : Type} {l : List (DataW H)} {d0 d1 d2 d3 : DataW H} (h0 : l[0]? = some d0) (h1 : l[1]? = some d1) (h2 : l[2]? = some d2) (h3 : l[3]? = some d3) : Rows.uptoBulk d0 + Rows.uptoBulk d1 + Rows.uptoBulk d2 + Rows.uptoBulk d3 ≤ Rows.uptoBulkAll l := by
  match l, h0, h1, h2, h3 with
  | a :: b :: c :: d :: r, h0, h1, h2, h3 =>
    simp at h0 h1 h2 h3
    subst h0; subst h1; subst h2; subst h3
    simp only [Rows.uptoBulkAll]
    omega
section
variable {H : Type} {enc : TypeId × Value → H} {w : World}
theorem nds_open : ∀ (n : Nat) (v : Value) (d : DataW H) (p : List MemPlace) (fuel : Nat), DataW.trod enc Tryz.prog w 0 (fun _ => true) true fuel 22 [v] = some (d, p) → Rows.uptoBulk d ≤ n → n ≤ 1048576 →
    ∃ ks : List Nd, SlIn w (fun b => b < w.heap.size) v ks ∧ Nd.oks ks ∧ 5 * Nd.sizes ks + 1 ≤ Rows.uptoBulk d := by
  intro n
  induction n with
  | zero => intro v d p fuel _ hb _; have := bulk_one d; omega
  | succ n ih =>
    intro v d p fuel hf hbk hn
    rcases open_slice_fields Tryz.underlying22 Tryz.underlying24 (by kernel_rfl) (by kernel_rfl) hf with ⟨hcs, hx⟩ | ⟨a, len, cap, m, D, Pl, hcs, _, hl, hm, hmm, hx, hi⟩
    · simp only [List.cons.injEq, and_true] at hcs
      subst hcs
      exact ⟨[], ⟨none, 0, rfl, Nat.le_refl _, by decide, .inl rfl⟩, by rw [Nd.oks]; trivial, by rw [sizes_nil, Nat.mul_zero]; exact bulk_one d⟩
    · simp only [List.cons.injEq, and_true] at hcs
      subst hcs
      simp only [if_true] at hmm
      subst hmm
      simp only [Prod.mk.injEq] at hx
      obtain ⟨rfl, _⟩ := hx
      simp only [Rows.uptoBulk] at hbk
      have hlen : len ≤ 1048576 := by have := bulk_len ((List.range len).map D); simp at this; omega
      obtain ⟨ks, hll, hlp⟩ := list_of (fun i (x : Nd) => (∃ b o, a = ⟨b, o, none⟩ ∧ NdAt w (fun b => b < w.heap.size) b (o + i * 4) x ∧ b < w.heap.size) ∧ x.ok ∧ 5 * x.size ≤ Rows.uptoBulk (D i)) len (by
        intro i hin
        obtain ⟨ys, n', hD, _, hyl, hfld⟩ := hi i (by omega)
        have hDb : Rows.uptoBulk (D i) ≤ n := by
          have := bulk_part (d := D i) (l := (List.range len).map D) (List.mem_map.2 ⟨i, List.mem_range.2 hin, rfl⟩)
          omega
        rw [hD] at hDb
        simp only [Rows.uptoBulk] at hDb
        obtain ⟨u0, y0, e0, f0, t0⟩ := hfld 0 _ rfl
        obtain ⟨u1, y1, e1, f1, t1⟩ := hfld 1 _ rfl
        obtain ⟨u2, y2, e2, f2, t2⟩ := hfld 2 _ rfl
        obtain ⟨u3, y3, e3, f3, t3⟩ := hfld 3 _ rfl
        obtain ⟨k, ek, rfl, hkw⟩ := DataW.trod_int Tryz.underlying3 t0
        obtain ⟨tt, et, rfl, _⟩ := DataW.trod_string Tryz.underlying9 t1
        obtain ⟨vv, evv, rfl, _⟩ := DataW.trod_string Tryz.underlying9 t2
        obtain ⟨d3, p3⟩ := y3
        simp only [List.cons.injEq, and_true] at ek et evv
        subst ek; subst et; subst evv
        have g1 := bulk_part (d := (DataW.lit (.string tt.data.toList) : DataW H)) (l := ys.map (·.1)) (List.mem_map.2 ⟨_, List.mem_of_getElem? f1, rfl⟩)
        have g2 := bulk_part (d := (DataW.lit (.string vv.data.toList) : DataW H)) (l := ys.map (·.1)) (List.mem_map.2 ⟨_, List.mem_of_getElem? f2, rfl⟩)
        have g3 := bulk_part (d := d3) (l := ys.map (·.1)) (List.mem_map.2 ⟨_, List.mem_of_getElem? f3, rfl⟩)
        simp only [Rows.uptoBulk] at g1 g2
        rw [Array.length_toList] at g1 g2
        have s1 : tt.data.size = tt.size := rfl
        have s2 : vv.data.size = vv.size := rfl
        obtain ⟨kids, hks, hko, hkz⟩ := ih u3 d3 p3 n' t3 (by omega) (by omega)
        have hspot : a.spot = none := by
          refine addr_spot (H := H) e0 fun hq => ?_
          obtain ⟨ys0, n0', hD0, _, _, hfld0⟩ := hi 0 (by omega)
          obtain ⟨u00, y00, e00, _, _⟩ := hfld0 0 _ rfl
          exact ⟨u00, by simpa using e00⟩
        obtain ⟨b, o, sp⟩ := a
        simp only at hspot
        subst hspot
        have eadd : ∀ q : Nat, (⟨b, o, none⟩ : Addr).add q = ⟨b, o + q, none⟩ := by
          intro q; unfold Addr.add; split
          · subst_vars; rfl
          · rfl
        rw [eadd] at e0 e1 e2 e3
        refine ⟨.mk k tt vv kids, ⟨b, o, rfl, ?_, cell_lt e0⟩, ?_, ?_⟩
        · rw [ndAt_iff]
          refine ⟨by simpa [Nd.k] using e0, by simpa [Nd.t, Nat.add_assoc] using e1, by simpa [Nd.v, Nat.add_assoc] using e2, u3, by simpa [Nat.add_assoc] using e3, hks⟩
        · rw [ok_mk]
          exact ⟨⟨hkw, by simp only []; omega, by simp only []; omega⟩, hko⟩
        · rw [size_mk, hD]
          have g4 := bulk_four (l := ys.map (·.1)) (d0 := DataW.lit (.int .i64 k)) (d1 := DataW.lit (.string tt.data.toList)) (d2 := DataW.lit (.string vv.data.toList)) (d3 := d3) (by rw [List.getElem?_map, f0]; rfl) (by rw [List.getElem?_map, f1]; rfl) (by rw [List.getElem?_map, f2]; rfl) (by rw [List.getElem?_map, f3]; rfl)
          have g0 := bulk_one (DataW.lit (.int .i64 k) : DataW H)
          have g1' : Rows.uptoBulk (DataW.lit (.string tt.data.toList) : DataW H) = tt.data.toList.length + 1 := rfl
          have g2' : Rows.uptoBulk (DataW.lit (.string vv.data.toList) : DataW H) = vv.data.toList.length + 1 := rfl
          show 5 * (1 + Nd.sizes kids) ≤ Rows.uptoBulkAll (ys.map (·.1)) + 1
          omega)
      refine ⟨ks, ⟨some a, m, by rw [hll], by omega, hm, ?_⟩, (oks_iff _).2 fun x hx => ?_, ?_⟩
      · cases len with
        | zero => exact .inl (List.eq_nil_of_length_eq_zero hll)
        | succ len =>
          right
          obtain ⟨⟨b, o, e, _, hb⟩, _⟩ := hlp 0 (by omega)
          refine ⟨b, o, by rw [e], hb, hb, kidsIn_iff.2 fun i hi => ?_⟩
          obtain ⟨⟨b', o', e', hnd, _⟩, _⟩ := hlp i hi
          rw [e] at e'
          injection e' with e1 e2
          subst e1; subst e2
          exact hnd
      · obtain ⟨i, hi, rfl⟩ := List.mem_iff_getElem.1 hx
        exact (hlp i hi).2.1
      · simp only [Rows.uptoBulk]
        have := sizes_bulk ks D fun i hi => (hlp i hi).2.2
        rw [hll] at this
        omega
theorem nd_open5 {v : Value} {d : DataW H} {p : List MemPlace} (hv : ∃ cs, v = .agg cs ∧ cs.size = Tryz.prog.cellsOf 24) (h : DataW.Trod enc Tryz.prog w 0 (fun _ => true) true 24 v d p) (hbk : Rows.uptoBulk d ≤ 1048576) :
    ∃ x : Nd, NdV w (fun b => b < w.heap.size) v x ∧ x.ok ∧ 5 * x.size ≤ 1048576 := by
  obtain ⟨cs, rfl, hsz⟩ := hv
  rw [show Tryz.prog.cellsOf 24 = 4 by kernel_rfl] at hsz
  obtain ⟨fuel, hf⟩ := h
  obtain ⟨l⟩ := cs
  simp at hsz
  match l, hsz with
  | [x0, x1, x2, x3], _ =>
    obtain ⟨ys, n', hn', hy, hlen, hyl, hfld⟩ := DataW.trod_struct Tryz.underlying24 hf
    simp only [Prod.mk.injEq] at hy
    obtain ⟨rfl, _⟩ := hy
    have k1 : Tryz.prog.cellsOf 3 = 1 := by kernel_rfl
    have k2 : Tryz.prog.cellsOf 9 = 1 := by kernel_rfl
    have k3 : Tryz.prog.cellsOf 22 = 1 := by kernel_rfl
    have t0 : DataW.trod enc Tryz.prog w 0 (fun _ => true) true n' 3 (([x0, x1, x2, x3].drop 0).take (Tryz.prog.cellsOf 3)) = ys[0]? := hfld 0 _ rfl
    have t1 : DataW.trod enc Tryz.prog w 0 (fun _ => true) true n' 9 (([x0, x1, x2, x3].drop 1).take (Tryz.prog.cellsOf 9)) = ys[1]? := hfld 1 _ rfl
    have t2 : DataW.trod enc Tryz.prog w 0 (fun _ => true) true n' 9 (([x0, x1, x2, x3].drop 2).take (Tryz.prog.cellsOf 9)) = ys[2]? := hfld 2 _ rfl
    have t3 : DataW.trod enc Tryz.prog w 0 (fun _ => true) true n' 22 (([x0, x1, x2, x3].drop 3).take (Tryz.prog.cellsOf 22)) = ys[3]? := hfld 3 _ rfl
    rw [k1] at t0; rw [k2] at t1 t2; rw [k3] at t3
    have hy4 : ys.length = 4 := hyl
    clear hfld hyl hlen
    match ys, hy4 with
    | [y0, y1, y2, y3], _ =>
      simp only [List.drop_succ_cons, List.drop_zero, List.take_succ_cons, List.take_zero, List.getElem?_cons_zero, List.getElem?_cons_succ] at t0 t1 t2 t3
      obtain ⟨k, ek, rfl, hkw⟩ := DataW.trod_int Tryz.underlying3 t0
      obtain ⟨tt, et, rfl, _⟩ := DataW.trod_string Tryz.underlying9 t1
      obtain ⟨vv, evv, rfl, _⟩ := DataW.trod_string Tryz.underlying9 t2
      obtain ⟨d3, p3⟩ := y3
      simp only [List.cons.injEq, and_true] at ek et evv
      subst ek; subst et; subst evv
      simp only [List.map_cons, List.map_nil, Rows.uptoBulk, Rows.uptoBulkAll] at hbk
      rw [Array.length_toList, Array.length_toList] at hbk
      have s1 : tt.data.size = tt.size := rfl
      have s2 : vv.data.size = vv.size := rfl
      obtain ⟨kids, hks, hko, hkz⟩ := nds_open 1048576 x3 d3 p3 n' t3 (by omega) (Nat.le_refl _)
      refine ⟨.mk k tt vv kids, ⟨x3, rfl, hks⟩, ?_, ?_⟩
      · rw [ok_mk]
        exact ⟨⟨hkw, by simp only []; omega, by simp only []; omega⟩, hko⟩
      · rw [size_mk]; omega
theorem nd_open {v : Value} {d : DataW H} {p : List MemPlace} (hv : ∃ cs, v = .agg cs ∧ cs.size = Tryz.prog.cellsOf 24) (h : DataW.Trod enc Tryz.prog w 0 (fun _ => true) true 24 v d p) (hbk : Rows.uptoBulk d ≤ 1048576) :
    ∃ x : Nd, NdV w (fun b => b < w.heap.size) v x ∧ x.ok ∧ x.size ≤ 1048576 := by
  obtain ⟨x, h1, h2, h3⟩ := nd_open5 hv h hbk
  exact ⟨x, h1, h2, by omega⟩
end
end Go.Proofs.YtmniblcooficgaaGreatDoor
