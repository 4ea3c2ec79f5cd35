import Derived.Test.YtinjhglmakfmkaaGreatDoorTrN4
import Derived.Deep.AppendLies
import Derived.Deep.RegionLaw
/- Rows of nodes that may be written into: each at the head of a block of its own, known whole. -/
namespace Go.Proofs.YtinjhglmakfmkaaGreatDoor
open Go.RowKit Ev5
set_option linter.unusedSimpArgs false
set_option linter.unusedVariables false

/-- Readable to a depth, every row at the head of a block of S. -/
def Rd (w : World) (S : Nat → Prop) : Nat → Value → Prop
  | 0, u => ∃ a c, u = .slice a 0 c
  | d + 1, u => (∃ a c, u = .slice a 0 c) ∨ ∃ g n c cs, u = .slice (some ⟨g, 0, none⟩) n c ∧ S g ∧ n ≤ c ∧ c ≤ maxLen ∧ w.heap[g]? = some (.cells cs 39 (0, 0)) ∧ cs.size = c * 4 ∧
      ∀ i, i < n → ∃ k t v u', cs[i * 4]? = some (.int .i64 k) ∧ cs[i * 4 + 1]? = some (.string t) ∧ cs[i * 4 + 2]? = some (.string v) ∧ cs[i * 4 + 3]? = some u' ∧ Rd w S d u'
theorem Rd.nil {w : World} {S : Nat → Prop} {d : Nat} {a : Option Addr} {c : Nat} : Rd w S d (.slice a 0 c) := by
  cases d with
  | zero => exact ⟨a, c, rfl⟩
  | succ d => exact .inl ⟨a, c, rfl⟩
theorem Rd.mono {w : World} {S : Nat → Prop} : ∀ {d d' : Nat} {u : Value}, d ≤ d' → Rd w S d u → Rd w S d' u
  | 0, d', u, _, ⟨a, c, e⟩ => by subst e; exact Rd.nil
  | d + 1, 0, u, h, _ => by omega
  | d + 1, d' + 1, u, h, hr => by
    rcases hr with ⟨a, c, e⟩ | ⟨g, n, c, cs, e, hs, hn, hc, hg, hz, hk⟩
    · exact .inl ⟨a, c, e⟩
    · exact .inr ⟨g, n, c, cs, e, hs, hn, hc, hg, hz, fun i hi => by
        obtain ⟨k, t, v, u', h1, h2, h3, h4, h5⟩ := hk i hi
        exact ⟨k, t, v, u', h1, h2, h3, h4, h5.mono (by omega)⟩⟩
/-- The rows' blocks are as they were. -/
theorem Rd.alike {S S' : Nat → Prop} {w w' : World} : ∀ {d : Nat} {u : Value}, Rd w S d u → Alike S w w' → (∀ b, S b → b < w.heap.size → S' b) → Rd w' S' d u
  | 0, u, h, _, _ => h
  | d + 1, u, h, ha, hS => by
    rcases h with ⟨a, c, e⟩ | ⟨g, n, c, cs, e, hs, hn, hc, hg, hz, hk⟩
    · exact .inl ⟨a, c, e⟩
    · exact .inr ⟨g, n, c, cs, e, hS _ hs (lt_blk hg), hn, hc, (ha.2 g hs (lt_blk hg)).trans hg, hz, fun i hi => by
        obtain ⟨k, t, v, u', h1, h2, h3, h4, h5⟩ := hk i hi
        exact ⟨k, t, v, u', h1, h2, h3, h4, h5.alike ha hS⟩⟩
/-- Nodes of S's blocks have been written over, and nothing else. -/
structure Pk (S : Nat → Prop) (w w' : World) : Prop where
  size : w.heap.size ≤ w'.heap.size
  os : w'.os = w.os
  tape : w'.tape = w.tape
  output : w'.output = w.output
  oth : ∀ b, b < w.heap.size → ¬ S b → w'.heap[b]? = w.heap[b]?
  row : ∀ g cs, S g → w.heap[g]? = some (.cells cs 39 (0, 0)) → ∃ cs', w'.heap[g]? = some (.cells cs' 39 (0, 0)) ∧ cs'.size = cs.size ∧
    ∀ j, (∀ r, r < 4 → cs'[j * 4 + r]? = cs[j * 4 + r]?) ∨ (cs'[j * 4]? = some (.int .i64 77) ∧ cs'[j * 4 + 1]? = some (.string ⟨#[]⟩) ∧ cs'[j * 4 + 2]? = some (.string ⟨#[]⟩) ∧ cs'[j * 4 + 3]? = some (.slice none 0 0))
theorem Pk.refl (S : Nat → Prop) (w : World) : Pk S w w := ⟨Nat.le_refl _, rfl, rfl, rfl, fun _ _ _ => rfl, fun g cs _ h => ⟨cs, h, rfl, fun j => .inl fun _ _ => rfl⟩⟩
theorem Pk.trans {S : Nat → Prop} {a b c : World} (h : Pk S a b) (k : Pk S b c) : Pk S a c := by
  refine ⟨Nat.le_trans h.size k.size, k.os.trans h.os, k.tape.trans h.tape, k.output.trans h.output, fun q hq hn => (k.oth q (Nat.lt_of_lt_of_le hq h.size) hn).trans (h.oth q hq hn), fun g cs hs hg => ?_⟩
  obtain ⟨cs1, h1, z1, j1⟩ := h.row g cs hs hg
  obtain ⟨cs2, h2, z2, j2⟩ := k.row g cs1 hs h1
  refine ⟨cs2, h2, z2.trans z1, fun j => ?_⟩
  rcases j2 j with e | e
  · rcases j1 j with e' | ⟨e0, e1, e2, e3⟩
    · exact .inl fun r hr => (e r hr).trans (e' r hr)
    · exact .inr ⟨(e 0 (by omega)).trans e0, (e 1 (by omega)).trans e1, (e 2 (by omega)).trans e2, (e 3 (by omega)).trans e3⟩
  · exact .inr e
theorem Pk.below {S : Nat → Prop} {w w' : World} (h : Below w.heap.size w w') : Pk S w w' :=
  ⟨h.size, h.os, h.tape, h.output, fun b hb _ => h.block b hb, fun g cs _ hg => ⟨cs, (h.block g (lt_blk hg)).trans hg, rfl, fun j => .inl fun _ _ => rfl⟩⟩
theorem Rd.poked {S : Nat → Prop} {w w' : World} : ∀ {d : Nat} {u : Value}, Rd w S d u → Pk S w w' → Rd w' S d u
  | 0, u, h, _ => h
  | d + 1, u, h, hp => by
    rcases h with ⟨a, c, e⟩ | ⟨g, n, c, cs, e, hs, hn, hc, hg, hz, hk⟩
    · exact .inl ⟨a, c, e⟩
    · obtain ⟨cs', hg', hz', hj⟩ := hp.row g cs hs hg
      refine .inr ⟨g, n, c, cs', e, hs, hn, hc, hg', hz'.trans hz, fun i hi => ?_⟩
      obtain ⟨k, t, v, u', h1, h2, h3, h4, h5⟩ := hk i hi
      rcases hj i with e | ⟨e0, e1, e2, e3⟩
      · exact ⟨k, t, v, u', (e 0 (by omega)).trans h1, (e 1 (by omega)).trans h2, (e 2 (by omega)).trans h3, (e 3 (by omega)).trans h4, h5.poked hp⟩
      · exact ⟨77, ⟨#[]⟩, ⟨#[]⟩, _, e0, e1, e2, e3, Rd.nil⟩
end Go.Proofs.YtinjhglmakfmkaaGreatDoor

/- tree.Copy's copy may be written into: its rows lie each at the head of a block of its own. -/
namespace Go.Proofs.YtinjhglmakfmkaaGreatDoor
open Go.RowKit Ev5
set_option linter.unusedSimpArgs false
set_option linter.unusedVariables false

def Rk (w : World) (S : Nat → Prop) (u : Value) (ks : List Nd) : Prop := SlIn w S u ks ∧ Rd w S (Nd.sizes ks) u
theorem Rk.alike {S S' : Nat → Prop} {w w' : World} {u : Value} {ks : List Nd} (h : Rk w S u ks) (ha : Alike S w w') (hS : ∀ b, S b → b < w.heap.size → S' b) : Rk w' S' u ks := ⟨h.1.alike ha hS, h.2.alike ha hS⟩
theorem Rk.below {S : Nat → Prop} {w w' : World} {u : Value} {ks : List Nd} (h : Rk w S u ks) (hb : Below w.heap.size w w') : Rk w' S u ks := h.alike (alike_below hb) fun _ h _ => h

/-- A row of nodes of the call's own: the nodes ps (each with its kids' slice), in v; their kids' rows lie beyond base too, in other blocks than the row. -/
structure OwnR (w : World) (base : Nat) (v : Value) (ps : List (Nd × Value)) : Prop where
  row : w.ownsRow base 39 4 v ps.length (ndRow ps)
  kids : ∀ p ∈ ps, Rk w (fun b => base ≤ b ∧ v.ownBlock ≠ some b) p.2 p.1.kids
theorem OwnR.nil (w : World) (base : Nat) : OwnR w base (.slice none 0 0) [] := ⟨World.ownsRow_nil _ _ _ _, fun p hp => by cases hp⟩
theorem OwnR.shape {w : World} {base : Nat} {v : Value} {ps : List (Nd × Value)} (h : OwnR w base v ps) : ∃ a cap, v = .slice a ps.length cap := by
  rcases h.row.2 with ⟨rfl, h0⟩ | ⟨g, cap, cur, rfl, _⟩
  · exact ⟨none, 0, by rw [h0]⟩
  · exact ⟨_, _, rfl⟩
theorem OwnR.rk {w : World} {base : Nat} {v : Value} {ps : List (Nd × Value)} (h : OwnR w base v ps) : Rk w (fun b => base ≤ b) v (ps.map (·.1)) := by
  refine ⟨OwnK.slIn ⟨h.row, fun p hp => (h.kids p hp).1⟩, ?_⟩
  rcases h.row.2 with ⟨rfl, h0⟩ | ⟨g, cap, cur, rfl, hb, hg, hc, hm, hs, ht⟩
  · exact Rd.nil
  · cases hsz : Nd.sizes (ps.map (·.1)) with
    | zero =>
      have hl := sizes_len (ps.map (·.1))
      rw [hsz, List.length_map] at hl
      have h0 : ps.length = 0 := by omega
      rw [h0]; exact Rd.nil
    | succ d =>
      refine .inr ⟨g, ps.length, cap, cur, rfl, hb, hc, hm, hg, hs, fun i hi => ?_⟩
      have c : ∀ j u, j < 4 → (ndL ps[i].1 ps[i].2)[j]? = some u → cur[i * 4 + j]? = some u := by
        intro j u hj hu
        have h1 : (cur.toList.take (ps.length * 4))[i * 4 + j]? = some u := by rw [ht, ndRow_at ps i hi j hj]; exact hu
        rw [List.getElem?_take_of_lt (by omega)] at h1
        simpa using h1
      refine ⟨ps[i].1.k, ps[i].1.t, ps[i].1.v, ps[i].2, by simpa using c 0 _ (by omega) rfl, c 1 _ (by omega) rfl, c 2 _ (by omega) rfl, c 3 _ (by omega) rfl, ?_⟩
      have hk := (h.kids ps[i] (List.getElem_mem hi)).2
      have hsz2 := size_mem (x := ps[i].1) (l := ps.map (·.1)) (List.mem_map.2 ⟨ps[i], List.getElem_mem hi, rfl⟩)
      have hsz3 := kids_size ps[i].1
      exact (hk.mono (by omega)).alike ⟨Nat.le_refl _, fun _ _ _ => rfl⟩ fun b hb _ => hb.1
theorem OwnR.below {w w' : World} {base : Nat} {v : Value} {ps : List (Nd × Value)} (h : OwnR w base v ps) (hb : Below w.heap.size w w') : OwnR w' base v ps := by
  refine ⟨h.row.kept (row := none) ⟨hb.os, hb.tape, hb.output, hb.size, fun k hk _ => hb.block k hk⟩ (by cases hv : v.ownBlock <;> simp), fun p hp => (h.kids p hp).below hb⟩
/-- A block that is none of the row's is turned. -/
theorem OwnR.other {w w' : World} {base B : Nat} {v : Value} {ps : List (Nd × Value)} (h : OwnR w base v ps) (hg : w.grownBy w' (some B)) (hB : B < base) : OwnR w' base v ps := by
  refine ⟨h.row.kept hg ?_, fun p hp => (h.kids p hp).alike ⟨hg.size, fun b hb hl => hg.block b hl (fun e => by injection e with e; have := hb.1; omega)⟩ fun _ h _ => h⟩
  rcases h.row.2 with ⟨rfl, _⟩ | ⟨g, cap, cur, rfl, hb, _⟩
  · exact .inl rfl
  · exact .inr (by simp [Value.ownBlock]; omega)
/-- A node is appended. -/
theorem OwnR.snoc {w w' : World} {base : Nat} {v : Value} {ps : List (Nd × Value)} {g cap : Nat} {x : Nd} {u : Value} (h : OwnR w base v ps) (hx : Rk w (fun b => base ≤ b ∧ v.ownBlock ≠ some b) u x.kids)
    (hown : w'.ownsRow base 39 4 (.slice (some ⟨g, 0, none⟩) (ps.length + 1) cap) (ps.length + 1) (ndRow ps ++ ndL x u)) (hg : w.grownBy w' v.ownBlock) (hat : v.ownBlock = some g ∨ w.heap.size ≤ g) :
    OwnR w' base (.slice (some ⟨g, 0, none⟩) (ps.length + 1) cap) (ps ++ [(x, u)]) := by
  have al : ∀ (u : Value) (ks : List Nd), Rk w (fun b => base ≤ b ∧ v.ownBlock ≠ some b) u ks → Rk w' (fun b => base ≤ b ∧ (Value.slice (some ⟨g, 0, none⟩) (ps.length + 1) cap).ownBlock ≠ some b) u ks := by
    intro u ks hs
    refine hs.alike ⟨hg.size, fun b hb hl => hg.block b hl (fun e => hb.2 e.symm)⟩ fun b hb hl => ⟨hb.1, ?_⟩
    simp only [Value.ownBlock, ne_eq, Option.some.injEq]
    rcases hat with e | e
    · intro e2; subst e2; exact hb.2 e
    · omega
  refine ⟨by rw [ndRow_snoc, List.length_append]; exact hown, fun p hp => ?_⟩
  rcases List.mem_append.1 hp with hp | hp
  · exact al _ _ (h.kids p hp)
  · simp at hp; subst hp; exact al _ _ hx
/-- What is new lies apart from the row. -/
theorem OwnR.apart {w w' : World} {base : Nat} {v u : Value} {ps : List (Nd × Value)} {ks : List Nd} (h : OwnR w base v ps) (hbw : base ≤ w.heap.size) (hs : Rk w' (fun b => w.heap.size ≤ b) u ks) : Rk w' (fun b => base ≤ b ∧ v.ownBlock ≠ some b) u ks := by
  refine hs.alike ⟨Nat.le_refl _, fun _ _ _ => rfl⟩ fun b hb _ => ⟨by omega, ?_⟩
  rcases h.row.2 with ⟨rfl, _⟩ | ⟨g, cap, cur, rfl, _, hg, _⟩
  · simp [Value.ownBlock]
  · simp only [Value.ownBlock, ne_eq, Option.some.injEq]
    have := lt_blk hg
    omega

def NewRd (n : Nd) (w : World) (e : Ending) (w' : World) : Prop := ∃ a cap, e = .returned (.agg #[.int .i64 n.k, .string n.t, .string n.v, .slice a n.kids.length cap]) ∧ Rk w' (fun b => w.heap.size ≤ b) (.slice a n.kids.length cap) n.kids ∧ Below w.heap.size w w'

/-- The node that is being made: its box, the result's block, its kids so far. -/
structure Cr (w0 w : World) (B : Nat) (k : Int) (t v : ByteArray) (u : Value) (ps : List (Nd × Value)) : Prop where
  blk : w.heap[B]? = some (.cells #[.int .i64 k, .string t, .string v, u] 39 (0, 0))
  res : w.heap[B + 1]? = some (.cells #[.int .i64 0, .string ⟨#[]⟩, .string ⟨#[]⟩, .slice none 0 0] 39 (0, 0))
  own : OwnR w (B + 2) u ps
  bel : Below B w0 w
theorem Cr.below {w0 w w' : World} {B : Nat} {k : Int} {t v : ByteArray} {u : Value} {ps : List (Nd × Value)} (h : Cr w0 w B k t v u ps) (hb : Below w.heap.size w w') : Cr w0 w' B k t v u ps :=
  ⟨(hb.block _ (lt_blk h.blk)).trans h.blk, (hb.block _ (lt_blk h.res)).trans h.res, h.own.below hb, h.bel.trans (hb.mono (by have := lt_blk h.blk; omega))⟩
/-- Behind an append to the kids' row the node's own box is as it was. -/
theorem Cr.far {w0 w : World} {B : Nat} {k : Int} {t v : ByteArray} {u : Value} {ps : List (Nd × Value)} (h : Cr w0 w B k t v u ps) (W3 w5 : World) (hb : Below w.heap.size w W3) (hg : W3.grownBy w5 u.ownBlock) :
    w5.heap[B]? = some (.cells #[.int .i64 k, .string t, .string v, u] 39 (0, 0)) ∧ w5.heap[B + 1]? = some (.cells #[.int .i64 0, .string ⟨#[]⟩, .string ⟨#[]⟩, .slice none 0 0] 39 (0, 0)) ∧ Below B w0 w5 := by
  have h3 := h.below hb
  have hne : ∀ b, b < B + 2 → u.ownBlock ≠ some b := by
    intro b hb' e
    rcases h3.own.row.2 with ⟨rfl, _⟩ | ⟨g, cap, cur, rfl, hg', _⟩
    · simp [Value.ownBlock] at e
    · simp [Value.ownBlock] at e; omega
  refine ⟨?_, ?_, ?_⟩
  · rw [hg.block B (lt_blk h3.blk) (fun e => hne B (by omega) e.symm)]; exact h3.blk
  · rw [hg.block (B + 1) (lt_blk h3.res) (fun e => hne (B + 1) (by omega) e.symm)]; exact h3.res
  · refine h3.bel.trans (Below.grown (Below.refl B W3) hg (by have := lt_blk h3.blk; omega) (fun b hb' => ?_))
    rcases Nat.lt_or_ge b B with h1 | h1
    · exact absurd hb' (hne b (by omega))
    · exact h1
/-- A kid has been appended, and the row laid in the node's box. -/
theorem Cr.push {w0 w W3 w5 : World} {B : Nat} {k : Int} {t v : ByteArray} {u uk : Value} {ps : List (Nd × Value)} {x : Nd} {g cap : Nat} (h : Cr w0 w B k t v u ps) (hb : Below w.heap.size w W3) (hsk : Rk W3 (fun b => w.heap.size ≤ b) uk x.kids)
    (hown : w5.ownsRow (B + 2) 39 4 (.slice (some ⟨g, 0, none⟩) (ps.length + 1) cap) (ps.length + 1) (ndRow ps ++ ndL x uk)) (hg : W3.grownBy w5 u.ownBlock) (hat : u.ownBlock = some g ∨ W3.heap.size ≤ g) :
    Cr w0 (w5.setCell ⟨B, 3, none⟩ (.slice (some ⟨g, 0, none⟩) (ps.length + 1) cap)) B k t v (.slice (some ⟨g, 0, none⟩) (ps.length + 1) cap) (ps ++ [(x, uk)]) := by
  obtain ⟨f1, f2, f3⟩ := h.far W3 w5 hb hg
  have hBw : B + 2 ≤ w.heap.size := by have := lt_blk h.res; omega
  have ho : OwnR W3 (B + 2) u ps := h.own.below hb
  have hsk' := h.own.apart hBw hsk
  have ho2 := ho.snoc hsk' hown hg hat
  refine ⟨heap_set4 f1, ?_, ho2.other (grown_set w5 B 3 _) (by omega), f3.setCell (p := ⟨B, 3, none⟩) (Nat.le_refl _) _⟩
  rw [show (w5.setCell ⟨B, 3, none⟩ (.slice (some ⟨g, 0, none⟩) (ps.length + 1) cap)).heap[B + 1]? = w5.heap[B + 1]? from Below.heap_setCell w5 _ _ (B + 1) (by simp)]
  exact f2

set_option maxRecDepth 100000 in
set_option maxHeartbeats 8000000 in
theorem copyR_any (n : Nd) : ∀ (w : World) (S : Nat → Prop) (val : Value), NdV w S val n → n.kids.length ≤ 1048576 → Nd.sizes n.kids ≤ 1048576 → Calls Tryz.prog 33 #[val] w (NewRd n w) := by
  refine Nd.ind (C := fun n => ∀ (w : World) (S : Nat → Prop) (val : Value), NdV w S val n → n.kids.length ≤ 1048576 → Nd.sizes n.kids ≤ 1048576 → Calls Tryz.prog 33 #[val] w (NewRd n w)) ?_ n
  intro k t v ks ih w S val hv hk1 hk2
  obtain ⟨u, rfl, hs⟩ := hv
  simp only [ndV, Nd.k, Nd.t, Nd.v, Nd.kids] at hs hk1 hk2 ⊢
  have HS := Lib.hid hs
  obtain ⟨ao, cap, rfl, hcap, hcm⟩ := hs.shape
  clear hs
  unfold maxLen at hcm
  have HIH := Lib.hid ih; clear ih
  have HSZ := Lib.hid hk2; clear hk2
  obtain ⟨i0, hi, hz0, hz1, hz2⟩ := info_parts infoN
  have HI := Lib.hid hi; clear hi
  go_enter Tryz.func33, Tryz.ntmps33
  go_wp2_with fail
  go_loopw [11] (fun u wr => ∃ (i : Nat) (uk : Value) (ps : List (Nd × Value)), i ≤ ks.length ∧ u = .int .i64 i ∧ Hid (ps.map (·.1) = ks.take i) ∧ Hid (Cr w wr w.heap.size k t v uk ps))
    (fun u _ => ks.length - (intOf u).toNat)
  case atStart =>
    refine ⟨0, .slice none 0 0, [], Nat.zero_le _, rfl, by show _ = _; simp, ?_⟩
    exact ⟨two_first _ _ _, two_last _ _ _, OwnR.nil _ _, ((Below.refl _ _).alloc (Nat.le_refl _) _).alloc (by simp) _⟩
  case round =>
    obtain ⟨i, uk, ps, hi, rfl, HP, HC⟩ := hrel
    obtain rfl : i = ps.length := by have := congrArg List.length HP.out; rw [List.length_map, List.length_take] at this; omega


    obtain ⟨a0, cp0, hsh⟩ := HC.out.own.shape
    obtain ⟨k0, k1, k2, k3, f0, f1, f2, f3, hbl⟩ := nd_cells HC.out.blk
    obtain ⟨r0, r1, r2, r3, g0, g1, g2, g3, hrl⟩ := nd_cells HC.out.res
    by_cases hlt : ps.length < ks.length
    · obtain ⟨b, o, ux, hao, hbw, c0, c1, c2, c3, hsx⟩ := HS.out.at_ ps.length hlt
      subst hao
      obtain ⟨ax, cx, rfl, _, _⟩ := hsx.shape
      have hX := HIH.out ks[ps.length] (List.getElem_mem hlt)
      have hkl : ks[ps.length].kids.length ≤ 1048576 ∧ Nd.sizes ks[ps.length].kids ≤ 1048576 := by
        have h1 := size_mem (List.getElem_mem hlt)
        have h2 := HSZ.out
        have h3 : ks[ps.length].size = 1 + Nd.sizes ks[ps.length].kids := by cases ks[ps.length]; rw [size_mk]; rfl
        have h4 := sizes_len ks[ps.length].kids
        omega
      have HTK := Lib.hid (show ks.take (ps.length + 1) = ks.take ps.length ++ [ks[ps.length]] by rw [List.take_add_one, List.getElem?_eq_getElem hlt]; rfl)
      obtain ⟨x, hx⟩ : ∃ x, ks[ps.length] = x := ⟨_, rfl⟩
      rw [hx] at c0 c1 c2 c3 hsx hX hkl HTK
      have hB := HC.out.bel
      have hsz := hB.size
      have hbr : b < wr.heap.size := by omega
      have d0 : wr.cell? ⟨b, o + ps.length * 4, none⟩ = some (.int .i64 x.k) := by rw [hB.cell (p := ⟨b, o + ps.length * 4, none⟩) hbw]; exact c0
      have d1 : wr.cell? ⟨b, o + ps.length * 4 + 1, none⟩ = some (.string x.t) := by rw [hB.cell (p := ⟨b, o + ps.length * 4 + 1, none⟩) hbw]; exact c1
      have d2 : wr.cell? ⟨b, o + ps.length * 4 + 2, none⟩ = some (.string x.v) := by rw [hB.cell (p := ⟨b, o + ps.length * 4 + 2, none⟩) hbw]; exact c2
      have d3 : wr.cell? ⟨b, o + ps.length * 4 + 3, none⟩ = some (.slice ax x.kids.length cx) := by rw [hB.cell (p := ⟨b, o + ps.length * 4 + 3, none⟩) hbw]; exact c3
      have HX := Lib.hid hX; have HKL := Lib.hid hkl
      have HNX := Lib.hid (show ∀ W, Below wr.heap.size wr W → NdV W S (ndV x (.slice ax x.kids.length cx)) x from fun W hb => .mk ((hsx.below hB).below hb))
      clear c0 c1 c2 c3 hsx hx hX hkl hB
      have hil : ps.length ≤ 1048576 := by omega
      subst hsh
      go_wp2_with fail
      have HB1 := Lib.hid (show Below wr.heap.size wr (wr.alloc (.cells #[.int .i64 x.k, .string x.t, .string x.v, .slice ax x.kids.length cx] 39)) from (Below.refl _ _).alloc (Nat.le_refl _) _)
      have hbk := heap_alloc_new wr (.cells #[.int .i64 x.k, .string x.t, .string x.v, .slice ax x.kids.length cx] 39)
      obtain ⟨w1, hw1⟩ : ∃ w1, wr.alloc (.cells #[.int .i64 x.k, .string x.t, .string x.v, .slice ax x.kids.length cx] 39) = w1 := ⟨_, rfl⟩
      rw [hw1] at HB1 hbk
      rw [hw1]
      obtain ⟨bk, hbke⟩ : ∃ bk, wr.heap.size = bk := ⟨_, rfl⟩
      have hbk2 : w1.heap[bk]? = some (.cells #[.int .i64 x.k, .string x.t, .string x.v, .slice ax x.kids.length cx] 39 (0, 0)) := by rw [← hbke]; exact hbk
      rw [hbke]
      have HC1 := Lib.hid (HC.out.below HB1.out)
      have HNX1 := Lib.hid (HNX.out _ HB1.out)
      clear HC HNX HB1 hbk hw1 hbke d0 d1 d2 d3 k0 k1 k2 k3 f0 f1 f2 f3 hbl r0 r1 r2 r3 g0 g1 g2 g3 hrl hbr hsz wr
      have HF := Lib.hid (show ∀ w', Below w1.heap.size w1 w' → NdCells w' w.heap.size k t v (.slice a0 ps.length cp0) ∧ NdCells w' bk x.k x.t x.v (.slice ax x.kids.length cx) from fun w' hb => ⟨nd_cells (HC1.out.below hb).blk, nd_cells ((hb.block _ (lt_blk hbk2)).trans hbk2)⟩)
      obtain ⟨⟨k0, k1, k2, k3, f0, f1, f2, f3, hbl⟩, j0, j1, j2, j3, e0, e1, e2, e3, hjl⟩ := HF.out _ (Below.refl _ _).drew
      go_region_law? ((first
        | (go_simp; go_at_call 33; refine (HX.out w1.drew S _ (HNX1.out.below (Below.refl _ _).drew) HKL.out.1 HKL.out.2).mono ?_; rintro e w2 ⟨a2, c2, rfl, hsk, hbq⟩; obtain ⟨⟨k0', k1', k2', k3', f0', f1', f2', f3', hbl'⟩, _⟩ := HF.out _ ((Below.refl _ _).drew.trans hbq))
        | (refine step_append_lies _ (by rfl) _ _ _ (by rfl) (w.heap.size + 2) 39 i0 _ 4 64 Tryz.underlying37 HI.out hz0 hz1 hz2 rfl (by omega) _ ps.length _ (by rfl) (((HC1.out.below ((Below.refl _ _).drew.trans hbq)).own.row.alloc _)) ⟨w2.heap.size, 0, none⟩ 1 1 (ndL x (.slice a2 x.kids.length c2)) (by rfl) (by rfl) (World.news_of_block (heap_alloc_new w2 _)) nd_one (by omega) (by unfold maxLen; omega) (by omega) (by have := lt_blk HC1.out.res; have := hbq.size; simp at this ⊢; omega) (w2.heap.size + 1) (by simp) ?_
           intro gg cap' w5 hown1 hgrow hat hlt2
           obtain ⟨f1, _, _⟩ := HC1.out.far _ _ (bthen ((Below.refl _ _).drew.trans hbq) ((Below.refl _ w2).alloc (Nat.le_refl _) _)) hgrow
           obtain ⟨k0, k1, k2, k3, f0, f1, f2, f3, hbl⟩ := nd_cells f1)))
      all_goals
        have HCN := Lib.hid (Cr.push HC1.out (bthen ((Below.refl _ _).drew.trans hbq) ((Below.refl _ w2).alloc (Nat.le_refl _) _)) (hsk.below ((Below.refl _ w2).alloc (Nat.le_refl _) _)) hown1 hgrow (by rcases hat with h | h; exact .inl h; exact .inr (by simp; omega)))
        clear hsk hbq hown1 hgrow hat
        go_wp2_with fail
        go_roundw
        case rel => exact ⟨ps.length + 1, _, ps ++ [(x, .slice a2 x.kids.length c2)], by omega, by go_num, by show _ = _; rw [List.map_append, HP.out, HTK.out]; rfl, HCN⟩
        case measure => simp [intOf]; omega
    · have HPE := Lib.hid (show ps.length = ks.length by omega)
      have hge : decide (ps.length < ks.length) = false := decide_eq_false hlt
      clear hlt
      subst hsh
      go_wp2_with fail
      obtain ⟨w5, hw5⟩ : ∃ w5, ((((wr.setCell ⟨w.heap.size + 1, 0, none⟩ (.int .i64 k)).setCell ⟨w.heap.size + 1, 1, none⟩ (.string t)).setCell ⟨w.heap.size + 1, 2, none⟩ (.string v)).setCell ⟨w.heap.size + 1, 3, none⟩ (.slice a0 ps.length cp0)) = w5 := ⟨_, rfl⟩
      obtain ⟨hf, hgr⟩ := fill4 (.int .i64 k) (.string t) (.string v) (.slice a0 ps.length cp0) HC.out.res
      rw [hw5] at hf hgr
      rw [hw5]
      obtain ⟨q0, q1, q2, q3, _, _, _, _, hql⟩ := nd_cells hf
      have hsl := (HC.out.own.other hgr (by omega)).rk
      rw [HP.out, HPE.out, List.take_length] at hsl
      refine bodyPost_ret (v := .agg #[.int .i64 k, .string t, .string v, .slice a0 ps.length cp0]) (by simp [results, Tryz.results33, go_sem, q0, q1, q2, q3]) rfl ⟨a0, cp0, by rw [HPE.out]; rfl, hsl.alike ⟨Nat.le_refl _, fun _ _ _ => rfl⟩ fun b hb _ => by omega, HC.out.bel.grown hgr (by have := lt_blk HC.out.blk; omega) (fun b hb => by injection hb; omega)⟩
end Go.Proofs.YtinjhglmakfmkaaGreatDoor

/- The walk of spoil. -/
namespace Go.Proofs.YtinjhglmakfmkaaGreatDoor
open Go.RowKit Ev5
set_option linter.unusedSimpArgs false
set_option linter.unusedVariables false

theorem Rd.shape {w : World} {S : Nat → Prop} {d : Nat} {u : Value} (h : Rd w S d u) : ∃ a n c, u = .slice a n c ∧ n ≤ maxLen := by
  cases d with
  | zero => obtain ⟨a, c, e⟩ := h; exact ⟨a, 0, c, e, Nat.zero_le _⟩
  | succ d =>
    rcases h with ⟨a, c, e⟩ | ⟨g, n, c, cs, e, hs, hn, hc, _⟩
    · exact ⟨a, 0, c, e, Nat.zero_le _⟩
    · exact ⟨_, n, c, e, by omega⟩
theorem Rd.kid {w : World} {S : Nat → Prop} {d n c : Nat} {a : Option Addr} (h : Rd w S d (.slice a n c)) {i : Nat} (hi : i < n) :
    ∃ d' g cs, d = d' + 1 ∧ a = some ⟨g, 0, none⟩ ∧ S g ∧ n ≤ c ∧ w.heap[g]? = some (.cells cs 39 (0, 0)) ∧ cs.size = c * 4 ∧ ∃ k t v u', cs[i * 4]? = some (.int .i64 k) ∧ cs[i * 4 + 1]? = some (.string t) ∧ cs[i * 4 + 2]? = some (.string v) ∧ cs[i * 4 + 3]? = some u' ∧ Rd w S d' u' := by
  cases d with
  | zero => obtain ⟨a, c, e⟩ := h; injection e with _ e _; omega
  | succ d =>
    rcases h with ⟨a, c, e⟩ | ⟨g, n', c', cs, e, hs, hn, hc, hg, hz, hk⟩
    · injection e with _ e _; omega
    · injection e with e1 e2 e3
      subst e1; subst e2; subst e3
      exact ⟨d, g, cs, rfl, rfl, hs, hn, hg, hz, hk i hi⟩
theorem cell_arr {w : World} {g : Nat} {cs : Array Value} {j : Nat} {u : Value} (hg : w.heap[g]? = some (.cells cs 39 (0, 0))) (h : cs[j]? = some u) : w.cell? ⟨g, j, none⟩ = some u ∧ w.frozen? ⟨g, j, none⟩ = false := by
  obtain ⟨hj, he⟩ := Array.getElem?_eq_some_iff.1 h
  have := blk_cell hg j hj
  rw [he] at this
  exact this
theorem set_blk {w : World} {g j : Nat} {cs : Array Value} {y : Value} (h : w.heap[g]? = some (.cells cs 39 (0, 0))) : (w.setCell ⟨g, j, none⟩ y).heap[g]? = some (.cells (cs.setIfInBounds j y) 39 (0, 0)) := by
  obtain ⟨hlt, he⟩ := Array.getElem?_eq_some_iff.1 h
  show (w.heap.modify g _)[g]? = _
  rw [Array.getElem?_eq_getElem (by rw [Array.size_modify]; exact hlt), Array.getElem_modify_self, he]
  rfl
theorem Pk.store {S : Nat → Prop} {w : World} {g i : Nat} {cs : Array Value} (hs : S g) (hg : w.heap[g]? = some (.cells cs 39 (0, 0))) (hi : i * 4 + 3 < cs.size) :
    Pk S w ((((w.setCell ⟨g, i * 4, none⟩ (.int .i64 77)).setCell ⟨g, i * 4 + 1, none⟩ (.string ⟨#[]⟩)).setCell ⟨g, i * 4 + 2, none⟩ (.string ⟨#[]⟩)).setCell ⟨g, i * 4 + 3, none⟩ (.slice none 0 0)) := by
  have ho : ∀ b, b ≠ g → ((((w.setCell ⟨g, i * 4, none⟩ (.int .i64 77)).setCell ⟨g, i * 4 + 1, none⟩ (.string ⟨#[]⟩)).setCell ⟨g, i * 4 + 2, none⟩ (.string ⟨#[]⟩)).setCell ⟨g, i * 4 + 3, none⟩ (.slice none 0 0)).heap[b]? = w.heap[b]? := fun b hb => by
    rw [set_other hb, set_other hb, set_other hb, set_other hb]
  have hb := set_blk (j := i * 4 + 3) (y := .slice none 0 0) (set_blk (j := i * 4 + 2) (y := .string ⟨#[]⟩) (set_blk (j := i * 4 + 1) (y := .string ⟨#[]⟩) (set_blk (j := i * 4) (y := .int .i64 77) hg)))
  refine ⟨by simp, rfl, rfl, rfl, fun b _ hn => ho b (fun e => hn (e ▸ hs)), fun g' cs' _ hg' => ?_⟩
  by_cases e : g' = g
  · subst e
    rw [hg] at hg'
    injection hg' with hg'
    injection hg' with hg' _ _
    subst hg'
    refine ⟨_, hb, by simp, fun j => ?_⟩
    by_cases hj : j = i
    · subst hj
      right
      refine ⟨?_, ?_, ?_, ?_⟩ <;> simp [Array.getElem?_setIfInBounds] <;> omega
    · left
      intro r hr
      have h0 : i * 4 + 3 ≠ j * 4 + r := by omega
      have h1 : i * 4 + 2 ≠ j * 4 + r := by omega
      have h2 : i * 4 + 1 ≠ j * 4 + r := by omega
      have h3 : i * 4 ≠ j * 4 + r := by omega
      rw [Array.getElem?_setIfInBounds_ne h0, Array.getElem?_setIfInBounds_ne h1, Array.getElem?_setIfInBounds_ne h2, Array.getElem?_setIfInBounds_ne h3]
  · exact ⟨cs', (ho g' e).trans hg', rfl, fun j => .inl fun _ _ => rfl⟩

set_option maxRecDepth 100000 in
set_option maxHeartbeats 8000000 in
theorem spoil_any : ∀ (d : Nat) (w : World) (S : Nat → Prop) (k : Int) (t v : ByteArray) (u : Value), Rd w S d u → (∀ b, S b → b < w.heap.size) →
    Calls Tryz.prog 34 #[.agg #[.int .i64 k, .string t, .string v, u]] w fun e w' => (∃ r, e = .returned r) ∧ Pk S w w' := by
  intro d
  induction d with
  | zero =>
    intro w S k t v u hr hS
    obtain ⟨a, c, rfl⟩ := hr
    have HB := Lib.hid (show Below w.heap.size w (w.alloc (.cells #[.int .i64 k, .string t, .string v, .slice a 0 c] 39)) from (Below.refl _ _).alloc (Nat.le_refl _) _)
    go_enter Tryz.func34, Tryz.ntmps34
    go_wp2_with fail
    go_loopw [2] (fun vi wr => vi = .int .i64 0 ∧ wr = w.alloc (.cells #[.int .i64 k, .string t, .string v, .slice a 0 c] 39)) (fun _ _ => 0)
    case atStart => exact ⟨rfl, rfl⟩
    case round =>
      obtain ⟨rfl, rfl⟩ := hrel
      go_wp2_with fail
      go_end0
      exact ⟨⟨_, rfl⟩, Pk.below HB.out⟩
  | succ d ih =>
    intro w S k t v u hr hS
    obtain ⟨a, n, c, rfl, hn⟩ := hr.shape
    unfold maxLen at hn
    have HR := Lib.hid hr; have HSS := Lib.hid hS; have HIH := Lib.hid ih
    clear hr hS ih
    go_enter Tryz.func34, Tryz.ntmps34
    go_wp2_with fail
    go_loopw [2] (fun vi wr => ∃ i : Nat, i ≤ n ∧ vi = .int .i64 i ∧ Hid (Pk S w wr) ∧ Hid (wr.heap[w.heap.size]? = some (.cells #[.int .i64 k, .string t, .string v, .slice a n c] 39 (0, 0))))
      (fun vi _ => n - (intOf vi).toNat)
    case atStart => exact ⟨0, Nat.zero_le _, rfl, Pk.below ((Below.refl _ _).alloc (Nat.le_refl _) _), heap_alloc_new w _⟩
    case round =>
      obtain ⟨i, hi, rfl, HP, HX⟩ := hrel
      obtain ⟨x0, x1, x2, x3, y0, y1, y2, y3, hxl⟩ := nd_cells HX.out
      by_cases hlt : i < n
      · obtain ⟨d', g, cs, hd, rfl, hs, hnc, hg, hz, k', t', v', u', c0, c1, c2, c3, hk⟩ := (HR.out.poked HP.out).kid hlt
        obtain rfl : d' = d := by omega
        obtain ⟨a', n', c', rfl, _⟩ := hk.shape
        obtain ⟨d0, _⟩ := cell_arr hg c0
        obtain ⟨d1, _⟩ := cell_arr hg c1
        obtain ⟨d2, _⟩ := cell_arr hg c2
        obtain ⟨d3, _⟩ := cell_arr hg c3
        have hgl := lt_blk hg
        have HK := Lib.hid hk; have HG := Lib.hid hg; have HZ := Lib.hid hz; have HS2 := Lib.hid hs
        have hSr : ∀ b, S b → b < wr.heap.size := fun b hb => Nat.lt_of_lt_of_le (HSS.out b hb) HP.out.size
        have HSR := Lib.hid hSr
        clear hk hg hz hs c0 c1 c2 c3 hd hSr
        go_wp2_with fail
        refine (HIH.out wr S _ _ _ _ HK.out HSR.out).mono ?_
        rintro e w3 ⟨⟨r, rfl⟩, hp⟩
        obtain ⟨cs3, hg3, hz3, _⟩ := hp.row g _ HS2.out HG.out
        have hi3 : i * 4 + 3 < cs3.size := by rw [hz3, HZ.out]; omega
        have e0 := cell_arr hg3 (Array.getElem?_eq_getElem (by omega : i * 4 < cs3.size))
        have e1 := cell_arr hg3 (Array.getElem?_eq_getElem (by omega : i * 4 + 1 < cs3.size))
        have e2 := cell_arr hg3 (Array.getElem?_eq_getElem (by omega : i * 4 + 2 < cs3.size))
        have e3 := cell_arr hg3 (Array.getElem?_eq_getElem hi3)
        obtain ⟨e0, f0⟩ := e0; obtain ⟨e1, f1⟩ := e1; obtain ⟨e2, f2⟩ := e2; obtain ⟨e3, f3⟩ := e3
        generalize cs3[i * 4]'(by omega) = z0 at e0
        generalize cs3[i * 4 + 1]'(by omega) = z1 at e1
        generalize cs3[i * 4 + 2]'(by omega) = z2 at e2
        generalize cs3[i * 4 + 3]'hi3 = z3 at e3
        have hx3 : w3.heap[w.heap.size]? = some (.cells #[.int .i64 k, .string t, .string v, .slice (some ⟨g, 0, none⟩) n c] 39 (0, 0)) := (hp.oth _ hxl (fun h => by have := HSS.out _ h; omega)).trans HX.out
        have HX3 := Lib.hid hx3
        have hgw : g < w.heap.size := HSS.out g HS2.out
        have HP5 := Lib.hid ((HP.out.trans hp).trans (Pk.store HS2.out hg3 hi3))
        have hg3l := lt_blk hg3
        clear x0 x1 x2 x3 y0 y1 y2 y3 hxl d0 d1 d2 d3 hp hg3 hz3 hi3
        obtain ⟨x0, x1, x2, x3, y0, y1, y2, y3, hxl⟩ := nd_cells hx3
        clear hx3
        go_wp2_with fail
        go_roundw
        case rel => exact ⟨i + 1, by omega, by go_num, HP5, ((set_other (by omega)).trans ((set_other (by omega)).trans ((set_other (by omega)).trans ((set_other (by omega)).trans HX3.out))))⟩
        case measure => simp [intOf]; omega
      · obtain rfl : i = n := by omega
        go_wp2_with fail
        go_end0
        exact ⟨⟨_, rfl⟩, HP.out⟩
end Go.Proofs.YtinjhglmakfmkaaGreatDoor
