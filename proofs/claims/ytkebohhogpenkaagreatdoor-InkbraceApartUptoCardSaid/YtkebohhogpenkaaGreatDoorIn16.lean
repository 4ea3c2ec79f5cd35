import Derived.Test.YtkebohhogpenkaaGreatDoorIn2
import Derived.WalkSmall
import Derived.Test.YtkebohhogpenkaaGreatDoorIn1
import Derived.Deep.RegionHeld3
/- A look through a tree: its place in memory; what it leaves with. -/
namespace Go.Proofs.YtkebohhogpenkaaGreatDoor
open Go.RowKit Ev5
set_option linter.unusedSimpArgs false
set_option linter.unusedVariables false

/-- What Clone of whole numbers hands back. -/
def IntsC (l : List Int) (w : World) (e : Ending) (w' : World) : Prop := ∃ v, e = .returned v ∧ w'.ownsRow w.heap.size 3 1 v l.length (intsR l) ∧ Below w.heap.size w w'
set_option maxRecDepth 100000 in
set_option maxHeartbeats 4000000 in
theorem cloneC_any (w : World) (u : Value) (l : List Int) (hs : IntsIn w u l) (hl : l.length ≤ 1048576) :
    Calls Tryz.prog 92 #[u] w (IntsC l w) := by
  obtain ⟨ao, cap, rfl, hc, hm, hcell⟩ := hs.ex
  obtain ⟨i0, hi, hz0, hz1, hz2⟩ := info_parts infoI
  have HI := Lib.hid hi; clear hi
  have H1 := Lib.hid (intsR_one l)
  clear hs
  unfold maxLen at hm
  have q22 : ∀ (w : World) (a : Option Addr) (n c n' c' : Nat), (binOp .eql 27 (.slice a n c) (.slice none n' c')).run Tryz.prog w = .ok (.bool a.isNone) w := fun w a n c n' c' => Lib.run_eql_slice_nil w _ _ a n c n' c' Tryz.underlying27
  cases ao with
  | none =>
    obtain rfl : l = [] := by
      refine List.eq_nil_of_length_eq_zero (Nat.eq_zero_of_not_pos fun h => ?_)
      obtain ⟨b, o, e, _⟩ := hcell 0 h
      cases e
    go_enter Tryz.func92, Tryz.ntmps92
    go_wp2_with fail
    go_ret
    exact ⟨_, rfl, World.ownsRow_nil _ _ _ _, Below.refl _ _⟩
  | some a =>
    obtain ⟨ab, aoff, asp⟩ := a
    have HC := Lib.hid (show ∀ (w' : World), Below w.heap.size w w' → ∀ j u, (intsR l)[j]? = some u → w'.cell? ((⟨ab, aoff, asp⟩ : Addr).add j) = some u from fun w' hb j u hj => by
      obtain ⟨hj1, hj2⟩ := List.getElem?_eq_some_iff.1 hj
      rw [intsR_len] at hj1
      obtain ⟨b, o, e, h⟩ := hcell j hj1
      injection e with e; injection e with e1 e2 e3; subst e1; subst e2; subst e3
      have h5 : u = .int .i64 l[j] := by rw [← hj2]; simp [intsR]
      rw [Addr.add_lit, hb.cell (p := ⟨ab, aoff + j, none⟩) (cell_lt h), h5]
      exact h)
    clear hcell
    go_enter Tryz.func92, Tryz.ntmps92
    go_wp2_with (at_builtin; refine wpList_append_own_at _ rfl _ _ 27 rfl w.heap.size 3 i0 _ 1 8 Tryz.underlying27 HI.out hz0 hz1 hz2 rfl (by omega) _ 0 [] (by rfl) (World.ownsRow_made w #[] 0 (Nat.le_refl _) (by unfold maxLen; omega) rfl) ⟨ab, aoff, asp⟩ l.length cap (intsR l) (by rfl) (by rw [intsR_len]; omega) (HC.out _ ((Below.refl _ _).alloc (Nat.le_refl _) _)) H1.out (by unfold maxLen; omega) (by omega) (by simp) ?_; intro v' w' hown hgrow _ hat)
    all_goals
      go_ret
      refine ⟨v', rfl, ?_, ?_⟩
      · rw [Nat.zero_add, List.nil_append] at hown; exact hown
      · exact ((Below.refl _ _).alloc (Nat.le_refl _) _).grown hgrow (by simp) (fun k hk => by simp [Value.ownBlock] at hk; omega)

/-- A look: block X, its place in v. -/
structure Lk (w : World) (B X : Nat) (v : Value) (p : List Int) : Prop where
  blk : w.heap[X]? = some (.cells #[v] 62 (0, 0))
  row : w.ownsRow B 3 1 v p.length (intsR p)
  ne : v.ownBlock ≠ some X
  lo : B ≤ X
  ok : ∀ x ∈ p, (Lit.int .i64 x).wf = true
/-- What a look leaves alone. -/
structure LkFar (X : Nat) (v : Value) (w w' : World) : Prop where
  os : w'.os = w.os
  tape : w'.tape = w.tape
  output : w'.output = w.output
  size : w.heap.size ≤ w'.heap.size
  oth : ∀ k, k < w.heap.size → k ≠ X → v.ownBlock ≠ some k → w'.heap[k]? = w.heap[k]?
/-- A look that goes on. -/
structure LkPost (B X : Nat) (v : Value) (p : List Int) (w w' : World) (v' : Value) : Prop where
  lk : Lk w' B X v' p
  far : LkFar X v w w'
  at_ : v'.ownBlock = v.ownBlock ∨ ∀ g, v'.ownBlock = some g → w.heap.size ≤ g
theorem LkFar.refl (X : Nat) (v : Value) (w : World) : LkFar X v w w := ⟨rfl, rfl, rfl, Nat.le_refl _, fun _ _ _ _ => rfl⟩
theorem LkFar.of {X : Nat} {v : Value} {w w' : World} (h : Below w.heap.size w w') : LkFar X v w w' := ⟨h.os, h.tape, h.output, h.size, fun k hk _ _ => h.block k hk⟩
theorem LkFar.trans {X : Nat} {v v1 : Value} {w w1 w2 : World} (h : LkFar X v w w1) (ha : v1.ownBlock = v.ownBlock ∨ ∀ g, v1.ownBlock = some g → w.heap.size ≤ g) (k : LkFar X v1 w1 w2) : LkFar X v w w2 :=
  ⟨k.os.trans h.os, k.tape.trans h.tape, k.output.trans h.output, Nat.le_trans h.size k.size, fun b hb hx hv => by
    rw [k.oth b (Nat.lt_of_lt_of_le hb h.size) hx (fun e => by
      rcases ha with e1 | e1
      · exact hv (e1 ▸ e)
      · have := e1 b e; omega)]
    exact h.oth b hb hx hv⟩
theorem LkFar.below {X B : Nat} {v : Value} {w w' : World} (h : LkFar X v w w') (hX : B ≤ X) (hv : ∀ g, v.ownBlock = some g → B ≤ g) (hB : B ≤ w.heap.size) : Below B w w' :=
  ⟨h.os, h.tape, h.output, h.size, fun k hk => h.oth k (by omega) (by omega) (fun e => by have := hv k e; omega)⟩
theorem Lk.below {w w' : World} {B X : Nat} {v : Value} {p : List Int} (h : Lk w B X v p) (hb : Below w.heap.size w w') : Lk w' B X v p :=
  ⟨(hb.block _ (lt_blk h.blk)).trans h.blk, h.row.kept (row := none) ⟨hb.os, hb.tape, hb.output, hb.size, fun k hk _ => hb.block k hk⟩ (by cases hv : v.ownBlock <;> simp), h.ne, h.lo, h.ok⟩
theorem Lk.ints {w : World} {B X : Nat} {v : Value} {p : List Int} (h : Lk w B X v p) : IntsIn w v p := ownsR_ints h.row h.ok
/-- What a look is left with, where it fails. -/
def noV (a : Option Addr) (n c : Nat) : List PanicEntry := [{ v := .iface 59 (.agg #[.slice a n c]), recovered := false }]
/-- The place that a look leaves for: in memory of its own. -/
structure PlIn (w w' : World) (a : Option Addr) (c : Nat) (q : List Int) : Prop where
  ints : IntsIn w' (.slice a q.length c) q
  new : ∀ ad, a = some ad → w.heap.size ≤ ad.block
theorem PlIn.mono {w w1 w' : World} {a : Option Addr} {c : Nat} {q : List Int} (h : PlIn w1 w' a c q) (k : w.heap.size ≤ w1.heap.size) : PlIn w w' a c q := ⟨h.ints, fun ad e => Nat.le_trans k (h.new ad e)⟩
/-- How a look's part ends: it goes on, or leaves for a place. -/
def LkEnd (B X : Nat) (v : Value) (p : List Int) (o : Option (List Int)) (w : World) (e : Ending) (w' : World) : Prop :=
  match o with
  | none => (∃ r, e = .returned r) ∧ ∃ v', LkPost B X v p w w' v'
  | some q => LkFar X v w w' ∧ ∃ a c, e = .panicked (noV a q.length c) ∧ PlIn w w' a c q
set_option maxRecDepth 100000 in
set_option maxHeartbeats 2000000 in
theorem fails_any (w : World) (B X : Nat) (v : Value) (p : List Int) (h : Lk w B X v p) (hl : p.length ≤ 1000000) :
    Calls Tryz.prog 64 #[.pointer (some ⟨X, 0, none⟩)] w (LkEnd B X v p (some p) w) := by
  obtain ⟨a, c, rfl⟩ := own_shapeC h.row
  have H := Lib.hid h
  obtain ⟨c0, f0⟩ := blk_cell h.blk 0 (by simp)
  clear h
  go_enter Tryz.func64, Tryz.ntmps64
  go_wp2_with fail
  refine (cloneC_any w _ p H.out.ints (by omega)).mono ?_
  rintro e w1 ⟨v1, rfl, hown, hb⟩
  have hnew : ∀ ad l c, v1 = .slice (some ad) l c → w.heap.size ≤ ad.block := by
    intro ad l c e
    rcases hown.2 with ⟨e2, _⟩ | ⟨g, cap, cur, e2, hb, _⟩
    · rw [e2] at e; injection e with e; cases e
    · rw [e2] at e; injection e with e; injection e with e; rw [← e]; exact hb
  obtain ⟨a1, c1, rfl⟩ := own_shapeC hown
  have HI := Lib.hid (show PlIn w w1 a1 c1 p from ⟨ownsR_ints hown H.out.ok, fun ad e => hnew ad _ _ (by rw [e])⟩)
  have HB := Lib.hid hb
  clear hown hb
  go_wp2_with fail
  exact ⟨rfl, LkFar.of HB.out, a1, c1, rfl, HI.out⟩
theorem row_cut {w : World} {B : Nat} {v : Value} {p : List Int} {x : Int} (h : w.ownsRow B 3 1 v (p ++ [x]).length (intsR (p ++ [x]))) : ∃ g c, v = .slice (some ⟨g, 0, none⟩) (p.length + 1) c ∧ p.length + 1 ≤ c ∧ c ≤ maxLen ∧ w.ownsRow B 3 1 (.slice (some ⟨g, 0, none⟩) p.length c) p.length (intsR p) := by
  rcases h.2 with ⟨_, h0⟩ | ⟨g, cap, cur, rfl, hb, hg, hc, hm, hs, ht⟩
  · simp at h0
  · rw [List.length_append, List.length_singleton] at hc ht ⊢
    refine ⟨g, cap, rfl, hc, hm, by rw [intsR_len]; omega, .inr ⟨g, cap, cur, rfl, hb, hg, by omega, hm, hs, ?_⟩⟩
    have h1 := congrArg (List.take p.length) ht
    rw [List.take_take] at h1
    have h2 : intsR (p ++ [x]) = intsR p ++ [.int .i64 x] := List.map_append ..
    rw [h2, List.take_append_of_le_length (by rw [intsR_len]; exact Nat.le_refl _), show (intsR p).take p.length = intsR p from by rw [← intsR_len p, List.take_length], Nat.min_eq_left (by omega)] at h1
    rw [Nat.mul_one]; exact h1
/-- What the kids tell, one after the other. -/
def kidsO (out : Nat → Option (List Int)) (m : Nat) : Option (List Int) := firstSome ((List.range m).map out)
theorem kidsO_none {out : Nat → Option (List Int)} {m : Nat} (h : ∀ j, j < m → out j = none) : kidsO out m = none :=
  firstSome_none fun x hx => by
    obtain ⟨j, hj, rfl⟩ := List.mem_map.1 hx
    exact h j (List.mem_range.1 hj)
theorem kidsO_some {out : Nat → Option (List Int)} {m i : Nat} {q : List Int} (hi : i < m) (h : ∀ j, j < i → out j = none) (hq : out i = some q) : kidsO out m = some q :=
  firstSome_some (i := i) (by simp [hi, hq]) fun j hj => by simp [show j < m by omega, h j hj]
set_option maxRecDepth 100000 in
set_option maxHeartbeats 8000000 in
/-- The kids, over whatever is done at each. -/
theorem kids_any (f : FuncId) (cap : Array Value) (eg : ∀ args w, (callFunc f args).run Tryz.prog w = .ok (.enter f args) w) (w : World) (B X : Nat) (v : Value) (p : List Int) (S : Nat → Prop) (n : Nd) (nv : Value) (out : Nat → Option (List Int))
    (h : Lk w B X v p) (hn : NdV w S nv n) (hSB : ∀ b, S b → b < B) (hB : B ≤ w.heap.size) (hl : p.length + n.kids.length ≤ 1000000) (hk : n.kids.length ≤ 100000)
    (hcall : ∀ (W : World) (v' : Value) (i : Nat) (hi : i < n.kids.length) (u : Value), LkFar X v w W → (v'.ownBlock = v.ownBlock ∨ ∀ g, v'.ownBlock = some g → w.heap.size ≤ g) → Lk W B X v' (p ++ [(i : Int)]) → NdV W S (ndV n.kids[i] u) n.kids[i] → Calls Tryz.prog f (#[.int .i64 i, ndV n.kids[i] u] ++ cap) W (LkEnd B X v' (p ++ [(i : Int)]) (out i) W)) :
    Calls Tryz.prog 65 #[.pointer (some ⟨X, 0, none⟩), nv, .func (.func f) #[] cap] w (LkEnd B X v p (kidsO out n.kids.length) w) := by
  obtain ⟨u, rfl, hs⟩ := hn
  obtain ⟨ao, c, rfl, hcap, hcm⟩ := hs.shape
  obtain ⟨i0, hinf, hz0, hz1, hz2⟩ := info_parts infoI
  have HI := Lib.hid hinf
  have H := Lib.hid h; have HS := Lib.hid hs; have HSB := Lib.hid hSB; have HBB := Lib.hid hB; have HCA := Lib.hid hcall
  have HX := Lib.hid (heap_alloc_new w (.cells #[.int .i64 n.k, .string n.t, .string n.v, .slice ao n.kids.length c] 24))
  have HB0 := Lib.hid (show Below w.heap.size w (w.alloc (.cells #[.int .i64 n.k, .string n.t, .string n.v, .slice ao n.kids.length c] 24)) from (Below.refl _ _).alloc (Nat.le_refl _) _)
  obtain ⟨x0, x1, x2, x3, _, _, _, _, hxl⟩ := nd_cells HX.out
  have HV := Lib.hid (fun g (e : v.ownBlock = some g) => (h.row.lt g e).1)
  clear h hs hSB hB hcall hinf
  unfold ndV maxLen at *
  go_enter Tryz.func65, Tryz.ntmps65
  go_wp2_with fail
  clear x0 x1 x2 x3 hxl
  go_loopw [11] (fun v11 wr => ∃ i : Nat, i ≤ n.kids.length ∧ v11 = .int .i64 i ∧ Hid (∀ j, j < i → out j = none) ∧ Hid (∃ v', LkPost B X v p w wr v')) (fun v11 _ => n.kids.length - (intOf v11).toNat)
  case atStart => exact ⟨0, Nat.zero_le _, rfl, by show ∀ _, _; intro j hj; omega, v, H.out.below HB0.out, LkFar.of HB0.out, .inl rfl⟩
  case round =>
    obtain ⟨i, hi, rfl, HA, HP⟩ := hrel
    obtain ⟨v', hp⟩ := HP.out
    by_cases hlt : i < n.kids.length
    · have hi0 : (0 : Int) ≤ (i : Int) := Int.natCast_nonneg _
      have hi1 : (i : Int) < (n.kids.length : Int) := by omega
      obtain ⟨va, vc, rfl⟩ := own_shapeC hp.lk.row
      have HP2 := Lib.hid hp
      have hbw : Below B w wr := hp.far.below H.out.lo HV.out HBB.out
      obtain ⟨kb, ko, kx, hko, hkw, k0, k1, k2, k3, hkx⟩ := HS.out.at_ i hlt
      obtain ⟨ay, cy, rfl, _, _⟩ := hkx.shape
      have hkB : kb < B := by
        obtain ⟨a2, c2, e2, _, _, hor⟩ := HS.out
        rcases hor with h0 | ⟨b', o', e', hsb, _, _⟩
        · rw [h0] at hlt; simp at hlt
        · injection e2 with e2 _ _
          rw [e2, e'] at hko
          injection hko with hko
          injection hko with hko _ _
          rw [← hko]; exact HSB.out _ hsb
      subst hko
      have HCI := Lib.hid (HCA.out)
      obtain ⟨y, hy⟩ : ∃ y, n.kids[i] = y := ⟨_, rfl⟩
      have HY := Lib.hid hy
      rw [hy] at k0 k1 k2 k3 hkx
      have HKS := Lib.hid hkx
      have d0 : wr.cell? ⟨kb, ko + i * 4, none⟩ = some (.int .i64 y.k) := (hbw.cell (p := ⟨kb, ko + i * 4, none⟩) hkB).trans k0
      have d1 : wr.cell? ⟨kb, ko + i * 4 + 1, none⟩ = some (.string y.t) := (hbw.cell (p := ⟨kb, ko + i * 4 + 1, none⟩) hkB).trans k1
      have d2 : wr.cell? ⟨kb, ko + i * 4 + 2, none⟩ = some (.string y.v) := (hbw.cell (p := ⟨kb, ko + i * 4 + 2, none⟩) hkB).trans k2
      have d3 : wr.cell? ⟨kb, ko + i * 4 + 3, none⟩ = some (.slice ay y.kids.length cy) := (hbw.cell (p := ⟨kb, ko + i * 4 + 3, none⟩) hkB).trans k3
      have hkl : kb < wr.heap.size := Nat.lt_of_lt_of_le hkB (Nat.le_trans HBB.out hp.far.size)
      obtain ⟨c0, f0⟩ := blk_cell hp.lk.blk 0 (by simp)
      have hXl := lt_blk hp.lk.blk
      have hb1 : Below wr.heap.size wr ((wr.alloc (.cells #[.int .i64 y.k, .string y.t, .string y.v, .slice ay y.kids.length cy] 24)).alloc (.cells #[.int .i64 i] 3)) := ((Below.refl _ _).alloc (Nat.le_refl _) _).alloc (by simp) _
      have hlk1 := hp.lk.below hb1
      have HL1 := Lib.hid hlk1
      have HB1 := Lib.hid hb1
      have HBX := Lib.hid (two_first wr (.cells #[.int .i64 y.k, .string y.t, .string y.v, .slice ay y.kids.length cy] 24) (.cells #[.int .i64 i] 3))
      have HBW := Lib.hid hbw
      clear k0 k1 k2 k3 hkx hb1 hlk1 hp hbw hy
      go_wp2_with (at_builtin; refine wpList_append_own_at _ rfl _ _ 27 rfl B 3 i0 _ 1 8 Tryz.underlying27 HI.out hz0 hz1 hz2 rfl (by omega) _ p.length (intsR p) (by rfl) HL1.out.row ⟨wr.heap.size + 1, 0, none⟩ 1 1 [.int .i64 i] (by rfl) (by rfl) (World.news_of_block (two_last wr _ _)) (by intro u hu; rw [List.mem_singleton.1 hu]; rfl) (by unfold maxLen; omega) (by omega) (by have := HBB.out; have := HP2.out.far.size; simp; omega) ?_)
      intro v1 w1 hown hgrow _ hat
      have hsz : (wr.alloc (.cells #[.int .i64 y.k, .string y.t, .string y.v, .slice ay y.kids.length cy] 24)).heap.size = wr.heap.size + 1 := by simp
      have hsz2 : ((wr.alloc (.cells #[.int .i64 y.k, .string y.t, .string y.v, .slice ay y.kids.length cy] 24)).alloc (.cells #[.int .i64 i] 3)).heap.size = wr.heap.size + 2 := by simp
      have hown' : w1.ownsRow B 3 1 v1 (p ++ [(i : Int)]).length (intsR (p ++ [(i : Int)])) := by
        rw [List.length_append, List.length_singleton, show intsR (p ++ [(i : Int)]) = intsR p ++ [.int .i64 (i : Int)] from List.map_append ..]
        exact hown
      obtain ⟨g1, q1, rfl, hq1, hq2, _⟩ := row_cut hown'
      have hgs := hgrow.size
      try rw [hsz2] at hgs
      try rw [hsz2] at hat
      have hvl : ∀ g, (Value.slice va p.length vc).ownBlock = some g → g < wr.heap.size := fun g e => (HP2.out.lk.row.lt g e).2
      have hX1 : w1.heap[X]? = some (.cells #[.slice va p.length vc] 62 (0, 0)) := (hgrow.block X (by omega) (fun e => HL1.out.ne e.symm)).trans HL1.out.blk
      have hK1 : w1.heap[wr.heap.size]? = some (.cells #[.int .i64 y.k, .string y.t, .string y.v, .slice ay y.kids.length cy] 24 (0, 0)) := (hgrow.block wr.heap.size (by omega) (fun e => by have := hvl _ e.symm; omega)).trans HBX.out
      have hgX : g1 ≠ X := by
        rcases hat with e | e
        · intro e2; exact HL1.out.ne (e.symm.trans (by rw [e2]; rfl))
        · intro e2; simp [Value.ownBlock] at e; omega
      have hat2 : (Value.slice (some ⟨g1, 0, none⟩) (p.length + 1) q1).ownBlock = (Value.slice va p.length vc).ownBlock ∨ ∀ g, (Value.slice (some ⟨g1, 0, none⟩) (p.length + 1) q1).ownBlock = some g → wr.heap.size ≤ g := by
        rcases hat with e | e
        · exact .inl e
        · right; intro g hg; rw [e] at hg; injection hg with hg; omega
      obtain ⟨e0, h0⟩ := blk_cell hX1 0 (by simp)
      obtain ⟨y0, y1, y2, y3, _, _, _, _, hyl⟩ := nd_cells hK1
      have hKX : wr.heap.size ≠ X := by omega
      have hlk2 : Lk (w1.setCell ⟨X, 0, none⟩ (.slice (some ⟨g1, 0, none⟩) (p.length + 1) q1)) B X (.slice (some ⟨g1, 0, none⟩) (p.length + 1) q1) (p ++ [(i : Int)]) := by
        refine ⟨set_blkC (j := 0) (y := .slice (some ⟨g1, 0, none⟩) (p.length + 1) q1) hX1, ?_, fun e => hgX (by simpa [Value.ownBlock] using e), H.out.lo, fun x hx => ?_⟩
        · exact hown'.kept (row := some X) ⟨rfl, rfl, rfl, by simp, fun k _ hk => set_other (fun e => hk (by rw [e]))⟩ (.inr fun e => hgX (by simpa [Value.ownBlock] using e))
        · rcases List.mem_append.1 hx with hx | hx
          · exact H.out.ok x hx
          · rw [List.mem_singleton.1 hx]; exact wf_nat (by omega)
      have hfar2 : LkFar X (.slice va p.length vc) wr (w1.setCell ⟨X, 0, none⟩ (.slice (some ⟨g1, 0, none⟩) (p.length + 1) q1)) := by
        refine ⟨hgrow.os.trans HB1.out.os, hgrow.tape.trans HB1.out.tape, hgrow.output.trans HB1.out.output, by simp; omega, fun k hk hkX hkv => ?_⟩
        rw [set_other hkX, hgrow.block k (by omega) (fun e => hkv e.symm)]
        exact HB1.out.block k hk
      have hatw : (Value.slice (some ⟨g1, 0, none⟩) (p.length + 1) q1).ownBlock = v.ownBlock ∨ ∀ g, (Value.slice (some ⟨g1, 0, none⟩) (p.length + 1) q1).ownBlock = some g → w.heap.size ≤ g := by
        rcases hat2 with e | e
        · rw [e]; exact HP2.out.at_
        · right; intro g hg; have := e g hg; have := HP2.out.far.size; omega
      have HLK2 := Lib.hid hlk2
      have HFAR := Lib.hid (HP2.out.far.trans HP2.out.at_ hfar2)
      have HATW := Lib.hid hatw
      have HKS2 := Lib.hid (show NdV (w1.setCell ⟨X, 0, none⟩ (.slice (some ⟨g1, 0, none⟩) (p.length + 1) q1)) S (ndV y (.slice ay y.kids.length cy)) y from
        .mk (HKS.out.alike ⟨HFAR.out.size, fun b hb hl => (HFAR.out.below H.out.lo HV.out HBB.out).block b (HSB.out b hb)⟩ fun b h _ => h))
      clear hown hgrow hat hown' hX1 hK1 hlk2 hfar2 hatw hat2 hvl d0 d1 d2 d3 c0 f0
      have hcc := HCI.out (w1.setCell ⟨X, 0, none⟩ (.slice (some ⟨g1, 0, none⟩) (p.length + 1) q1)) (.slice (some ⟨g1, 0, none⟩) (p.length + 1) q1) i hlt (.slice ay y.kids.length cy) HFAR.out HATW.out HLK2.out (by rw [HY.out]; exact HKS2.out)
      rw [HY.out] at hcc
      have HCC := Lib.hid hcc
      clear hcc
      go_wp2_with fail
      refine HCC.out.mono ?_
      intro e w3 he
      cases ho : out i with
      | none =>
        rw [ho] at he
        obtain ⟨⟨rr, rfl⟩, v3, hp3⟩ := he
        obtain ⟨g3, q3, rfl, hq3, hq4, hcut⟩ := row_cut hp3.lk.row
        unfold maxLen at hq4
        have HA2 := Lib.hid (show ∀ j, j < i + 1 → out j = none from fun j hj => by
          rcases Nat.lt_or_eq_of_le (Nat.le_of_lt_succ hj) with h1 | h1
          · exact HA.out j h1
          · rw [h1]; exact ho)
        have hX3 := hp3.lk.blk
        have hgX3 : g3 ≠ X := fun e => hp3.lk.ne (by rw [e]; rfl)
        have HP4 := Lib.hid (show LkPost B X v p w (w3.drew.setCell ⟨X, 0, none⟩ (.slice (some ⟨g3, 0, none⟩) p.length q3)) (.slice (some ⟨g3, 0, none⟩) p.length q3) from by
          have hfar : LkFar X v w w3 := HFAR.out.trans HATW.out hp3.far
          refine ⟨⟨set_blkC (w := w3.drew) (j := 0) (y := .slice (some ⟨g3, 0, none⟩) p.length q3) hX3, ?_, fun e => hgX3 (by simpa [Value.ownBlock] using e), H.out.lo, H.out.ok⟩, ⟨hfar.os, hfar.tape, hfar.output, by simp; exact hfar.size, fun k hk hkX hkv => ?_⟩, ?_⟩
          · exact hcut.kept (row := some X) ⟨rfl, rfl, rfl, by simp, fun k _ hk => set_other (w := w3.drew) (fun e => hk (by rw [e]))⟩ (.inr fun e => hgX3 (by simpa [Value.ownBlock] using e))
          · rw [set_other hkX]; exact hfar.oth k hk hkX hkv
          · have h1 : (Value.slice (some ⟨g3, 0, none⟩) p.length q3).ownBlock = (Value.slice (some ⟨g3, 0, none⟩) (p.length + 1) q3).ownBlock := rfl
            rw [h1]
            rcases hp3.at_ with e | e
            · rw [e]; exact HATW.out
            · right; intro g hg; have := e g hg; have := HFAR.out.size; omega)
        obtain ⟨c0, f0⟩ := blk_cell hX3 0 (by simp)
        have c0' : w3.drew.cell? ⟨X, 0, none⟩ = some (.slice (some ⟨g3, 0, none⟩) (p.length + 1) q3) := c0
        have f0' : w3.drew.frozen? ⟨X, 0, none⟩ = false := f0
        have hp0 : (0 : Int) ≤ (p.length : Int) := Int.natCast_nonneg _
        clear hp3 hcut hX3 ho e0 h0 y0 y1 y2 y3 hyl
        go_wp2_with fail
        go_region
        go_wp2_with fail
        go_roundw
        case rel => exact ⟨i + 1, by omega, by go_num, HA2.out, _, HP4.out⟩
        case measure => simp [intOf]; omega
      | some q =>
        rw [ho] at he
        obtain ⟨hfar, a, c', rfl, hints⟩ := he
        have HF := Lib.hid (HFAR.out.trans HATW.out hfar)
        have HQ := Lib.hid (hints.mono (w := w) HFAR.out.size)
        have HO := Lib.hid (kidsO_some (out := out) hlt HA.out ho)
        clear hfar hints ho
        go_wp2_with fail
        exact ⟨rfl, by rw [HO.out]; exact ⟨HF.out, a, c', rfl, HQ.out⟩⟩
    · obtain rfl : i = n.kids.length := by omega
      have hi1 : ¬ ((n.kids.length : Nat) : Int) < (n.kids.length : Int) := by omega
      go_wp2_with fail
      go_end0
      rw [kidsO_none HA.out]
      exact ⟨⟨_, rfl⟩, HP.out⟩
end Go.Proofs.YtkebohhogpenkaaGreatDoor

/- The looks of the brace syntax. -/
namespace Go.Proofs.YtkebohhogpenkaaGreatDoor
open Go.RowKit Ev5
set_option linter.unusedSimpArgs false
set_option linter.unusedVariables false

theorem LkEnd.after {B X : Nat} {v : Value} {p : List Int} {o : Option (List Int)} {w w1 w' : World} {e : Ending} (hb : Below w.heap.size w w1) (h : LkEnd B X v p o w1 e w') : LkEnd B X v p o w e w' := by
  cases o with
  | none =>
    obtain ⟨hr, v', hp⟩ := h
    refine ⟨hr, v', hp.lk, (LkFar.of hb).trans (.inl rfl) hp.far, ?_⟩
    rcases hp.at_ with e | e
    · exact .inl e
    · exact .inr fun g hg => Nat.le_trans hb.size (e g hg)
  | some q =>
    obtain ⟨hf, a, c, he, hp⟩ := h
    exact ⟨(LkFar.of hb).trans (.inl rfl) hf, a, c, he, hp.mono hb.size⟩
theorem firstP_kids {tp : List Nd → Bool} {way : List Nd} {n : Nd} {p : List Int} (h : tp (way ++ [n]) = true) : firstP tp way n p = kidsO (fun i => if hi : i < n.kids.length then firstP tp (way ++ [n]) n.kids[i] (p ++ [(i : Int)]) else none) n.kids.length := by
  rw [firstP, if_neg (by rw [h]; simp)]
  unfold kidsO
  congr 1
  refine List.ext_getElem (by simp) fun i h1 h2 => ?_
  rw [List.getElem_ofFn, List.getElem_map, List.getElem_range, dif_pos (by simpa using h1)]
  rfl
/-- What the brace syntax tells. -/
def tpB (l : List Nd) : Bool := match l.getLast? with
  | some n => decide (n.k ≠ 10)
  | none => true
theorem tpB_last (way : List Nd) (n : Nd) : tpB (way ++ [n]) = decide (n.k ≠ 10) := by unfold tpB; rw [List.getLast?_concat]
set_option maxRecDepth 100000 in
set_option maxHeartbeats 2000000 in
theorem braceK_any (W : World) (lb X B : Nat) (v : Value) (p : List Int) (o : Option (List Int)) (x : Nd) (u : Value) (hu : ∃ a l c, u = .slice a l c) (i : Int) (hb : W.heap[lb]? = some (.cells #[.pointer (some ⟨X, 0, none⟩)] 61 (0, 0)))
    (hcall : ∀ W', Below W.heap.size W W' → Calls Tryz.prog 43 #[.pointer (some ⟨X, 0, none⟩), ndV x u] W' (LkEnd B X v p o W')) :
    Calls Tryz.prog 66 #[.int .i64 i, ndV x u, .pointer (some ⟨lb, 0, none⟩)] W (LkEnd B X v p o W) := by
  obtain ⟨ua, ul, uc, rfl⟩ := hu
  obtain ⟨c0, f0⟩ := blk_cell hb 0 (by simp)
  have hlt := lt_blk hb
  have HC := Lib.hid hcall
  have HB := Lib.hid (show Below W.heap.size W (W.alloc (.cells #[.int .i64 x.k, .string x.t, .string x.v, .slice ua ul uc] 24)) from (Below.refl _ _).alloc (Nat.le_refl _) _)
  clear hb hcall
  unfold ndV at *
  go_enter Tryz.func66, Tryz.ntmps66
  go_wp2_with fail
  refine (HC.out _ HB.out).mono ?_
  intro e w3 he1
  have he := he1.after HB.out
  clear he1
  cases o with
  | none =>
    obtain ⟨⟨rr, rfl⟩, hp⟩ := he
    have HP := Lib.hid hp
    clear hp
    go_wp2_with fail
    go_end0
    exact ⟨⟨_, rfl⟩, HP.out⟩
  | some q =>
    obtain ⟨hfar, a, c, rfl, hints⟩ := he
    have HF2 := Lib.hid hfar; have HI := Lib.hid hints
    clear hfar hints
    go_wp2_with fail
    exact ⟨rfl, HF2.out, a, c, rfl, HI.out⟩
set_option maxRecDepth 100000 in
set_option maxHeartbeats 8000000 in
theorem brace_any : ∀ (N : Nat) (n : Nd) (way : List Nd) (w : World) (B X : Nat) (v : Value) (p : List Int) (S : Nat → Prop) (nv : Value), n.size ≤ N → Lk w B X v p → NdV w S nv n → (∀ b, S b → b < B) → B ≤ w.heap.size → p.length + n.size ≤ 100000 →
    Calls Tryz.prog 43 #[.pointer (some ⟨X, 0, none⟩), nv] w (LkEnd B X v p (firstP tpB way n p) w) := by
  intro N
  induction N with
  | zero => intro n way w B X v p S nv hn; have := kids_size n; omega
  | succ N ih =>
    intro n way w B X v p S nv hn hlk hv hSB hB hl
    obtain ⟨u, rfl, hs⟩ := hv
    obtain ⟨ao, cap, rfl, hcap, hcm⟩ := hs.shape
    have hmf : ∀ (fn : Fn) (first cap : Array Value) (w : World), (Instr.makeFunc fn first cap).run Tryz.prog w = .ok (.func fn first cap) w := fun _ _ _ _ => rfl
    have hb := ((Below.refl w.heap.size w).alloc (Nat.le_refl _) (.cells #[.pointer (some ⟨X, 0, none⟩)] 61)).alloc (by simp) (.cells #[.int .i64 n.k, .string n.t, .string n.v, .slice ao n.kids.length cap] 24)
    have hX0 := two_first w (.cells #[.pointer (some ⟨X, 0, none⟩)] 61) (.cells #[.int .i64 n.k, .string n.t, .string n.v, .slice ao n.kids.length cap] 24)
    have hX1 := two_last w (.cells #[.pointer (some ⟨X, 0, none⟩)] 61) (.cells #[.int .i64 n.k, .string n.t, .string n.v, .slice ao n.kids.length cap] 24)
    have HN := Lib.hid hn; have H := Lib.hid hlk; have HS := Lib.hid hs; have HSB := Lib.hid hSB; have HBB := Lib.hid hB; have HL := Lib.hid hl; have HIH := Lib.hid ih
    have HB := Lib.hid hb; have HX0 := Lib.hid hX0; have HX1 := Lib.hid hX1
    clear hn hlk hs hSB hB hl ih hb hX0 hX1
    have HF := Lib.hid (fun g (e : v.ownBlock = some g) => (H.out.row.lt g e).2)
    have HFB := Lib.hid (fun g (e : v.ownBlock = some g) => (H.out.row.lt g e).1)
    have hXw := lt_blk H.out.blk
    have HXW := Lib.hid hXw
    clear hXw
    unfold ndV
    by_cases hk : n.k = 10
    · have HR := Lib.hid (firstP_no (tp := tpB) (way := way) (n := n) (p := p) (by rw [tpB_last, hk]; rfl))
      obtain ⟨K, hK⟩ : ∃ K, n.k = K := ⟨_, rfl⟩
      rw [hK] at hk HB HX0 HX1
      rw [hK]
      subst hk
      go_enter Tryz.func43, Tryz.ntmps43
      go_wp2_with fail
      refine (fails_any _ B X v p (H.out.below HB.out) (by have := HL.out; omega)).mono ?_
      intro e w3 he
      have he2 := he.after HB.out
      rw [← HR.out] at he2
      rw [HR.out] at he2
      obtain ⟨hfar, a, c, rfl, hints⟩ := he2
      have HF2 := Lib.hid hfar; have HI := Lib.hid hints
      clear hfar hints he
      go_wp2_with fail
      exact ⟨rfl, by rw [HR.out]; exact ⟨HF2.out, a, c, rfl, HI.out⟩⟩
    · have hkb : (n.k == 10) = false := by simp [hk]
      have HR := Lib.hid (firstP_kids (tp := tpB) (way := way) (n := n) (p := p) (by rw [tpB_last]; simp [hk]))
      go_enter Tryz.func43, Tryz.ntmps43
      go_wp2_with fail
      refine (kids_any 66 #[.pointer (some ⟨w.heap.size, 0, none⟩)] (fun args w => by rfl) _ B X v p S n _ (fun i => if hi : i < n.kids.length then firstP tpB (way ++ [n]) n.kids[i] (p ++ [(i : Int)]) else none) (H.out.below HB.out) ⟨_, rfl, HS.out.below HB.out⟩ HSB.out (Nat.le_trans HBB.out HB.out.size) (by have := HL.out; have := kids_size n; have := sizes_len n.kids; omega) (by have := HL.out; have := kids_size n; have := sizes_len n.kids; omega) (fun W v' i hi u hfar hat hlkW hnW => ?_)).mono ?_
      · refine braceK_any W w.heap.size X B v' _ _ _ u (by obtain ⟨u2, e2, h2⟩ := hnW; obtain ⟨a2, c2, h3, _⟩ := h2.shape; exact ⟨a2, _, c2, (show u = u2 by simpa [ndV] using e2).trans h3⟩) i ?_ ?_
        · rw [hfar.oth w.heap.size (by simp; omega) (by have := HXW.out; omega) (fun e => by have := HF.out _ e; omega)]
          exact HX0.out
        · rw [dif_pos hi]
          have hsz := kid_size (n := n) hi
          intro W' hbW
          exact HIH.out n.kids[i] (way ++ [n]) W' B X v' (p ++ [(i : Int)]) S _ (by have := HN.out; omega) (hlkW.below hbW) (hnW.below hbW) HSB.out (Nat.le_trans HBB.out (Nat.le_trans HB.out.size (Nat.le_trans hfar.size hbW.size))) (by have := HL.out; rw [List.length_append, List.length_singleton]; omega)
      · intro e w3 he
        have he2 := he.after HB.out
        rw [← HR.out] at he2
        cases ho : firstP tpB way n p with
        | none =>
          rw [ho] at he2
          obtain ⟨⟨rr, rfl⟩, hp⟩ := he2
          have HP := Lib.hid hp
          have HO := Lib.hid ho
          clear hp he
          go_wp2_with fail
          go_end0
          show LkEnd B X v p (firstP tpB way n p) w _ _
          rw [HO.out]
          exact ⟨⟨_, rfl⟩, HP.out⟩
        | some q =>
          rw [ho] at he2
          obtain ⟨hfar, a, c, rfl, hints⟩ := he2
          have HF2 := Lib.hid hfar; have HI := Lib.hid hints
          have HO := Lib.hid ho
          clear hfar hints he
          go_wp2_with fail
          exact ⟨rfl, HF2.out, a, c, rfl, HI.out⟩
end Go.Proofs.YtkebohhogpenkaaGreatDoor

/- The walk of carry.Of where a look leaves: what is deferred catches it; the brace syntax. -/
namespace Go.Proofs.YtkebohhogpenkaaGreatDoor
open Go.RowKit Ev5
set_option linter.unusedSimpArgs false
set_option linter.unusedVariables false

theorem assert_noC (v : Value) (w : World) : (Instr.typeAssert (.iface 59 v) 20 59 true).run Tryz.prog w = .ok (.tuple #[v, .bool true]) w := by kernel_rfl
set_option maxRecDepth 100000 in
set_option maxHeartbeats 2000000 in
/-- What is deferred, where a look has left for a place. -/
theorem of1_catch (P4 P5 : Nat) (a : Option Addr) (n c : Nat) (older : List PanicEntry) (w : World) (x4 x5 : Value) (h4 : w.heap[P4]? = some (.cells #[x4] 27 (0, 0))) (h5 : w.heap[P5]? = some (.cells #[x5] 28 (0, 0))) (hne : P4 ≠ P5) :
    CallsD Tryz.prog 42 #[.pointer (some ⟨P4, 0, none⟩), .pointer (some ⟨P5, 0, none⟩)] (.panicking ({ v := .iface 59 (.agg #[.slice a n c]), recovered := false } :: older)) w fun e u' w' =>
      e = .returned (.tuple #[]) ∧ u' = .panicking ({ v := .iface 59 (.agg #[.slice a n c]), recovered := true } :: older) ∧
      w' = ((w.setCell ⟨P4, 0, none⟩ (.slice a n c)).setCell ⟨P5, 0, none⟩ (.int .i64 20)).alloc (.cells #[.slice a n c] 59) := by
  have hta := assert_noC
  obtain ⟨c4, f4⟩ := blk_cell h4 0 (by simp)
  obtain ⟨c5, f5⟩ := blk_cell h5 0 (by simp)
  have l4 := lt_blk h4
  have l5 := lt_blk h5
  refine callsD_of_wpS Tryz.func42 rfl fun c₀ cs hu => ?_
  apply wpS_seq
  apply wpS_region
  simp [wpOpsS, go_sem, recoverD, hu, Tryz.ntmps42, Exit.thenS]
  refine wpS_of_wp ?_
  rw [show #[Value.pointer (some ⟨P4, 0, none⟩), Value.pointer (some ⟨P5, 0, none⟩)] ++ ((Array.replicate 15 undef).setIfInBounds 3 (Value.iface 59 (Value.agg #[Value.slice a n c]))).setIfInBounds 0 (Value.iface 59 (Value.agg #[Value.slice a n c])) = #[Value.pointer (some ⟨P4, 0, none⟩), Value.pointer (some ⟨P5, 0, none⟩), .iface 59 (.agg #[.slice a n c]), undef, undef, .iface 59 (.agg #[.slice a n c]), undef, undef, undef, undef, undef, undef, undef, undef, undef, undef, undef] from rfl]
  go_wp2_with fail
  simp [bodyPostS, results, Tryz.results42]
set_option maxRecDepth 100000 in
set_option maxHeartbeats 4000000 in
/-- carry.Of of the brace syntax. -/
theorem carryBrace_any (n : Nd) (w : World) (S : Nat → Prop) (v : Value) (hE : EnvU w) (hv : NdV w S v n) (hok : n.ok) (hN : n.size ≤ 50000) :
    Calls Tryz.prog 27 #[.int .i64 1, v] w (OfPost (ofP tpB n) w) := by
  obtain ⟨u, rfl, hs⟩ := hv
  obtain ⟨ao, cap, rfl, hcap, hcm⟩ := hs.shape
  have HV := Lib.hid (NdV.mk hs.ltC); have HE := Lib.hid hE; have HOK := Lib.hid hok; have HN := Lib.hid hN
  have HWL := Lib.hid (show n.walk.length ≤ 100000 by have := walk_len n; omega)
  have hmf : ∀ (fn : Fn) (first cap : Array Value) (w : World), (Instr.makeFunc fn first cap).run Tryz.prog w = .ok (.func fn first cap) w := fun _ _ _ _ => rfl
  clear hs hE hok hN
  unfold ndV
  go_enter_defers Tryz.func27, Tryz.ntmps27
  have h3 := threeC w (.cells #[.int .i64 n.k, .string n.t, .string n.v, .slice ao n.kids.length cap] 24) (.cells #[.slice none 0 0] 27) (.cells #[.int .i64 0] 28)
  have H3 := Lib.hid h3
  clear h3
  go_wp2_with fail
  refine (treeMay_any n _ _ _ (HE.out.below H3.out.2.2.2) (HV.out.below H3.out.2.2.2) (fun b hb => Nat.lt_of_lt_of_le hb H3.out.2.2.2.size) HOK.out HWL.out).mono ?_
  rintro e w2 ⟨rfl, hb⟩
  have hx0 := (hb.block _ (lt_blk H3.out.1)).trans H3.out.1
  have hx1 := (hb.block _ (lt_blk H3.out.2.1)).trans H3.out.2.1
  have hx2 := (hb.block _ (lt_blk H3.out.2.2.1)).trans H3.out.2.2.1
  have HB2 := Lib.hid (bthen H3.out.2.2.2 hb)
  obtain ⟨x0, x1, x2, x3, _, _, _, _, hxl⟩ := nd_cells hx0
  obtain ⟨P5, h5⟩ : ∃ P5, w.heap.size + 1 + 1 = P5 := ⟨_, rfl⟩
  obtain ⟨P4, h4⟩ : ∃ P4, w.heap.size + 1 = P4 := ⟨_, rfl⟩
  have hne : P5 ≠ P4 := by omega
  have hne' : P4 ≠ P5 := by omega
  have HLO := Lib.hid (show w.heap.size ≤ P4 ∧ w.heap.size ≤ P5 by omega)
  rw [h5] at hx2
  rw [h4] at hx1
  rw [h5, h4]
  have HX := Lib.hid (And.intro hx1 hx2)
  have hl4 := lt_blk hx1
  have hl5 := lt_blk hx2
  obtain ⟨c4, g4⟩ := blk_cell hx1 0 (by simp)
  obtain ⟨c5, g5⟩ := blk_cell hx2 0 (by simp)
  obtain ⟨E, hE⟩ : ∃ E, (wholeP RP (n.walk.map GoEv.ev)).2 = E := ⟨_, rfl⟩
  have HEQ := Lib.hid (show n.wh = E from hE)
  rw [hE]
  clear hb hx0 hx1 hx2 hE h4 h5
  by_cases hz : E = 0
  · subst hz
    have HLK := Lib.hid (show ∀ W : World, Below w.heap.size w W → Lk (W.alloc (.cells #[.slice none 0 0] 62)) W.heap.size W.heap.size (.slice none 0 0) [] from fun W _ => ⟨heap_alloc_new W _, World.ownsRow_nil _ _ _ _, (by simp [Value.ownBlock]), Nat.le_refl _, fun x hx => by cases hx⟩)
    go_wp2_with fail
    have hlk := HLK.out w2 HB2.out
    have hbl : Below w2.heap.size w2 (w2.alloc (.cells #[.slice none 0 0] 62)) := (Below.refl _ _).alloc (Nat.le_refl _) _
    have hnv := HV.out.below (bthen HB2.out hbl)
    refine (brace_any n.size n [] _ w2.heap.size w2.heap.size (.slice none 0 0) [] _ _ (Nat.le_refl _) hlk hnv (fun b hb => Nat.lt_of_lt_of_le hb HB2.out.size) (by simp) (by have := HN.out; simp; omega)).mono ?_
    intro e w3 he
    have hfar : LkFar w2.heap.size (.slice none 0 0) (w2.alloc (.cells #[.slice none 0 0] 62)) w3 := by
      cases ho : firstP tpB [] n [] with
      | none => rw [ho] at he; obtain ⟨_, v', hp⟩ := he; exact hp.far
      | some q => rw [ho] at he; exact he.1
    have hb3 : Below w2.heap.size w2 w3 := by
      refine ⟨hfar.os, hfar.tape, hfar.output, Nat.le_trans hbl.size hfar.size, fun k hk => ?_⟩
      rw [hfar.oth k (Nat.lt_of_lt_of_le hk hbl.size) (by omega) (by simp [Value.ownBlock])]
      exact hbl.block k hk
    have HB3 := Lib.hid hb3
    have hx4 := (hb3.block _ hl4).trans HX.out.1
    have hx5 := (hb3.block _ hl5).trans HX.out.2
    have HX3 := Lib.hid (And.intro hx4 hx5)
    have hl43 := lt_blk hx4
    have hl53 := lt_blk hx5
    clear c4 g4 c5 g5 hl4 hl5 x0 x1 x2 x3 hxl hnv hlk hfar hb3
    obtain ⟨c4, g4⟩ := blk_cell hx4 0 (by simp)
    obtain ⟨c5, g5⟩ := blk_cell hx5 0 (by simp)
    clear hx4 hx5
    cases ho : firstP tpB [] n [] with
    | none =>
      rw [ho] at he
      obtain ⟨⟨rr, rfl⟩, v', hp⟩ := he
      have HP := Lib.hid (show ofP tpB n = (none, 0) by unfold ofP; rw [if_neg (by rw [HEQ.out]; simp), ho])
      clear hp
      go_wp2_with fail
      obtain ⟨W9, hW9⟩ : ∃ W9, (w3.setCell ⟨P4, 0, none⟩ (.slice none 0 0)).setCell ⟨P5, 0, none⟩ (.int .i64 0) = W9 := ⟨_, rfl⟩
      have hk := two_vars HX3.out.1 HX3.out.2 hne' (.slice none 0 0) (.int .i64 0)
      rw [hW9] at hk
      have k4 : W9.cell? ⟨P4, 0, none⟩ = some (.slice none 0 0) := (blk_cell hk.1 0 (by simp)).1
      have k5 : W9.cell? ⟨P5, 0, none⟩ = some (.int .i64 0) := (blk_cell hk.2 0 (by simp)).1
      have hbw : Below w.heap.size w W9 := by
        rw [← hW9]
        exact ((bthen HB2.out HB3.out).setCell (p := ⟨P4, 0, none⟩) HLO.out.1 _).setCell (p := ⟨P5, 0, none⟩) HLO.out.2 _
      rw [hW9]
      refine leaves_cons (f := 42) (args := #[.pointer (some ⟨P4, 0, none⟩), .pointer (some ⟨P5, 0, none⟩)]) (by simp) (by simp [go_sem]) ?_
      refine (of1_idle ⟨P4, 0, none⟩ ⟨P5, 0, none⟩ W9).mono ?_
      rintro e u' w'' ⟨rfl, rfl, hb⟩
      have m4 : w''.cell? ⟨P4, 0, none⟩ = some (.slice none 0 0) := by rw [hb.cell (p := ⟨P4, 0, none⟩) (cell_lt k4)]; exact k4
      have m5 : w''.cell? ⟨P5, 0, none⟩ = some (.int .i64 0) := by rw [hb.cell (p := ⟨P5, 0, none⟩) (cell_lt k5)]; exact k5
      have hbb := bthen hbw hb
      simp [Leaves, settle, results, Tryz.results27, go_sem, m4, m5]
      rw [HP.out]
      exact ⟨hbb, none, 0, 0, rfl, rfl⟩
    | some q =>
      rw [ho] at he
      obtain ⟨_, a, c, rfl, hints⟩ := he
      have HP := Lib.hid (show ofP tpB n = (some q, 20) by unfold ofP; rw [if_neg (by rw [HEQ.out]; simp), ho])
      have HI := Lib.hid hints
      clear hints
      go_wp2_with fail
      refine leaves_cons (f := 42) (args := #[.pointer (some ⟨P4, 0, none⟩), .pointer (some ⟨P5, 0, none⟩)]) (by simp) (by simp [go_sem]) ?_
      refine (of1_catch P4 P5 a q.length c [] w3 _ _ HX3.out.1 HX3.out.2 hne').mono ?_
      rintro e u' w'' ⟨rfl, rfl, hw⟩
      obtain ⟨W9, hW9⟩ : ∃ W9, (w3.setCell ⟨P4, 0, none⟩ (.slice a q.length c)).setCell ⟨P5, 0, none⟩ (.int .i64 20) = W9 := ⟨_, rfl⟩
      have hk := two_vars HX3.out.1 HX3.out.2 hne' (.slice a q.length c) (.int .i64 20)
      rw [hW9] at hk hw
      have hba : Below W9.heap.size W9 w'' := by rw [hw]; exact (Below.refl _ _).alloc (Nat.le_refl _) _
      have m4 : w''.cell? ⟨P4, 0, none⟩ = some (.slice a q.length c) := (blk_cell ((hba.block _ (lt_blk hk.1)).trans hk.1) 0 (by simp)).1
      have m5 : w''.cell? ⟨P5, 0, none⟩ = some (.int .i64 20) := (blk_cell ((hba.block _ (lt_blk hk.2)).trans hk.2) 0 (by simp)).1
      have hbw : Below w.heap.size w W9 := by
        rw [← hW9]
        exact ((bthen HB2.out HB3.out).setCell (p := ⟨P4, 0, none⟩) HLO.out.1 _).setCell (p := ⟨P5, 0, none⟩) HLO.out.2 _
      have hbb := bthen hbw hba
      have hii : IntsIn w'' (.slice a q.length c) q := by
        obtain ⟨ao, cp, e, h1, h2, h3⟩ := HI.out.ints.ex
        injection e with e1 e2 e3
        subst e1; subst e3
        refine ⟨⟨a, c, rfl, h1, h2, fun i hi => ?_⟩, HI.out.ints.ok⟩
        obtain ⟨b, o, e, hc⟩ := h3 i hi
        refine ⟨b, o, e, ?_⟩
        have hnew := HI.out.new _ e
        have hb1 : w2.heap.size < b := by have h := hnew; simp at h; omega
        have hp4 := lt_blk HX.out.1
        have hp5 := lt_blk HX.out.2
        have hlt := cell_lt hc
        have h9 : W9.cell? ⟨b, o + i, none⟩ = some (.int .i64 q[i]) := by
          rw [← hW9, World.cell?_setCell_other _ _ _ _ (fun e => by injection e with e; omega), World.cell?_setCell_other _ _ _ _ (fun e => by injection e with e; omega)]; exact hc
        rw [hba.cell (p := ⟨b, o + i, none⟩) (cell_lt h9)]
        exact h9
      simp [Leaves, settle, results, Tryz.results27, go_sem, m4, m5]
      rw [HP.out]
      exact ⟨hbb, a, q.length, c, rfl, rfl, hii⟩
  · have hzb : (E != 0) = true := by simp [hz]
    go_wp2_with fail
    obtain ⟨W9, hW9⟩ : ∃ W9, (w2.setCell ⟨P4, 0, none⟩ (.slice none 0 0)).setCell ⟨P5, 0, none⟩ (.int .i64 E) = W9 := ⟨_, rfl⟩
    have hk := two_vars HX.out.1 HX.out.2 hne' (.slice none 0 0) (.int .i64 E)
    rw [hW9] at hk
    have k4 : W9.cell? ⟨P4, 0, none⟩ = some (.slice none 0 0) := (blk_cell hk.1 0 (by simp)).1
    have k5 : W9.cell? ⟨P5, 0, none⟩ = some (.int .i64 E) := (blk_cell hk.2 0 (by simp)).1
    have hbw : Below w.heap.size w W9 := by
      rw [← hW9]
      exact (HB2.out.setCell (p := ⟨P4, 0, none⟩) HLO.out.1 _).setCell (p := ⟨P5, 0, none⟩) HLO.out.2 _
    rw [hW9]
    have hP := Lib.hid (show ofP tpB n = (none, E) by unfold ofP; rw [if_pos (by rw [HEQ.out]; exact hz), HEQ.out])
    simp [bodyPostD, Leaves, settle, results, Tryz.results27, go_sem, k4, k5]
    rw [hP.out]
    exact ⟨hbw, none, 0, 0, rfl, rfl⟩
end Go.Proofs.YtkebohhogpenkaaGreatDoor

/- hexaplaref15.tells of the brace syntax; hexaplaref15.Of of it. -/
namespace Go.Proofs.YtkebohhogpenkaaGreatDoor
open Go.RowKit Ev5
set_option linter.unusedSimpArgs false
set_option linter.unusedVariables false

set_option maxRecDepth 100000 in
set_option maxHeartbeats 4000000 in
theorem tellsBrace : TellsAt 1 tpB (fun l => l ≠ []) := by
  intro w S wv way hE hs hne hl
  obtain ⟨way, n, rfl⟩ : ∃ l x, way = l ++ [x] := ⟨_, _, (List.dropLast_concat_getLast hne).symm⟩
  obtain ⟨wa, wc, rfl, hwc, hwm⟩ := hs.shape
  have hlast : way.length < (way ++ [n]).length := by rw [List.length_append, List.length_singleton]; omega
  obtain ⟨bb, oo, ux, hao, hbw, c0, c1, c2, c3, hsx⟩ := hs.at_ way.length hlast
  subst hao
  rw [List.getElem_append_right (Nat.le_refl _)] at c0 c1 c2 hsx
  simp only [Nat.sub_self, List.getElem_cons_zero] at c0 c1 c2 hsx
  obtain ⟨ax, cx, rfl, hcx, hcm⟩ := hsx.shape
  have hlen : (way ++ [n]).length = way.length + 1 := by rw [List.length_append, List.length_singleton]
  obtain ⟨WK, hWK⟩ : ∃ WK, way.length = WK := ⟨_, rfl⟩
  rw [hWK] at hlen c0 c1 c2 c3
  rw [hlen] at hwc hl
  rw [hlen]
  have hw0 : (0 : Int) ≤ (WK : Int) := Int.natCast_nonneg _
  have hwkI : ((WK + 1 : Nat) : Int) - 1 = (WK : Int) := by omega
  have hw2 : (WK : Int) < ((WK + 1 : Nat) : Int) := by omega
  have HT := Lib.hid (show tpB (way ++ [n]) = (n.k != 10) by rw [tpB_last]; by_cases h : n.k = 10 <;> simp [h])
  clear hs hE hne hsx hlast hWK
  unfold maxLen at *
  go_enter Tryz.func58, Tryz.ntmps58
  go_wp2_with fail
  go_ret
  exact ⟨by rw [HT.out]; rfl, Below.refl _ _⟩
theorem refOfBrace_any (n : Nd) (w : World) (S : Nat → Prop) (v : Value) (hE : EnvU w) (hv : NdV w S v n) (hok : n.ok) (hsz : n.size ≤ 50000) :
    Calls Tryz.prog 16 #[.int .i64 1, v] w (OfPost (ofP tpB n) w) :=
  refOf_any 1 _ _ (by omega) (by omega) tellsBrace (fun _ _ _ _ _ => by simp) n w S v hE hv hok hsz (fun _ => by simp)
end Go.Proofs.YtkebohhogpenkaaGreatDoor

/- The walk of hexaplaref15's row of a node. -/
namespace Go.Proofs.YtkebohhogpenkaaGreatDoor
open Go.RowKit Ev5
set_option linter.unusedSimpArgs false
set_option linter.unusedVariables false

set_option maxRecDepth 100000 in
set_option maxHeartbeats 8000000 in
theorem refRow15_any (n : Nd) : n.ok → n.size ≤ 50000 → ∀ (w : World) (S : Nat → Prop) (nv : Value), NdV w S nv n →
    Calls Tryz.prog 35 #[nv] w fun e w' => e = .returned (strV (n.txt rowF)) ∧ Below w.heap.size w w' := by
  refine Nd.ind (C := fun n => n.ok → n.size ≤ 50000 → ∀ (w : World) (S : Nat → Prop) (nv : Value), NdV w S nv n → Calls Tryz.prog 35 #[nv] w fun e w' => e = .returned (strV (n.txt rowF)) ∧ Below w.heap.size w w') ?_ n
  intro k t v ks ih hok hsz w S nv hv
  rw [ok_mk] at hok
  rw [size_mk] at hsz
  have hlen := txts_take_len (F := rowF) textF_row hok.2 (N := 50000) (by omega)
  have hkl : ks.length ≤ 50000 := by have := sizes_len ks; omega
  obtain ⟨u, rfl, hs⟩ := hv
  simp only [ndV, Nd.k, Nd.t, Nd.v, Nd.kids] at hs ⊢
  obtain ⟨ao, cap, rfl, hcap, hcm⟩ := hs.shape
  have HS := Lib.hid hs.ltC; have HOK := Lib.hid hok; have HSZ := Lib.hid hsz; have HIH := Lib.hid ih
  have HLEN := Lib.hid (show ∀ i, (Lib.join ((Nd.txts rowF ks).take i) [44, 32]).length ≤ 1050000 * 50000 from fun i => Nat.le_trans (join_lenS [44, 32] (by decide) _) (hlen i))
  have HTL := Lib.hid (show (Nd.txts rowF ks).length = ks.length from txts_len _ _)
  have HX := Lib.hid (heap_alloc_new w (.cells #[.int .i64 k, .string t, .string v, .slice ao ks.length cap] 24))
  have HB0 := Lib.hid (show Below w.heap.size w (w.alloc (.cells #[.int .i64 k, .string t, .string v, .slice ao ks.length cap] 24)) from (Below.refl _ _).alloc (Nat.le_refl _) _)
  clear hs hok hsz ih hlen
  rw [txt_mk]
  unfold maxLen at *
  go_enter Tryz.func35, Tryz.ntmps35
  go_wp2_with fail
  go_loopw [3, 4] (fun v3 v4 wr => ∃ (i : Nat) (O : ByteArray), i ≤ ks.length ∧ v4 = .int .i64 i ∧ v3 = .string O ∧ Hid (O.data.toList = Lib.join ((Nd.txts rowF ks).take i) [44, 32]) ∧ Hid (wr.heap[w.heap.size]? = some (.cells #[.int .i64 k, .string t, .string v, .slice ao ks.length cap] 24 (0, 0))) ∧ Hid (Below w.heap.size w wr)) (fun _ v4 _ => ks.length - (intOf v4).toNat)
  case atStart => exact ⟨0, ⟨#[]⟩, Nat.zero_le _, rfl, rfl, rfl, HX.out, HB0.out⟩
  case round =>
    obtain ⟨i, O, hi, rfl, rfl, HO, HXR, HBR⟩ := hrel
    have hOs : O.size ≤ 1050000 * 50000 := by
      have h1 := HLEN.out i
      rw [← HO.out] at h1
      have h3 : O.data.toList.length = O.size := Array.length_toList
      omega
    obtain ⟨x0, x1, x2, x3, _, _, _, _, hxl⟩ := nd_cells HXR.out
    by_cases hlt : i < ks.length
    · have hi0 : (0 : Int) ≤ (i : Int) := Int.natCast_nonneg _
      have hi1 : (i : Int) < (ks.length : Int) := by omega
      obtain ⟨kb, ko, kx, hko, hkw, k0, k1, k2, k3, hkx⟩ := HS.out.at_ i hlt
      obtain ⟨ay, cy, rfl, _, _⟩ := hkx.shape
      subst hko
      have hmem := List.getElem_mem hlt
      have hkok := (oks_iff ks).1 HOK.out.2 _ hmem
      have hks : ks[i].size ≤ 50000 := by have := size_mem hmem; have := HSZ.out; omega
      have hih := HIH.out ks[i] hmem hkok hks
      have htl := txt_len (F := rowF) textF_row ks[i] hkok
      have htk : (Nd.txts rowF ks).take (i + 1) = (Nd.txts rowF ks).take i ++ [ks[i].txt rowF] := by
        rw [List.take_add_one, List.getElem?_eq_getElem (by rw [HTL.out]; exact hlt)]
        congr 1
        show [(Nd.txts rowF ks)[i]'(by rw [HTL.out]; exact hlt)] = _
        simp [txts_map]
      obtain ⟨y, hy⟩ : ∃ y, ks[i] = y := ⟨_, rfl⟩
      rw [hy] at k0 k1 k2 k3 hkx hih htk hks htl
      obtain ⟨Y, hY1, hY2⟩ : ∃ Y : ByteArray, strV (y.txt rowF) = .string Y ∧ Y.data.toList = y.txt rowF := ⟨_, rfl, rfl⟩
      have hYs : Y.size ≤ 1050000 * 50000 := by
        rw [← hY2] at htl
        have h3 : Y.data.toList.length = Y.size := Array.length_toList
        omega
      rw [hY1] at hih
      have HKS := Lib.hid (NdV.mk hkx); have HH := Lib.hid hih; have HTK := Lib.hid htk; have HY := Lib.hid hY2
      have hbw := HBR.out
      have d0 : wr.cell? ⟨kb, ko + i * 4, none⟩ = some (.int .i64 y.k) := (hbw.cell (p := ⟨kb, ko + i * 4, none⟩) hkw).trans k0
      have d1 : wr.cell? ⟨kb, ko + i * 4 + 1, none⟩ = some (.string y.t) := (hbw.cell (p := ⟨kb, ko + i * 4 + 1, none⟩) hkw).trans k1
      have d2 : wr.cell? ⟨kb, ko + i * 4 + 2, none⟩ = some (.string y.v) := (hbw.cell (p := ⟨kb, ko + i * 4 + 2, none⟩) hkw).trans k2
      have d3 : wr.cell? ⟨kb, ko + i * 4 + 3, none⟩ = some (.slice ay y.kids.length cy) := (hbw.cell (p := ⟨kb, ko + i * 4 + 3, none⟩) hkw).trans k3
      have hkl2 : kb < wr.heap.size := Nat.lt_of_lt_of_le hkw hbw.size
      clear k0 k1 k2 k3 hkx hih htk hy hbw hmem hY1 hY2 htl hks hkok
      by_cases h0 : i = 0
      · subst h0
        have HO0 := Lib.hid (show O.data.toList = [] by rw [HO.out]; rfl)
        have HT0 := Lib.hid (show (Nd.txts rowF ks).take 0 = [] from rfl)
        rw [Nat.zero_mul, Nat.add_zero] at d0 d1 d2 d3
        go_wp2_with fail
        refine (HH.out _ _ _ (HKS.out.below HBR.out)).mono ?_
        rintro e w3 ⟨rfl, hb⟩
        have HB3 := Lib.hid (bthen HBR.out hb)
        have HX3 := Lib.hid ((hb.block _ hxl).trans HXR.out)
        have HO3 := Lib.hid (show (O ++ Y).data.toList = Lib.join ((Nd.txts rowF ks).take (0 + 1)) [44, 32] by
          rw [HTK.out, join_snoc, if_pos HT0.out, ByteArray.data_append, Array.toList_append, HY.out, HO0.out]; rfl)
        clear hb d0 d1 d2 d3 x0 x1 x2 x3 hxl
        go_wp2_with fail
        go_roundw
        case rel => exact ⟨1, O ++ Y, by omega, by go_num, rfl, HO3.out, HX3.out, HB3.out⟩
        case measure => simp [intOf]; omega
      · have hi2 : (0 : Int) < (i : Int) := by omega
        have hOP : (O ++ (⟨#[44, 32]⟩ : ByteArray)).size ≤ 1050000 * 50000 + 2 := by
          rw [ByteArray.size_append]
          have : (⟨#[44, 32]⟩ : ByteArray).size ≤ 2 := by decide
          omega
        have HO2 := Lib.hid (show (O ++ (⟨#[44, 32]⟩ : ByteArray)).data.toList = Lib.join ((Nd.txts rowF ks).take i) [44, 32] ++ [44, 32] by
          rw [ByteArray.data_append, Array.toList_append, HO.out])
        go_wp2_with fail
        refine (HH.out _ _ _ (HKS.out.below HBR.out)).mono ?_
        rintro e w3 ⟨rfl, hb⟩
        have HB3 := Lib.hid (bthen HBR.out hb)
        have HX3 := Lib.hid ((hb.block _ hxl).trans HXR.out)
        have HO3 := Lib.hid (show (O ++ (⟨#[44, 32]⟩ : ByteArray) ++ Y).data.toList = Lib.join ((Nd.txts rowF ks).take (i + 1)) [44, 32] by
          rw [HTK.out, join_snoc, if_neg (fun e => h0 (by have h8 : ((Nd.txts rowF ks).take i).length = i := (by rw [List.length_take, HTL.out]; omega); rw [e] at h8; exact h8.symm)), ByteArray.data_append, Array.toList_append, HY.out, HO2.out])
        clear hb d0 d1 d2 d3 x0 x1 x2 x3 hxl
        go_wp2_with fail
        go_roundw
        case rel => exact ⟨i + 1, O ++ (⟨#[44, 32]⟩ : ByteArray) ++ Y, by omega, by go_num, rfl, HO3.out, HX3.out, HB3.out⟩
        case measure => simp [intOf]; omega
    · obtain rfl : i = ks.length := by omega
      have hi1 : ¬ ((ks.length : Nat) : Int) < (ks.length : Int) := by omega
      have HJE := Lib.hid (show O.data.toList = Lib.join (Nd.txts rowF ks) [44, 32] by
        have h := HO.out
        rw [List.take_of_length_le (by rw [HTL.out]; exact Nat.le_refl _)] at h
        exact h)
      clear HO
      by_cases h1 : k = 1
      · subst h1
        go_wp2_with fail
        go_ret
        exact ⟨rfl, HBR.out⟩
      by_cases h4 : k = 4
      · subst h4
        go_wp2_with fail
        refine (refQuote_any t wr HOK.out.1.t).mono ?_
        rintro e w5 ⟨rfl, hb⟩
        have HB5 := Lib.hid (bthen HBR.out hb)
        clear hb
        go_wp2_with fail
        go_ret
        exact ⟨by rw [strV_q]; rfl, HB5.out⟩
      by_cases h5 : k = 5
      · subst h5
        go_wp2_with fail
        go_ret
        refine ⟨congrArg _ (strV_of ?_), HBR.out⟩
        show _ = 91 :: (Lib.join (Nd.txts rowF ks) [44, 32] ++ [93])
        rw [← HJE.out, ByteArray.data_append, ByteArray.data_append, Array.toList_append, Array.toList_append]; simp
      by_cases h7 : k = 7
      · subst h7
        go_wp2_with fail
        go_ret
        refine ⟨congrArg _ (strV_of ?_), HBR.out⟩
        show _ = 123 :: (Lib.join (Nd.txts rowF ks) [44, 32] ++ [125])
        rw [← HJE.out, ByteArray.data_append, ByteArray.data_append, Array.toList_append, Array.toList_append]; simp
      by_cases h8 : k = 8
      · subst h8
        go_wp2_with fail
        refine (refWord_any t wr HOK.out.1.t).mono ?_
        rintro e w5 ⟨rfl, hb⟩
        have HB5 := Lib.hid (bthen HBR.out hb)
        have hwl := word_len t HOK.out.1.t
        obtain ⟨Y, hY⟩ : ∃ Y, (wordP t).1 = Y := ⟨_, rfl⟩
        rw [hY] at hwl
        rw [hY]
        have hYs : Y.size ≤ 1048576 := hwl
        have HY := Lib.hid hY
        clear hb hwl hY
        go_wp2_with fail
        go_ret
        refine ⟨congrArg _ (strV_of ?_), HB5.out⟩
        show _ = (wordP t).1.data.toList ++ 32 :: 61 :: 32 :: Lib.join (Nd.txts rowF ks) [44, 32]
        rw [HY.out, ← HJE.out, ByteArray.data_append, ByteArray.data_append, Array.toList_append, Array.toList_append]; simp
      · have q1 : (k == 1) = false := by simp [h1]
        have q4 : (k == 4) = false := by simp [h4]
        have q5 : (k == 5) = false := by simp [h5]
        have q7 : (k == 7) = false := by simp [h7]
        have q8 : (k == 8) = false := by simp [h8]
        have HR := Lib.hid (show rowF k t v (Nd.txts rowF ks) = t.data.toList by unfold rowF; rw [if_neg h1, if_neg h4, if_neg h5, if_neg h7, if_neg h8])
        go_wp2_with fail
        go_ret
        exact ⟨by rw [HR.out]; exact congrArg Ending.returned (strV_t t), HBR.out⟩
end Go.Proofs.YtkebohhogpenkaaGreatDoor

/- The walks of carry.Row and of hexaplaref15.Elems. -/
namespace Go.Proofs.YtkebohhogpenkaaGreatDoor
open Go.RowKit Ev5
set_option linter.unusedSimpArgs false
set_option linter.unusedVariables false

mutual
/-- Is there an Elem in a node? -/
def Nd.elems : Nd → Bool
  | .mk k t v ks => decide (k = 10) || Nd.elemss ks
def Nd.elemss : List Nd → Bool
  | [] => false
  | n :: r => n.elems || Nd.elemss r
end
theorem elems_mk (k : Int) (t v : ByteArray) (ks : List Nd) : (Nd.mk k t v ks).elems = (decide (k = 10) || Nd.elemss ks) := by rw [Nd.elems]
theorem elemss_any (l : List Nd) : Nd.elemss l = l.any Nd.elems := by
  induction l with
  | nil => rw [Nd.elemss]; rfl
  | cons x r ih => rw [Nd.elemss, ih, List.any_cons]
theorem elems_any (n : Nd) : n.elems = (decide (n.k = 10) || n.kids.any Nd.elems) := by
  cases n with
  | mk k t v ks => rw [elems_mk, elemss_any]; rfl
theorem kidsO_none_iff {out : Nat → Option (List Int)} {m : Nat} : kidsO out m = none ↔ ∀ j, j < m → out j = none := by
  constructor
  · intro h j hj
    cases ho : out j with
    | none => rfl
    | some q =>
      exfalso
      -- the first that is told
      obtain ⟨i, hi, h1⟩ : ∃ i, (∃ q, i < m ∧ out i = some q) ∧ ∀ j, j < i → out j = none := by
        have key : ∀ N j, j ≤ N → j < m → (∃ q, out j = some q) → ∃ i, (∃ q, i < m ∧ out i = some q) ∧ ∀ j, j < i → out j = none := by
          intro N
          induction N with
          | zero =>
            intro j hj hm ⟨q, hq⟩
            exact ⟨j, ⟨q, hm, hq⟩, fun k hk => by omega⟩
          | succ N ih =>
            intro j hj hm ⟨q, hq⟩
            by_cases hex : ∃ k, k < j ∧ ∃ q, out k = some q
            · obtain ⟨k, hk, hq2⟩ := hex
              exact ih k (by omega) (by omega) hq2
            · refine ⟨j, ⟨q, hm, hq⟩, fun k hk => ?_⟩
              cases hk2 : out k with
              | none => rfl
              | some q2 => exact absurd ⟨k, hk, q2, hk2⟩ hex
        exact key j j (Nat.le_refl _) hj ⟨q, ho⟩
      obtain ⟨q2, hi2, hq2⟩ := hi
      rw [kidsO_some hi2 h1 hq2] at h
      cases h
  · exact kidsO_none
theorem firstB_elems : ∀ (N : Nat) (n : Nd) (way : List Nd) (p : List Int), n.size ≤ N → (firstP tpB way n p = none ↔ n.elems = false) := by
  intro N
  induction N with
  | zero => intro n way p hn; have := kids_size n; omega
  | succ N ih =>
    intro n way p hn
    rw [elems_any]
    by_cases hk : n.k = 10
    · rw [firstP_no (by rw [tpB_last, hk]; rfl)]
      simp [hk]
    · rw [firstP_kids (by rw [tpB_last]; simp [hk]), kidsO_none_iff, decide_eq_false hk, Bool.false_or, List.any_eq_false]
      constructor
      · intro h x hx
        obtain ⟨i, hi, rfl⟩ := List.getElem_of_mem hx
        have h2 := h i hi
        rw [dif_pos hi] at h2
        have := (ih n.kids[i] (way ++ [n]) (p ++ [(i : Int)]) (by have := kid_size (n := n) hi; omega)).1 h2
        rw [this]; simp
      · intro h j hj
        rw [dif_pos hj]
        refine (ih n.kids[j] (way ++ [n]) (p ++ [(j : Int)]) (by have := kid_size (n := n) hj; omega)).2 ?_
        have := h _ (List.getElem_mem hj)
        simpa using this
/-- What carry.Row tells besides the text. -/
theorem ofB_err (n : Nd) : (ofP tpB n).2 = if n.wh ≠ 0 then n.wh else if n.elems = true then 20 else 0 := by
  unfold ofP
  by_cases h : n.wh ≠ 0
  · rw [if_pos h, if_pos h]
  · rw [if_neg h, if_neg h]
    have h2 := firstB_elems n.size n [] [] (Nat.le_refl _)
    cases ho : firstP tpB [] n [] with
    | none => rw [h2.1 ho]; rfl
    | some q =>
      have : n.elems = true := by
        cases he : n.elems with
        | true => rfl
        | false => rw [h2.2 he] at ho; cases ho
      rw [this]; rfl
set_option maxRecDepth 100000 in
set_option maxHeartbeats 8000000 in
theorem refElems_any (n : Nd) : n.size ≤ 50000 → ∀ (w : World) (S : Nat → Prop) (nv : Value), NdV w S nv n →
    Calls Tryz.prog 34 #[nv] w fun e w' => e = .returned (.bool n.elems) ∧ Below w.heap.size w w' := by
  refine Nd.ind (C := fun n => n.size ≤ 50000 → ∀ (w : World) (S : Nat → Prop) (nv : Value), NdV w S nv n → Calls Tryz.prog 34 #[nv] w fun e w' => e = .returned (.bool n.elems) ∧ Below w.heap.size w w') ?_ n
  intro k t v ks ih hsz w S nv hv
  rw [size_mk] at hsz
  have hkl : ks.length ≤ 50000 := by have := sizes_len ks; omega
  obtain ⟨u, rfl, hs⟩ := hv
  simp only [ndV, Nd.k, Nd.t, Nd.v, Nd.kids] at hs ⊢
  obtain ⟨ao, cap, rfl, hcap, hcm⟩ := hs.shape
  have HS := Lib.hid hs.ltC; have HSZ := Lib.hid hsz; have HIH := Lib.hid ih
  have HX := Lib.hid (heap_alloc_new w (.cells #[.int .i64 k, .string t, .string v, .slice ao ks.length cap] 24))
  have HB0 := Lib.hid (show Below w.heap.size w (w.alloc (.cells #[.int .i64 k, .string t, .string v, .slice ao ks.length cap] 24)) from (Below.refl _ _).alloc (Nat.le_refl _) _)
  clear hs hsz ih
  rw [elems_mk, elemss_any]
  unfold maxLen at *
  by_cases hk : k = 10
  · subst hk
    go_enter Tryz.func34, Tryz.ntmps34
    go_wp2_with fail
    go_ret
    exact ⟨rfl, HB0.out⟩
  have hkb : (k == 10) = false := by simp [hk]
  rw [decide_eq_false hk, Bool.false_or]
  go_enter Tryz.func34, Tryz.ntmps34
  go_wp2_with fail
  go_loopw [3] (fun v3 wr => ∃ i : Nat, i ≤ ks.length ∧ v3 = .int .i64 i ∧ Hid ((ks.take i).any Nd.elems = false) ∧ Hid (wr.heap[w.heap.size]? = some (.cells #[.int .i64 k, .string t, .string v, .slice ao ks.length cap] 24 (0, 0))) ∧ Hid (Below w.heap.size w wr)) (fun v3 _ => ks.length - (intOf v3).toNat)
  case atStart => exact ⟨0, Nat.zero_le _, rfl, rfl, HX.out, HB0.out⟩
  case round =>
    obtain ⟨i, hi, rfl, HA, HXR, HBR⟩ := hrel
    obtain ⟨x0, x1, x2, x3, _, _, _, _, hxl⟩ := nd_cells HXR.out
    by_cases hlt : i < ks.length
    · have hi0 : (0 : Int) ≤ (i : Int) := Int.natCast_nonneg _
      have hi1 : (i : Int) < (ks.length : Int) := by omega
      obtain ⟨kb, ko, kx, hko, hkw, k0, k1, k2, k3, hkx⟩ := HS.out.at_ i hlt
      obtain ⟨ay, cy, rfl, _, _⟩ := hkx.shape
      subst hko
      have hmem := List.getElem_mem hlt
      have hih := HIH.out ks[i] hmem (by have := size_mem hmem; have := HSZ.out; omega)
      have htk : (ks.take (i + 1)).any Nd.elems = ((ks.take i).any Nd.elems || ks[i].elems) := by
        rw [List.take_add_one, List.getElem?_eq_getElem hlt, List.any_append]; simp
      have hall : ks[i].elems = true → ks.any Nd.elems = true := fun h => List.any_eq_true.2 ⟨_, hmem, h⟩
      obtain ⟨y, hy⟩ : ∃ y, ks[i] = y := ⟨_, rfl⟩
      rw [hy] at k0 k1 k2 k3 hkx hih htk hall
      obtain ⟨Z, hZ⟩ : ∃ Z, y.elems = Z := ⟨_, rfl⟩
      rw [hZ] at hih htk hall
      have HKS := Lib.hid (NdV.mk hkx); have HH := Lib.hid hih; have HTK := Lib.hid htk; have HAL := Lib.hid hall
      have hbw := HBR.out
      have d0 : wr.cell? ⟨kb, ko + i * 4, none⟩ = some (.int .i64 y.k) := (hbw.cell (p := ⟨kb, ko + i * 4, none⟩) hkw).trans k0
      have d1 : wr.cell? ⟨kb, ko + i * 4 + 1, none⟩ = some (.string y.t) := (hbw.cell (p := ⟨kb, ko + i * 4 + 1, none⟩) hkw).trans k1
      have d2 : wr.cell? ⟨kb, ko + i * 4 + 2, none⟩ = some (.string y.v) := (hbw.cell (p := ⟨kb, ko + i * 4 + 2, none⟩) hkw).trans k2
      have d3 : wr.cell? ⟨kb, ko + i * 4 + 3, none⟩ = some (.slice ay y.kids.length cy) := (hbw.cell (p := ⟨kb, ko + i * 4 + 3, none⟩) hkw).trans k3
      have hkl2 : kb < wr.heap.size := Nat.lt_of_lt_of_le hkw hbw.size
      clear k0 k1 k2 k3 hkx hih htk hy hbw hmem hZ hall
      go_wp2_with fail
      refine (HH.out _ _ _ (HKS.out.below HBR.out)).mono ?_
      rintro e w3 ⟨rfl, hb⟩
      have HB3 := Lib.hid (bthen HBR.out hb)
      have HX3 := Lib.hid ((hb.block _ hxl).trans HXR.out)
      clear hb d0 d1 d2 d3 x0 x1 x2 x3 hxl
      cases Z with
      | true =>
        go_wp2_with fail
        go_ret
        exact ⟨by rw [HAL.out trivial]; rfl, HB3.out⟩
      | false =>
        go_wp2_with fail
        go_roundw
        case rel => exact ⟨i + 1, by omega, by go_num, by show _ = _; rw [HTK.out, HA.out]; rfl, HX3.out, HB3.out⟩
        case measure => simp [intOf]; omega
    · obtain rfl : i = ks.length := by omega
      have hi1 : ¬ ((ks.length : Nat) : Int) < (ks.length : Int) := by omega
      have HE2 := Lib.hid (show ks.any Nd.elems = false by have h := HA.out; rwa [List.take_length] at h)
      go_wp2_with fail
      go_ret
      exact ⟨by rw [HE2.out]; rfl, HBR.out⟩
set_option maxRecDepth 100000 in
set_option maxHeartbeats 8000000 in
/-- carry.Row: a node in one row, or why not. -/
theorem carryRow_any (n : Nd) (w : World) (S : Nat → Prop) (v : Value) (hE : EnvU w) (hv : NdV w S v n) (hok : n.ok) (hsz : n.size ≤ 50000) :
    Calls Tryz.prog 32 #[v] w fun e w' => e = .returned (.tuple #[strV (if (ofP tpB n).2 = 0 then n.txt rowF else []), .int .i64 (ofP tpB n).2]) ∧ Below w.heap.size w w' := by
  obtain ⟨u, rfl, hs⟩ := hv
  obtain ⟨ao, cap, rfl, hcap, hcm⟩ := hs.shape
  have HV := Lib.hid (NdV.mk hs.ltC); have HE := Lib.hid hE; have HOK := Lib.hid hok; have HSZ := Lib.hid hsz
  have HWL := Lib.hid (show n.walk.length ≤ 100000 by have := walk_len n; omega)
  have HX := Lib.hid (heap_alloc_new w (.cells #[.int .i64 n.k, .string n.t, .string n.v, .slice ao n.kids.length cap] 24))
  have HB0 := Lib.hid (show Below w.heap.size w (w.alloc (.cells #[.int .i64 n.k, .string n.t, .string n.v, .slice ao n.kids.length cap] 24)) from (Below.refl _ _).alloc (Nat.le_refl _) _)
  obtain ⟨R, hR⟩ : ∃ R, (ofP tpB n).2 = R := ⟨_, rfl⟩
  rw [hR]
  obtain ⟨T, hT⟩ : ∃ T, (if R = 0 then n.txt rowF else []) = T := ⟨_, rfl⟩
  rw [hT]
  have HR := Lib.hid hR; have HT := Lib.hid hT
  clear hs hE hok hsz hT hR
  unfold ndV
  go_enter Tryz.func32, Tryz.ntmps32
  go_wp2_with fail
  refine (treeMay_any n _ _ _ (HE.out.below HB0.out) (HV.out.below HB0.out) (fun b hb => Nat.lt_of_lt_of_le hb HB0.out.size) HOK.out HWL.out).mono ?_
  rintro e w2 ⟨rfl, hb⟩
  have HX2 := Lib.hid ((hb.block _ (lt_blk HX.out)).trans HX.out)
  have HB2 := Lib.hid (bthen HB0.out hb)
  obtain ⟨x0, x1, x2, x3, _, _, _, _, hxl⟩ := nd_cells HX2.out
  obtain ⟨E, hEq⟩ : ∃ E, (wholeP RP (n.walk.map GoEv.ev)).2 = E := ⟨_, rfl⟩
  have HEQ := Lib.hid (show n.wh = E from hEq)
  rw [hEq]
  clear hb hEq
  by_cases hz : E = 0
  · subst hz
    go_wp2_with fail
    refine (carryBrace_any n w2 _ _ (HE.out.below HB2.out) (HV.out.below HB2.out) HOK.out HSZ.out).mono ?_
    rintro e w3 ⟨hb, a, len, c, rfl, _⟩
    have HX3 := Lib.hid ((hb.block _ hxl).trans HX2.out)
    have HB3 := Lib.hid (bthen HB2.out hb)
    clear x0 x1 x2 x3 hxl hb
    obtain ⟨x0, x1, x2, x3, _, _, _, _, hxl⟩ := nd_cells HX3.out
    rw [HR.out]
    by_cases hz2 : R = 0
    · have HT2 := Lib.hid (HT.out.symm.trans (if_pos hz2))
      subst hz2
      go_wp2_with fail
      refine (row_any n HOK.out HSZ.out w3 _ _ (HE.out.below HB3.out) (HV.out.below HB3.out)).mono ?_
      rintro e w4 ⟨rfl, hb⟩
      have HB4 := Lib.hid (bthen HB3.out hb)
      clear hb
      obtain ⟨Y, hY⟩ : ∃ Y : ByteArray, strV (n.txt rowF) = .string Y := ⟨_, rfl⟩
      have HY := Lib.hid hY
      rw [hY]
      clear hY
      go_wp2_with fail
      go_ret2
      exact ⟨by rw [HT2.out, HY.out]; rfl, HB4.out⟩
    · have hzb : (R != 0) = true := by simp [hz2]
      have HT2 := Lib.hid (HT.out.symm.trans (if_neg hz2))
      go_wp2_with fail
      go_ret2
      exact ⟨by rw [HT2.out]; rfl, HB3.out⟩
  · have hzb : (E != 0) = true := by simp [hz]
    have HP := Lib.hid (show R = E by rw [← HR.out, ofB_err, if_pos (by rw [HEQ.out]; exact hz), HEQ.out])
    have HT2 := Lib.hid (HT.out.symm.trans (if_neg (by rw [HP.out]; exact hz)))
    go_wp2_with fail
    go_ret2
    exact ⟨by rw [HP.out, HT2.out]; rfl, HB2.out⟩
end Go.Proofs.YtkebohhogpenkaaGreatDoor

/- strings.Builder's methods at a builder that is the whole of a struct, fresh or in use, with all that they leave alone. -/
namespace Go.Proofs.YtkebohhogpenkaaGreatDoor
open Go.RowKit Ev5
set_option linter.unusedSimpArgs false
set_option linter.unusedVariables false

/-- A builder that is the whole of a block of type T: fresh, or in use. -/
structure BuT (T : TypeId) (w : World) (B b : Nat) (v : Value) (bs : List Value) : Prop where
  blk : ∃ p, (p = .pointer none ∨ p = .pointer (some ⟨b, 0, none⟩)) ∧ w.heap[b]? = some (.cells #[p, v] T (0, 0))
  row : w.ownsRow B 5 1 v bs.length bs
  ne : v.ownBlock ≠ some b
  lo : B ≤ b
/-- Behind a write: all other blocks are as they were. -/
structure BuTPost (T : TypeId) (B b : Nat) (v : Value) (bs : List Value) (w w' : World) (v' : Value) : Prop where
  bu : BuT T w' B b v' bs
  at_ : v'.ownBlock = v.ownBlock ∨ ∀ g, v'.ownBlock = some g → w.heap.size ≤ g
  os : w'.os = w.os
  tape : w'.tape = w.tape
  output : w'.output = w.output
  size : w.heap.size ≤ w'.heap.size
  oth : ∀ k, k < w.heap.size → k ≠ b → v.ownBlock ≠ some k → w'.heap[k]? = w.heap[k]?
theorem BuT.lt {T : TypeId} {w : World} {B b : Nat} {v : Value} {bs : List Value} (h : BuT T w B b v bs) : b < w.heap.size := by
  obtain ⟨p, _, hb⟩ := h.blk
  exact lt_blk hb
theorem BuT.below {T : TypeId} {w w' : World} {B b : Nat} {v : Value} {bs : List Value} (h : BuT T w B b v bs) (hb : Below w.heap.size w w') : BuT T w' B b v bs := by
  obtain ⟨p, hp, hk⟩ := h.blk
  exact ⟨⟨p, hp, (hb.block _ (lt_blk hk)).trans hk⟩, ownr_below h.row hb, h.ne, h.lo⟩
theorem BuTPost.trans {T : TypeId} {B b : Nat} {v v1 v2 : Value} {bs1 bs2 : List Value} {w w1 w2 : World} (h1 : BuTPost T B b v bs1 w w1 v1) (h2 : BuTPost T B b v1 bs2 w1 w2 v2) : BuTPost T B b v bs2 w w2 v2 := by
  refine ⟨h2.bu, ?_, h2.os.trans h1.os, h2.tape.trans h1.tape, h2.output.trans h1.output, Nat.le_trans h1.size h2.size, fun k hk hkb hkv => ?_⟩
  · rcases h2.at_ with e | e
    · rcases h1.at_ with e1 | e1
      · exact .inl (e.trans e1)
      · exact .inr fun g hg => e1 g (e ▸ hg)
    · exact .inr fun g hg => Nat.le_trans h1.size (e g hg)
  · rw [h2.oth k (Nat.lt_of_lt_of_le hk h1.size) hkb, h1.oth k hk hkb hkv]
    rcases h1.at_ with e | e
    · rw [e]; exact hkv
    · intro e2; have := e k e2; omega
theorem BuTPost.pre {T : TypeId} {B b : Nat} {v v2 : Value} {bs2 : List Value} {w w1 w2 : World} (hb : Below w.heap.size w w1) (h2 : BuTPost T B b v bs2 w1 w2 v2) : BuTPost T B b v bs2 w w2 v2 := by
  refine ⟨h2.bu, ?_, h2.os.trans hb.os, h2.tape.trans hb.tape, h2.output.trans hb.output, Nat.le_trans hb.size h2.size, fun k hk hkb hkv => ?_⟩
  · rcases h2.at_ with e | e
    · exact .inl e
    · exact .inr fun g hg => Nat.le_trans hb.size (e g hg)
  · rw [h2.oth k (Nat.lt_of_lt_of_le hk hb.size) hkb hkv, hb.block k hk]
theorem BuTPost.post {T : TypeId} {B b : Nat} {v v1 : Value} {bs1 : List Value} {w w1 w2 : World} (h1 : BuTPost T B b v bs1 w w1 v1) (hb : Below w1.heap.size w1 w2) : BuTPost T B b v bs1 w w2 v1 := by
  refine ⟨h1.bu.below hb, h1.at_, hb.os.trans h1.os, hb.tape.trans h1.tape, hb.output.trans h1.output, Nat.le_trans h1.size hb.size, fun k hk hkb hkv => ?_⟩
  rw [hb.block k (Nat.lt_of_lt_of_le hk h1.size), h1.oth k hk hkb hkv]
theorem BuTPost.low {T : TypeId} {B b : Nat} {v v1 : Value} {bs bs1 : List Value} {w w1 : World} (h : BuT T w B b v bs) (h1 : BuTPost T B b v bs1 w w1 v1) (hB : B ≤ w.heap.size) : Below B w w1 :=
  ⟨h1.os, h1.tape, h1.output, h1.size, fun k hk => h1.oth k (by omega) (by have := h.lo; omega) (fun e => by have := (h.row.lt k e).1; omega)⟩
set_option maxHeartbeats 2000000 in
set_option maxRecDepth 100000 in
/-- copyCheck at a fresh builder: it stores its own address. -/
theorem copyFreshT (T : TypeId) (hT : liesAt Tryz.prog Tryz.prog.depth T (2 / Tryz.prog.cellsOf T) 0 52 1 = true) (w : World) (b : Nat) (v : Value) (hblk : w.heap[b]? = some (.cells #[.pointer none, v] T (0, 0))) :
    Calls Tryz.prog 87 #[.pointer (some ⟨b, 0, none⟩)] w fun e w' => e = .returned (.tuple #[]) ∧ w' = w.setCell ⟨b, 0, none⟩ (.pointer (some ⟨b, 0, none⟩)) := by
  obtain ⟨j, hj, hjs⟩ := Option.map_eq_some_iff.1 Tryz.Builder_Extra_159.sizeBuilder
  have hsh : w.shape? b = some (T, 2) := by simp [World.shape?, hblk]
  obtain ⟨c0, _, f0, _⟩ := cells2 hblk
  have r1 := Lib.run_to_unsafe (P := Tryz.prog) w ⟨b, 0, none⟩ Tryz.underlying49 Tryz.underlying114 hj (by rw [hjs]; decide) hsh (Nat.zero_lt_succ 1)
  have r2 := Lib.run_from_unsafe (P := Tryz.prog) w ⟨b, 0, none⟩ Tryz.underlying114 Tryz.underlying49 hj hsh hT
  go_enter Tryz.func87, Tryz.ntmps87
  go_wp2_with fail
  rw [run_callFunc_extern Tryz.func116 (by kernel_rfl) (by kernel_rfl) (by kernel_rfl) (e := Extern.AbiNoEscape.same) (by kernel_rfl)]
  rw [Lib.run_noEscape]
  simp only [Result.andThen]
  rw [Oper.upon_value]
  go_wp2_with fail
  go_end0
  exact ⟨rfl, rfl⟩
/-- copyCheck: behind it the builder holds its own address. -/
theorem copyT (T : TypeId) (hT : liesAt Tryz.prog Tryz.prog.depth T (2 / Tryz.prog.cellsOf T) 0 52 1 = true) (w : World) (B b : Nat) (v : Value) (bs : List Value) (h : BuT T w B b v bs) :
    Calls Tryz.prog 87 #[.pointer (some ⟨b, 0, none⟩)] w fun e w' => e = .returned (.tuple #[]) ∧ w'.heap[b]? = some (.cells #[.pointer (some ⟨b, 0, none⟩), v] T (0, 0)) ∧ w.grownBy w' (some b) ∧ w'.heap.size = w.heap.size := by
  obtain ⟨p, hp, hb⟩ := h.blk
  rcases hp with rfl | rfl
  · refine (copyFreshT T hT w b v hb).mono ?_
    rintro e w' ⟨rfl, rfl⟩
    exact ⟨rfl, set_blkU (j := 0) (y := .pointer (some ⟨b, 0, none⟩)) hb, grown_set w b 0 _, by simp⟩
  · refine (copyCheck_any w b (cells2 hb).1).mono ?_
    rintro e w' ⟨rfl, rfl⟩
    exact ⟨rfl, hb, ⟨rfl, rfl, rfl, Nat.le_refl _, fun _ _ _ => rfl⟩, rfl⟩
/-- What a write leaves, put together. -/
theorem BuT.put {T : TypeId} {w W1 w2 : World} {B b g n cap : Nat} {v : Value} {bs bs2 : List Value} (h : BuT T w B b v bs) (hblk : W1.heap[b]? = some (.cells #[.pointer (some ⟨b, 0, none⟩), v] T (0, 0))) (hg1 : w.grownBy W1 (some b)) (hB : B ≤ w.heap.size)
    (hown : w2.ownsRow B 5 1 (.slice (some ⟨g, 0, none⟩) n cap) n bs2) (hn : bs2.length = n) (hsz : w.heap.size ≤ W1.heap.size) (hgrow : W1.grownBy w2 v.ownBlock) (hat : (Value.slice (some ⟨g, 0, none⟩) n cap).ownBlock = v.ownBlock ∨ ∀ g', (Value.slice (some ⟨g, 0, none⟩) n cap).ownBlock = some g' → W1.heap.size ≤ g') :
    BuTPost T B b v bs2 w (w2.setCell ⟨b, 1, none⟩ (.slice (some ⟨g, 0, none⟩) n cap)) (.slice (some ⟨g, 0, none⟩) n cap) := by
  have hbl := h.lt
  have hb2 : w2.heap[b]? = some (.cells #[.pointer (some ⟨b, 0, none⟩), v] T (0, 0)) := (hgrow.block b (by omega) (fun e => h.ne e.symm)).trans hblk
  have hgb : g ≠ b := by
    intro e
    subst e
    rcases hat with e' | e'
    · exact h.ne (e'.symm.trans rfl)
    · have := e' g rfl; omega
  refine ⟨⟨⟨_, .inr rfl, set_blkU (j := 1) (y := .slice (some ⟨g, 0, none⟩) n cap) hb2⟩, ?_, fun e => hgb (by simpa [Value.ownBlock] using e), h.lo⟩, ?_, ?_, ?_, ?_, ?_, fun k hk hkb hkv => ?_⟩
  · have h1 : w2.ownsRow B 5 1 (.slice (some ⟨g, 0, none⟩) n cap) bs2.length bs2 := by rw [hn]; exact hown
    exact h1.kept (row := some b) ⟨rfl, rfl, rfl, by simp, fun k _ hk => set_other (fun e => hk (by rw [e]))⟩ (.inr fun e => hgb (by simpa [Value.ownBlock] using e))
  · rcases hat with e | e
    · exact .inl e
    · exact .inr fun g' hg' => Nat.le_trans hsz (e g' hg')
  · exact hgrow.os.trans hg1.os
  · exact hgrow.tape.trans hg1.tape
  · exact hgrow.output.trans hg1.output
  · have := hgrow.size; simp; omega
  · rw [set_other hkb, hgrow.block k (by omega) (fun e => hkv e.symm), hg1.block k hk (fun e => hkb (by injection e))]
theorem BuT.row1 {T : TypeId} {w W1 : World} {B b : Nat} {v : Value} {bs : List Value} (h : BuT T w B b v bs) (hg1 : w.grownBy W1 (some b)) : W1.ownsRow B 5 1 v bs.length bs := h.row.kept hg1 (.inr h.ne)
set_option maxHeartbeats 2000000 in
set_option maxRecDepth 100000 in
theorem writeByteT (T : TypeId) (hT : liesAt Tryz.prog Tryz.prog.depth T (2 / Tryz.prog.cellsOf T) 0 52 1 = true) (w : World) (B b : Nat) (v : Value) (bs : List Value) (c : Int) (h : BuT T w B b v bs) (hlen : bs.length + 1 ≤ 100000000000000) (hB : B ≤ w.heap.size) :
    Calls Tryz.prog 62 #[.pointer (some ⟨b, 0, none⟩), .int .u8 c] w fun e w' => e = .returned .nilIface ∧ ∃ v', BuTPost T B b v (bs ++ [.int .u8 c]) w w' v' := by
  obtain ⟨i0, hi, hz0, hz1, hz2⟩ := info_parts Tryz.Builder_Extra_159.infoByte
  have HI := Lib.hid hi; have H := Lib.hid h
  have HC := Lib.hid (copyT T hT w B b v bs h)
  clear hi h
  go_enter Tryz.func62, Tryz.ntmps62
  go_wp2_with fail
  refine HC.out.mono ?_
  rintro e w1 ⟨rfl, hb1, hg1, hs1⟩
  have HG1 := Lib.hid hg1; have HB1 := Lib.hid hb1; have HS1 := Lib.hid hs1
  obtain ⟨c0, c1, f0, f1⟩ := cells2 hb1
  clear hb1 hg1 hs1
  go_wp2_with (at_builtin; refine wpList_append_own_at _ rfl _ _ 50 rfl B 5 i0 _ 1 1 Tryz.underlying50 HI.out hz0 hz1 hz2 rfl (by decide) _ bs.length bs rfl (ownr_alloc (H.out.row1 HG1.out) _) ⟨w1.heap.size, 0, none⟩ 1 1 [.int .u8 c] rfl rfl (World.news_of_block (heap_alloc_new w1 _)) (by intro u hu; rw [List.mem_singleton.1 hu]; rfl) (by unfold maxLen; omega) (by omega) (by have := HS1.out; simp; omega) ?_)
  intro v' w2 hown hgrow _ hat
  have hs1 := HS1.out
  have hbl := H.out.lt
  obtain ⟨g, cap, rfl⟩ : ∃ g cap, v' = .slice (some ⟨g, 0, none⟩) (bs.length + 1) cap := by
    rcases hown.2 with ⟨_, h0⟩ | ⟨g, cap, cur, hv, _⟩
    · omega
    · exact ⟨g, cap, hv⟩
  have hW : (w1.alloc (.cells #[.int .u8 c] 5)).heap[b]? = some (.cells #[.pointer (some ⟨b, 0, none⟩), v] T (0, 0)) := by
    rw [Lib.alloc_old w1 _ b (by omega)]; exact HB1.out
  have hb2 : w2.heap[b]? = some (.cells #[.pointer (some ⟨b, 0, none⟩), v] T (0, 0)) := (hgrow.block b (by simp; omega) (fun e => H.out.ne e.symm)).trans hW
  clear c0 c1 f0 f1
  obtain ⟨d0, d1, f0, f1⟩ := cells2 hb2
  have hp := H.out.put hW (grown_trans HG1.out ⟨rfl, rfl, rfl, by simp, fun k hk _ => Lib.alloc_old w1 _ k hk⟩) hB hown (by simp) (by simp; omega) hgrow (by
    rcases hat with e | e
    · exact .inl e
    · right; intro g' hg'; rw [e] at hg'; injection hg' with hg'; rw [← hg']; simp)
  have HP := Lib.hid hp
  have hg2 := hgrow.size
  simp at hg2
  clear hp hW
  go_wp2_with fail
  go_ret
  exact ⟨rfl, _, HP.out⟩
set_option maxHeartbeats 2000000 in
set_option maxRecDepth 100000 in
theorem writeStringT (T : TypeId) (hT : liesAt Tryz.prog Tryz.prog.depth T (2 / Tryz.prog.cellsOf T) 0 52 1 = true) (w : World) (B b : Nat) (v : Value) (bs : List Value) (s : ByteArray) (h : BuT T w B b v bs) (hlen : bs.length + s.size ≤ 100000000000000) (hs0 : 0 < s.size) (hB : B ≤ w.heap.size) :
    Calls Tryz.prog 59 #[.pointer (some ⟨b, 0, none⟩), .string s] w fun e w' => e = .returned (.tuple #[.int .i64 s.size, .nilIface]) ∧ ∃ v', BuTPost T B b v (bs ++ Lib.strCells s) w w' v' := by
  obtain ⟨i0, hi, hz0, hz1, hz2⟩ := info_parts Tryz.Builder_Extra_159.infoByte
  have HI := Lib.hid hi; have H := Lib.hid h
  have HC := Lib.hid (copyT T hT w B b v bs h)
  clear hi h
  go_enter Tryz.func59, Tryz.ntmps59
  go_wp2_with fail
  refine HC.out.mono ?_
  rintro e w1 ⟨rfl, hb1, hg1, hs1⟩
  have HG1 := Lib.hid hg1; have HB1 := Lib.hid hb1; have HS1 := Lib.hid hs1
  obtain ⟨c0, c1, f0, f1⟩ := cells2 hb1
  have hbl := H.out.lt
  clear hb1 hg1 hs1
  go_wp2_with (at_builtin; refine wpList_append_str_at _ rfl _ _ 50 9 rfl B 5 i0 Tryz.underlying50 Tryz.underlying9 HI.out hz0 hz1 hz2 _ bs.length bs rfl (H.out.row1 HG1.out) s rfl hlen (by have := HS1.out; omega) ?_)
  intro v' w2 hown hgrow hat
  have hs1 := HS1.out
  obtain ⟨g, cap, rfl⟩ : ∃ g cap, v' = .slice (some ⟨g, 0, none⟩) (bs.length + s.size) cap := by
    rcases hown.2 with ⟨_, h0⟩ | ⟨g, cap, cur, hv, _⟩
    · omega
    · exact ⟨g, cap, hv⟩
  have hb2 : w2.heap[b]? = some (.cells #[.pointer (some ⟨b, 0, none⟩), v] T (0, 0)) := (hgrow.block b (by omega) (fun e => H.out.ne e.symm)).trans HB1.out
  clear c0 c1 f0 f1
  obtain ⟨d0, d1, f0, f1⟩ := cells2 hb2
  have hp := H.out.put HB1.out HG1.out hB hown (by rw [List.length_append, Lib.strCells_length]) (by omega) hgrow (by
    rcases hat with e | e
    · exact .inl e
    · right; intro g' hg'; rw [e] at hg'; injection hg' with hg'; rw [← hg']; exact Nat.le_refl _)
  have HP := Lib.hid hp
  have hg2 := hgrow.size
  clear hp
  go_wp2_with fail
  go_ret2
  exact ⟨rfl, _, HP.out⟩
set_option maxHeartbeats 2000000 in
set_option maxRecDepth 100000 in
/-- String, of a builder that holds some byte. -/
theorem stringT (T : TypeId) (w : World) (B b : Nat) (v : Value) (l : List UInt8) (h : BuT T w B b v (Lib.byteCells l)) (h0 : l ≠ []) :
    Calls Tryz.prog 40 #[.pointer (some ⟨b, 0, none⟩)] w fun e w' => e = .returned (.string ⟨l.toArray⟩) ∧ Below B w w' := by
  obtain ⟨p, _, hbk⟩ := h.blk
  have hown := h.row
  have hl0 : l.length ≠ 0 := by simpa using h0
  rw [Lib.byteCells_length] at hown
  obtain ⟨g, cap, cur, rfl, hbg, hg, hnc, hcm, hcs, htake⟩ : ∃ g cap cur, v = .slice (some ⟨g, 0, none⟩) l.length cap ∧ B ≤ g ∧ w.heap[g]? = some (.cells cur 5 (0, 0)) ∧ l.length ≤ cap ∧ cap ≤ maxLen ∧ cur.size = cap * 1 ∧ cur.toList.take (l.length * 1) = Lib.byteCells l := by
    rcases hown.2 with ⟨_, hz⟩ | ⟨g, cap, cur, hv, r⟩
    · exact absurd hz hl0
    · exact ⟨g, cap, cur, hv, r⟩
  have c1 : w.drew.cell? ⟨b, 1, none⟩ = some (.slice (some ⟨g, 0, none⟩) l.length cap) := (cells2 (w := w.drew) hbk).2.1
  have hSD := fun (t u : TypeId) => Lib.run_unsafeSliceData_row (P := Tryz.prog) w.drew #[t] u ⟨g, 0, none⟩ l.length cap (by omega)
  have hUS : (Builtin.unsafeString_ #[77, 3] 9 #[.pointer (some ⟨g, 0, none⟩), .int .i64 l.length]).run Tryz.prog w.drew = .ok (.string ⟨l.toArray⟩) (w.drew.freeze ⟨g, 0, none⟩ l.length) := by
    refine Lib.run_unsafeString_row w.drew 77 3 9 5 Tryz.underlying77 Tryz.Builder_Extra_159.cellsByte g cur.size (by have hg' : w.drew.heap[g]? = some (.cells cur 5 (0, 0)) := hg; simp [World.shape?, hg']) l h0 (by omega) (by unfold maxLen at hcm; omega) ?_
    intro j x hx
    have := hown.cells (g := g) rfl j (.int .u8 x.toNat) (by simp [Lib.byteCells, hx])
    exact this
  clear h htake
  go_enter Tryz.func40, Tryz.ntmps40
  go_wp2_with fail
  go_region
  all_goals (go_wp2_with fail; go_ret; exact ⟨rfl, Lib.below_freeze (Below.drew (Below.refl B w)) (p := ⟨g, 0, none⟩) hbg _⟩)
end Go.Proofs.YtkebohhogpenkaaGreatDoor

/- Plain Lean: a node's text in the brace syntax; two trees told alike there are the same. -/
namespace Go.Proofs.YtkebohhogpenkaaGreatDoor
open Ev5
set_option linter.unusedSimpArgs false
set_option linter.unusedVariables false

/-- What a kind tells in the brace syntax. -/
def brF (k : Int) (t v : ByteArray) (l : List (List UInt8)) : List UInt8 :=
  if k = 1 then [110, 117, 108, 108]
  else if k = 4 then qt t
  else if k = 5 then 91 :: (Lib.join l [44] ++ [93])
  else if k = 7 then 123 :: (Lib.join l [44] ++ [125])
  else if k = 8 then qt t ++ 58 :: l.headD []
  else t.data.toList
/-- The document's. -/
def rbrF (k : Int) (t v : ByteArray) (l : List (List UInt8)) : List UInt8 :=
  if k = 1 then [110, 117, 108, 108]
  else if k = 4 then qt t
  else if k = 5 then 91 :: (Lib.join l [44] ++ [93])
  else if k = 7 then 123 :: (Lib.join l [44] ++ [125])
  else if k = 8 then qt t ++ 58 :: Lib.join l [44]
  else t.data.toList
theorem textF_br : TextF brF := by
  intro k t v l ht hv
  have h1 := qt_len t
  have h3 := join_lenS [44] (by decide) l
  have h5 := headD_lenS l
  have h6 : t.data.toList.length = t.size := Array.length_toList
  unfold brF
  repeat' split
  all_goals (try simp only [List.length_cons, List.length_append, List.length_nil])
  all_goals omega
theorem textF_rbr : TextF rbrF := by
  intro k t v l ht hv
  have h1 := qt_len t
  have h3 := join_lenS [44] (by decide) l
  have h6 : t.data.toList.length = t.size := Array.length_toList
  unfold rbrF
  repeat' split
  all_goals (try simp only [List.length_cons, List.length_append, List.length_nil])
  all_goals omega
/-- Both texts are alike, of a tree that has a walk. -/
theorem rbr_br (n : Nd) : Tf RP n → n.txt rbrF = n.txt brF := by
  refine Nd.ind (C := fun n => Tf RP n → n.txt rbrF = n.txt brF) ?_ n
  intro k t v ks ih h
  cases h with
  | mk _ _ _ _ hr ho hk ht =>
    have hl : Nd.txts rbrF ks = Nd.txts brF ks := by
      rw [txts_map, txts_map]; exact List.map_congr_left fun x hx => ih x hx (ht x hx)
    rw [txt_mk, txt_mk, hl]
    unfold rbrF brF
    by_cases h8 : k = 8
    · subst h8
      rcases odd_kind ho with ⟨h, _⟩ | ⟨_, hn⟩ | h
      · omega
      · match ks, hn with
        | [x], _ => rw [txts_cons, txts_nil, Lib.join_one]; rfl
      · omega
    · rw [if_neg h8, if_neg h8]
/-- A tree that has a walk, with no Elem in it. -/
structure Tb (n : Nd) : Prop where
  tf : Tf RP n
  el : n.elems = false
  k11 : n.k ≠ 11
theorem Tb.k10 {n : Nd} (h : Tb n) : n.k ≠ 10 := by
  have h1 := h.el
  rw [elems_any, Bool.or_eq_false_iff] at h1
  exact of_decide_eq_false h1.1
theorem Tb.kid {n x : Nd} (h : Tb n) (hx : x ∈ n.kids) : Tb x := by
  have h10 := h.k10
  have h1 := h.el
  rw [elems_any, Bool.or_eq_false_iff, List.any_eq_false] at h1
  obtain ⟨k, t, v, ks⟩ := n
  cases h.tf with
  | mk _ _ _ _ hr ho hk ht =>
    refine ⟨ht x hx, by simpa using h1.2 x hx, ?_⟩
    have h2 := hk x hx
    simp only [Nd.k] at h10
    unfold Kin valK at h2
    omega
/-! Numbers: bytes up to what ends them. -/
theorem num_injG {T : UInt8 → Prop} (hT : ∀ b, numB b → ¬ T b) : ∀ (l m r s : List UInt8), (∀ b ∈ l, numB b) → (∀ b ∈ m, numB b) → (r = [] ∨ ∃ c r', r = c :: r' ∧ T c) → (s = [] ∨ ∃ c r', s = c :: r' ∧ T c) → l ++ r = m ++ s → l = m ∧ r = s
  | [], [], r, s, _, _, _, _, h => ⟨rfl, h⟩
  | [], d :: m, r, s, _, hm, hr, _, h => by
    have hd := hT d (hm d (by simp))
    rcases hr with rfl | ⟨c, r', rfl, hc⟩
    · cases h
    · injection h with h1 _
      subst h1
      exact absurd hc hd
  | c :: l, [], r, s, hl, _, _, hs, h => by
    have hd := hT c (hl c (by simp))
    rcases hs with rfl | ⟨d, s', rfl, hc⟩
    · cases h
    · injection h with h1 _
      subst h1
      exact absurd hc hd
  | c :: l, d :: m, r, s, hl, hm, hr, hs, h => by
    injection h with h1 h2
    obtain ⟨e1, e2⟩ := num_injG hT l m r s (fun b hb => hl b (by simp [hb])) (fun b hb => hm b (by simp [hb])) hr hs h2
    exact ⟨by rw [h1, e1], e2⟩
def endJ (c : UInt8) : Prop := c = 44 ∨ c = 93 ∨ c = 125
def TermJ (r : List UInt8) : Prop := r = [] ∨ ∃ c r', r = c :: r' ∧ endJ c
theorem numJ {b : UInt8} (h : numB b) : ¬ endJ b := by
  rintro (rfl | rfl | rfl) <;> (revert h; unfold numB; decide)
/-- What begins so. -/
def tagJ : List UInt8 → Int
  | 110 :: _ => 1
  | 116 :: _ => 2
  | 102 :: _ => 2
  | 34 :: _ => 4
  | 91 :: _ => 5
  | 123 :: _ => 7
  | _ => 3
theorem tagJ_num {x : UInt8} {r : List UInt8} (h : x.toNat = 45 ∨ Num2.dig x = true) : tagJ (x :: r) = 3 := by
  have hx : x ≠ 110 ∧ x ≠ 116 ∧ x ≠ 102 ∧ x ≠ 34 ∧ x ≠ 91 ∧ x ≠ 123 := by
    refine ⟨?_, ?_, ?_, ?_, ?_, ?_⟩ <;> (rintro rfl; revert h; decide)
  unfold tagJ
  split
  all_goals first | rfl | (rename_i heq; injection heq with e _; simp_all)
theorem tag_br {k : Int} {t v : ByteArray} {ks : List Nd} (h : Tf RP (.mk k t v ks)) (h10 : k ≠ 10) (h11 : k ≠ 11) (r : List UInt8) : tagJ ((Nd.mk k t v ks).txt brF ++ r) = if k = 8 then 4 else k := by
  cases h with
  | mk _ _ _ _ hr ho hk ht =>
    rw [txt_mk]
    unfold brF
    rcases odd_kind ho with ⟨h1, hn⟩ | ⟨h1, hn⟩ | h1
    · rcases h1 with rfl | rfl | rfl | rfl | rfl
      · rfl
      · obtain ⟨_, h2⟩ := right_bool hr
        simp only [show ¬ ((2 : Int) = 1) by omega, show ¬ ((2 : Int) = 4) by omega, show ¬ ((2 : Int) = 5) by omega, show ¬ ((2 : Int) = 7) by omega, show ¬ ((2 : Int) = 8) by omega, if_false]
        rcases h2 with h2 | h2 <;> rw [h2] <;> rfl
      · obtain ⟨_, h2⟩ := right_num hr
        obtain ⟨x, l, e, hx⟩ := num_head h2
        simp only [show ¬ ((3 : Int) = 1) by omega, show ¬ ((3 : Int) = 4) by omega, show ¬ ((3 : Int) = 5) by omega, show ¬ ((3 : Int) = 7) by omega, show ¬ ((3 : Int) = 8) by omega, if_false]
        rw [e]
        exact tagJ_num hx
      · rw [if_neg (by omega), if_pos rfl, (right_text hr (.inl rfl)).2]
        rfl
      · exact absurd rfl h11
    · subst h1
      rw [if_neg (by omega), if_neg (by omega), if_neg (by omega), if_neg (by omega), if_pos rfl, (right_text hr (.inr rfl)).2]
      rfl
    · rcases h1 with rfl | rfl | rfl
      · rfl
      · rfl
      · exact absurd rfl h10
theorem br_head {n : Nd} (h : Tb n) : ∃ x l, n.txt brF = x :: l ∧ ¬ endJ x := by
  have h10 := h.k10
  have h11 := h.k11
  obtain ⟨k, t, v, ks⟩ := n
  simp only [Nd.k] at h10 h11
  cases h.tf with
  | mk _ _ _ _ hr ho hk ht =>
    rw [txt_mk]
    unfold brF
    rcases odd_kind ho with ⟨h1, hn⟩ | ⟨h1, hn⟩ | h1
    · rcases h1 with rfl | rfl | rfl | rfl | rfl
      · exact ⟨_, _, rfl, by unfold endJ; decide⟩
      · obtain ⟨_, h2⟩ := right_bool hr
        simp only [show ¬ ((2 : Int) = 1) by omega, show ¬ ((2 : Int) = 4) by omega, show ¬ ((2 : Int) = 5) by omega, show ¬ ((2 : Int) = 7) by omega, show ¬ ((2 : Int) = 8) by omega, if_false]
        rcases h2 with h2 | h2 <;> rw [h2] <;> exact ⟨_, _, rfl, by unfold endJ; decide⟩
      · obtain ⟨_, h2⟩ := right_num hr
        obtain ⟨x, l, e, hx⟩ := num_head h2
        exact ⟨x, l, e, numJ (num_cls _ 0 h2 x (by rw [e]; simp))⟩
      · rw [if_neg (by omega), if_pos rfl, (right_text hr (.inl rfl)).2]
        exact ⟨_, _, rfl, by unfold endJ; decide⟩
      · exact absurd rfl h11
    · subst h1
      rw [if_neg (by omega), if_neg (by omega), if_neg (by omega), if_neg (by omega), if_pos rfl, (right_text hr (.inr rfl)).2]
      exact ⟨_, _, rfl, by unfold endJ; decide⟩
    · rcases h1 with rfl | rfl | rfl
      · exact ⟨_, _, rfl, by unfold endJ; decide⟩
      · exact ⟨_, _, rfl, by unfold endJ; decide⟩
      · exact absurd rfl h10
theorem tailJ_cons (x : List UInt8) (r : List (List UInt8)) : Lib.joinTail [44] (x :: r) = 44 :: (x ++ Lib.joinTail [44] r) := by simp [Lib.joinTail]
theorem tailJ_nil : Lib.joinTail [44] [] = [] := by simp [Lib.joinTail]
/-- What is shown of a node: its text begins no other's. -/
def BrInj (n : Nd) : Prop := Tb n → ∀ m, Tb m → (n.k = 8 ↔ m.k = 8) → ∀ r s, TermJ r → TermJ s → n.txt brF ++ r = m.txt brF ++ s → n = m ∧ r = s
theorem termJ_tail (l : List (List UInt8)) {c : UInt8} (hc : endJ c) (r : List UInt8) : TermJ (Lib.joinTail [44] l ++ c :: r) := by
  cases l with
  | nil => rw [tailJ_nil]; exact .inr ⟨c, r, rfl, hc⟩
  | cons x l => rw [tailJ_cons]; exact .inr ⟨44, _, rfl, .inl rfl⟩
theorem brTail_inj {c : UInt8} (hc : endJ c) (hc2 : c ≠ 44) : ∀ (ks : List Nd), (∀ x ∈ ks, BrInj x) → (∀ x ∈ ks, Tb x) → ∀ (ms : List Nd), (∀ x ∈ ms, Tb x) → (∀ x ∈ ks, ∀ y ∈ ms, (x.k = 8 ↔ y.k = 8)) → ∀ r s, Lib.joinTail [44] (Nd.txts brF ks) ++ c :: r = Lib.joinTail [44] (Nd.txts brF ms) ++ c :: s → ks = ms ∧ r = s
  | [], _, _, [], _, _, r, s, h => by
    rw [txts_nil, tailJ_nil] at h
    injection h with _ h
    exact ⟨rfl, h⟩
  | [], _, _, y :: ms, _, _, r, s, h => by
    rw [txts_nil, txts_cons, tailJ_nil, tailJ_cons] at h
    injection h with h _
    exact absurd h hc2
  | x :: ks, _, _, [], _, _, r, s, h => by
    rw [txts_nil, txts_cons, tailJ_nil, tailJ_cons] at h
    injection h with h _
    exact absurd h.symm hc2
  | x :: ks, hC, hT, y :: ms, hM, hK, r, s, h => by
    rw [txts_cons, txts_cons, tailJ_cons, tailJ_cons] at h
    simp only [List.cons_append, List.append_assoc] at h
    injection h with _ h
    obtain ⟨e1, e2⟩ := hC x (by simp) (hT x (by simp)) y (hM y (by simp)) (hK x (by simp) y (by simp)) _ _ (termJ_tail _ hc _) (termJ_tail _ hc _) h
    obtain ⟨e3, e4⟩ := brTail_inj hc hc2 ks (fun z hz => hC z (by simp [hz])) (fun z hz => hT z (by simp [hz])) ms (fun z hz => hM z (by simp [hz])) (fun z hz u hu => hK z (by simp [hz]) u (by simp [hu])) r s e2
    exact ⟨by rw [e1, e3], e4⟩
theorem brs_inj {c : UInt8} (hc : endJ c) (hc2 : c ≠ 44) (ks : List Nd) (hC : ∀ x ∈ ks, BrInj x) (hT : ∀ x ∈ ks, Tb x) (ms : List Nd) (hM : ∀ x ∈ ms, Tb x) (hK : ∀ x ∈ ks, ∀ y ∈ ms, (x.k = 8 ↔ y.k = 8)) (r s : List UInt8)
    (h : Lib.join (Nd.txts brF ks) [44] ++ c :: r = Lib.join (Nd.txts brF ms) [44] ++ c :: s) : ks = ms ∧ r = s := by
  cases ks with
  | nil =>
    cases ms with
    | nil =>
      rw [txts_nil, Lib.join_nil] at h
      injection h with _ h
      exact ⟨rfl, h⟩
    | cons y ms =>
      exfalso
      rw [txts_nil, txts_cons, Lib.join_cons, Lib.join_nil] at h
      obtain ⟨x, l, e, hx⟩ := br_head (hM y (by simp))
      rw [e] at h
      injection h with h _
      exact hx (h ▸ hc)
  | cons x ks =>
    cases ms with
    | nil =>
      exfalso
      rw [txts_nil, txts_cons, Lib.join_cons, Lib.join_nil] at h
      obtain ⟨z, l, e, hx⟩ := br_head (hT x (by simp))
      rw [e] at h
      injection h with h _
      exact hx (h ▸ hc)
    | cons y ms =>
      rw [txts_cons, txts_cons, Lib.join_cons, Lib.join_cons, List.append_assoc, List.append_assoc] at h
      obtain ⟨e1, e2⟩ := hC x (by simp) (hT x (by simp)) y (hM y (by simp)) (hK x (by simp) y (by simp)) _ _ (termJ_tail _ hc _) (termJ_tail _ hc _) h
      obtain ⟨e3, e4⟩ := brTail_inj hc hc2 ks (fun z hz => hC z (by simp [hz])) (fun z hz => hT z (by simp [hz])) ms (fun z hz => hM z (by simp [hz])) (fun z hz u hu => hK z (by simp [hz]) u (by simp [hu])) r s e2
      exact ⟨by rw [e1, e3], e4⟩
theorem br_inj (n : Nd) : BrInj n := by
  refine Nd.ind (C := BrInj) ?_ n
  intro k t v ks ih hbn m hbm hkey r s hr hs h
  obtain ⟨k', t', v', ks'⟩ := m
  have h10 := hbn.k10; have h11 := hbn.k11
  have htag := congrArg tagJ h
  rw [tag_br hbn.tf hbn.k10 hbn.k11, tag_br hbm.tf hbm.k10 hbm.k11] at htag
  have hkk : k = k' := by
    simp only [Nd.k] at hkey
    by_cases h8 : k = 8
    · rw [h8, hkey.1 h8]
    · have h8' : k' ≠ 8 := fun e => h8 (hkey.2 e)
      rw [if_neg h8, if_neg h8'] at htag
      exact htag
  subst hkk
  have nT : ∀ x ∈ ks, Tb x := fun x hx => hbn.kid hx
  have mT : ∀ x ∈ ks', Tb x := fun x hx => hbm.kid hx
  have hn := hbn.tf; have hm := hbm.tf
  simp only [Nd.k] at h10 h11
  clear htag hkey hbn hbm
  cases hn with
  | mk _ _ _ _ nr no nk nt =>
    cases hm with
    | mk _ _ _ _ mr mo mk' mt =>
      have hK : ∀ x ∈ ks, ∀ y ∈ ks', (x.k = 8 ↔ y.k = 8) := fun x hx y hy => (kin_key (nk x hx)).trans (kin_key (mk' y hy)).symm
      rw [txt_mk, txt_mk] at h
      unfold brF at h
      rcases odd_kind no with ⟨h1, hl⟩ | ⟨h1, hl⟩ | h1
      · obtain rfl := List.eq_nil_of_length_eq_zero hl
        have hl' : ks'.length = 0 := by
          rcases odd_kind mo with ⟨_, e⟩ | ⟨e, _⟩ | e
          · exact e
          · omega
          · omega
        obtain rfl := List.eq_nil_of_length_eq_zero hl'
        rcases h1 with rfl | rfl | rfl | rfl | rfl
        · obtain ⟨rfl, rfl⟩ := right_plain nr (.inl rfl)
          obtain ⟨rfl, rfl⟩ := right_plain mr (.inl rfl)
          rw [if_pos rfl] at h
          exact ⟨rfl, List.append_cancel_left h⟩
        · obtain ⟨rfl, n2⟩ := right_bool nr
          obtain ⟨rfl, m2⟩ := right_bool mr
          simp only [show ¬ ((2 : Int) = 1) by omega, show ¬ ((2 : Int) = 4) by omega, show ¬ ((2 : Int) = 5) by omega, show ¬ ((2 : Int) = 7) by omega, show ¬ ((2 : Int) = 8) by omega, if_false] at h
          rcases n2 with n2 | n2 <;> rcases m2 with m2 | m2 <;> rw [n2, m2] at h
          · exact ⟨by rw [ba_ext (n2.trans m2.symm)], List.append_cancel_left h⟩
          · injection h with h _; exact absurd h (by decide)
          · injection h with h _; exact absurd h (by decide)
          · exact ⟨by rw [ba_ext (n2.trans m2.symm)], List.append_cancel_left h⟩
        · obtain ⟨rfl, n2⟩ := right_num nr
          obtain ⟨rfl, m2⟩ := right_num mr
          simp only [show ¬ ((3 : Int) = 1) by omega, show ¬ ((3 : Int) = 4) by omega, show ¬ ((3 : Int) = 5) by omega, show ¬ ((3 : Int) = 7) by omega, show ¬ ((3 : Int) = 8) by omega, if_false] at h
          obtain ⟨e1, e2⟩ := num_injG (fun b hb => numJ hb) _ _ r s (num_cls _ 0 n2) (num_cls _ 0 m2) hr hs h
          exact ⟨by rw [ba_ext e1], e2⟩
        · obtain ⟨rfl, n2⟩ := right_text nr (.inl rfl)
          obtain ⟨rfl, m2⟩ := right_text mr (.inl rfl)
          rw [if_neg (by omega), if_pos rfl, if_neg (by omega), if_pos rfl, n2, m2] at h
          obtain ⟨e1, e2⟩ := quote_inj h
          exact ⟨by rw [ba_ext e1], e2⟩
        · exact absurd rfl h11
      · subst h1
        have hl' : ks'.length = 1 := by
          rcases odd_kind mo with ⟨e, _⟩ | ⟨_, e⟩ | e
          · omega
          · exact e
          · omega
        match ks, ks', hl, hl' with
        | [x], [y], _, _ =>
          obtain ⟨rfl, n2⟩ := right_text nr (.inr rfl)
          obtain ⟨rfl, m2⟩ := right_text mr (.inr rfl)
          simp only [show ¬ ((8 : Int) = 1) by omega, show ¬ ((8 : Int) = 4) by omega, show ¬ ((8 : Int) = 5) by omega, show ¬ ((8 : Int) = 7) by omega, if_false, if_true, txts_cons, List.headD_cons, List.cons_append, List.append_assoc] at h
          rw [n2, m2] at h
          obtain ⟨e1, e2⟩ := quote_inj h
          injection e2 with _ e2
          obtain ⟨e3, e4⟩ := ih x (by simp) (nT x (by simp)) y (mT y (by simp)) (hK x (by simp) y (by simp)) r s hr hs e2
          exact ⟨by rw [ba_ext e1, e3], e4⟩
      · rcases h1 with rfl | rfl | rfl
        · obtain ⟨rfl, rfl⟩ := right_plain nr (.inr (.inl rfl))
          obtain ⟨rfl, rfl⟩ := right_plain mr (.inr (.inl rfl))
          simp only [show ¬ ((5 : Int) = 1) by omega, show ¬ ((5 : Int) = 4) by omega, if_false, if_true, List.cons_append, List.append_assoc, List.nil_append] at h
          injection h with _ h
          obtain ⟨e1, e2⟩ := brs_inj (.inr (.inl rfl)) (by decide) ks ih nT ks' mT hK r s h
          exact ⟨by rw [e1], e2⟩
        · obtain ⟨rfl, rfl⟩ := right_plain nr (.inr (.inr rfl))
          obtain ⟨rfl, rfl⟩ := right_plain mr (.inr (.inr rfl))
          simp only [show ¬ ((7 : Int) = 1) by omega, show ¬ ((7 : Int) = 4) by omega, show ¬ ((7 : Int) = 5) by omega, if_false, if_true, List.cons_append, List.append_assoc, List.nil_append] at h
          injection h with _ h
          obtain ⟨e1, e2⟩ := brs_inj (.inr (.inr rfl)) (by decide) ks ih nT ks' mT hK r s h
          exact ⟨by rw [e1], e2⟩
        · exact absurd rfl h10
theorem tb_of {n : Nd} (h : (ofP tpB n).2 = 0) : n.wh = 0 ∧ Tb n ∧ n.k ≠ 8 := by
  rw [ofB_err] at h
  by_cases hw : n.wh = 0
  · rw [if_neg (by rw [hw]; simp)] at h
    have he : n.elems = false := by
      cases he : n.elems with
      | false => rfl
      | true => rw [he] at h; simp at h
    obtain ⟨h1, h2⟩ := tf_wh hw
    refine ⟨hw, ⟨h1, he, ?_⟩, ?_⟩ <;> (unfold valK at h2; omega)
  · rw [if_pos hw] at h; exact absurd h hw
/-- Two trees that the brace syntax tells are printed alike just if they are the same. -/
theorem br_same {a b : Nd} (ha : (ofP tpB a).2 = 0) (hb : (ofP tpB b).2 = 0) : a.txt brF = b.txt brF ↔ a = b := by
  refine ⟨fun h => ?_, fun h => by rw [h]⟩
  obtain ⟨_, h1, h2⟩ := tb_of ha
  obtain ⟨_, h3, h4⟩ := tb_of hb
  exact (br_inj a h1 b h3 ⟨fun e => absurd e h2, fun e => absurd e h4⟩ [] [] (.inl rfl) (.inl rfl) (by rw [h])).1
end Go.Proofs.YtkebohhogpenkaaGreatDoor

/- The walk of inkbrace's printer. -/
namespace Go.Proofs.YtkebohhogpenkaaGreatDoor
open Go.RowKit Ev5
set_option linter.unusedSimpArgs false
set_option linter.unusedVariables false

theorem liesPr : liesAt Tryz.prog Tryz.prog.depth 54 (2 / Tryz.prog.cellsOf 54) 0 52 1 = true := by kernel_rfl
set_option maxRecDepth 100000 in
set_option maxHeartbeats 2000000 in
theorem brQuoted_any (s : ByteArray) (w : World) (B b : Nat) (v : Value) (bs : List Value) (hE : EnvU w) (hbu : BuT 54 w B b v bs) (hs : s.size ≤ 1048576) (hq : 0 < (qt s).length) (hlen : bs.length + 1000 ≤ 100000000000000) (hB : B ≤ w.heap.size) :
    Calls Tryz.prog 60 #[.pointer (some ⟨b, 0, none⟩), .string s] w fun e w' => (∃ r, e = .returned r) ∧ ∃ v', BuTPost 54 B b v (bs ++ Lib.byteCells (qt s)) w w' v' := by
  have HE := Lib.hid hE; have HU := Lib.hid hbu
  have hql := qt_len s
  have HQC := Lib.hid (show Lib.strCells (printQ s).1 = Lib.byteCells (qt s) from rfl)
  have HQ := Lib.hid (quotePrint_any s w hE hs)
  have hqs : (printQ s).1.size = (qt s).length := rfl
  obtain ⟨Q, hQ⟩ : ∃ Q, (printQ s).1 = Q := ⟨_, rfl⟩
  rw [hQ] at HQC HQ hqs
  clear hE hbu hQ
  go_enter Tryz.func60, Tryz.ntmps60
  go_wp2_with fail
  refine HQ.out.mono ?_
  rintro e w1 ⟨rfl, hb⟩
  have HB := Lib.hid hb
  clear hb
  go_wp2_with fail
  refine (writeStringT _ liesPr w1 B b v bs Q (HU.out.below HB.out) (by omega) (by omega) (Nat.le_trans hB HB.out.size)).mono ?_
  rintro e w2 ⟨rfl, v', hp⟩
  have HP := Lib.hid (BuTPost.pre HB.out hp)
  rw [HQC.out] at HP
  clear hp
  go_wp2_with fail
  go_end0
  exact ⟨⟨_, rfl⟩, _, HP.out⟩
theorem lenS_tailJ : ∀ l : List (List UInt8), lenS l = (Lib.joinTail [44] l).length + l.length
  | [] => by rw [tailJ_nil]; rfl
  | x :: r => by rw [tailJ_cons]; simp only [lenS, List.length_cons, List.length_append]; have := lenS_tailJ r; omega
theorem lenS_joinJ (l : List (List UInt8)) : lenS l ≤ (Lib.join l [44]).length + l.length + 1 := by
  cases l with
  | nil => simp [lenS]
  | cons x r => rw [Lib.join_cons, List.length_append, List.length_cons]; simp only [lenS]; have := lenS_tailJ r; omega
theorem lenS_take : ∀ (l : List (List UInt8)) (i : Nat), lenS (l.take i) ≤ lenS l
  | [], i => by rw [List.take_nil]; exact Nat.le_refl _
  | x :: r, 0 => by rw [List.take_zero]; simp [lenS]
  | x :: r, i + 1 => by rw [List.take_succ_cons]; simp only [lenS]; have := lenS_take r i; omega
/-- What value is shown to do at a node. -/
def BrAt (x : Nd) : Prop := ∀ (W : World) (B b : Nat) (v : Value) (bs : List Value) (S : Nat → Prop) (u : Value), (∀ W', Below B W W' → EnvU W') → BuT 54 W B b v bs → NdV W S (ndV x u) x → (∀ g, S g → g < B) → B ≤ W.heap.size → bs.length + (x.txt brF).length + 200000 * x.size ≤ 100000000000000 →
    Calls Tryz.prog 39 #[.pointer (some ⟨b, 0, none⟩), ndV x u] W fun e w' => (∃ r, e = .returned r) ∧ ∃ v', BuTPost 54 B b v (bs ++ Lib.byteCells (x.txt brF)) W w' v'
set_option maxRecDepth 100000 in
set_option maxHeartbeats 8000000 in
theorem brParts_any (ks : List Nd) (hcall : ∀ x ∈ ks, BrAt x) (b0 e0 : ByteArray) (hb0 : 0 < b0.size) (hb1 : b0.size ≤ 10) (he0 : 0 < e0.size) (he1 : e0.size ≤ 10) (w : World) (B b : Nat) (v : Value) (bs : List Value) (S : Nat → Prop) (u : Value) (hE : ∀ W', Below B w W' → EnvU W') (hbu : BuT 54 w B b v bs) (hs : SlIn w S u ks) (hSB : ∀ g, S g → g < B) (hB : B ≤ w.heap.size)
    (hk : ks.length ≤ 100000) (hlen : bs.length + lenS (Nd.txts brF ks) + 200000 * Nd.sizes ks + 2000 ≤ 100000000000000) :
    Calls Tryz.prog 61 #[.pointer (some ⟨b, 0, none⟩), .string b0, u, .string e0] w fun e w' => (∃ r, e = .returned r) ∧ ∃ v', BuTPost 54 B b v (bs ++ Lib.byteCells (b0.data.toList ++ (Lib.join (Nd.txts brF ks) [44] ++ e0.data.toList))) w w' v' := by
  obtain ⟨ao, cap, rfl, hcap, hcm⟩ := hs.shape
  have HE := Lib.hid hE; have HS := Lib.hid hs; have HSB := Lib.hid hSB; have HBB := Lib.hid hB; have HCA := Lib.hid hcall; have HU := Lib.hid hbu; have HLEN := Lib.hid hlen
  have HTL := Lib.hid (show (Nd.txts brF ks).length = ks.length from txts_len _ _)
  clear hE hs hSB hB hcall hbu hlen
  go_enter Tryz.func61, Tryz.ntmps61
  go_wp2_with fail
  refine (writeStringT _ liesPr w B b v bs b0 HU.out (by have := HLEN.out; omega) hb0 HBB.out).mono ?_
  rintro e w1 ⟨rfl, v1, hp⟩
  have HP1 := Lib.hid (show BuTPost 54 B b v (bs ++ Lib.byteCells (b0.data.toList ++ Lib.join ((Nd.txts brF ks).take 0) [44])) w w1 v1 by rw [List.take_zero, Lib.join_nil, List.append_nil]; exact hp)
  have HJL := Lib.hid (fun i : Nat => show (Lib.join ((Nd.txts brF ks).take i) [44]).length ≤ lenS (Nd.txts brF ks) from Nat.le_trans (join_lenS [44] (by decide) _) (lenS_take _ i))
  have HBL := Lib.hid (show b0.data.toList.length ≤ 10 from hb1)
  clear hp
  go_wp2_with fail
  go_loopw [17] (fun v17 wr => ∃ (i : Nat) (vi : Value), i ≤ ks.length ∧ v17 = .int .i64 i ∧ Hid (BuTPost 54 B b v (bs ++ Lib.byteCells (b0.data.toList ++ Lib.join ((Nd.txts brF ks).take i) [44])) w wr vi)) (fun v17 _ => ks.length - (intOf v17).toNat)
  case atStart => exact ⟨0, v1, Nat.zero_le _, rfl, HP1⟩
  case round =>
    obtain ⟨i, vi, hi, rfl, HP⟩ := hrel
    have hbw := HP.out.low HU.out HBB.out
    have hlo := HP.out.size
    have HLJ := Lib.hid (HJL.out i)
    by_cases hlt : i < ks.length
    · have hi0 : (0 : Int) ≤ (i : Int) := Int.natCast_nonneg _
      have hi1 : (i : Int) < (ks.length : Int) := by omega
      obtain ⟨kb, ko, kx, hko, hkw, k0, k1, k2, k3, hkx⟩ := HS.out.at_ i hlt
      have hkB : kb < B := by
        obtain ⟨a2, c2, e2, _, _, hor⟩ := HS.out
        rcases hor with h0 | ⟨b', o', e', hsb, _, _⟩
        · rw [h0] at hlt; simp at hlt
        · injection e2 with e2 _ _
          rw [e2, e'] at hko
          injection hko with hko
          injection hko with hko _ _
          rw [← hko]; exact HSB.out _ hsb
      obtain ⟨ay, cy, rfl, _, _⟩ := hkx.shape
      subst hko
      have hmem := List.getElem_mem hlt
      have hih := HCA.out ks[i] hmem
      have hysz := size_mem hmem
      have htk : (Nd.txts brF ks).take (i + 1) = (Nd.txts brF ks).take i ++ [ks[i].txt brF] := by
        rw [List.take_add_one, List.getElem?_eq_getElem (by rw [HTL.out]; exact hlt)]
        congr 1
        show [(Nd.txts brF ks)[i]'(by rw [HTL.out]; exact hlt)] = _
        simp [txts_map]
      have HLK := Lib.hid (HJL.out (i + 1))
      obtain ⟨y, hy⟩ : ∃ y, ks[i] = y := ⟨_, rfl⟩
      rw [hy] at k0 k1 k2 k3 hkx hih htk hysz
      rw [htk, join_snoc] at HLK
      have HH := Lib.hid hih; have HTK := Lib.hid htk
      have d0 : wr.cell? ⟨kb, ko + i * 4, none⟩ = some (.int .i64 y.k) := (hbw.cell (p := ⟨kb, ko + i * 4, none⟩) hkB).trans k0
      have d1 : wr.cell? ⟨kb, ko + i * 4 + 1, none⟩ = some (.string y.t) := (hbw.cell (p := ⟨kb, ko + i * 4 + 1, none⟩) hkB).trans k1
      have d2 : wr.cell? ⟨kb, ko + i * 4 + 2, none⟩ = some (.string y.v) := (hbw.cell (p := ⟨kb, ko + i * 4 + 2, none⟩) hkB).trans k2
      have d3 : wr.cell? ⟨kb, ko + i * 4 + 3, none⟩ = some (.slice ay y.kids.length cy) := (hbw.cell (p := ⟨kb, ko + i * 4 + 3, none⟩) hkB).trans k3
      have hkl : kb < wr.heap.size := Nat.lt_of_lt_of_le hkw hbw.size
      have HBX := Lib.hid (show B ≤ wr.heap.size from Nat.le_trans HBB.out hbw.size)
      have HB1 := Lib.hid (show Below wr.heap.size wr (wr.alloc (.cells #[.int .i64 y.k, .string y.t, .string y.v, .slice ay y.kids.length cy] 24)) from (Below.refl _ _).alloc (Nat.le_refl _) _)
      have HPA := Lib.hid (HP.out.post HB1.out)
      have HX1 := Lib.hid (heap_alloc_new wr (.cells #[.int .i64 y.k, .string y.t, .string y.v, .slice ay y.kids.length cy] 24))
      obtain ⟨W1, hW1⟩ : ∃ W1, wr.alloc (.cells #[.int .i64 y.k, .string y.t, .string y.v, .slice ay y.kids.length cy] 24) = W1 := ⟨_, rfl⟩
      have HKS := Lib.hid (fun (W : World) (hb : Below B w W) => show NdV W S (ndV y (.slice ay y.kids.length cy)) y from .mk (hkx.alike ⟨hb.size, fun b hb2 hl => hb.block b (HSB.out b hb2)⟩ fun b h _ => h))
      rw [hW1] at HB1 HPA HX1
      have HW1 := Lib.hid (show B ≤ W1.heap.size from Nat.le_trans HBX.out HB1.out.size)
      have hbl : (bs ++ Lib.byteCells (b0.data.toList ++ Lib.join ((Nd.txts brF ks).take i) [44])).length ≤ bs.length + 10 + (Lib.join ((Nd.txts brF ks).take i) [44]).length := by
        rw [List.length_append, Lib.byteCells_length, List.length_append]; have := HBL.out; omega
      clear k0 k1 k2 k3 hkx hih htk hy hmem hkw hbw
      by_cases h0 : i = 0
      · subst h0
        rw [Nat.zero_mul, Nat.add_zero] at d0 d1 d2 d3
        have HT0 := Lib.hid (show (Nd.txts brF ks).take 0 = [] from rfl)
        obtain ⟨z0, z1, z2, z3, _, _, _, _, hzl⟩ := nd_cells HX1.out
        go_wp2_with fail
        try rw [hW1]
        refine (HH.out W1 B b vi _ S (.slice ay y.kids.length cy) (fun W' hb => HE.out _ ((HPA.out.low HU.out HBB.out).trans hb)) HPA.out.bu (HKS.out _ (HPA.out.low HU.out HBB.out)) HSB.out HW1.out (by have := HLK.out; rw [if_pos HT0.out] at this; have := HLEN.out; have h7 : (Lib.join ((Nd.txts brF ks).take 0) [44]).length = 0 := by { rw [HT0.out]; rfl }; omega)).mono ?_
        rintro e w3 ⟨⟨rr, rfl⟩, v3, hp⟩
        have HPN := Lib.hid (show BuTPost 54 B b v (bs ++ Lib.byteCells (b0.data.toList ++ Lib.join ((Nd.txts brF ks).take (0 + 1)) [44])) w w3 v3 by
          rw [HTK.out, join_snoc, if_pos HT0.out]
          have h9 := HPA.out.trans hp
          rw [HT0.out, Lib.join_nil, List.append_nil, List.append_assoc, ← bc_app] at h9
          exact h9)
        clear hp d0 d1 d2 d3 z0 z1 z2 z3 hzl
        go_wp2_with fail
        go_roundw
        case rel => exact ⟨1, v3, by omega, by go_num, HPN⟩
        case measure => simp [intOf]; omega
      · have hi2 : (0 : Int) < (i : Int) := by omega
        have HN0 := Lib.hid (show ¬ (Nd.txts brF ks).take i = [] from fun e => h0 (by have h8 : ((Nd.txts brF ks).take i).length = i := (by rw [List.length_take, HTL.out]; omega); rw [e] at h8; exact h8.symm))
        go_wp2_with fail
        try rw [hW1]
        refine (writeByteT _ liesPr W1 B b vi _ 44 HPA.out.bu (by have := HLEN.out; have := HLJ.out; omega) HW1.out).mono ?_
        rintro e w2 ⟨rfl, v2, hp⟩
        have HP2 := Lib.hid (HPA.out.trans hp)
        have hx2 : w2.heap[wr.heap.size]? = some (.cells #[.int .i64 y.k, .string y.t, .string y.v, .slice ay y.kids.length cy] 24 (0, 0)) := by
          rw [hp.oth wr.heap.size (lt_blk HX1.out) (by have := HP.out.bu.lt; omega) (fun e => by have := (HP.out.bu.row.lt _ e).2; omega)]
          exact HX1.out
        obtain ⟨x0, x1, x2, x3, _, _, _, _, hxl⟩ := nd_cells hx2
        have HW2 := Lib.hid (show B ≤ w2.heap.size from Nat.le_trans HW1.out hp.size)
        clear hp d0 d1 d2 d3 hx2
        go_wp2_with fail
        refine (HH.out w2 B b v2 _ S (.slice ay y.kids.length cy) (fun W' hb => HE.out _ ((HP2.out.low HU.out HBB.out).trans hb)) HP2.out.bu (HKS.out _ (HP2.out.low HU.out HBB.out)) HSB.out HW2.out (by have := HLK.out; rw [if_neg HN0.out, List.length_append, List.length_append] at this; have := HLEN.out; rw [List.length_append, List.length_singleton]; omega)).mono ?_
        rintro e w3 ⟨⟨rr, rfl⟩, v3, hp⟩
        have HPN := Lib.hid (show BuTPost 54 B b v (bs ++ Lib.byteCells (b0.data.toList ++ Lib.join ((Nd.txts brF ks).take (i + 1)) [44])) w w3 v3 by
          rw [HTK.out, join_snoc, if_neg HN0.out]
          have h9 := HP2.out.trans hp
          rw [show bs ++ Lib.byteCells (b0.data.toList ++ (Lib.join ((Nd.txts brF ks).take i) [44] ++ [44] ++ y.txt brF)) = bs ++ Lib.byteCells (b0.data.toList ++ Lib.join ((Nd.txts brF ks).take i) [44]) ++ [Value.int .u8 44] ++ Lib.byteCells (y.txt brF) by
            simp only [bc_app, List.append_assoc]; rfl]
          exact h9)
        clear hp x0 x1 x2 x3 hxl
        go_wp2_with fail
        go_roundw
        case rel => exact ⟨i + 1, v3, by omega, by go_num, HPN⟩
        case measure => simp [intOf]; omega
    · obtain rfl : i = ks.length := by omega
      have hi1 : ¬ ((ks.length : Nat) : Int) < (ks.length : Int) := by omega
      have HTA := Lib.hid (show (Nd.txts brF ks).take ks.length = Nd.txts brF ks from List.take_of_length_le (by rw [HTL.out]; exact Nat.le_refl _))
      have HBX := Lib.hid (show B ≤ wr.heap.size from Nat.le_trans HBB.out hbw.size)
      have hbl : (bs ++ Lib.byteCells (b0.data.toList ++ Lib.join ((Nd.txts brF ks).take ks.length) [44])).length ≤ bs.length + 10 + (Lib.join ((Nd.txts brF ks).take ks.length) [44]).length := by
        rw [List.length_append, Lib.byteCells_length, List.length_append]; have := HBL.out; omega
      clear hbw
      go_wp2_with fail
      refine (writeStringT _ liesPr wr B b vi _ e0 HP.out.bu (by have := HLEN.out; have := HLJ.out; omega) he0 HBX.out).mono ?_
      rintro e w3 ⟨rfl, v3, hp⟩
      have HPN := Lib.hid (show BuTPost 54 B b v (bs ++ Lib.byteCells (b0.data.toList ++ (Lib.join (Nd.txts brF ks) [44] ++ e0.data.toList))) w w3 v3 by
        have h9 := HP.out.trans hp
        rw [HTA.out, sc_bc, List.append_assoc, ← bc_app, List.append_assoc] at h9
        exact h9)
      clear hp
      go_wp2_with fail
      go_end0
      exact ⟨⟨_, rfl⟩, _, HPN.out⟩
set_option maxRecDepth 100000 in
set_option maxHeartbeats 8000000 in
theorem brValue_any (n : Nd) : Tb n → n.ok → n.size ≤ 50000 → BrAt n := by
  refine Nd.ind (C := fun n => Tb n → n.ok → n.size ≤ 50000 → BrAt n) ?_ n
  intro k t v ks ih htb hok hsz w B b vb bs S u hE hbu hv hSB hB hlen
  have h10 := htb.k10; have h11 := htb.k11
  have HKT := Lib.hid (fun x (hx : x ∈ ks) => htb.kid (n := .mk k t v ks) hx)
  simp only [Nd.k] at h10 h11
  rw [ok_mk] at hok
  rw [size_mk] at hsz
  have hkl : ks.length ≤ 50000 := by have := sizes_len ks; omega
  have hls := txts_lenS (F := brF) ks fun x hx => txt_len textF_br x ((oks_iff ks).1 hok.2 x hx)
  have hsz2 : (Nd.mk k t v ks).size = 1 + Nd.sizes ks := size_mk ..
  rw [hsz2] at hlen
  have HLEN0 := Lib.hid hlen
  have HLEN := Lib.hid (show k = 5 ∨ k = 7 → bs.length + lenS (Nd.txts brF ks) + 200000 * Nd.sizes ks + 2000 ≤ 100000000000000 by
    intro hk57
    have hj := lenS_joinJ (Nd.txts brF ks)
    rw [txts_len] at hj
    rw [txt_mk] at hlen
    rcases hk57 with rfl | rfl
    · have h9 : brF 5 t v (Nd.txts brF ks) = 91 :: (Lib.join (Nd.txts brF ks) [44] ++ [93]) := rfl
      rw [h9, List.length_cons, List.length_append] at hlen
      omega
    · have h9 : brF 7 t v (Nd.txts brF ks) = 123 :: (Lib.join (Nd.txts brF ks) [44] ++ [125]) := rfl
      rw [h9, List.length_cons, List.length_append] at hlen
      omega)
  have HL1 := Lib.hid (show bs.length + 199000 ≤ 100000000000000 by omega)
  obtain ⟨u2, e2, hs⟩ := hv
  obtain rfl : u = u2 := by simpa [ndV] using e2
  clear e2
  simp only [ndV, Nd.k, Nd.t, Nd.v, Nd.kids] at hs ⊢
  obtain ⟨ao, cap, rfl, hcap, hcm⟩ := hs.shape
  have HCA := Lib.hid (show ∀ x ∈ ks, BrAt x from fun x hx => ih x hx (HKT.out x hx) ((oks_iff ks).1 hok.2 x hx) (by have := size_mem hx; omega))
  have HE := Lib.hid hE; have HS := Lib.hid hs; have HOK := Lib.hid hok; have HU := Lib.hid hbu; have HSB := Lib.hid hSB; have HBB := Lib.hid hB
  have HB0 := Lib.hid (show Below w.heap.size w (w.alloc (.cells #[.int .i64 k, .string t, .string v, .slice ao ks.length cap] 24)) from (Below.refl _ _).alloc (Nat.le_refl _) _)
  have HX := Lib.hid (heap_alloc_new w (.cells #[.int .i64 k, .string t, .string v, .slice ao ks.length cap] 24))
  obtain ⟨W0, hW0⟩ : ∃ W0, w.alloc (.cells #[.int .i64 k, .string t, .string v, .slice ao ks.length cap] 24) = W0 := ⟨_, rfl⟩
  have HU0 := Lib.hid (hbu.below HB0.out)
  have HB1 := Lib.hid (show Below B w W0 from hW0 ▸ HB0.out.mono hB)
  rw [hW0] at HB0 HX HU0
  have HW0 := Lib.hid (show B ≤ W0.heap.size from Nat.le_trans hB HB0.out.size)
  have HS0 := Lib.hid (show SlIn W0 S (.slice ao ks.length cap) ks from hs.alike ⟨HB0.out.size, fun b hb hl => HB1.out.block b (hSB b hb)⟩ fun b h _ => h)
  have HE0 := Lib.hid (show ∀ W', Below B W0 W' → EnvU W' from fun W' hb => hE _ (HB1.out.trans hb))
  rw [txt_mk]
  have htf := htb.tf
  cases htf with
  | mk _ _ _ _ hr ho hk ht =>
  clear hE hs hok hbu hSB hB htb ih hk ht
  unfold maxLen at *
  by_cases h1 : k = 1
  · subst h1
    go_enter Tryz.func39, Tryz.ntmps39
    obtain ⟨x0, x1, x2, x3, _, _, _, _, hxl⟩ := nd_cells HX.out
    go_wp2_with fail
    try rw [hW0]
    refine (writeStringT _ liesPr W0 B b vb bs ⟨#[110, 117, 108, 108]⟩ HU0.out (by show _ + 4 ≤ _; have := HL1.out; omega) (by decide) HW0.out).mono ?_
    rintro e w3 ⟨rfl, v3, hp⟩
    have HPN := Lib.hid (BuTPost.pre HB0.out hp)
    clear hp
    go_wp2_with fail
    go_end0
    exact ⟨⟨_, rfl⟩, _, HPN.out⟩
  by_cases h4 : k = 4
  · subst h4
    have hqt : 0 < (qt t).length := by rw [(right_text hr (.inl rfl)).2]; simp [quoteL]
    go_enter Tryz.func39, Tryz.ntmps39
    obtain ⟨x0, x1, x2, x3, _, _, _, _, hxl⟩ := nd_cells HX.out
    go_wp2_with fail
    try rw [hW0]
    refine (brQuoted_any t W0 B b vb bs (HE0.out _ (Below.refl _ _)) HU0.out HOK.out.1.t hqt (by have := HL1.out; omega) HW0.out).mono ?_
    rintro e w3 ⟨⟨rr, rfl⟩, v3, hp⟩
    have HPN := Lib.hid (BuTPost.pre HB0.out hp)
    clear hp
    go_wp2_with fail
    go_end0
    exact ⟨⟨_, rfl⟩, _, HPN.out⟩
  by_cases h5 : k = 5
  · subst h5
    go_enter Tryz.func39, Tryz.ntmps39
    obtain ⟨x0, x1, x2, x3, _, _, _, _, hxl⟩ := nd_cells HX.out
    go_wp2_with fail
    try rw [hW0]
    refine (brParts_any ks HCA.out ⟨#[91]⟩ ⟨#[93]⟩ (by decide) (by decide) (by decide) (by decide) W0 B b vb bs S _ HE0.out HU0.out HS0.out HSB.out HW0.out (by omega) (HLEN.out (by simp))).mono ?_
    rintro e w3 ⟨⟨rr, rfl⟩, v3, hp⟩
    have HPN := Lib.hid (BuTPost.pre HB0.out hp)
    clear hp
    go_wp2_with fail
    go_end0
    exact ⟨⟨_, rfl⟩, _, HPN.out⟩
  by_cases h7 : k = 7
  · subst h7
    go_enter Tryz.func39, Tryz.ntmps39
    obtain ⟨x0, x1, x2, x3, _, _, _, _, hxl⟩ := nd_cells HX.out
    go_wp2_with fail
    try rw [hW0]
    refine (brParts_any ks HCA.out ⟨#[123]⟩ ⟨#[125]⟩ (by decide) (by decide) (by decide) (by decide) W0 B b vb bs S _ HE0.out HU0.out HS0.out HSB.out HW0.out (by omega) (HLEN.out (by simp))).mono ?_
    rintro e w3 ⟨⟨rr, rfl⟩, v3, hp⟩
    have HPN := Lib.hid (BuTPost.pre HB0.out hp)
    clear hp
    go_wp2_with fail
    go_end0
    exact ⟨⟨_, rfl⟩, _, HPN.out⟩
  by_cases h8 : k = 8
  · subst h8
    obtain ⟨y, rfl⟩ : ∃ y, ks = [y] := by
      rcases odd_kind ho with ⟨h, _⟩ | ⟨_, hn⟩ | h
      · omega
      · match ks, hn with
        | [y], _ => exact ⟨y, rfl⟩
      · omega
    have hqt : 0 < (qt t).length := by rw [(right_text hr (.inr rfl)).2]; simp [quoteL]
    have hql := qt_len t
    obtain ⟨kb, ko, kx, hko, hkw, k0, k1, k2, k3, hkx⟩ := HS.out.at_ 0 (by simp)
    have hkB : kb < B := by
      obtain ⟨a2, c2, e2, _, _, hor⟩ := HS.out
      rcases hor with h0 | ⟨b', o', e', hsb, _, _⟩
      · cases h0
      · injection e2 with e2 _ _
        rw [e2, e'] at hko
        injection hko with hko
        injection hko with hko _ _
        rw [← hko]; exact HSB.out _ hsb
    obtain ⟨ay, cy, rfl, _, _⟩ := hkx.shape
    subst hko
    rw [Nat.zero_mul, Nat.add_zero] at k0 k1 k2 k3
    simp only [List.getElem_cons_zero] at k0 k1 k2 k3 hkx
    have HH := Lib.hid (HCA.out y (by simp))
    have HKS := Lib.hid (fun (W : World) (hb : Below B w W) => show NdV W S (ndV y (.slice ay y.kids.length cy)) y from .mk (hkx.alike ⟨hb.size, fun b hb2 hl => hb.block b (HSB.out b hb2)⟩ fun b h _ => h))
    have HK := Lib.hid (fun (W : World) (hb : Below B w W) => show kb < W.heap.size ∧ W.cell? ⟨kb, ko, none⟩ = some (.int .i64 y.k) ∧ W.cell? ⟨kb, ko + 1, none⟩ = some (.string y.t) ∧ W.cell? ⟨kb, ko + 2, none⟩ = some (.string y.v) ∧ W.cell? ⟨kb, ko + 3, none⟩ = some (.slice ay y.kids.length cy) from
      ⟨Nat.lt_of_lt_of_le hkw hb.size, (hb.cell (p := ⟨kb, ko, none⟩) hkB).trans k0, (hb.cell (p := ⟨kb, ko + 1, none⟩) hkB).trans k1, (hb.cell (p := ⟨kb, ko + 2, none⟩) hkB).trans k2, (hb.cell (p := ⟨kb, ko + 3, none⟩) hkB).trans k3⟩)
    have HLY := Lib.hid (show bs.length + (qt t).length + 1 + (y.txt brF).length + 200000 * y.size ≤ 100000000000000 by
      have := HLEN0.out
      rw [txt_mk, txts_cons, txts_nil] at this
      have h9 : brF 8 t v [y.txt brF] = qt t ++ 58 :: y.txt brF := rfl
      rw [h9, List.length_append, List.length_cons, sizes_cons, sizes_nil] at this
      omega)
    have hW0' : w.alloc (.cells #[.int .i64 8, .string t, .string v, .slice (some ⟨kb, ko, none⟩) 1 cap] 24) = W0 := hW0
    clear k0 k1 k2 k3 hkx
    go_enter Tryz.func39, Tryz.ntmps39
    obtain ⟨x0, x1, x2, x3, _, _, _, _, hxl⟩ := nd_cells HX.out
    go_wp2_with fail
    try rw [hW0']
    refine (brQuoted_any t W0 B b vb bs (HE0.out _ (Below.refl _ _)) HU0.out HOK.out.1.t hqt (by have := HL1.out; omega) HW0.out).mono ?_
    rintro e w3 ⟨⟨rr, rfl⟩, v3, hp⟩
    have HP3 := Lib.hid hp
    have HW3 := Lib.hid (show B ≤ w3.heap.size from Nat.le_trans HW0.out hp.size)
    have HX3 := Lib.hid (show w3.heap[w.heap.size]? = some (.cells #[.int .i64 8, .string t, .string v, .slice (some ⟨kb, ko, none⟩) 1 cap] 24 (0, 0)) by
      rw [hp.oth w.heap.size (lt_blk HX.out) (by have := HU.out.lt; omega) (fun e => by have := (HU.out.row.lt _ e).2; omega)]; exact HX.out)
    clear hp
    go_wp2_with fail
    refine (writeByteT _ liesPr w3 B b v3 _ 58 HP3.out.bu (by rw [List.length_append, Lib.byteCells_length]; have := HL1.out; omega) HW3.out).mono ?_
    rintro e w4 ⟨rfl, v4, hp⟩
    have HP4 := Lib.hid (HP3.out.trans hp)
    have HW4 := Lib.hid (show B ≤ w4.heap.size from Nat.le_trans HW3.out hp.size)
    have HX4 := Lib.hid (show w4.heap[w.heap.size]? = some (.cells #[.int .i64 8, .string t, .string v, .slice (some ⟨kb, ko, none⟩) 1 cap] 24 (0, 0)) by
      rw [HP4.out.oth w.heap.size (lt_blk HX.out) (by have := HU.out.lt; omega) (fun e => by have := (HU.out.row.lt _ e).2; omega)]; exact HX.out)
    have HBW := Lib.hid (show Below B w w4 from HB1.out.trans (HP4.out.low HU0.out HW0.out))
    clear hp x0 x1 x2 x3 hxl
    obtain ⟨x0, x1, x2, x3, _, _, _, _, hxl⟩ := nd_cells HX4.out
    obtain ⟨hkl2, d0, d1, d2, d3⟩ := HK.out _ HBW.out
    go_wp2_with fail
    refine (HH.out w4 B b v4 _ S (.slice ay y.kids.length cy) (fun W' hb => HE.out _ (HBW.out.trans hb)) HP4.out.bu (HKS.out _ HBW.out) HSB.out HW4.out (by rw [List.length_append, List.length_append, Lib.byteCells_length, List.length_singleton]; have := HLY.out; omega)).mono ?_
    rintro e w5 ⟨⟨rr, rfl⟩, v5, hp⟩
    have HPN := Lib.hid (show BuTPost 54 B b vb (bs ++ Lib.byteCells (brF 8 t v (Nd.txts brF [y]))) w w5 v5 by
      have h9 := BuTPost.pre HB0.out (HP4.out.trans hp)
      rw [show bs ++ Lib.byteCells (brF 8 t v (Nd.txts brF [y])) = bs ++ Lib.byteCells (qt t) ++ [Value.int .u8 58] ++ Lib.byteCells (y.txt brF) by
        rw [txts_cons, txts_nil]
        show bs ++ Lib.byteCells (qt t ++ 58 :: y.txt brF) = _
        rw [bc_app, List.append_assoc, List.append_assoc]; rfl]
      exact h9)
    clear hp
    go_wp2_with fail
    go_end0
    exact ⟨⟨_, rfl⟩, _, HPN.out⟩
  · have q1 : (k == 1) = false := by simp [h1]
    have q4 : (k == 4) = false := by simp [h4]
    have q5 : (k == 5) = false := by simp [h5]
    have q7 : (k == 7) = false := by simp [h7]
    have q8 : (k == 8) = false := by simp [h8]
    have HRF := Lib.hid (show brF k t v (Nd.txts brF ks) = t.data.toList by unfold brF; rw [if_neg h1, if_neg h4, if_neg h5, if_neg h7, if_neg h8])
    have htz : 0 < t.size := by
      have h3 : t.data.toList.length = t.size := Array.length_toList
      rcases odd_kind ho with ⟨h, _⟩ | ⟨h, _⟩ | h
      · have h' : k = 2 ∨ k = 3 := by omega
        rcases h' with rfl | rfl
        · rcases (right_bool hr).2 with e | e <;> rw [e] at h3 <;> simp [trueL, falseL] at h3 <;> omega
        · obtain ⟨x, l, e, _⟩ := num_head (right_num hr).2
          rw [e] at h3; simp at h3; omega
      · omega
      · omega
    go_enter Tryz.func39, Tryz.ntmps39
    obtain ⟨x0, x1, x2, x3, _, _, _, _, hxl⟩ := nd_cells HX.out
    go_wp2_with fail
    try rw [hW0]
    have hbr : Below W0.heap.size W0 W0.drew := (Below.refl _ _).drew
    have hkeep : W0.drew.heap[w.heap.size]? = some (.cells #[.int .i64 k, .string t, .string v, .slice ao ks.length cap] 24 (0, 0)) := HX.out
    have HTS := Lib.hid (show bs.length + t.size ≤ 100000000000000 by
      have := HLEN0.out
      rw [txt_mk, HRF.out] at this
      have h3 : t.data.toList.length = t.size := Array.length_toList
      omega)
    go_region_held3? (fun w' => w'.cell? ⟨w.heap.size, 1, none⟩ = some (.string t)) (first | exact (nd_cells hkeep).c1 | go_keep) ((first
      | (go_at_call 59
         with_reducible refine (writeStringT _ liesPr W0.drew B b vb bs t (HU0.out.below hbr) HTS.out htz (Nat.le_trans HW0.out hbr.size)).mono ?_
         rintro e wz ⟨rfl, v3, hp⟩
         have hk2 : wz.heap[w.heap.size]? = some (.cells #[.int .i64 k, .string t, .string v, .slice ao ks.length cap] 24 (0, 0)) := by
           rw [hp.oth w.heap.size (lt_blk hkeep) (by have := HU.out.lt; omega) (fun e => by have := (HU.out.row.lt _ e).2; omega)]; exact hkeep
         clear hkeep
         have hkeep := hk2
         clear hk2
         have HPN := Lib.hid (BuTPost.pre HB0.out (BuTPost.pre hbr hp))
         clear hp)))
    all_goals
      go_wp2_with fail
      go_end0
      exact ⟨⟨_, rfl⟩, v3, by rw [HRF.out]; exact HPN.out⟩
end Go.Proofs.YtkebohhogpenkaaGreatDoor

/- The walk of inkbrace.Print. -/
namespace Go.Proofs.YtkebohhogpenkaaGreatDoor
open Go.RowKit Ev5
set_option linter.unusedSimpArgs false
set_option linter.unusedVariables false

theorem br_ne {n : Nd} (h : Tb n) : n.txt brF ≠ [] := by
  obtain ⟨x, l, e, _⟩ := br_head h
  rw [e]; simp
set_option maxRecDepth 100000 in
set_option maxHeartbeats 4000000 in
theorem inkbracePrint_any (n : Nd) (w : World) (S : Nat → Prop) (v : Value) (hE : EnvU w) (hv : NdV w S v n) (hok : n.ok) (hN : n.size ≤ 50000) :
    Calls Tryz.prog 22 #[v] w (InkPost (ofP tpB n) (n.txt brF) w) := by
  obtain ⟨u, rfl, hs⟩ := hv
  obtain ⟨ao, cap, rfl, hcap, hcm⟩ := hs.shape
  have HV := Lib.hid (NdV.mk hs.ltC); have HE := Lib.hid hE; have HOK := Lib.hid hok; have HSZ := Lib.hid hN
  have HX := Lib.hid (heap_alloc_new w (.cells #[.int .i64 n.k, .string n.t, .string n.v, .slice ao n.kids.length cap] 24))
  have HB0 := Lib.hid (show Below w.heap.size w (w.alloc (.cells #[.int .i64 n.k, .string n.t, .string n.v, .slice ao n.kids.length cap] 24)) from (Below.refl _ _).alloc (Nat.le_refl _) _)
  obtain ⟨E, hEq⟩ : ∃ E, (ofP tpB n).2 = E := ⟨_, rfl⟩
  obtain ⟨q, hq⟩ : ∃ q, plc (ofP tpB n) = q := ⟨_, rfl⟩
  have HQ := Lib.hid (fun (w' : World) (S : Nat → Prop) (v : Value) (h1 : EnvU w') (h2 : NdV w' S v n) => (carryBrace_any n w' S v h1 h2 hok hN).mono fun e w2 h => h.to hEq hq)
  have HP := Lib.hid (show ∀ e w', (Below w.heap.size w w' ∧ ∃ a c, e = .returned (.tuple #[strV (if E = 0 then n.txt brF else []), .slice a q.length c, .int .i64 E]) ∧ IntsIn w' (.slice a q.length c) q) → InkPost (ofP tpB n) (n.txt brF) w e w' from fun e w' h => by
    unfold InkPost; rw [hEq, hq]; exact h)
  have HTB := Lib.hid (fun h : E = 0 => tb_of (hEq.trans h))
  have HQ0 := Lib.hid (fun h : E = 0 => show q = [] from hq ▸ (ofP_ok (hEq.trans h)).1)
  clear hs hE hok hN hEq hq
  unfold ndV
  go_enter Tryz.func22, Tryz.ntmps22
  go_wp2_with fail
  refine (HQ.out _ _ _ (HE.out.below HB0.out) (HV.out.below HB0.out)).mono ?_
  rintro e w2 ⟨hb, a2, c2, rfl, hi⟩
  have HB2 := Lib.hid (bthen HB0.out hb)
  have HI := Lib.hid hi
  obtain ⟨x0, x1, x2, x3, _, _, _, _, hxl⟩ := nd_cells ((hb.block _ (lt_blk HX.out)).trans HX.out)
  clear hb hi
  by_cases hz : E = 0
  · subst hz
    obtain rfl := HQ0.out rfl
    obtain ⟨_, htb, _⟩ := HTB.out rfl
    have HT := Lib.hid htb
    clear htb
    have hbz : Below w2.heap.size w2 (w2.alloc (.cells #[.pointer none, .slice none 0 0] 54)) := (Below.refl _ _).alloc (Nat.le_refl _) _
    have HBZ := Lib.hid hbz
    have HBU := Lib.hid (show BuT 54 (w2.alloc (.cells #[.pointer none, .slice none 0 0] 54)) w2.heap.size w2.heap.size (.slice none 0 0) [] from ⟨⟨_, .inl rfl, heap_alloc_new w2 _⟩, World.ownsRow_nil _ _ _ _, by simp [Value.ownBlock], Nat.le_refl _⟩)
    have HND := Lib.hid (show NdV (w2.alloc (.cells #[.pointer none, .slice none 0 0] 54)) (fun b => b < w.heap.size) (ndV n (.slice ao n.kids.length cap)) n from HV.out.below (bthen HB2.out hbz))
    have HTL := Lib.hid (show (n.txt brF).length + 200000 * n.size ≤ 100000000000000 by
      have h1 := txt_len textF_br n HOK.out
      have h2 := HSZ.out
      omega)
    clear hbz
    go_wp2_with fail
    refine (brValue_any n HT.out HOK.out HSZ.out _ w2.heap.size w2.heap.size (.slice none 0 0) [] _ _ (fun W' hb => HE.out.below (bthen HB2.out (HBZ.out.trans hb))) HBU.out HND.out (fun g hg => Nat.lt_of_lt_of_le hg HB2.out.size) (by simp) (by have := HTL.out; simp; omega)).mono ?_
    rintro e w3 ⟨⟨rr, rfl⟩, v3, hp⟩
    have HP3 := Lib.hid (show BuTPost 54 w2.heap.size w2.heap.size (.slice none 0 0) (Lib.byteCells (n.txt brF)) _ w3 v3 from hp)
    have HB3 := Lib.hid (bthen HB2.out (HBZ.out.trans (hp.low HBU.out (by simp))))
    clear hp x0 x1 x2 x3 hxl
    go_wp2_with fail
    refine (stringT _ w3 w2.heap.size w2.heap.size v3 (n.txt brF) HP3.out.bu (br_ne HT.out)).mono ?_
    rintro e w4 ⟨rfl, hb⟩
    have HB4 := Lib.hid (bthen HB2.out ((HBZ.out.trans (HP3.out.low HBU.out (by simp))).trans hb))
    clear hb
    obtain ⟨Y, hY⟩ : ∃ Y : ByteArray, (⟨(n.txt brF).toArray⟩ : ByteArray) = Y := ⟨_, rfl⟩
    have HY := Lib.hid (show strV (n.txt brF) = .string Y by rw [← hY]; rfl)
    rw [hY]
    clear hY
    go_wp2_with fail
    refine bodyPost_ret (v := .tuple #[.string Y, .slice none 0 0, .int .i64 0]) (by simp [results, Tryz.results22, go_sem]) rfl ?_
    exact HP.out _ _ ⟨HB4.out, none, 0, by show Ending.returned (Value.tuple #[.string Y, .slice none 0 0, .int .i64 0]) = Ending.returned (Value.tuple #[strV (n.txt brF), .slice none 0 0, .int .i64 0]); rw [HY.out], ints_nilC _⟩
  · have hzb : (E != 0) = true := by simp [hz]
    go_wp2_with fail
    refine bodyPost_ret (v := .tuple #[.string ⟨#[]⟩, .slice a2 q.length c2, .int .i64 E]) (by simp [results, Tryz.results22, go_sem]) rfl ?_
    exact HP.out _ _ ⟨HB2.out, a2, c2, by rw [if_neg hz]; rfl, HI.out⟩
theorem refEq16 {n : Nd} (h : (ofP tpB n).2 = 0) : n.txt rbrF = n.txt brF := rbr_br n (tb_of h).2.1.tf
end Go.Proofs.YtkebohhogpenkaaGreatDoor

/- The walk of lives (layer 16). -/
namespace Go.Proofs.YtkebohhogpenkaaGreatDoor
open Go.RowKit Ev5
set_option linter.unusedSimpArgs false
set_option linter.unusedVariables false

theorem lvTxt16 : (lvN ⟨#[97]⟩).txt brF = [123, 34, 97, 34, 58, 91, 49, 44, 34, 120, 34, 93, 125] := by decide +kernel
theorem lvOf16 : ofP tpB (lvN ⟨#[97]⟩) = (none, 0) := by unfold ofP; rw [if_neg (by rw [lvN_wh1]; simp), (firstB_elems _ (lvN ⟨#[97]⟩) [] [] (Nat.le_refl _)).2 (by decide +kernel)]
set_option maxRecDepth 100000 in
set_option maxHeartbeats 4000000 in
theorem lives16_any (w : World) (hE : EnvU w) : Calls Tryz.prog 21 #[] w fun e w' => e = .returned (.bool true) ∧ Below w.heap.size w w' := by
  obtain ⟨hv, hb, hx⟩ := lvN_in w ⟨#[97]⟩
  have HB := Lib.hid hb
  have HC := Lib.hid ((inkbracePrint_any (lvN ⟨#[97]⟩) (lvNW w ⟨#[97]⟩) _ _ (hE.below hb) hv (lvN_ok _ (by decide)) (by rw [lvN_size]; omega)).mono fun e w' h => h.to (Y := ⟨#[123, 34, 97, 34, 58, 91, 49, 44, 34, 120, 34, 93, 125]⟩) (E := 0) (q := []) (by rw [lvOf16, lvTxt16]; rfl) (by rw [lvOf16]) (by rw [lvOf16]; rfl))
  clear hb hv hx hE
  go_enter Tryz.func21, Tryz.ntmps21
  go_wp2_with fail
  refine HC.out.mono ?_
  rintro e w2 ⟨hb, a, c, rfl, _⟩
  have HB2 := Lib.hid (bthen HB.out hb)
  clear hb HC
  go_wp2_with fail
  go_ret
  exact ⟨rfl, HB2.out⟩
end Go.Proofs.YtkebohhogpenkaaGreatDoor

/- few and copied of hexaplalaw16. -/
namespace Go.Proofs.YtkebohhogpenkaaGreatDoor
open Go.RowKit Ev5
set_option linter.unusedSimpArgs false
set_option linter.unusedVariables false

set_option maxRecDepth 100000 in
set_option maxHeartbeats 2000000 in
theorem few16_any (n : Nd) (w : World) (S : Nat → Prop) (val : Value) (hv : NdV w S val n) :
    Calls Tryz.prog 20 #[val] w fun e w' => e = .returned (.bool (decide (0 ≤ n.few 200 20))) ∧ Below w.heap.size w w' := by
  obtain ⟨u, rfl, hs⟩ := hv
  obtain ⟨ao, cap, rfl, hcap, hcm⟩ := hs.shape
  have HS := Lib.hid hs
  have HB := Lib.hid (show Below w.heap.size w (w.alloc (.cells #[.int .i64 n.k, .string n.t, .string n.v, .slice ao n.kids.length cap] 24)) from (Below.refl _ _).alloc (Nat.le_refl _) _)
  clear hs
  unfold ndV
  go_enter Tryz.func20, Tryz.ntmps20
  go_wp2_with fail
  refine (few_any n _ S _ 200 20 ⟨_, rfl, HS.out.below HB.out⟩ (by omega) (by omega) (by omega) (by omega)).mono ?_
  rintro e w2 ⟨rfl, hb⟩
  have HB2 := Lib.hid (bthen HB.out hb)
  obtain ⟨F, hF⟩ : ∃ F, n.few 200 20 = F := ⟨_, rfl⟩
  rw [hF]
  have HF := Lib.hid hF
  clear hb hF
  go_wp2_with fail
  go_ret
  exact ⟨by rw [HF.out]; rfl, HB2.out⟩
theorem few16_size {x : Nd} (h : 0 ≤ x.few 200 20) : x.size ≤ 200 := by
  have := (few_says x 200 20 (by omega)).2.2 h
  omega
set_option maxRecDepth 100000 in
set_option maxHeartbeats 8000000 in
/-- copied: a node anew. -/
theorem copied16_any (n : Nd) : n.size ≤ 1048576 → ∀ (w : World) (S : Nat → Prop) (val : Value), NdV w S val n → Calls Tryz.prog 24 #[val] w (NewNd n w) := by
  refine Nd.ind (C := fun n => n.size ≤ 1048576 → ∀ (w : World) (S : Nat → Prop) (val : Value), NdV w S val n → Calls Tryz.prog 24 #[val] w (NewNd n w)) ?_ n
  intro k t v ks ih hsz w S val hv
  rw [size_mk] at hsz
  obtain ⟨u, rfl, hs⟩ := hv
  simp only [ndV, Nd.k, Nd.t, Nd.v, Nd.kids] at hs ⊢
  obtain ⟨ao, cap, rfl, hcap, hcm⟩ := hs.shape
  unfold maxLen at hcm
  obtain ⟨i0, hinf, hz0, hz1, hz2⟩ := info_parts infoN
  have hkl : ks.length ≤ 1048576 := by have := sizes_len ks; omega
  have HI := Lib.hid hinf; have HS := Lib.hid hs.ltC; have HIH := Lib.hid ih; have HSZ := Lib.hid hsz
  have HX := Lib.hid (two_first w (.cells #[.int .i64 k, .string t, .string v, .slice ao ks.length cap] 24) (.cells #[.int .i64 0, .string ⟨#[]⟩, .string ⟨#[]⟩, .slice none 0 0] 24))
  have HR := Lib.hid (two_last w (.cells #[.int .i64 k, .string t, .string v, .slice ao ks.length cap] 24) (.cells #[.int .i64 0, .string ⟨#[]⟩, .string ⟨#[]⟩, .slice none 0 0] 24))
  have HB0 := Lib.hid (show Below w.heap.size w ((w.alloc (.cells #[.int .i64 k, .string t, .string v, .slice ao ks.length cap] 24)).alloc (.cells #[.int .i64 0, .string ⟨#[]⟩, .string ⟨#[]⟩, .slice none 0 0] 24)) from ((Below.refl _ _).alloc (Nat.le_refl _) _).alloc (by simp) _)
  clear hinf hs ih hsz
  go_enter Tryz.func24, Tryz.ntmps24
  go_wp2_with fail
  go_loopw [3, 4] (fun vk vi wr => ∃ (i : Nat) (ps : List (Nd × Value)), i ≤ ks.length ∧ vi = .int .i64 i ∧ Hid (ps.map (·.1) = ks.take i) ∧ Hid (OwnK wr (w.heap.size + 2) vk ps) ∧ Hid (wr.heap[w.heap.size]? = some (.cells #[.int .i64 k, .string t, .string v, .slice ao ks.length cap] 24 (0, 0))) ∧ Hid (wr.heap[w.heap.size + 1]? = some (.cells #[.int .i64 0, .string ⟨#[]⟩, .string ⟨#[]⟩, .slice none 0 0] 24 (0, 0))) ∧ Hid (Below w.heap.size w wr)) (fun _ vi _ => ks.length - (intOf vi).toNat)
  case atStart => exact ⟨0, [], Nat.zero_le _, rfl, by show _ = _; simp, by show OwnK _ _ _ _; exact OwnK.nil _ _, by show _ = _; exact HX.out, by show _ = _; exact HR.out, HB0.out⟩
  case round =>
    obtain ⟨i, ps, hi, rfl, HP, HO, HXR, HRR, HBR⟩ := hrel
    obtain rfl : i = ps.length := by have := congrArg List.length HP.out; rw [List.length_map, List.length_take] at this; omega
    obtain ⟨ua, uc, hua⟩ := HO.out.shape
    subst hua
    obtain ⟨x0, x1, x2, x3, g0, g1, g2, g3, hxl⟩ := nd_cells HXR.out
    obtain ⟨r0, r1, r2, r3, j0, j1, j2, j3, hrl⟩ := nd_cells HRR.out
    by_cases hlt : ps.length < ks.length
    · have hi0 : (0 : Int) ≤ (ps.length : Int) := Int.natCast_nonneg _
      have hi1 : (ps.length : Int) < (ks.length : Int) := by omega
      obtain ⟨kb, ko, kx, hko, hkw, k0, k1, k2, k3, hkx⟩ := HS.out.at_ ps.length hlt
      obtain ⟨ay, cy, rfl, _, _⟩ := hkx.shape
      subst hko
      have hmem := List.getElem_mem hlt
      have hih := HIH.out ks[ps.length] hmem (by have := size_mem hmem; have := HSZ.out; omega)
      have HTK := Lib.hid (show ks.take (ps.length + 1) = ks.take ps.length ++ [ks[ps.length]] by rw [List.take_add_one, List.getElem?_eq_getElem hlt]; rfl)
      obtain ⟨y, hy⟩ : ∃ y, ks[ps.length] = y := ⟨_, rfl⟩
      rw [hy] at k0 k1 k2 k3 hkx hih HTK
      have HKS := Lib.hid (NdV.mk hkx); have HH := Lib.hid hih
      have hbw := HBR.out
      have d0 : wr.cell? ⟨kb, ko + ps.length * 4, none⟩ = some (.int .i64 y.k) := (hbw.cell (p := ⟨kb, ko + ps.length * 4, none⟩) hkw).trans k0
      have d1 : wr.cell? ⟨kb, ko + ps.length * 4 + 1, none⟩ = some (.string y.t) := (hbw.cell (p := ⟨kb, ko + ps.length * 4 + 1, none⟩) hkw).trans k1
      have d2 : wr.cell? ⟨kb, ko + ps.length * 4 + 2, none⟩ = some (.string y.v) := (hbw.cell (p := ⟨kb, ko + ps.length * 4 + 2, none⟩) hkw).trans k2
      have d3 : wr.cell? ⟨kb, ko + ps.length * 4 + 3, none⟩ = some (.slice ay y.kids.length cy) := (hbw.cell (p := ⟨kb, ko + ps.length * 4 + 3, none⟩) hkw).trans k3
      have hkl2 : kb < wr.heap.size := Nat.lt_of_lt_of_le hkw hbw.size
      clear k0 k1 k2 k3 hkx hih hy hbw hmem
      go_wp2_with fail
      refine (HH.out _ _ _ (HKS.out.below HBR.out)).mono ?_
      rintro e w3 ⟨a3, c3, rfl, hsk, hb⟩
      have HB3 := Lib.hid (bthen HBR.out hb)
      have HX3 := Lib.hid ((hb.block _ hxl).trans HXR.out)
      have HR3 := Lib.hid ((hb.block _ hrl).trans HRR.out)
      have HO3 := Lib.hid (HO.out.below hb)
      have HBL := Lib.hid (show Below w3.heap.size w3 (w3.alloc (.cells #[.int .i64 y.k, .string y.t, .string y.v, .slice a3 y.kids.length c3] 24)) from (Below.refl _ _).alloc (Nat.le_refl _) _)
      have HSK := Lib.hid (HO.out.apart (by omega) hsk)
      have hl3 := HB3.out.size
      have hxl3 := lt_blk HX3.out
      have hrl3 := lt_blk HR3.out
      clear hsk hb d0 d1 d2 d3 x0 x1 x2 x3 g0 g1 g2 g3 hxl r0 r1 r2 r3 j0 j1 j2 j3 hrl
      go_wp2_with (at_builtin; refine wpList_append_lies _ (by rfl) _ _ _ (by rfl) (w.heap.size + 2) 24 i0 _ 4 64 Tryz.underlying22 HI.out hz0 hz1 hz2 rfl (by omega) _ ps.length _ (by rfl) (HO3.out.below HBL.out).row ⟨w3.heap.size, 0, none⟩ 1 1 (ndL y (.slice a3 y.kids.length c3)) (by rfl) (by rfl) (World.news_of_block (heap_alloc_new w3 _)) nd_one (by omega) (by unfold maxLen; omega) (by omega) (by simp; omega) (w3.heap.size + 1) (by simp) ?_)
      intro gg cap' w5 hown1 hgrow hat hlt2
      have hlo : ∀ g, (Value.slice ua ps.length uc).ownBlock = some g → w.heap.size + 2 ≤ g := fun g e => (HO3.out.row.lt g e).1
      have HOW2 := Lib.hid ((HO3.out.below HBL.out).snoc (HSK.out.below HBL.out) hown1 hgrow (by rcases hat with h | h; exact .inl h; exact .inr (by simp; omega)))
      have HX5 := Lib.hid ((hgrow.block w.heap.size (by simp; omega) (fun e => by have := hlo _ e.symm; omega)).trans ((HBL.out.block _ hxl3).trans HX3.out))
      have HR5 := Lib.hid ((hgrow.block (w.heap.size + 1) (by simp; omega) (fun e => by have := hlo _ e.symm; omega)).trans ((HBL.out.block _ hrl3).trans HR3.out))
      have HB5 := Lib.hid (show Below w.heap.size w w5 from (bthen HB3.out HBL.out).grown hgrow (by simp; omega) (fun g e => by have := hlo g e; omega))
      clear hown1 hgrow hat hlt2 hlo
      go_wp2_with fail
      go_roundw
      case rel => exact ⟨ps.length + 1, ps ++ [(y, .slice a3 y.kids.length c3)], by omega, by go_num, by show _ = _; rw [List.map_append, HP.out, HTK.out]; rfl, HOW2, HX5, HR5, HB5⟩
      case measure => simp [intOf]; omega
    · have HPE := Lib.hid (show ps.length = ks.length by omega)
      have hge : ¬ (ps.length : Int) < (ks.length : Int) := by omega
      clear hlt
      have hf0 := heap_set4 (u := .slice ua ps.length uc) HXR.out
      have hg0 := grown_set wr w.heap.size 3 (.slice ua ps.length uc)
      have hf1 : (wr.setCell ⟨w.heap.size, 3, none⟩ (.slice ua ps.length uc)).heap[w.heap.size + 1]? = some (.cells #[.int .i64 0, .string ⟨#[]⟩, .string ⟨#[]⟩, .slice none 0 0] 24 (0, 0)) := by
        rw [hg0.block (w.heap.size + 1) hrl (by simp)]; exact HRR.out
      obtain ⟨w4, hw4⟩ : ∃ w4, wr.setCell ⟨w.heap.size, 3, none⟩ (.slice ua ps.length uc) = w4 := ⟨_, rfl⟩
      have HW4 := Lib.hid hw4
      rw [hw4] at hf0 hg0 hf1
      obtain ⟨y0, y1, y2, y3, z0, z1, z2, z3, hyl⟩ := nd_cells hf0
      obtain ⟨s0, s1, s2, s3, q0, q1, q2, q3, hsl⟩ := nd_cells hf1
      have HF0 := Lib.hid hf0; have HF1 := Lib.hid hf1; have HG0 := Lib.hid hg0
      clear hf0 hf1 hg0
      go_wp2_with fail
      obtain ⟨w5, hw5⟩ : ∃ w5, ((((w4.setCell ⟨w.heap.size + 1, 0, none⟩ (.int .i64 k)).setCell ⟨w.heap.size + 1, 1, none⟩ (.string t)).setCell ⟨w.heap.size + 1, 2, none⟩ (.string v)).setCell ⟨w.heap.size + 1, 3, none⟩ (.slice ua ps.length uc)) = w5 := ⟨_, rfl⟩
      obtain ⟨hf, hgr⟩ := fill4 (.int .i64 k) (.string t) (.string v) (.slice ua ps.length uc) HF1.out
      rw [hw5] at hf hgr
      rw [hw5]
      obtain ⟨t0, t1, t2, t3, _, _, _, _, htl⟩ := nd_cells hf
      have hsl := ((HO.out.other HG0.out (by omega)).other hgr (by omega)).slIn
      rw [HP.out, HPE.out, List.take_length] at hsl
      refine bodyPost_ret (v := .agg #[.int .i64 k, .string t, .string v, .slice ua ps.length uc]) (by simp [results, Tryz.results24, go_sem, t0, t1, t2, t3]) rfl ⟨ua, uc, by rw [HPE.out]; rfl, hsl.alike ⟨Nat.le_refl _, fun _ _ _ => rfl⟩ fun b hb _ => by omega, (HBR.out.grown HG0.out (by omega) (fun b hb => by injection hb; omega)).grown hgr (by omega) (fun b hb => by injection hb; omega)⟩
end Go.Proofs.YtkebohhogpenkaaGreatDoor

/- The walk of hexaplaref16's text of a node. -/
namespace Go.Proofs.YtkebohhogpenkaaGreatDoor
open Go.RowKit Ev5
set_option linter.unusedSimpArgs false
set_option linter.unusedVariables false

set_option maxRecDepth 100000 in
set_option maxHeartbeats 8000000 in
theorem refPrint16_any (n : Nd) : n.ok → n.size ≤ 50000 → ∀ (w : World) (S : Nat → Prop) (nv : Value), NdV w S nv n →
    Calls Tryz.prog 23 #[nv] w fun e w' => e = .returned (strV (n.txt rbrF)) ∧ Below w.heap.size w w' := by
  refine Nd.ind (C := fun n => n.ok → n.size ≤ 50000 → ∀ (w : World) (S : Nat → Prop) (nv : Value), NdV w S nv n → Calls Tryz.prog 23 #[nv] w fun e w' => e = .returned (strV (n.txt rbrF)) ∧ Below w.heap.size w w') ?_ n
  intro k t v ks ih hok hsz w S nv hv
  rw [ok_mk] at hok
  rw [size_mk] at hsz
  have hlen := txts_take_len (F := rbrF) textF_rbr hok.2 (N := 50000) (by omega)
  have hkl : ks.length ≤ 50000 := by have := sizes_len ks; omega
  obtain ⟨u, rfl, hs⟩ := hv
  simp only [ndV, Nd.k, Nd.t, Nd.v, Nd.kids] at hs ⊢
  obtain ⟨ao, cap, rfl, hcap, hcm⟩ := hs.shape
  have HS := Lib.hid hs.ltC; have HOK := Lib.hid hok; have HSZ := Lib.hid hsz; have HIH := Lib.hid ih
  have HLEN := Lib.hid (show ∀ i, (Lib.join ((Nd.txts rbrF ks).take i) [44]).length ≤ 1050000 * 50000 from fun i => Nat.le_trans (join_lenS [44] (by decide) _) (hlen i))
  have HTL := Lib.hid (show (Nd.txts rbrF ks).length = ks.length from txts_len _ _)
  have HX := Lib.hid (heap_alloc_new w (.cells #[.int .i64 k, .string t, .string v, .slice ao ks.length cap] 24))
  have HB0 := Lib.hid (show Below w.heap.size w (w.alloc (.cells #[.int .i64 k, .string t, .string v, .slice ao ks.length cap] 24)) from (Below.refl _ _).alloc (Nat.le_refl _) _)
  clear hs hok hsz ih hlen
  rw [txt_mk]
  unfold maxLen at *
  go_enter Tryz.func23, Tryz.ntmps23
  go_wp2_with fail
  go_loopw [3, 4] (fun v3 v4 wr => ∃ (i : Nat) (O : ByteArray), i ≤ ks.length ∧ v4 = .int .i64 i ∧ v3 = .string O ∧ Hid (O.data.toList = Lib.join ((Nd.txts rbrF ks).take i) [44]) ∧ Hid (wr.heap[w.heap.size]? = some (.cells #[.int .i64 k, .string t, .string v, .slice ao ks.length cap] 24 (0, 0))) ∧ Hid (Below w.heap.size w wr)) (fun _ v4 _ => ks.length - (intOf v4).toNat)
  case atStart => exact ⟨0, ⟨#[]⟩, Nat.zero_le _, rfl, rfl, rfl, HX.out, HB0.out⟩
  case round =>
    obtain ⟨i, O, hi, rfl, rfl, HO, HXR, HBR⟩ := hrel
    have hOs : O.size ≤ 1050000 * 50000 := by
      have h1 := HLEN.out i
      rw [← HO.out] at h1
      have h3 : O.data.toList.length = O.size := Array.length_toList
      omega
    obtain ⟨x0, x1, x2, x3, _, _, _, _, hxl⟩ := nd_cells HXR.out
    by_cases hlt : i < ks.length
    · have hi0 : (0 : Int) ≤ (i : Int) := Int.natCast_nonneg _
      have hi1 : (i : Int) < (ks.length : Int) := by omega
      obtain ⟨kb, ko, kx, hko, hkw, k0, k1, k2, k3, hkx⟩ := HS.out.at_ i hlt
      obtain ⟨ay, cy, rfl, _, _⟩ := hkx.shape
      subst hko
      have hmem := List.getElem_mem hlt
      have hkok := (oks_iff ks).1 HOK.out.2 _ hmem
      have hks : ks[i].size ≤ 50000 := by have := size_mem hmem; have := HSZ.out; omega
      have hih := HIH.out ks[i] hmem hkok hks
      have htl := txt_len (F := rbrF) textF_rbr ks[i] hkok
      have htk : (Nd.txts rbrF ks).take (i + 1) = (Nd.txts rbrF ks).take i ++ [ks[i].txt rbrF] := by
        rw [List.take_add_one, List.getElem?_eq_getElem (by rw [HTL.out]; exact hlt)]
        congr 1
        show [(Nd.txts rbrF ks)[i]'(by rw [HTL.out]; exact hlt)] = _
        simp [txts_map]
      obtain ⟨y, hy⟩ : ∃ y, ks[i] = y := ⟨_, rfl⟩
      rw [hy] at k0 k1 k2 k3 hkx hih htk hks htl
      obtain ⟨Y, hY1, hY2⟩ : ∃ Y : ByteArray, strV (y.txt rbrF) = .string Y ∧ Y.data.toList = y.txt rbrF := ⟨_, rfl, rfl⟩
      have hYs : Y.size ≤ 1050000 * 50000 := by
        rw [← hY2] at htl
        have h3 : Y.data.toList.length = Y.size := Array.length_toList
        omega
      rw [hY1] at hih
      have HKS := Lib.hid (NdV.mk hkx); have HH := Lib.hid hih; have HTK := Lib.hid htk; have HY := Lib.hid hY2
      have hbw := HBR.out
      have d0 : wr.cell? ⟨kb, ko + i * 4, none⟩ = some (.int .i64 y.k) := (hbw.cell (p := ⟨kb, ko + i * 4, none⟩) hkw).trans k0
      have d1 : wr.cell? ⟨kb, ko + i * 4 + 1, none⟩ = some (.string y.t) := (hbw.cell (p := ⟨kb, ko + i * 4 + 1, none⟩) hkw).trans k1
      have d2 : wr.cell? ⟨kb, ko + i * 4 + 2, none⟩ = some (.string y.v) := (hbw.cell (p := ⟨kb, ko + i * 4 + 2, none⟩) hkw).trans k2
      have d3 : wr.cell? ⟨kb, ko + i * 4 + 3, none⟩ = some (.slice ay y.kids.length cy) := (hbw.cell (p := ⟨kb, ko + i * 4 + 3, none⟩) hkw).trans k3
      have hkl2 : kb < wr.heap.size := Nat.lt_of_lt_of_le hkw hbw.size
      clear k0 k1 k2 k3 hkx hih htk hy hbw hmem hY1 hY2 htl hks hkok
      by_cases h0 : i = 0
      · subst h0
        have HO0 := Lib.hid (show O.data.toList = [] by rw [HO.out]; rfl)
        have HT0 := Lib.hid (show (Nd.txts rbrF ks).take 0 = [] from rfl)
        rw [Nat.zero_mul, Nat.add_zero] at d0 d1 d2 d3
        go_wp2_with fail
        refine (HH.out _ _ _ (HKS.out.below HBR.out)).mono ?_
        rintro e w3 ⟨rfl, hb⟩
        have HB3 := Lib.hid (bthen HBR.out hb)
        have HX3 := Lib.hid ((hb.block _ hxl).trans HXR.out)
        have HO3 := Lib.hid (show (O ++ Y).data.toList = Lib.join ((Nd.txts rbrF ks).take (0 + 1)) [44] by
          rw [HTK.out, join_snoc, if_pos HT0.out, ByteArray.data_append, Array.toList_append, HY.out, HO0.out]; rfl)
        clear hb d0 d1 d2 d3 x0 x1 x2 x3 hxl
        go_wp2_with fail
        go_roundw
        case rel => exact ⟨1, O ++ Y, by omega, by go_num, rfl, HO3.out, HX3.out, HB3.out⟩
        case measure => simp [intOf]; omega
      · have hi2 : (0 : Int) < (i : Int) := by omega
        have hOP : (O ++ (⟨#[44]⟩ : ByteArray)).size ≤ 1050000 * 50000 + 2 := by
          rw [ByteArray.size_append]
          have : (⟨#[44]⟩ : ByteArray).size ≤ 2 := by decide
          omega
        have HO2 := Lib.hid (show (O ++ (⟨#[44]⟩ : ByteArray)).data.toList = Lib.join ((Nd.txts rbrF ks).take i) [44] ++ [44] by
          rw [ByteArray.data_append, Array.toList_append, HO.out])
        go_wp2_with fail
        refine (HH.out _ _ _ (HKS.out.below HBR.out)).mono ?_
        rintro e w3 ⟨rfl, hb⟩
        have HB3 := Lib.hid (bthen HBR.out hb)
        have HX3 := Lib.hid ((hb.block _ hxl).trans HXR.out)
        have HO3 := Lib.hid (show (O ++ (⟨#[44]⟩ : ByteArray) ++ Y).data.toList = Lib.join ((Nd.txts rbrF ks).take (i + 1)) [44] by
          rw [HTK.out, join_snoc, if_neg (fun e => h0 (by have h8 : ((Nd.txts rbrF ks).take i).length = i := (by rw [List.length_take, HTL.out]; omega); rw [e] at h8; exact h8.symm)), ByteArray.data_append, Array.toList_append, HY.out, HO2.out])
        clear hb d0 d1 d2 d3 x0 x1 x2 x3 hxl
        go_wp2_with fail
        go_roundw
        case rel => exact ⟨i + 1, O ++ (⟨#[44]⟩ : ByteArray) ++ Y, by omega, by go_num, rfl, HO3.out, HX3.out, HB3.out⟩
        case measure => simp [intOf]; omega
    · obtain rfl : i = ks.length := by omega
      have hi1 : ¬ ((ks.length : Nat) : Int) < (ks.length : Int) := by omega
      have HJE := Lib.hid (show O.data.toList = Lib.join (Nd.txts rbrF ks) [44] by
        have h := HO.out
        rw [List.take_of_length_le (by rw [HTL.out]; exact Nat.le_refl _)] at h
        exact h)
      clear HO
      go_wp2_with fail
      refine (refQuote_any t wr HOK.out.1.t).mono ?_
      rintro e w5 ⟨rfl, hb⟩
      have HB5 := Lib.hid (bthen HBR.out hb)
      have HX5 := Lib.hid ((hb.block _ hxl).trans HXR.out)
      obtain ⟨Q, hQ⟩ : ∃ Q, (printQ t).1 = Q := ⟨_, rfl⟩
      have HQ := Lib.hid (show Q.data.toList = qt t by rw [← hQ]; rfl)
      have hQs : Q.size ≤ 290 := by
        have h1 := qt_len t
        rw [← HQ.out] at h1
        exact h1
      rw [hQ]
      clear hb hQ x0 x1 x2 x3 hxl
      obtain ⟨x0, x1, x2, x3, _, _, _, _, hxl⟩ := nd_cells HX5.out
      by_cases h1 : k = 1
      · subst h1
        go_wp2_with fail
        go_ret
        exact ⟨rfl, HB5.out⟩
      by_cases h4 : k = 4
      · subst h4
        go_wp2_with fail
        go_ret
        exact ⟨congrArg _ (strV_of HQ.out), HB5.out⟩
      by_cases h5 : k = 5
      · subst h5
        go_wp2_with fail
        go_ret
        refine ⟨congrArg _ (strV_of ?_), HB5.out⟩
        show _ = 91 :: (Lib.join (Nd.txts rbrF ks) [44] ++ [93])
        rw [← HJE.out, ByteArray.data_append, ByteArray.data_append, Array.toList_append, Array.toList_append]; simp
      by_cases h7 : k = 7
      · subst h7
        go_wp2_with fail
        go_ret
        refine ⟨congrArg _ (strV_of ?_), HB5.out⟩
        show _ = 123 :: (Lib.join (Nd.txts rbrF ks) [44] ++ [125])
        rw [← HJE.out, ByteArray.data_append, ByteArray.data_append, Array.toList_append, Array.toList_append]; simp
      by_cases h8 : k = 8
      · subst h8
        have hs1 : (Q ++ (⟨#[58]⟩ : ByteArray)).size ≤ 291 := by
          rw [ByteArray.size_append]
          have : (⟨#[58]⟩ : ByteArray).size = 1 := rfl
          omega
        go_wp2_with fail
        go_ret
        refine ⟨congrArg _ (strV_of ?_), HB5.out⟩
        show _ = qt t ++ 58 :: Lib.join (Nd.txts rbrF ks) [44]
        rw [← HJE.out, ← HQ.out, ByteArray.data_append, ByteArray.data_append, Array.toList_append, Array.toList_append]; simp
      · have q1 : (k == 1) = false := by simp [h1]
        have q4 : (k == 4) = false := by simp [h4]
        have q5 : (k == 5) = false := by simp [h5]
        have q7 : (k == 7) = false := by simp [h7]
        have q8 : (k == 8) = false := by simp [h8]
        have HR := Lib.hid (show rbrF k t v (Nd.txts rbrF ks) = t.data.toList by unfold rbrF; rw [if_neg h1, if_neg h4, if_neg h5, if_neg h7, if_neg h8])
        go_wp2_with fail
        go_ret
        exact ⟨by rw [HR.out]; exact congrArg Ending.returned (strV_t t), HB5.out⟩
end Go.Proofs.YtkebohhogpenkaaGreatDoor

/- The walk of the law InkbracePrints. -/
namespace Go.Proofs.YtkebohhogpenkaaGreatDoor
open Go.RowKit Ev5
set_option linter.unusedSimpArgs false
set_option linter.unusedVariables false

set_option maxRecDepth 100000 in
set_option maxHeartbeats 8000000 in
theorem prints16_law (v : Value) (n : Nd) (w : World) (hE : EnvU w) (h : NdV w (fun b => b < w.heap.size) v n ∧ n.ok ∧ n.size ≤ 1048576) :
    Calls Tryz.prog 6 #[v] w fun e w' => e = .returned (.bool true) ∧ Below w.heap.size w w' := by
  obtain ⟨hv, hok, _⟩ := h
  obtain ⟨u, rfl, hs⟩ := hv
  obtain ⟨ao, cap, rfl, hcap, hcm⟩ := hs.shape
  obtain ⟨Y, hY⟩ : ∃ Y : ByteArray, strV (if (ofP tpB n).2 = 0 then (n.txt brF) else []) = .string Y := ⟨_, rfl⟩
  obtain ⟨E, hEE⟩ : ∃ E, (ofP tpB n).2 = E := ⟨_, rfl⟩
  obtain ⟨q, hq⟩ : ∃ q, plc (ofP tpB n) = q := ⟨_, rfl⟩
  have HPR := Lib.hid (fun (w' : World) (S : Nat → Prop) (v : Value) (h1 : EnvU w') (h2 : NdV w' S v n) (h3 : n.size ≤ 50000) => (inkbracePrint_any n w' S v h1 h2 hok h3).mono fun e w2 h => h.to hY hEE hq)
  have HV := Lib.hid (NdV.mk hs); have HE := Lib.hid hE; have HOK := Lib.hid hok
  have HX1 := Lib.hid (heap_alloc_new w (.cells #[.int .i64 n.k, .string n.t, .string n.v, .slice ao n.kids.length cap] 24))
  have HB1 := Lib.hid (show Below w.heap.size w (w.alloc (.cells #[.int .i64 n.k, .string n.t, .string n.v, .slice ao n.kids.length cap] 24)) from (Below.refl _ _).alloc (Nat.le_refl _) _)
  have HOF := Lib.hid (fun (w' : World) (S : Nat → Prop) (v : Value) (h1 : EnvU w') (h2 : NdV w' S v n) (h3 : n.size ≤ 50000) => (refOfBrace_any n w' S v h1 h2 hok h3).mono fun e w2 h => h.to hEE hq)
  have HY0 := Lib.hid (fun h : E ≠ 0 => show Y = ⟨#[]⟩ by rw [if_neg (by rw [hEE]; exact h)] at hY; injection hY with hY; exact hY.symm)
  have HY1 := Lib.hid (fun h : E = 0 => show strV (n.txt rbrF) = .string Y by rw [refEq16 (hEE.trans h), ← hY, if_pos (hEE.trans h)])
  clear hs hE hok hY hEE hq
  unfold ndV
  go_enter Tryz.func6, Tryz.ntmps6
  go_wp2_with fail
  refine (few16_any n _ _ _ (HV.out.below HB1.out)).mono ?_
  rintro e w2 ⟨rfl, hb⟩
  have HB2 := Lib.hid (bthen HB1.out hb)
  have HX2 := Lib.hid ((hb.block _ (lt_blk HX1.out)).trans HX1.out)
  obtain ⟨x0, x1, x2, x3, _, _, _, _, hxl⟩ := nd_cells HX2.out
  clear hb
  by_cases hf : 0 ≤ n.few 200 20
  · rw [decide_eq_true hf]
    have HN := Lib.hid (few16_size hf)
    clear hf
    go_wp2_with fail
    refine (HPR.out _ _ _ (HE.out.below HB2.out) (HV.out.below HB2.out) (by have := HN.out; omega)).mono ?_
    rintro e w3 ⟨hb, a3, c3, rfl, hi3⟩
    have HB3 := Lib.hid (bthen HB2.out hb)
    have HX3 := Lib.hid ((hb.block _ (lt_blk HX2.out)).trans HX2.out)
    have HI3 := Lib.hid hi3
    clear hb hi3 x0 x1 x2 x3 hxl
    obtain ⟨x0, x1, x2, x3, _, _, _, _, hxl⟩ := nd_cells HX3.out
    go_wp2_with fail
    refine (HOF.out _ _ _ (HE.out.below HB3.out) (HV.out.below HB3.out) (by have := HN.out; omega)).mono ?_
    rintro e w4 ⟨hb, a4, c4, rfl, hi4⟩
    have HB4 := Lib.hid (bthen HB3.out hb)
    have HX4 := Lib.hid ((hb.block _ (lt_blk HX3.out)).trans HX3.out)
    have HI4 := Lib.hid hi4
    have HJ4 := Lib.hid (HI3.out.below hb)
    have hql : q.length ≤ 9223372036854775807 := by
      obtain ⟨_, _, _, h1, h2, _⟩ := HI4.out.ex
      unfold maxLen at h2
      omega
    clear hb hi4 x0 x1 x2 x3 hxl
    go_wp2_with fail
    go_loopw [9] (fun v8 wr => ∃ i : Nat, i ≤ q.length ∧ v8 = .int .i64 i ∧ Hid (Below w4.heap.size w4 wr)) (fun v8 _ => q.length - (intOf v8).toNat)
    case atStart => exact ⟨0, Nat.zero_le _, rfl, Below.refl _ _⟩
    case round =>
      obtain ⟨i, hi, rfl, HBR⟩ := hrel
      by_cases hlt : i < q.length
      · have hi0 : (0 : Int) ≤ (i : Int) := Int.natCast_nonneg _
        have hi1 : (i : Int) < (q.length : Int) := by omega
        obtain ⟨ao3, cp3, e3, _, _, hc3⟩ := (HJ4.out.below HBR.out).ex
        injection e3 with e3 _ e3c
        subst e3c
        obtain ⟨b3, o3, ea3, k3⟩ := hc3 i hlt
        rw [ea3] at e3
        subst e3
        obtain ⟨ao4, cp4, e4, _, _, hc4⟩ := (HI4.out.below HBR.out).ex
        injection e4 with e4 _ e4c
        subst e4c
        obtain ⟨b4, o4, ea4, k4⟩ := hc4 i hlt
        rw [ea4] at e4
        subst e4
        obtain ⟨z, hz⟩ : ∃ z, q[i] = z := ⟨_, rfl⟩
        rw [hz] at k3 k4
        have hl3 := cell_lt k3
        have hl4 := cell_lt k4
        have HD := Lib.hid (show ∀ w' : World, Below wr.heap.size wr w' → w'.cell? ⟨b3, o3 + i, none⟩ = some (.int .i64 z) ∧ w'.cell? ⟨b4, o4 + i, none⟩ = some (.int .i64 z) from fun w' hb => ⟨(hb.cell (p := ⟨b3, o3 + i, none⟩) hl3).trans k3, (hb.cell (p := ⟨b4, o4 + i, none⟩) hl4).trans k4⟩)
        clear hz hc3 hc4 ea3 ea4
        go_wp2_with fail
        go_region_held3? (fun w' => w'.cell? ⟨b3, o3 + i, none⟩ = some (.int .i64 z) ∧ w'.cell? ⟨b4, o4 + i, none⟩ = some (.int .i64 z)) (first | exact HD.out _ (Below.refl _ _).drew | go_keep) ((first | fail))
        go_wp2_with fail
        go_roundw
        case rel => exact ⟨i + 1, by omega, by go_num, bthen HBR.out (Below.refl _ wr).drew⟩
        case measure => simp [intOf]; omega
      · obtain rfl : i = q.length := by omega
        have hi1 : ¬ ((q.length : Nat) : Int) < (q.length : Int) := by omega
        have HBW := Lib.hid (bthen HB4.out HBR.out)
        obtain ⟨x0, x1, x2, x3, _, _, _, _, hxl⟩ := nd_cells ((HBR.out.block _ (lt_blk HX4.out)).trans HX4.out)
        by_cases hz : E = 0
        · subst hz
          have HYE := Lib.hid (HY1.out rfl)
          go_wp2_with fail
          refine (refPrint16_any n HOK.out (by have := HN.out; omega) _ _ _ (HV.out.below HBW.out)).mono ?_
          rintro e w5 ⟨rfl, hb⟩
          have HB5 := Lib.hid (bthen HBW.out hb)
          rw [HYE.out]
          clear hb x0 x1 x2 x3 hxl
          go_wp2_with fail
          refine (lives16_any _ (HE.out.below HB5.out)).mono ?_
          rintro e wl ⟨rfl, hb⟩
          have HBL := Lib.hid (bthen HB5.out hb)
          clear hb
          go_wp2_with fail
          go_ret
          exact ⟨rfl, HBL.out⟩
        · have hzb : (E != 0) = true := by simp [hz]
          obtain rfl := HY0.out hz
          go_wp2_with fail
          refine (lives16_any _ (HE.out.below HBW.out)).mono ?_
          rintro e wl ⟨rfl, hb⟩
          have HBL := Lib.hid (bthen HBW.out hb)
          clear hb
          go_wp2_with fail
          go_ret
          exact ⟨rfl, HBL.out⟩
  · rw [decide_eq_false hf]
    clear hf
    go_wp2_with fail
    refine (lives16_any _ (HE.out.below HB2.out)).mono ?_
    rintro e wl ⟨rfl, hb⟩
    have HBL := Lib.hid (bthen HB2.out hb)
    clear hb
    go_wp2_with fail
    go_ret
    exact ⟨rfl, HBL.out⟩
end Go.Proofs.YtkebohhogpenkaaGreatDoor

/- The walk of the law InkbraceStays. -/
namespace Go.Proofs.YtkebohhogpenkaaGreatDoor
open Go.RowKit Ev5
set_option linter.unusedSimpArgs false
set_option linter.unusedVariables false

set_option maxRecDepth 100000 in
set_option maxHeartbeats 8000000 in
theorem stays16_law (v : Value) (n : Nd) (w : World) (hE : EnvU w) (h : NdV w (fun b => b < w.heap.size) v n ∧ n.ok ∧ n.size ≤ 1048576) :
    Calls Tryz.prog 8 #[v] w fun e w' => e = .returned (.bool true) ∧ Below w.heap.size w w' := by
  obtain ⟨hv, hok, _⟩ := h
  obtain ⟨u, rfl, hs⟩ := hv
  obtain ⟨ao, cap, rfl, hcap, hcm⟩ := hs.shape
  obtain ⟨Y, hY⟩ : ∃ Y : ByteArray, strV (if (ofP tpB n).2 = 0 then (n.txt brF) else []) = .string Y := ⟨_, rfl⟩
  obtain ⟨E, hEE⟩ : ∃ E, (ofP tpB n).2 = E := ⟨_, rfl⟩
  obtain ⟨q, hq⟩ : ∃ q, plc (ofP tpB n) = q := ⟨_, rfl⟩
  have HPR := Lib.hid (fun (w' : World) (S : Nat → Prop) (v : Value) (h1 : EnvU w') (h2 : NdV w' S v n) (h3 : n.size ≤ 50000) => (inkbracePrint_any n w' S v h1 h2 hok h3).mono fun e w2 h => h.to hY hEE hq)
  have HV := Lib.hid (NdV.mk hs); have HE := Lib.hid hE; have HOK := Lib.hid hok
  have HX1 := Lib.hid (heap_alloc_new w (.cells #[.int .i64 n.k, .string n.t, .string n.v, .slice ao n.kids.length cap] 24))
  have HB1 := Lib.hid (show Below w.heap.size w (w.alloc (.cells #[.int .i64 n.k, .string n.t, .string n.v, .slice ao n.kids.length cap] 24)) from (Below.refl _ _).alloc (Nat.le_refl _) _)
  clear hs hE hok hY hEE hq
  unfold ndV
  go_enter Tryz.func8, Tryz.ntmps8
  go_wp2_with fail
  refine (few16_any n _ _ _ (HV.out.below HB1.out)).mono ?_
  rintro e w2 ⟨rfl, hb⟩
  have HB2 := Lib.hid (bthen HB1.out hb)
  have HX2 := Lib.hid ((hb.block _ (lt_blk HX1.out)).trans HX1.out)
  obtain ⟨x0, x1, x2, x3, _, _, _, _, hxl⟩ := nd_cells HX2.out
  clear hb
  by_cases hf : 0 ≤ n.few 200 20
  · rw [decide_eq_true hf]
    have HN := Lib.hid (few16_size hf)
    clear hf
    go_wp2_with fail
    refine (copied16_any n (by have := HN.out; omega) _ _ _ (HV.out.below HB2.out)).mono ?_
    rintro e w3 ⟨am, cm, rfl, hsm, hb⟩
    have HB3 := Lib.hid (bthen HB2.out hb)
    have HX3 := Lib.hid ((hb.block _ (lt_blk HX2.out)).trans HX2.out)
    have HBM := Lib.hid (show Below w3.heap.size w3 (w3.alloc (.cells #[.int .i64 n.k, .string n.t, .string n.v, .slice am n.kids.length cm] 24)) from (Below.refl _ _).alloc (Nat.le_refl _) _)
    have HM := Lib.hid (show NdV w3 _ (ndV n (.slice am n.kids.length cm)) n from .mk hsm)
    clear hb hsm x0 x1 x2 x3 hxl
    obtain ⟨x0, x1, x2, x3, _, _, _, _, hxl⟩ := nd_cells HX3.out
    go_wp2_with fail
    refine (HPR.out _ _ _ (HE.out.below (bthen HB3.out HBM.out)) (HM.out.below HBM.out) (by have := HN.out; omega)).mono ?_
    rintro e w4 ⟨hb, a4, c4, rfl, _⟩
    have HB34 := Lib.hid (bthen HBM.out hb)
    have HB4 := Lib.hid (bthen HB3.out HB34.out)
    have HX4 := Lib.hid ((HB34.out.block _ hxl).trans HX3.out)
    have HM4 := Lib.hid ((hb.block w3.heap.size (by simp)).trans (heap_alloc_new w3 (.cells #[.int .i64 n.k, .string n.t, .string n.v, .slice am n.kids.length cm] 24)))
    clear hb x0 x1 x2 x3 hxl
    obtain ⟨x0, x1, x2, x3, _, _, _, _, hxl⟩ := nd_cells HX4.out
    obtain ⟨y0, y1, y2, y3, _, _, _, _, hyl⟩ := nd_cells HM4.out
    go_wp2_with fail
    refine (HPR.out _ _ _ (HE.out.below HB4.out) (HV.out.below HB4.out) (by have := HN.out; omega)).mono ?_
    rintro e w5 ⟨hb, a5, c5, rfl, _⟩
    have HB35 := Lib.hid (bthen HB34.out hb)
    have HB5 := Lib.hid (bthen HB4.out hb)
    have HX5 := Lib.hid ((hb.block _ hxl).trans HX4.out)
    have HM5 := Lib.hid ((hb.block _ hyl).trans HM4.out)
    clear hb x0 x1 x2 x3 hxl y0 y1 y2 y3 hyl
    obtain ⟨x0, x1, x2, x3, _, _, _, _, hxl⟩ := nd_cells HX5.out
    obtain ⟨y0, y1, y2, y3, _, _, _, _, hyl⟩ := nd_cells HM5.out
    go_wp2_with fail
    refine (refSame_any n _ _ _ _ _ n (HM.out.below HB35.out) (HV.out.below HB5.out)).mono ?_
    rintro e w6 ⟨r, rfl, hr, hb⟩
    have HB6 := Lib.hid (bthen HB5.out hb)
    obtain rfl : r = true := hr.2 rfl
    clear hb hr x0 x1 x2 x3 hxl y0 y1 y2 y3 hyl
    go_wp2_with fail
    refine (lives16_any _ (HE.out.below HB6.out)).mono ?_
    rintro e wl ⟨rfl, hb⟩
    have HBL := Lib.hid (bthen HB6.out hb)
    clear hb
    go_wp2_with fail
    go_ret
    exact ⟨rfl, HBL.out⟩
  · rw [decide_eq_false hf]
    clear hf
    go_wp2_with fail
    refine (lives16_any _ (HE.out.below HB2.out)).mono ?_
    rintro e wl ⟨rfl, hb⟩
    have HBL := Lib.hid (bthen HB2.out hb)
    clear hb
    go_wp2_with fail
    go_ret
    exact ⟨rfl, HBL.out⟩
end Go.Proofs.YtkebohhogpenkaaGreatDoor

/- The walk of the law InkbraceApart. -/
namespace Go.Proofs.YtkebohhogpenkaaGreatDoor
open Go.RowKit Ev5
set_option linter.unusedSimpArgs false
set_option linter.unusedVariables false

set_option maxRecDepth 100000 in
set_option maxHeartbeats 8000000 in
theorem apart16_law (va : Value) (m : Nd) (vb : Value) (n : Nd) (w : World) (hE : EnvU w) (hva : NdV w (fun b => b < w.heap.size) va m ∧ m.ok ∧ m.size ≤ 1048576) (hvb : NdV w (fun b => b < w.heap.size) vb n ∧ n.ok ∧ n.size ≤ 1048576) :
    Calls Tryz.prog 7 #[va, vb] w fun e w' => e = .returned (.bool true) ∧ Below w.heap.size w w' := by
  obtain ⟨⟨u, rfl, hs⟩, hok, _⟩ := hva
  obtain ⟨⟨u', rfl, hs'⟩, hok', _⟩ := hvb
  obtain ⟨ao, cap, rfl, hcap, hcm⟩ := hs.shape
  obtain ⟨ao', cap', rfl, hcap', hcm'⟩ := hs'.shape
  obtain ⟨Y, hY⟩ : ∃ Y : ByteArray, strV (if (ofP tpB m).2 = 0 then (m.txt brF) else []) = .string Y := ⟨_, rfl⟩
  obtain ⟨E, hEE⟩ : ∃ E, (ofP tpB m).2 = E := ⟨_, rfl⟩
  obtain ⟨q, hq⟩ : ∃ q, plc (ofP tpB m) = q := ⟨_, rfl⟩
  obtain ⟨Z, hZ⟩ : ∃ Z : ByteArray, strV (if (ofP tpB n).2 = 0 then (n.txt brF) else []) = .string Z := ⟨_, rfl⟩
  obtain ⟨F, hFF⟩ : ∃ F, (ofP tpB n).2 = F := ⟨_, rfl⟩
  obtain ⟨p, hp⟩ : ∃ p, plc (ofP tpB n) = p := ⟨_, rfl⟩
  have HPR := Lib.hid (fun (w' : World) (S : Nat → Prop) (v : Value) (h1 : EnvU w') (h2 : NdV w' S v m) (h3 : m.size ≤ 50000) => (inkbracePrint_any m w' S v h1 h2 hok h3).mono fun e w2 h => h.to hY hEE hq)
  have HPR' := Lib.hid (fun (w' : World) (S : Nat → Prop) (v : Value) (h1 : EnvU w') (h2 : NdV w' S v n) (h3 : n.size ≤ 50000) => (inkbracePrint_any n w' S v h1 h2 hok' h3).mono fun e w2 h => h.to hZ hFF hp)
  have HSM := Lib.hid (fun (h : E = 0) (h' : F = 0) => show Y = Z ↔ m = n by
    rw [if_pos (hEE.trans h)] at hY
    rw [if_pos (hFF.trans h')] at hZ
    rw [← br_same (hEE.trans h) (hFF.trans h')]
    constructor
    · rintro rfl
      have h9 := hY.trans hZ.symm
      unfold strV at h9
      injection h9 with h9
      injection h9 with h9
      exact Array.toList_inj.2 h9 |> fun h => by simpa using h
    · intro h9
      rw [h9, hZ] at hY
      injection hY with hY
      exact hY.symm)
  have HE := Lib.hid hE
  have HV := Lib.hid (NdV.mk hs)
  have HV' := Lib.hid (NdV.mk hs')
  have HB1 := Lib.hid (show Below w.heap.size w ((w.alloc (.cells #[.int .i64 m.k, .string m.t, .string m.v, .slice ao m.kids.length cap] 24)).alloc (.cells #[.int .i64 n.k, .string n.t, .string n.v, .slice ao' n.kids.length cap'] 24)) from ((Below.refl _ _).alloc (Nat.le_refl _) _).alloc (by simp) _)
  have HX1 := Lib.hid (two_first w (.cells #[.int .i64 m.k, .string m.t, .string m.v, .slice ao m.kids.length cap] 24) (.cells #[.int .i64 n.k, .string n.t, .string n.v, .slice ao' n.kids.length cap'] 24))
  have HY1 := Lib.hid (two_last w (.cells #[.int .i64 m.k, .string m.t, .string m.v, .slice ao m.kids.length cap] 24) (.cells #[.int .i64 n.k, .string n.t, .string n.v, .slice ao' n.kids.length cap'] 24))
  clear hs hs' hE hok hok' hY hEE hq hZ hFF hp
  unfold ndV
  go_enter Tryz.func7, Tryz.ntmps7
  go_wp2_with fail
  refine (few16_any m _ _ _ (HV.out.below HB1.out)).mono ?_
  rintro e w2 ⟨rfl, hb⟩
  have HX2 := Lib.hid ((hb.block _ (lt_blk HX1.out)).trans HX1.out)
  have HY2 := Lib.hid ((hb.block _ (lt_blk HY1.out)).trans HY1.out)
  have HB2 := Lib.hid (bthen HB1.out hb)
  obtain ⟨x0, x1, x2, x3, _, _, _, _, hxl⟩ := nd_cells HX2.out
  obtain ⟨y0, y1, y2, y3, _, _, _, _, hyl⟩ := nd_cells HY2.out
  obtain ⟨G, hG⟩ : ∃ G, decide (0 ≤ m.few 200 20) = G := ⟨_, rfl⟩
  have HG := Lib.hid hG
  rw [hG]
  clear hb hG
  go_wp2_with fail
  refine (few16_any n _ _ _ (HV'.out.below HB2.out)).mono ?_
  rintro e w3 ⟨rfl, hb⟩
  have HX3 := Lib.hid ((hb.block _ hxl).trans HX2.out)
  have HY3 := Lib.hid ((hb.block _ hyl).trans HY2.out)
  have HB3 := Lib.hid (bthen HB2.out hb)
  clear x0 x1 x2 x3 hxl y0 y1 y2 y3 hyl
  obtain ⟨x0, x1, x2, x3, _, _, _, _, hxl⟩ := nd_cells HX3.out
  obtain ⟨y0, y1, y2, y3, _, _, _, _, hyl⟩ := nd_cells HY3.out
  obtain ⟨H, hH⟩ : ∃ H, decide (0 ≤ n.few 200 20) = H := ⟨_, rfl⟩
  have HH := Lib.hid hH
  rw [hH]
  clear hb hH
  by_cases hGH : G = true ∧ H = true
  · obtain ⟨rfl, rfl⟩ := hGH
    have HN := Lib.hid (And.intro (few16_size (of_decide_eq_true HG.out)) (few16_size (of_decide_eq_true HH.out)))
    go_wp2_with fail
    refine (HPR.out _ _ _ (HE.out.below HB3.out) (HV.out.below HB3.out) (by have := HN.out.1; omega)).mono ?_
    rintro e w4 ⟨hb, a4, c4, rfl, _⟩
    have HX4 := Lib.hid ((hb.block _ hxl).trans HX3.out)
    have HY4 := Lib.hid ((hb.block _ hyl).trans HY3.out)
    have HB4 := Lib.hid (bthen HB3.out hb)
    clear hb x0 x1 x2 x3 hxl y0 y1 y2 y3 hyl
    obtain ⟨x0, x1, x2, x3, _, _, _, _, hxl⟩ := nd_cells HX4.out
    obtain ⟨y0, y1, y2, y3, _, _, _, _, hyl⟩ := nd_cells HY4.out
    go_wp2_with fail
    refine (HPR'.out _ _ _ (HE.out.below HB4.out) (HV'.out.below HB4.out) (by have := HN.out.2; omega)).mono ?_
    rintro e w5 ⟨hb, a5, c5, rfl, _⟩
    have HX5 := Lib.hid ((hb.block _ hxl).trans HX4.out)
    have HY5 := Lib.hid ((hb.block _ hyl).trans HY4.out)
    have HB5 := Lib.hid (bthen HB4.out hb)
    clear hb x0 x1 x2 x3 hxl y0 y1 y2 y3 hyl
    obtain ⟨x0, x1, x2, x3, _, _, _, _, hxl⟩ := nd_cells HX5.out
    obtain ⟨y0, y1, y2, y3, _, _, _, _, hyl⟩ := nd_cells HY5.out
    by_cases hz : E = 0
    · subst hz
      by_cases hz' : F = 0
      · subst hz'
        have HS := Lib.hid (HSM.out rfl rfl)
        go_wp2_with fail
        refine (refSame_any m _ _ _ _ _ n (HV.out.below HB5.out) (HV'.out.below HB5.out)).mono ?_
        rintro e w6 ⟨r, rfl, hr, hb⟩
        have HB6 := Lib.hid (bthen HB5.out hb)
        clear hb x0 x1 x2 x3 hxl y0 y1 y2 y3 hyl
        by_cases hmn : m = n
        · obtain rfl : r = true := hr.2 hmn
          obtain rfl : Y = Z := HS.out.2 hmn
          clear hmn hr
          go_wp2_with fail
          refine (lives16_any _ (HE.out.below HB6.out)).mono ?_
          rintro e wl ⟨rfl, hb⟩
          have HBL := Lib.hid (bthen HB6.out hb)
          clear hb
          go_wp2_with fail
          go_ret
          exact ⟨rfl, HBL.out⟩
        · obtain rfl : r = false := by cases r with
            | false => rfl
            | true => exact absurd (hr.1 rfl) hmn
          have hne : (Y.toList == Z.toList) = false := by rw [beq_eq_false_iff_ne]; exact fun e => hmn (HS.out.1 (toL_inj e))
          clear hmn hr
          go_wp2_with fail
          refine (lives16_any _ (HE.out.below HB6.out)).mono ?_
          rintro e wl ⟨rfl, hb⟩
          have HBL := Lib.hid (bthen HB6.out hb)
          clear hb
          go_wp2_with fail
          go_ret
          exact ⟨rfl, HBL.out⟩
      · have hzb : (F != 0) = true := by simp [hz']
        go_wp2_with fail
        refine (lives16_any _ (HE.out.below HB5.out)).mono ?_
        rintro e wl ⟨rfl, hb⟩
        have HBL := Lib.hid (bthen HB5.out hb)
        clear hb
        go_wp2_with fail
        go_ret
        exact ⟨rfl, HBL.out⟩
    · have hzb : (E != 0) = true := by simp [hz]
      go_wp2_with fail
      refine (lives16_any _ (HE.out.below HB5.out)).mono ?_
      rintro e wl ⟨rfl, hb⟩
      have HBL := Lib.hid (bthen HB5.out hb)
      clear hb
      go_wp2_with fail
      go_ret
      exact ⟨rfl, HBL.out⟩
  · have hFF : (G = false) ∨ (G = true ∧ H = false) := by cases G <;> cases H <;> simp_all
    clear hGH HG HH
    rcases hFF with rfl | ⟨rfl, rfl⟩
    all_goals
      go_wp2_with fail
      refine (lives16_any _ (HE.out.below HB3.out)).mono ?_
      rintro e wl ⟨rfl, hb⟩
      have HBL := Lib.hid (bthen HB3.out hb)
      clear hb
      go_wp2_with fail
      go_ret
      exact ⟨rfl, HBL.out⟩
end Go.Proofs.YtkebohhogpenkaaGreatDoor
