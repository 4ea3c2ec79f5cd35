import Derived.WalkSmall
import Derived.Test.YtmniblcooficgaaGreatDoorD26
import Derived.Test.YtmniblcooficgaaGreatDoorD25
namespace Go.Proofs.YtmniblcooficgaaGreatDoor
open Go.RowKit Ev5
set_option linter.unusedSimpArgs false
set_option linter.unusedVariables false

def IntsC (l : List Int) (w : World) (e : Ending) (w' : World) : Prop := ∃ v, e = .returned v ∧ w'.ownsRow w.heap.size 3 1 v l.length (intsR l) ∧ Below w.heap.size w w'
set_option maxRecDepth 100000 in
set_option maxHeartbeats 4000000 in
theorem cloneC_any (w : World) (u : Value) (l : List Int) (hs : IntsIn w u l) (hl : l.length ≤ 1048576) :
    Calls Tryz.prog 52 #[u] w (IntsC l w) := by
  obtain ⟨ao, cap, rfl, hc, hm, hcell⟩ := hs.ex
  obtain ⟨i0, hi, hz0, hz1, hz2⟩ := info_parts infoI
  have HI := Lib.hid hi; clear hi
  have H1 := Lib.hid (intsR_one l)
  clear hs
  unfold maxLen at hm
  have q22 : ∀ (w : World) (a : Option Addr) (n c n' c' : Nat), (binOp .eql 27 (.slice a n c) (.slice none n' c')).run Tryz.prog w = .ok (.bool a.isNone) w := fun w a n c n' c' => Lib.run_eql_slice_nil w _ _ a n c n' c' Tryz.underlying27
  cases ao with
  | none =>
    obtain rfl : l = [] := by
      refine List.eq_nil_of_length_eq_zero (Nat.eq_zero_of_not_pos fun h => ?_)
      obtain ⟨b, o, e, _⟩ := hcell 0 h
      cases e
    go_enter Tryz.func52, Tryz.ntmps52
    go_wp2_with fail
    go_ret
    exact ⟨_, rfl, World.ownsRow_nil _ _ _ _, Below.refl _ _⟩
  | some a =>
    obtain ⟨ab, aoff, asp⟩ := a
    have HC := Lib.hid (show ∀ (w' : World), Below w.heap.size w w' → ∀ j u, (intsR l)[j]? = some u → w'.cell? ((⟨ab, aoff, asp⟩ : Addr).add j) = some u from fun w' hb j u hj => by
      obtain ⟨hj1, hj2⟩ := List.getElem?_eq_some_iff.1 hj
      rw [intsR_len] at hj1
      obtain ⟨b, o, e, h⟩ := hcell j hj1
      injection e with e; injection e with e1 e2 e3; subst e1; subst e2; subst e3
      have h5 : u = .int .i64 l[j] := by rw [← hj2]; simp [intsR]
      rw [Addr.add_lit, hb.cell (p := ⟨ab, aoff + j, none⟩) (cell_lt h), h5]
      exact h)
    clear hcell
    go_enter Tryz.func52, Tryz.ntmps52
    go_wp2_with (at_builtin; refine wpList_append_own_at _ rfl _ _ 27 rfl w.heap.size 3 i0 _ 1 8 Tryz.underlying27 HI.out hz0 hz1 hz2 rfl (by omega) _ 0 [] (by rfl) (World.ownsRow_made w #[] 0 (Nat.le_refl _) (by unfold maxLen; omega) rfl) ⟨ab, aoff, asp⟩ l.length cap (intsR l) (by rfl) (by rw [intsR_len]; omega) (HC.out _ ((Below.refl _ _).alloc (Nat.le_refl _) _)) H1.out (by unfold maxLen; omega) (by omega) (by simp) ?_; intro v' w' hown hgrow _ hat)
    all_goals
      go_ret
      refine ⟨v', rfl, ?_, ?_⟩
      · rw [Nat.zero_add, List.nil_append] at hown; exact hown
      · exact ((Below.refl _ _).alloc (Nat.le_refl _) _).grown hgrow (by simp) (fun k hk => by simp [Value.ownBlock] at hk; omega)

structure Lk (w : World) (B X : Nat) (v : Value) (p : List Int) : Prop where
  blk : w.heap[X]? = some (.cells #[v] 42 (0, 0))
  row : w.ownsRow B 3 1 v p.length (intsR p)
  ne : v.ownBlock ≠ some X
  lo : B ≤ X
  ok : ∀ x ∈ p, (Lit.int .i64 x).wf = true
structure LkFar (X : Nat) (v : Value) (w w' : World) : Prop where
  os : w'.os = w.os
  tape : w'.tape = w.tape
  output : w'.output = w.output
  size : w.heap.size ≤ w'.heap.size
  oth : ∀ k, k < w.heap.size → k ≠ X → v.ownBlock ≠ some k → w'.heap[k]? = w.heap[k]?
structure LkPost (B X : Nat) (v : Value) (p : List Int) (w w' : World) (v' : Value) : Prop where
  lk : Lk w' B X v' p
  far : LkFar X v w w'
  at_ : v'.ownBlock = v.ownBlock ∨ ∀ g, v'.ownBlock = some g → w.heap.size ≤ g
theorem LkFar.refl (X : Nat) (v : Value) (w : World) : LkFar X v w w := ⟨rfl, rfl, rfl, Nat.le_refl _, fun _ _ _ _ => rfl⟩
theorem LkFar.of {X : Nat} {v : Value} {w w' : World} (h : Below w.heap.size w w') : LkFar X v w w' := ⟨h.os, h.tape, h.output, h.size, fun k hk _ _ => h.block k hk⟩
theorem LkFar.trans {X : Nat} {v v1 : Value} {w w1 w2 : World} (h : LkFar X v w w1) (ha : v1.ownBlock = v.ownBlock ∨ ∀ g, v1.ownBlock = some g → w.heap.size ≤ g) (k : LkFar X v1 w1 w2) : LkFar X v w w2 :=
  ⟨k.os.trans h.os, k.tape.trans h.tape, k.output.trans h.output, Nat.le_trans h.size k.size, fun b hb hx hv => by
    rw [k.oth b (Nat.lt_of_lt_of_le hb h.size) hx (fun e => by
      rcases ha with e1 | e1
      · exact hv (e1 ▸ e)
      · have := e1 b e; omega)]
    exact h.oth b hb hx hv⟩
theorem LkFar.below {X B : Nat} {v : Value} {w w' : World} (h : LkFar X v w w') (hX : B ≤ X) (hv : ∀ g, v.ownBlock = some g → B ≤ g) (hB : B ≤ w.heap.size) : Below B w w' :=
  ⟨h.os, h.tape, h.output, h.size, fun k hk => h.oth k (by omega) (by omega) (fun e => by have := hv k e; omega)⟩
theorem Lk.below {w w' : World} {B X : Nat} {v : Value} {p : List Int} (h : Lk w B X v p) (hb : Below w.heap.size w w') : Lk w' B X v p :=
  ⟨(hb.block _ (lt_blk h.blk)).trans h.blk, h.row.kept (row := none) ⟨hb.os, hb.tape, hb.output, hb.size, fun k hk _ => hb.block k hk⟩ (by cases hv : v.ownBlock <;> simp), h.ne, h.lo, h.ok⟩
theorem Lk.ints {w : World} {B X : Nat} {v : Value} {p : List Int} (h : Lk w B X v p) : IntsIn w v p := ownsR_ints h.row h.ok
def noV (a : Option Addr) (n c : Nat) : List PanicEntry := [{ v := .iface 39 (.agg #[.slice a n c]), recovered := false }]
structure PlIn (w w' : World) (a : Option Addr) (c : Nat) (q : List Int) : Prop where
  ints : IntsIn w' (.slice a q.length c) q
  new : ∀ ad, a = some ad → w.heap.size ≤ ad.block
theorem PlIn.mono {w w1 w' : World} {a : Option Addr} {c : Nat} {q : List Int} (h : PlIn w1 w' a c q) (k : w.heap.size ≤ w1.heap.size) : PlIn w w' a c q := ⟨h.ints, fun ad e => Nat.le_trans k (h.new ad e)⟩
def LkEnd (B X : Nat) (v : Value) (p : List Int) (o : Option (List Int)) (w : World) (e : Ending) (w' : World) : Prop :=
  match o with
  | none => (∃ r, e = .returned r) ∧ ∃ v', LkPost B X v p w w' v'
  | some q => LkFar X v w w' ∧ ∃ a c, e = .panicked (noV a q.length c) ∧ PlIn w w' a c q
set_option maxRecDepth 100000 in
set_option maxHeartbeats 2000000 in
theorem fails_any (w : World) (B X : Nat) (v : Value) (p : List Int) (h : Lk w B X v p) (hl : p.length ≤ 1000000) :
    Calls Tryz.prog 27 #[.pointer (some ⟨X, 0, none⟩)] w (LkEnd B X v p (some p) w) := by
  obtain ⟨a, c, rfl⟩ := own_shapeC h.row
  have H := Lib.hid h
  obtain ⟨c0, f0⟩ := blk_cell h.blk 0 (by simp)
  clear h
  go_enter Tryz.func27, Tryz.ntmps27
  go_wp2_with fail
  refine (cloneC_any w _ p H.out.ints (by omega)).mono ?_
  rintro e w1 ⟨v1, rfl, hown, hb⟩
  have hnew : ∀ ad l c, v1 = .slice (some ad) l c → w.heap.size ≤ ad.block := by
    intro ad l c e
    rcases hown.2 with ⟨e2, _⟩ | ⟨g, cap, cur, e2, hb, _⟩
    · rw [e2] at e; injection e with e; cases e
    · rw [e2] at e; injection e with e; injection e with e; rw [← e]; exact hb
  obtain ⟨a1, c1, rfl⟩ := own_shapeC hown
  have HI := Lib.hid (show PlIn w w1 a1 c1 p from ⟨ownsR_ints hown H.out.ok, fun ad e => hnew ad _ _ (by rw [e])⟩)
  have HB := Lib.hid hb
  clear hown hb
  go_wp2_with fail
  exact ⟨rfl, LkFar.of HB.out, a1, c1, rfl, HI.out⟩
theorem row_cut {w : World} {B : Nat} {v : Value} {p : List Int} {x : Int} (h : w.ownsRow B 3 1 v (p ++ [x]).length (intsR (p ++ [x]))) : ∃ g c, v = .slice (some ⟨g, 0, none⟩) (p.length + 1) c ∧ p.length + 1 ≤ c ∧ c ≤ maxLen ∧ w.ownsRow B 3 1 (.slice (some ⟨g, 0, none⟩) p.length c) p.length (intsR p) := by
  rcases h.2 with ⟨_, h0⟩ | ⟨g, cap, cur, rfl, hb, hg, hc, hm, hs, ht⟩
  · simp at h0
  · rw [List.length_append, List.length_singleton] at hc ht ⊢
    refine ⟨g, cap, rfl, hc, hm, by rw [intsR_len]; omega, .inr ⟨g, cap, cur, rfl, hb, hg, by omega, hm, hs, ?_⟩⟩
    have h1 := congrArg (List.take p.length) ht
    rw [List.take_take] at h1
    have h2 : intsR (p ++ [x]) = intsR p ++ [.int .i64 x] := List.map_append ..
    rw [h2, List.take_append_of_le_length (by rw [intsR_len]; exact Nat.le_refl _), show (intsR p).take p.length = intsR p from by rw [← intsR_len p, List.take_length], Nat.min_eq_left (by omega)] at h1
    rw [Nat.mul_one]; exact h1
def kidsO (out : Nat → Option (List Int)) (m : Nat) : Option (List Int) := firstSome ((List.range m).map out)
theorem kidsO_none {out : Nat → Option (List Int)} {m : Nat} (h : ∀ j, j < m → out j = none) : kidsO out m = none :=
  firstSome_none fun x hx => by
    obtain ⟨j, hj, rfl⟩ := List.mem_map.1 hx
    exact h j (List.mem_range.1 hj)
theorem kidsO_some {out : Nat → Option (List Int)} {m i : Nat} {q : List Int} (hi : i < m) (h : ∀ j, j < i → out j = none) (hq : out i = some q) : kidsO out m = some q :=
  firstSome_some (i := i) (by simp [hi, hq]) fun j hj => by simp [show j < m by omega, h j hj]
set_option maxRecDepth 100000 in
set_option maxHeartbeats 8000000 in
theorem kids_any (f : FuncId) (cap : Array Value) (eg : ∀ args w, (callFunc f args).run Tryz.prog w = .ok (.enter f args) w) (w : World) (B X : Nat) (v : Value) (p : List Int) (S : Nat → Prop) (n : Nd) (nv : Value) (out : Nat → Option (List Int))
    (h : Lk w B X v p) (hn : NdV w S nv n) (hSB : ∀ b, S b → b < B) (hB : B ≤ w.heap.size) (hl : p.length + n.kids.length ≤ 1000000) (hk : n.kids.length ≤ 100000)
    (hcall : ∀ (W : World) (v' : Value) (i : Nat) (hi : i < n.kids.length) (u : Value), LkFar X v w W → (v'.ownBlock = v.ownBlock ∨ ∀ g, v'.ownBlock = some g → w.heap.size ≤ g) → Lk W B X v' (p ++ [(i : Int)]) → NdV W S (ndV n.kids[i] u) n.kids[i] → Calls Tryz.prog f (#[.int .i64 i, ndV n.kids[i] u] ++ cap) W (LkEnd B X v' (p ++ [(i : Int)]) (out i) W)) :
    Calls Tryz.prog 28 #[.pointer (some ⟨X, 0, none⟩), nv, .func (.func f) #[] cap] w (LkEnd B X v p (kidsO out n.kids.length) w) := by
  obtain ⟨u, rfl, hs⟩ := hn
  obtain ⟨ao, c, rfl, hcap, hcm⟩ := hs.shape
  obtain ⟨i0, hinf, hz0, hz1, hz2⟩ := info_parts infoI
  have HI := Lib.hid hinf
  have H := Lib.hid h; have HS := Lib.hid hs; have HSB := Lib.hid hSB; have HBB := Lib.hid hB; have HCA := Lib.hid hcall
  have HX := Lib.hid (heap_alloc_new w (.cells #[.int .i64 n.k, .string n.t, .string n.v, .slice ao n.kids.length c] 24))
  have HB0 := Lib.hid (show Below w.heap.size w (w.alloc (.cells #[.int .i64 n.k, .string n.t, .string n.v, .slice ao n.kids.length c] 24)) from (Below.refl _ _).alloc (Nat.le_refl _) _)
  obtain ⟨x0, x1, x2, x3, _, _, _, _, hxl⟩ := nd_cells HX.out
  have HV := Lib.hid (fun g (e : v.ownBlock = some g) => (h.row.lt g e).1)
  clear h hs hSB hB hcall hinf
  unfold ndV maxLen at *
  go_enter Tryz.func28, Tryz.ntmps28
  go_wp2_with fail
  clear x0 x1 x2 x3 hxl
  go_loopw [11] (fun v11 wr => ∃ i : Nat, i ≤ n.kids.length ∧ v11 = .int .i64 i ∧ Hid (∀ j, j < i → out j = none) ∧ Hid (∃ v', LkPost B X v p w wr v')) (fun v11 _ => n.kids.length - (intOf v11).toNat)
  case atStart => exact ⟨0, Nat.zero_le _, rfl, by show ∀ _, _; intro j hj; omega, v, H.out.below HB0.out, LkFar.of HB0.out, .inl rfl⟩
  case round =>
    obtain ⟨i, hi, rfl, HA, HP⟩ := hrel
    obtain ⟨v', hp⟩ := HP.out
    by_cases hlt : i < n.kids.length
    · have hi0 : (0 : Int) ≤ (i : Int) := Int.natCast_nonneg _
      have hi1 : (i : Int) < (n.kids.length : Int) := by omega
      obtain ⟨va, vc, rfl⟩ := own_shapeC hp.lk.row
      have HP2 := Lib.hid hp
      have hbw : Below B w wr := hp.far.below H.out.lo HV.out HBB.out
      obtain ⟨kb, ko, kx, hko, hkw, k0, k1, k2, k3, hkx⟩ := HS.out.at_ i hlt
      obtain ⟨ay, cy, rfl, _, _⟩ := hkx.shape
      have hkB : kb < B := by
        obtain ⟨a2, c2, e2, _, _, hor⟩ := HS.out
        rcases hor with h0 | ⟨b', o', e', hsb, _, _⟩
        · rw [h0] at hlt; simp at hlt
        · injection e2 with e2 _ _
          rw [e2, e'] at hko
          injection hko with hko
          injection hko with hko _ _
          rw [← hko]; exact HSB.out _ hsb
      subst hko
      have HCI := Lib.hid (HCA.out)
      obtain ⟨y, hy⟩ : ∃ y, n.kids[i] = y := ⟨_, rfl⟩
      have HY := Lib.hid hy
      rw [hy] at k0 k1 k2 k3 hkx
      have HKS := Lib.hid hkx
      have d0 : wr.cell? ⟨kb, ko + i * 4, none⟩ = some (.int .i64 y.k) := (hbw.cell (p := ⟨kb, ko + i * 4, none⟩) hkB).trans k0
      have d1 : wr.cell? ⟨kb, ko + i * 4 + 1, none⟩ = some (.string y.t) := (hbw.cell (p := ⟨kb, ko + i * 4 + 1, none⟩) hkB).trans k1
      have d2 : wr.cell? ⟨kb, ko + i * 4 + 2, none⟩ = some (.string y.v) := (hbw.cell (p := ⟨kb, ko + i * 4 + 2, none⟩) hkB).trans k2
      have d3 : wr.cell? ⟨kb, ko + i * 4 + 3, none⟩ = some (.slice ay y.kids.length cy) := (hbw.cell (p := ⟨kb, ko + i * 4 + 3, none⟩) hkB).trans k3
      have hkl : kb < wr.heap.size := Nat.lt_of_lt_of_le hkB (Nat.le_trans HBB.out hp.far.size)
      obtain ⟨c0, f0⟩ := blk_cell hp.lk.blk 0 (by simp)
      have hXl := lt_blk hp.lk.blk
      have hb1 : Below wr.heap.size wr ((wr.alloc (.cells #[.int .i64 y.k, .string y.t, .string y.v, .slice ay y.kids.length cy] 24)).alloc (.cells #[.int .i64 i] 3)) := ((Below.refl _ _).alloc (Nat.le_refl _) _).alloc (by simp) _
      have hlk1 := hp.lk.below hb1
      have HL1 := Lib.hid hlk1
      have HB1 := Lib.hid hb1
      have HBX := Lib.hid (two_first wr (.cells #[.int .i64 y.k, .string y.t, .string y.v, .slice ay y.kids.length cy] 24) (.cells #[.int .i64 i] 3))
      have HBW := Lib.hid hbw
      clear k0 k1 k2 k3 hkx hb1 hlk1 hp hbw hy
      go_wp2_with (at_builtin; refine wpList_append_own_at _ rfl _ _ 27 rfl B 3 i0 _ 1 8 Tryz.underlying27 HI.out hz0 hz1 hz2 rfl (by omega) _ p.length (intsR p) (by rfl) HL1.out.row ⟨wr.heap.size + 1, 0, none⟩ 1 1 [.int .i64 i] (by rfl) (by rfl) (World.news_of_block (two_last wr _ _)) (by intro u hu; rw [List.mem_singleton.1 hu]; rfl) (by unfold maxLen; omega) (by omega) (by have := HBB.out; have := HP2.out.far.size; simp; omega) ?_)
      intro v1 w1 hown hgrow _ hat
      have hsz : (wr.alloc (.cells #[.int .i64 y.k, .string y.t, .string y.v, .slice ay y.kids.length cy] 24)).heap.size = wr.heap.size + 1 := by simp
      have hsz2 : ((wr.alloc (.cells #[.int .i64 y.k, .string y.t, .string y.v, .slice ay y.kids.length cy] 24)).alloc (.cells #[.int .i64 i] 3)).heap.size = wr.heap.size + 2 := by simp
      have hown' : w1.ownsRow B 3 1 v1 (p ++ [(i : Int)]).length (intsR (p ++ [(i : Int)])) := by
        rw [List.length_append, List.length_singleton, show intsR (p ++ [(i : Int)]) = intsR p ++ [.int .i64 (i : Int)] from List.map_append ..]
        exact hown
      obtain ⟨g1, q1, rfl, hq1, hq2, _⟩ := row_cut hown'
      have hgs := hgrow.size
      try rw [hsz2] at hgs
      try rw [hsz2] at hat
      have hvl : ∀ g, (Value.slice va p.length vc).ownBlock = some g → g < wr.heap.size := fun g e => (HP2.out.lk.row.lt g e).2
      have hX1 : w1.heap[X]? = some (.cells #[.slice va p.length vc] 42 (0, 0)) := (hgrow.block X (by omega) (fun e => HL1.out.ne e.symm)).trans HL1.out.blk
      have hK1 : w1.heap[wr.heap.size]? = some (.cells #[.int .i64 y.k, .string y.t, .string y.v, .slice ay y.kids.length cy] 24 (0, 0)) := (hgrow.block wr.heap.size (by omega) (fun e => by have := hvl _ e.symm; omega)).trans HBX.out
      have hgX : g1 ≠ X := by
        rcases hat with e | e
        · intro e2; exact HL1.out.ne (e.symm.trans (by rw [e2]; rfl))
        · intro e2; simp [Value.ownBlock] at e; omega
      have hat2 : (Value.slice (some ⟨g1, 0, none⟩) (p.length + 1) q1).ownBlock = (Value.slice va p.length vc).ownBlock ∨ ∀ g, (Value.slice (some ⟨g1, 0, none⟩) (p.length + 1) q1).ownBlock = some g → wr.heap.size ≤ g := by
        rcases hat with e | e
        · exact .inl e
        · right; intro g hg; rw [e] at hg; injection hg with hg; omega
      obtain ⟨e0, h0⟩ := blk_cell hX1 0 (by simp)
      obtain ⟨y0, y1, y2, y3, _, _, _, _, hyl⟩ := nd_cells hK1
      have hKX : wr.heap.size ≠ X := by omega
      have hlk2 : Lk (w1.setCell ⟨X, 0, none⟩ (.slice (some ⟨g1, 0, none⟩) (p.length + 1) q1)) B X (.slice (some ⟨g1, 0, none⟩) (p.length + 1) q1) (p ++ [(i : Int)]) := by
        refine ⟨set_blkC (j := 0) (y := .slice (some ⟨g1, 0, none⟩) (p.length + 1) q1) hX1, ?_, fun e => hgX (by simpa [Value.ownBlock] using e), H.out.lo, fun x hx => ?_⟩
        · exact hown'.kept (row := some X) ⟨rfl, rfl, rfl, by simp, fun k _ hk => set_other (fun e => hk (by rw [e]))⟩ (.inr fun e => hgX (by simpa [Value.ownBlock] using e))
        · rcases List.mem_append.1 hx with hx | hx
          · exact H.out.ok x hx
          · rw [List.mem_singleton.1 hx]; exact wf_nat (by omega)
      have hfar2 : LkFar X (.slice va p.length vc) wr (w1.setCell ⟨X, 0, none⟩ (.slice (some ⟨g1, 0, none⟩) (p.length + 1) q1)) := by
        refine ⟨hgrow.os.trans HB1.out.os, hgrow.tape.trans HB1.out.tape, hgrow.output.trans HB1.out.output, by simp; omega, fun k hk hkX hkv => ?_⟩
        rw [set_other hkX, hgrow.block k (by omega) (fun e => hkv e.symm)]
        exact HB1.out.block k hk
      have hatw : (Value.slice (some ⟨g1, 0, none⟩) (p.length + 1) q1).ownBlock = v.ownBlock ∨ ∀ g, (Value.slice (some ⟨g1, 0, none⟩) (p.length + 1) q1).ownBlock = some g → w.heap.size ≤ g := by
        rcases hat2 with e | e
        · rw [e]; exact HP2.out.at_
        · right; intro g hg; have := e g hg; have := HP2.out.far.size; omega
      have HLK2 := Lib.hid hlk2
      have HFAR := Lib.hid (HP2.out.far.trans HP2.out.at_ hfar2)
      have HATW := Lib.hid hatw
      have HKS2 := Lib.hid (show NdV (w1.setCell ⟨X, 0, none⟩ (.slice (some ⟨g1, 0, none⟩) (p.length + 1) q1)) S (ndV y (.slice ay y.kids.length cy)) y from
        .mk (HKS.out.alike ⟨HFAR.out.size, fun b hb hl => (HFAR.out.below H.out.lo HV.out HBB.out).block b (HSB.out b hb)⟩ fun b h _ => h))
      clear hown hgrow hat hown' hX1 hK1 hlk2 hfar2 hatw hat2 hvl d0 d1 d2 d3 c0 f0
      have hcc := HCI.out (w1.setCell ⟨X, 0, none⟩ (.slice (some ⟨g1, 0, none⟩) (p.length + 1) q1)) (.slice (some ⟨g1, 0, none⟩) (p.length + 1) q1) i hlt (.slice ay y.kids.length cy) HFAR.out HATW.out HLK2.out (by rw [HY.out]; exact HKS2.out)
      rw [HY.out] at hcc
      have HCC := Lib.hid hcc
      clear hcc
      go_wp2_with fail
      refine HCC.out.mono ?_
      intro e w3 he
      cases ho : out i with
      | none =>
        rw [ho] at he
        obtain ⟨⟨rr, rfl⟩, v3, hp3⟩ := he
        obtain ⟨g3, q3, rfl, hq3, hq4, hcut⟩ := row_cut hp3.lk.row
        unfold maxLen at hq4
        have HA2 := Lib.hid (show ∀ j, j < i + 1 → out j = none from fun j hj => by
          rcases Nat.lt_or_eq_of_le (Nat.le_of_lt_succ hj) with h1 | h1
          · exact HA.out j h1
          · rw [h1]; exact ho)
        have hX3 := hp3.lk.blk
        have hgX3 : g3 ≠ X := fun e => hp3.lk.ne (by rw [e]; rfl)
        have HP4 := Lib.hid (show LkPost B X v p w (w3.drew.setCell ⟨X, 0, none⟩ (.slice (some ⟨g3, 0, none⟩) p.length q3)) (.slice (some ⟨g3, 0, none⟩) p.length q3) from by
          have hfar : LkFar X v w w3 := HFAR.out.trans HATW.out hp3.far
          refine ⟨⟨set_blkC (w := w3.drew) (j := 0) (y := .slice (some ⟨g3, 0, none⟩) p.length q3) hX3, ?_, fun e => hgX3 (by simpa [Value.ownBlock] using e), H.out.lo, H.out.ok⟩, ⟨hfar.os, hfar.tape, hfar.output, by simp; exact hfar.size, fun k hk hkX hkv => ?_⟩, ?_⟩
          · exact hcut.kept (row := some X) ⟨rfl, rfl, rfl, by simp, fun k _ hk => set_other (w := w3.drew) (fun e => hk (by rw [e]))⟩ (.inr fun e => hgX3 (by simpa [Value.ownBlock] using e))
          · rw [set_other hkX]; exact hfar.oth k hk hkX hkv
          · have h1 : (Value.slice (some ⟨g3, 0, none⟩) p.length q3).ownBlock = (Value.slice (some ⟨g3, 0, none⟩) (p.length + 1) q3).ownBlock := rfl
            rw [h1]
            rcases hp3.at_ with e | e
            · rw [e]; exact HATW.out
            · right; intro g hg; have := e g hg; have := HFAR.out.size; omega)
        obtain ⟨c0, f0⟩ := blk_cell hX3 0 (by simp)
        have c0' : w3.drew.cell? ⟨X, 0, none⟩ = some (.slice (some ⟨g3, 0, none⟩) (p.length + 1) q3) := c0
        have f0' : w3.drew.frozen? ⟨X, 0, none⟩ = false := f0
        have hp0 : (0 : Int) ≤ (p.length : Int) := Int.natCast_nonneg _
        clear hp3 hcut hX3 ho e0 h0 y0 y1 y2 y3 hyl
        go_wp2_with fail
        go_region
        go_wp2_with fail
        go_roundw
        case rel => exact ⟨i + 1, by omega, by go_num, HA2.out, _, HP4.out⟩
        case measure => simp [intOf]; omega
      | some q =>
        rw [ho] at he
        obtain ⟨hfar, a, c', rfl, hints⟩ := he
        have HF := Lib.hid (HFAR.out.trans HATW.out hfar)
        have HQ := Lib.hid (hints.mono (w := w) HFAR.out.size)
        have HO := Lib.hid (kidsO_some (out := out) hlt HA.out ho)
        clear hfar hints ho
        go_wp2_with fail
        exact ⟨rfl, by rw [HO.out]; exact ⟨HF.out, a, c', rfl, HQ.out⟩⟩
    · obtain rfl : i = n.kids.length := by omega
      have hi1 : ¬ ((n.kids.length : Nat) : Int) < (n.kids.length : Int) := by omega
      go_wp2_with fail
      go_end0
      rw [kidsO_none HA.out]
      exact ⟨⟨_, rfl⟩, HP.out⟩
end Go.Proofs.YtmniblcooficgaaGreatDoor

namespace Go.Proofs.YtmniblcooficgaaGreatDoor
open Go.RowKit Ev5
set_option linter.unusedSimpArgs false
set_option linter.unusedVariables false

theorem LkEnd.after {B X : Nat} {v : Value} {p : List Int} {o : Option (List Int)} {w w1 w' : World} {e : Ending} (hb : Below w.heap.size w w1) (h : LkEnd B X v p o w1 e w') : LkEnd B X v p o w e w' := by
  cases o with
  | none =>
    obtain ⟨hr, v', hp⟩ := h
    refine ⟨hr, v', hp.lk, (LkFar.of hb).trans (.inl rfl) hp.far, ?_⟩
    rcases hp.at_ with e | e
    · exact .inl e
    · exact .inr fun g hg => Nat.le_trans hb.size (e g hg)
  | some q =>
    obtain ⟨hf, a, c, he, hp⟩ := h
    exact ⟨(LkFar.of hb).trans (.inl rfl) hf, a, c, he, hp.mono hb.size⟩
theorem firstP_kids {tp : List Nd → Bool} {way : List Nd} {n : Nd} {p : List Int} (h : tp (way ++ [n]) = true) : firstP tp way n p = kidsO (fun i => if hi : i < n.kids.length then firstP tp (way ++ [n]) n.kids[i] (p ++ [(i : Int)]) else none) n.kids.length := by
  rw [firstP, if_neg (by rw [h]; simp)]
  unfold kidsO
  congr 1
  refine List.ext_getElem (by simp) fun i h1 h2 => ?_
  rw [List.getElem_ofFn, List.getElem_map, List.getElem_range, dif_pos (by simpa using h1)]
  rfl
def tpB (l : List Nd) : Bool := match l.getLast? with
  | some n => decide (n.k ≠ 10)
  | none => true
theorem tpB_last (way : List Nd) (n : Nd) : tpB (way ++ [n]) = decide (n.k ≠ 10) := by unfold tpB; rw [List.getLast?_concat]
set_option maxRecDepth 100000 in
set_option maxHeartbeats 2000000 in
theorem braceK_any (W : World) (lb X B : Nat) (v : Value) (p : List Int) (o : Option (List Int)) (x : Nd) (u : Value) (hu : ∃ a l c, u = .slice a l c) (i : Int) (hb : W.heap[lb]? = some (.cells #[.pointer (some ⟨X, 0, none⟩)] 41 (0, 0)))
    (hcall : ∀ W', Below W.heap.size W W' → Calls Tryz.prog 15 #[.pointer (some ⟨X, 0, none⟩), ndV x u] W' (LkEnd B X v p o W')) :
    Calls Tryz.prog 29 #[.int .i64 i, ndV x u, .pointer (some ⟨lb, 0, none⟩)] W (LkEnd B X v p o W) := by
  obtain ⟨ua, ul, uc, rfl⟩ := hu
  obtain ⟨c0, f0⟩ := blk_cell hb 0 (by simp)
  have hlt := lt_blk hb
  have HC := Lib.hid hcall
  have HB := Lib.hid (show Below W.heap.size W (W.alloc (.cells #[.int .i64 x.k, .string x.t, .string x.v, .slice ua ul uc] 24)) from (Below.refl _ _).alloc (Nat.le_refl _) _)
  clear hb hcall
  unfold ndV at *
  go_enter Tryz.func29, Tryz.ntmps29
  go_wp2_with fail
  refine (HC.out _ HB.out).mono ?_
  intro e w3 he1
  have he := he1.after HB.out
  clear he1
  cases o with
  | none =>
    obtain ⟨⟨rr, rfl⟩, hp⟩ := he
    have HP := Lib.hid hp
    clear hp
    go_wp2_with fail
    go_end0
    exact ⟨⟨_, rfl⟩, HP.out⟩
  | some q =>
    obtain ⟨hfar, a, c, rfl, hints⟩ := he
    have HF2 := Lib.hid hfar; have HI := Lib.hid hints
    clear hfar hints
    go_wp2_with fail
    exact ⟨rfl, HF2.out, a, c, rfl, HI.out⟩
set_option maxRecDepth 100000 in
set_option maxHeartbeats 8000000 in
theorem brace_any : ∀ (N : Nat) (n : Nd) (way : List Nd) (w : World) (B X : Nat) (v : Value) (p : List Int) (S : Nat → Prop) (nv : Value), n.size ≤ N → Lk w B X v p → NdV w S nv n → (∀ b, S b → b < B) → B ≤ w.heap.size → p.length + n.size ≤ 100000 →
    Calls Tryz.prog 15 #[.pointer (some ⟨X, 0, none⟩), nv] w (LkEnd B X v p (firstP tpB way n p) w) := by
  intro N
  induction N with
  | zero => intro n way w B X v p S nv hn; have := kids_size n; omega
  | succ N ih =>
    intro n way w B X v p S nv hn hlk hv hSB hB hl
    obtain ⟨u, rfl, hs⟩ := hv
    obtain ⟨ao, cap, rfl, hcap, hcm⟩ := hs.shape
    have hmf : ∀ (fn : Fn) (first cap : Array Value) (w : World), (Instr.makeFunc fn first cap).run Tryz.prog w = .ok (.func fn first cap) w := fun _ _ _ _ => rfl
    have hb := ((Below.refl w.heap.size w).alloc (Nat.le_refl _) (.cells #[.pointer (some ⟨X, 0, none⟩)] 41)).alloc (by simp) (.cells #[.int .i64 n.k, .string n.t, .string n.v, .slice ao n.kids.length cap] 24)
    have hX0 := two_first w (.cells #[.pointer (some ⟨X, 0, none⟩)] 41) (.cells #[.int .i64 n.k, .string n.t, .string n.v, .slice ao n.kids.length cap] 24)
    have hX1 := two_last w (.cells #[.pointer (some ⟨X, 0, none⟩)] 41) (.cells #[.int .i64 n.k, .string n.t, .string n.v, .slice ao n.kids.length cap] 24)
    have HN := Lib.hid hn; have H := Lib.hid hlk; have HS := Lib.hid hs; have HSB := Lib.hid hSB; have HBB := Lib.hid hB; have HL := Lib.hid hl; have HIH := Lib.hid ih
    have HB := Lib.hid hb; have HX0 := Lib.hid hX0; have HX1 := Lib.hid hX1
    clear hn hlk hs hSB hB hl ih hb hX0 hX1
    have HF := Lib.hid (fun g (e : v.ownBlock = some g) => (H.out.row.lt g e).2)
    have HFB := Lib.hid (fun g (e : v.ownBlock = some g) => (H.out.row.lt g e).1)
    have hXw := lt_blk H.out.blk
    have HXW := Lib.hid hXw
    clear hXw
    unfold ndV
    by_cases hk : n.k = 10
    · have HR := Lib.hid (firstP_no (tp := tpB) (way := way) (n := n) (p := p) (by rw [tpB_last, hk]; rfl))
      obtain ⟨K, hK⟩ : ∃ K, n.k = K := ⟨_, rfl⟩
      rw [hK] at hk HB HX0 HX1
      rw [hK]
      subst hk
      go_enter Tryz.func15, Tryz.ntmps15
      go_wp2_with fail
      refine (fails_any _ B X v p (H.out.below HB.out) (by have := HL.out; omega)).mono ?_
      intro e w3 he
      have he2 := he.after HB.out
      rw [← HR.out] at he2
      rw [HR.out] at he2
      obtain ⟨hfar, a, c, rfl, hints⟩ := he2
      have HF2 := Lib.hid hfar; have HI := Lib.hid hints
      clear hfar hints he
      go_wp2_with fail
      exact ⟨rfl, by rw [HR.out]; exact ⟨HF2.out, a, c, rfl, HI.out⟩⟩
    · have hkb : (n.k == 10) = false := by simp [hk]
      have HR := Lib.hid (firstP_kids (tp := tpB) (way := way) (n := n) (p := p) (by rw [tpB_last]; simp [hk]))
      go_enter Tryz.func15, Tryz.ntmps15
      go_wp2_with fail
      refine (kids_any 29 #[.pointer (some ⟨w.heap.size, 0, none⟩)] (fun args w => by rfl) _ B X v p S n _ (fun i => if hi : i < n.kids.length then firstP tpB (way ++ [n]) n.kids[i] (p ++ [(i : Int)]) else none) (H.out.below HB.out) ⟨_, rfl, HS.out.below HB.out⟩ HSB.out (Nat.le_trans HBB.out HB.out.size) (by have := HL.out; have := kids_size n; have := sizes_len n.kids; omega) (by have := HL.out; have := kids_size n; have := sizes_len n.kids; omega) (fun W v' i hi u hfar hat hlkW hnW => ?_)).mono ?_
      · refine braceK_any W w.heap.size X B v' _ _ _ u (by obtain ⟨u2, e2, h2⟩ := hnW; obtain ⟨a2, c2, h3, _⟩ := h2.shape; exact ⟨a2, _, c2, (show u = u2 by simpa [ndV] using e2).trans h3⟩) i ?_ ?_
        · rw [hfar.oth w.heap.size (by simp; omega) (by have := HXW.out; omega) (fun e => by have := HF.out _ e; omega)]
          exact HX0.out
        · rw [dif_pos hi]
          have hsz := kid_size (n := n) hi
          intro W' hbW
          exact HIH.out n.kids[i] (way ++ [n]) W' B X v' (p ++ [(i : Int)]) S _ (by have := HN.out; omega) (hlkW.below hbW) (hnW.below hbW) HSB.out (Nat.le_trans HBB.out (Nat.le_trans HB.out.size (Nat.le_trans hfar.size hbW.size))) (by have := HL.out; rw [List.length_append, List.length_singleton]; omega)
      · intro e w3 he
        have he2 := he.after HB.out
        rw [← HR.out] at he2
        cases ho : firstP tpB way n p with
        | none =>
          rw [ho] at he2
          obtain ⟨⟨rr, rfl⟩, hp⟩ := he2
          have HP := Lib.hid hp
          have HO := Lib.hid ho
          clear hp he
          go_wp2_with fail
          go_end0
          show LkEnd B X v p (firstP tpB way n p) w _ _
          rw [HO.out]
          exact ⟨⟨_, rfl⟩, HP.out⟩
        | some q =>
          rw [ho] at he2
          obtain ⟨hfar, a, c, rfl, hints⟩ := he2
          have HF2 := Lib.hid hfar; have HI := Lib.hid hints
          have HO := Lib.hid ho
          clear hfar hints he
          go_wp2_with fail
          exact ⟨rfl, HF2.out, a, c, rfl, HI.out⟩
end Go.Proofs.YtmniblcooficgaaGreatDoor

namespace Go.Proofs.YtmniblcooficgaaGreatDoor
open Go.RowKit Ev5
set_option linter.unusedSimpArgs false
set_option linter.unusedVariables false

theorem assert_noC (v : Value) (w : World) : (Instr.typeAssert (.iface 39 v) 20 39 true).run Tryz.prog w = .ok (.tuple #[v, .bool true]) w := by kernel_rfl
set_option maxRecDepth 100000 in
set_option maxHeartbeats 2000000 in
theorem of1_catch (P4 P5 : Nat) (a : Option Addr) (n c : Nat) (older : List PanicEntry) (w : World) (x4 x5 : Value) (h4 : w.heap[P4]? = some (.cells #[x4] 27 (0, 0))) (h5 : w.heap[P5]? = some (.cells #[x5] 28 (0, 0))) (hne : P4 ≠ P5) :
    CallsD Tryz.prog 14 #[.pointer (some ⟨P4, 0, none⟩), .pointer (some ⟨P5, 0, none⟩)] (.panicking ({ v := .iface 39 (.agg #[.slice a n c]), recovered := false } :: older)) w fun e u' w' =>
      e = .returned (.tuple #[]) ∧ u' = .panicking ({ v := .iface 39 (.agg #[.slice a n c]), recovered := true } :: older) ∧
      w' = ((w.setCell ⟨P4, 0, none⟩ (.slice a n c)).setCell ⟨P5, 0, none⟩ (.int .i64 20)).alloc (.cells #[.slice a n c] 39) := by
  have hta := assert_noC
  obtain ⟨c4, f4⟩ := blk_cell h4 0 (by simp)
  obtain ⟨c5, f5⟩ := blk_cell h5 0 (by simp)
  have l4 := lt_blk h4
  have l5 := lt_blk h5
  refine callsD_of_wpS Tryz.func14 rfl fun c₀ cs hu => ?_
  apply wpS_seq
  apply wpS_region
  simp [wpOpsS, go_sem, recoverD, hu, Tryz.ntmps14, Exit.thenS]
  refine wpS_of_wp ?_
  rw [show #[Value.pointer (some ⟨P4, 0, none⟩), Value.pointer (some ⟨P5, 0, none⟩)] ++ ((Array.replicate 15 undef).setIfInBounds 3 (Value.iface 39 (Value.agg #[Value.slice a n c]))).setIfInBounds 0 (Value.iface 39 (Value.agg #[Value.slice a n c])) = #[Value.pointer (some ⟨P4, 0, none⟩), Value.pointer (some ⟨P5, 0, none⟩), .iface 39 (.agg #[.slice a n c]), undef, undef, .iface 39 (.agg #[.slice a n c]), undef, undef, undef, undef, undef, undef, undef, undef, undef, undef, undef] from rfl]
  go_wp2_with fail
  simp [bodyPostS, results, Tryz.results14]
set_option maxRecDepth 100000 in
set_option maxHeartbeats 4000000 in
theorem carryBrace_any (n : Nd) (w : World) (S : Nat → Prop) (v : Value) (hE : EnvU w) (hv : NdV w S v n) (hok : n.ok) (hN : n.size ≤ 50000) :
    Calls Tryz.prog 7 #[.int .i64 1, v] w (OfPost (ofP tpB n) w) := by
  obtain ⟨u, rfl, hs⟩ := hv
  obtain ⟨ao, cap, rfl, hcap, hcm⟩ := hs.shape
  have HV := Lib.hid (NdV.mk hs.ltC); have HE := Lib.hid hE; have HOK := Lib.hid hok; have HN := Lib.hid hN
  have HWL := Lib.hid (show n.walk.length ≤ 100000 by have := walk_len n; omega)
  have hmf : ∀ (fn : Fn) (first cap : Array Value) (w : World), (Instr.makeFunc fn first cap).run Tryz.prog w = .ok (.func fn first cap) w := fun _ _ _ _ => rfl
  clear hs hE hok hN
  unfold ndV
  go_enter_defers Tryz.func7, Tryz.ntmps7
  have h3 := threeC w (.cells #[.int .i64 n.k, .string n.t, .string n.v, .slice ao n.kids.length cap] 24) (.cells #[.slice none 0 0] 27) (.cells #[.int .i64 0] 28)
  have H3 := Lib.hid h3
  clear h3
  go_wp2_with fail
  refine (treeMay_any n _ _ _ (HE.out.below H3.out.2.2.2) (HV.out.below H3.out.2.2.2) (fun b hb => Nat.lt_of_lt_of_le hb H3.out.2.2.2.size) HOK.out HWL.out).mono ?_
  rintro e w2 ⟨rfl, hb⟩
  have hx0 := (hb.block _ (lt_blk H3.out.1)).trans H3.out.1
  have hx1 := (hb.block _ (lt_blk H3.out.2.1)).trans H3.out.2.1
  have hx2 := (hb.block _ (lt_blk H3.out.2.2.1)).trans H3.out.2.2.1
  have HB2 := Lib.hid (bthen H3.out.2.2.2 hb)
  obtain ⟨x0, x1, x2, x3, _, _, _, _, hxl⟩ := nd_cells hx0
  obtain ⟨P5, h5⟩ : ∃ P5, w.heap.size + 1 + 1 = P5 := ⟨_, rfl⟩
  obtain ⟨P4, h4⟩ : ∃ P4, w.heap.size + 1 = P4 := ⟨_, rfl⟩
  have hne : P5 ≠ P4 := by omega
  have hne' : P4 ≠ P5 := by omega
  have HLO := Lib.hid (show w.heap.size ≤ P4 ∧ w.heap.size ≤ P5 by omega)
  rw [h5] at hx2
  rw [h4] at hx1
  rw [h5, h4]
  have HX := Lib.hid (And.intro hx1 hx2)
  have hl4 := lt_blk hx1
  have hl5 := lt_blk hx2
  obtain ⟨c4, g4⟩ := blk_cell hx1 0 (by simp)
  obtain ⟨c5, g5⟩ := blk_cell hx2 0 (by simp)
  obtain ⟨E, hE⟩ : ∃ E, (wholeP RP (n.walk.map GoEv.ev)).2 = E := ⟨_, rfl⟩
  have HEQ := Lib.hid (show n.wh = E from hE)
  rw [hE]
  clear hb hx0 hx1 hx2 hE h4 h5
  by_cases hz : E = 0
  · subst hz
    have HLK := Lib.hid (show ∀ W : World, Below w.heap.size w W → Lk (W.alloc (.cells #[.slice none 0 0] 42)) W.heap.size W.heap.size (.slice none 0 0) [] from fun W _ => ⟨heap_alloc_new W _, World.ownsRow_nil _ _ _ _, (by simp [Value.ownBlock]), Nat.le_refl _, fun x hx => by cases hx⟩)
    go_wp2_with fail
    have hlk := HLK.out w2 HB2.out
    have hbl : Below w2.heap.size w2 (w2.alloc (.cells #[.slice none 0 0] 42)) := (Below.refl _ _).alloc (Nat.le_refl _) _
    have hnv := HV.out.below (bthen HB2.out hbl)
    refine (brace_any n.size n [] _ w2.heap.size w2.heap.size (.slice none 0 0) [] _ _ (Nat.le_refl _) hlk hnv (fun b hb => Nat.lt_of_lt_of_le hb HB2.out.size) (by simp) (by have := HN.out; simp; omega)).mono ?_
    intro e w3 he
    have hfar : LkFar w2.heap.size (.slice none 0 0) (w2.alloc (.cells #[.slice none 0 0] 42)) w3 := by
      cases ho : firstP tpB [] n [] with
      | none => rw [ho] at he; obtain ⟨_, v', hp⟩ := he; exact hp.far
      | some q => rw [ho] at he; exact he.1
    have hb3 : Below w2.heap.size w2 w3 := by
      refine ⟨hfar.os, hfar.tape, hfar.output, Nat.le_trans hbl.size hfar.size, fun k hk => ?_⟩
      rw [hfar.oth k (Nat.lt_of_lt_of_le hk hbl.size) (by omega) (by simp [Value.ownBlock])]
      exact hbl.block k hk
    have HB3 := Lib.hid hb3
    have hx4 := (hb3.block _ hl4).trans HX.out.1
    have hx5 := (hb3.block _ hl5).trans HX.out.2
    have HX3 := Lib.hid (And.intro hx4 hx5)
    have hl43 := lt_blk hx4
    have hl53 := lt_blk hx5
    clear c4 g4 c5 g5 hl4 hl5 x0 x1 x2 x3 hxl hnv hlk hfar hb3
    obtain ⟨c4, g4⟩ := blk_cell hx4 0 (by simp)
    obtain ⟨c5, g5⟩ := blk_cell hx5 0 (by simp)
    clear hx4 hx5
    cases ho : firstP tpB [] n [] with
    | none =>
      rw [ho] at he
      obtain ⟨⟨rr, rfl⟩, v', hp⟩ := he
      have HP := Lib.hid (show ofP tpB n = (none, 0) by unfold ofP; rw [if_neg (by rw [HEQ.out]; simp), ho])
      clear hp
      go_wp2_with fail
      obtain ⟨W9, hW9⟩ : ∃ W9, (w3.setCell ⟨P4, 0, none⟩ (.slice none 0 0)).setCell ⟨P5, 0, none⟩ (.int .i64 0) = W9 := ⟨_, rfl⟩
      have hk := two_vars HX3.out.1 HX3.out.2 hne' (.slice none 0 0) (.int .i64 0)
      rw [hW9] at hk
      have k4 : W9.cell? ⟨P4, 0, none⟩ = some (.slice none 0 0) := (blk_cell hk.1 0 (by simp)).1
      have k5 : W9.cell? ⟨P5, 0, none⟩ = some (.int .i64 0) := (blk_cell hk.2 0 (by simp)).1
      have hbw : Below w.heap.size w W9 := by
        rw [← hW9]
        exact ((bthen HB2.out HB3.out).setCell (p := ⟨P4, 0, none⟩) HLO.out.1 _).setCell (p := ⟨P5, 0, none⟩) HLO.out.2 _
      rw [hW9]
      refine leaves_cons (f := 14) (args := #[.pointer (some ⟨P4, 0, none⟩), .pointer (some ⟨P5, 0, none⟩)]) (by simp) (by simp [go_sem]) ?_
      refine (of1_idle ⟨P4, 0, none⟩ ⟨P5, 0, none⟩ W9).mono ?_
      rintro e u' w'' ⟨rfl, rfl, hb⟩
      have m4 : w''.cell? ⟨P4, 0, none⟩ = some (.slice none 0 0) := by rw [hb.cell (p := ⟨P4, 0, none⟩) (cell_lt k4)]; exact k4
      have m5 : w''.cell? ⟨P5, 0, none⟩ = some (.int .i64 0) := by rw [hb.cell (p := ⟨P5, 0, none⟩) (cell_lt k5)]; exact k5
      have hbb := bthen hbw hb
      simp [Leaves, settle, results, Tryz.results7, go_sem, m4, m5]
      rw [HP.out]
      exact ⟨hbb, none, 0, 0, rfl, rfl⟩
    | some q =>
      rw [ho] at he
      obtain ⟨_, a, c, rfl, hints⟩ := he
      have HP := Lib.hid (show ofP tpB n = (some q, 20) by unfold ofP; rw [if_neg (by rw [HEQ.out]; simp), ho])
      have HI := Lib.hid hints
      clear hints
      go_wp2_with fail
      refine leaves_cons (f := 14) (args := #[.pointer (some ⟨P4, 0, none⟩), .pointer (some ⟨P5, 0, none⟩)]) (by simp) (by simp [go_sem]) ?_
      refine (of1_catch P4 P5 a q.length c [] w3 _ _ HX3.out.1 HX3.out.2 hne').mono ?_
      rintro e u' w'' ⟨rfl, rfl, hw⟩
      obtain ⟨W9, hW9⟩ : ∃ W9, (w3.setCell ⟨P4, 0, none⟩ (.slice a q.length c)).setCell ⟨P5, 0, none⟩ (.int .i64 20) = W9 := ⟨_, rfl⟩
      have hk := two_vars HX3.out.1 HX3.out.2 hne' (.slice a q.length c) (.int .i64 20)
      rw [hW9] at hk hw
      have hba : Below W9.heap.size W9 w'' := by rw [hw]; exact (Below.refl _ _).alloc (Nat.le_refl _) _
      have m4 : w''.cell? ⟨P4, 0, none⟩ = some (.slice a q.length c) := (blk_cell ((hba.block _ (lt_blk hk.1)).trans hk.1) 0 (by simp)).1
      have m5 : w''.cell? ⟨P5, 0, none⟩ = some (.int .i64 20) := (blk_cell ((hba.block _ (lt_blk hk.2)).trans hk.2) 0 (by simp)).1
      have hbw : Below w.heap.size w W9 := by
        rw [← hW9]
        exact ((bthen HB2.out HB3.out).setCell (p := ⟨P4, 0, none⟩) HLO.out.1 _).setCell (p := ⟨P5, 0, none⟩) HLO.out.2 _
      have hbb := bthen hbw hba
      have hii : IntsIn w'' (.slice a q.length c) q := by
        obtain ⟨ao, cp, e, h1, h2, h3⟩ := HI.out.ints.ex
        injection e with e1 e2 e3
        subst e1; subst e3
        refine ⟨⟨a, c, rfl, h1, h2, fun i hi => ?_⟩, HI.out.ints.ok⟩
        obtain ⟨b, o, e, hc⟩ := h3 i hi
        refine ⟨b, o, e, ?_⟩
        have hnew := HI.out.new _ e
        have hb1 : w2.heap.size < b := by have h := hnew; simp at h; omega
        have hp4 := lt_blk HX.out.1
        have hp5 := lt_blk HX.out.2
        have hlt := cell_lt hc
        have h9 : W9.cell? ⟨b, o + i, none⟩ = some (.int .i64 q[i]) := by
          rw [← hW9, World.cell?_setCell_other _ _ _ _ (fun e => by injection e with e; omega), World.cell?_setCell_other _ _ _ _ (fun e => by injection e with e; omega)]; exact hc
        rw [hba.cell (p := ⟨b, o + i, none⟩) (cell_lt h9)]
        exact h9
      simp [Leaves, settle, results, Tryz.results7, go_sem, m4, m5]
      rw [HP.out]
      exact ⟨hbb, a, q.length, c, rfl, rfl, hii⟩
  · have hzb : (E != 0) = true := by simp [hz]
    go_wp2_with fail
    obtain ⟨W9, hW9⟩ : ∃ W9, (w2.setCell ⟨P4, 0, none⟩ (.slice none 0 0)).setCell ⟨P5, 0, none⟩ (.int .i64 E) = W9 := ⟨_, rfl⟩
    have hk := two_vars HX.out.1 HX.out.2 hne' (.slice none 0 0) (.int .i64 E)
    rw [hW9] at hk
    have k4 : W9.cell? ⟨P4, 0, none⟩ = some (.slice none 0 0) := (blk_cell hk.1 0 (by simp)).1
    have k5 : W9.cell? ⟨P5, 0, none⟩ = some (.int .i64 E) := (blk_cell hk.2 0 (by simp)).1
    have hbw : Below w.heap.size w W9 := by
      rw [← hW9]
      exact (HB2.out.setCell (p := ⟨P4, 0, none⟩) HLO.out.1 _).setCell (p := ⟨P5, 0, none⟩) HLO.out.2 _
    rw [hW9]
    have hP := Lib.hid (show ofP tpB n = (none, E) by unfold ofP; rw [if_pos (by rw [HEQ.out]; exact hz), HEQ.out])
    simp [bodyPostD, Leaves, settle, results, Tryz.results7, go_sem, k4, k5]
    rw [hP.out]
    exact ⟨hbw, none, 0, 0, rfl, rfl⟩
end Go.Proofs.YtmniblcooficgaaGreatDoor

namespace Go.Proofs.YtmniblcooficgaaGreatDoor
open Go.RowKit Ev5
set_option linter.unusedSimpArgs false
set_option linter.unusedVariables false

set_option maxRecDepth 100000 in
set_option maxHeartbeats 4000000 in
theorem tellsBrace : TellsAt 1 tpB (fun l => l ≠ []) := by
  intro w S wv way hE hs hne hl
  obtain ⟨way, n, rfl⟩ : ∃ l x, way = l ++ [x] := ⟨_, _, (List.dropLast_concat_getLast hne).symm⟩
  obtain ⟨wa, wc, rfl, hwc, hwm⟩ := hs.shape
  have hlast : way.length < (way ++ [n]).length := by rw [List.length_append, List.length_singleton]; omega
  obtain ⟨bb, oo, ux, hao, hbw, c0, c1, c2, c3, hsx⟩ := hs.at_ way.length hlast
  subst hao
  rw [List.getElem_append_right (Nat.le_refl _)] at c0 c1 c2 hsx
  simp only [Nat.sub_self, List.getElem_cons_zero] at c0 c1 c2 hsx
  obtain ⟨ax, cx, rfl, hcx, hcm⟩ := hsx.shape
  have hlen : (way ++ [n]).length = way.length + 1 := by rw [List.length_append, List.length_singleton]
  obtain ⟨WK, hWK⟩ : ∃ WK, way.length = WK := ⟨_, rfl⟩
  rw [hWK] at hlen c0 c1 c2 c3
  rw [hlen] at hwc hl
  rw [hlen]
  have hw0 : (0 : Int) ≤ (WK : Int) := Int.natCast_nonneg _
  have hwkI : ((WK + 1 : Nat) : Int) - 1 = (WK : Int) := by omega
  have hw2 : (WK : Int) < ((WK + 1 : Nat) : Int) := by omega
  have HT := Lib.hid (show tpB (way ++ [n]) = (n.k != 10) by rw [tpB_last]; by_cases h : n.k = 10 <;> simp [h])
  clear hs hE hne hsx hlast hWK
  unfold maxLen at *
  go_enter Tryz.func40, Tryz.ntmps40
  go_wp2_with fail
  go_ret
  exact ⟨by rw [HT.out]; rfl, Below.refl _ _⟩
theorem refOfBrace_any (n : Nd) (w : World) (S : Nat → Prop) (v : Value) (hE : EnvU w) (hv : NdV w S v n) (hok : n.ok) (hsz : n.size ≤ 50000) :
    Calls Tryz.prog 8 #[.int .i64 1, v] w (OfPost (ofP tpB n) w) :=
  refOf_any 1 _ _ (by omega) (by omega) tellsBrace (fun _ _ _ _ _ => by simp) n w S v hE hv hok hsz (fun _ => by simp)
end Go.Proofs.YtmniblcooficgaaGreatDoor

namespace Go.Proofs.YtmniblcooficgaaGreatDoor
open Go.RowKit Ev5
set_option linter.unusedSimpArgs false
set_option linter.unusedVariables false

set_option maxRecDepth 100000 in
set_option maxHeartbeats 8000000 in
theorem refRow15_any (n : Nd) : n.ok → n.size ≤ 50000 → ∀ (w : World) (S : Nat → Prop) (nv : Value), NdV w S nv n →
    Calls Tryz.prog 96 #[nv] w fun e w' => e = .returned (strV (n.txt rowF)) ∧ Below w.heap.size w w' := by
  refine Nd.ind (C := fun n => n.ok → n.size ≤ 50000 → ∀ (w : World) (S : Nat → Prop) (nv : Value), NdV w S nv n → Calls Tryz.prog 96 #[nv] w fun e w' => e = .returned (strV (n.txt rowF)) ∧ Below w.heap.size w w') ?_ n
  intro k t v ks ih hok hsz w S nv hv
  rw [ok_mk] at hok
  rw [size_mk] at hsz
  have hlen := txts_take_len (F := rowF) textF_row hok.2 (N := 50000) (by omega)
  have hkl : ks.length ≤ 50000 := by have := sizes_len ks; omega
  obtain ⟨u, rfl, hs⟩ := hv
  simp only [ndV, Nd.k, Nd.t, Nd.v, Nd.kids] at hs ⊢
  obtain ⟨ao, cap, rfl, hcap, hcm⟩ := hs.shape
  have HS := Lib.hid hs.ltC; have HOK := Lib.hid hok; have HSZ := Lib.hid hsz; have HIH := Lib.hid ih
  have HLEN := Lib.hid (show ∀ i, (Lib.join ((Nd.txts rowF ks).take i) [44, 32]).length ≤ 1050000 * 50000 from fun i => Nat.le_trans (join_lenS [44, 32] (by decide) _) (hlen i))
  have HTL := Lib.hid (show (Nd.txts rowF ks).length = ks.length from txts_len _ _)
  have HX := Lib.hid (heap_alloc_new w (.cells #[.int .i64 k, .string t, .string v, .slice ao ks.length cap] 24))
  have HB0 := Lib.hid (show Below w.heap.size w (w.alloc (.cells #[.int .i64 k, .string t, .string v, .slice ao ks.length cap] 24)) from (Below.refl _ _).alloc (Nat.le_refl _) _)
  clear hs hok hsz ih hlen
  rw [txt_mk]
  unfold maxLen at *
  go_enter Tryz.func96, Tryz.ntmps96
  go_wp2_with fail
  go_loopw [3, 4] (fun v3 v4 wr => ∃ (i : Nat) (O : ByteArray), i ≤ ks.length ∧ v4 = .int .i64 i ∧ v3 = .string O ∧ Hid (O.data.toList = Lib.join ((Nd.txts rowF ks).take i) [44, 32]) ∧ Hid (wr.heap[w.heap.size]? = some (.cells #[.int .i64 k, .string t, .string v, .slice ao ks.length cap] 24 (0, 0))) ∧ Hid (Below w.heap.size w wr)) (fun _ v4 _ => ks.length - (intOf v4).toNat)
  case atStart => exact ⟨0, ⟨#[]⟩, Nat.zero_le _, rfl, rfl, rfl, HX.out, HB0.out⟩
  case round =>
    obtain ⟨i, O, hi, rfl, rfl, HO, HXR, HBR⟩ := hrel
    have hOs : O.size ≤ 1050000 * 50000 := by
      have h1 := HLEN.out i
      rw [← HO.out] at h1
      have h3 : O.data.toList.length = O.size := Array.length_toList
      omega
    obtain ⟨x0, x1, x2, x3, _, _, _, _, hxl⟩ := nd_cells HXR.out
    by_cases hlt : i < ks.length
    · have hi0 : (0 : Int) ≤ (i : Int) := Int.natCast_nonneg _
      have hi1 : (i : Int) < (ks.length : Int) := by omega
      obtain ⟨kb, ko, kx, hko, hkw, k0, k1, k2, k3, hkx⟩ := HS.out.at_ i hlt
      obtain ⟨ay, cy, rfl, _, _⟩ := hkx.shape
      subst hko
      have hmem := List.getElem_mem hlt
      have hkok := (oks_iff ks).1 HOK.out.2 _ hmem
      have hks : ks[i].size ≤ 50000 := by have := size_mem hmem; have := HSZ.out; omega
      have hih := HIH.out ks[i] hmem hkok hks
      have htl := txt_len (F := rowF) textF_row ks[i] hkok
      have htk : (Nd.txts rowF ks).take (i + 1) = (Nd.txts rowF ks).take i ++ [ks[i].txt rowF] := by
        rw [List.take_add_one, List.getElem?_eq_getElem (by rw [HTL.out]; exact hlt)]
        congr 1
        show [(Nd.txts rowF ks)[i]'(by rw [HTL.out]; exact hlt)] = _
        simp [txts_map]
      obtain ⟨y, hy⟩ : ∃ y, ks[i] = y := ⟨_, rfl⟩
      rw [hy] at k0 k1 k2 k3 hkx hih htk hks htl
      obtain ⟨Y, hY1, hY2⟩ : ∃ Y : ByteArray, strV (y.txt rowF) = .string Y ∧ Y.data.toList = y.txt rowF := ⟨_, rfl, rfl⟩
      have hYs : Y.size ≤ 1050000 * 50000 := by
        rw [← hY2] at htl
        have h3 : Y.data.toList.length = Y.size := Array.length_toList
        omega
      rw [hY1] at hih
      have HKS := Lib.hid (NdV.mk hkx); have HH := Lib.hid hih; have HTK := Lib.hid htk; have HY := Lib.hid hY2
      have hbw := HBR.out
      have d0 : wr.cell? ⟨kb, ko + i * 4, none⟩ = some (.int .i64 y.k) := (hbw.cell (p := ⟨kb, ko + i * 4, none⟩) hkw).trans k0
      have d1 : wr.cell? ⟨kb, ko + i * 4 + 1, none⟩ = some (.string y.t) := (hbw.cell (p := ⟨kb, ko + i * 4 + 1, none⟩) hkw).trans k1
      have d2 : wr.cell? ⟨kb, ko + i * 4 + 2, none⟩ = some (.string y.v) := (hbw.cell (p := ⟨kb, ko + i * 4 + 2, none⟩) hkw).trans k2
      have d3 : wr.cell? ⟨kb, ko + i * 4 + 3, none⟩ = some (.slice ay y.kids.length cy) := (hbw.cell (p := ⟨kb, ko + i * 4 + 3, none⟩) hkw).trans k3
      have hkl2 : kb < wr.heap.size := Nat.lt_of_lt_of_le hkw hbw.size
      clear k0 k1 k2 k3 hkx hih htk hy hbw hmem hY1 hY2 htl hks hkok
      by_cases h0 : i = 0
      · subst h0
        have HO0 := Lib.hid (show O.data.toList = [] by rw [HO.out]; rfl)
        have HT0 := Lib.hid (show (Nd.txts rowF ks).take 0 = [] from rfl)
        rw [Nat.zero_mul, Nat.add_zero] at d0 d1 d2 d3
        go_wp2_with fail
        refine (HH.out _ _ _ (HKS.out.below HBR.out)).mono ?_
        rintro e w3 ⟨rfl, hb⟩
        have HB3 := Lib.hid (bthen HBR.out hb)
        have HX3 := Lib.hid ((hb.block _ hxl).trans HXR.out)
        have HO3 := Lib.hid (show (O ++ Y).data.toList = Lib.join ((Nd.txts rowF ks).take (0 + 1)) [44, 32] by
          rw [HTK.out, join_snoc, if_pos HT0.out, ByteArray.data_append, Array.toList_append, HY.out, HO0.out]; rfl)
        clear hb d0 d1 d2 d3 x0 x1 x2 x3 hxl
        go_wp2_with fail
        go_roundw
        case rel => exact ⟨1, O ++ Y, by omega, by go_num, rfl, HO3.out, HX3.out, HB3.out⟩
        case measure => simp [intOf]; omega
      · have hi2 : (0 : Int) < (i : Int) := by omega
        have hOP : (O ++ (⟨#[44, 32]⟩ : ByteArray)).size ≤ 1050000 * 50000 + 2 := by
          rw [ByteArray.size_append]
          have : (⟨#[44, 32]⟩ : ByteArray).size ≤ 2 := by decide
          omega
        have HO2 := Lib.hid (show (O ++ (⟨#[44, 32]⟩ : ByteArray)).data.toList = Lib.join ((Nd.txts rowF ks).take i) [44, 32] ++ [44, 32] by
          rw [ByteArray.data_append, Array.toList_append, HO.out])
        go_wp2_with fail
        refine (HH.out _ _ _ (HKS.out.below HBR.out)).mono ?_
        rintro e w3 ⟨rfl, hb⟩
        have HB3 := Lib.hid (bthen HBR.out hb)
        have HX3 := Lib.hid ((hb.block _ hxl).trans HXR.out)
        have HO3 := Lib.hid (show (O ++ (⟨#[44, 32]⟩ : ByteArray) ++ Y).data.toList = Lib.join ((Nd.txts rowF ks).take (i + 1)) [44, 32] by
          rw [HTK.out, join_snoc, if_neg (fun e => h0 (by have h8 : ((Nd.txts rowF ks).take i).length = i := (by rw [List.length_take, HTL.out]; omega); rw [e] at h8; exact h8.symm)), ByteArray.data_append, Array.toList_append, HY.out, HO2.out])
        clear hb d0 d1 d2 d3 x0 x1 x2 x3 hxl
        go_wp2_with fail
        go_roundw
        case rel => exact ⟨i + 1, O ++ (⟨#[44, 32]⟩ : ByteArray) ++ Y, by omega, by go_num, rfl, HO3.out, HX3.out, HB3.out⟩
        case measure => simp [intOf]; omega
    · obtain rfl : i = ks.length := by omega
      have hi1 : ¬ ((ks.length : Nat) : Int) < (ks.length : Int) := by omega
      have HJE := Lib.hid (show O.data.toList = Lib.join (Nd.txts rowF ks) [44, 32] by
        have h := HO.out
        rw [List.take_of_length_le (by rw [HTL.out]; exact Nat.le_refl _)] at h
        exact h)
      clear HO
      by_cases h1 : k = 1
      · subst h1
        go_wp2_with fail
        go_ret
        exact ⟨rfl, HBR.out⟩
      by_cases h4 : k = 4
      · subst h4
        go_wp2_with fail
        refine (refQuote_any t wr HOK.out.1.t).mono ?_
        rintro e w5 ⟨rfl, hb⟩
        have HB5 := Lib.hid (bthen HBR.out hb)
        clear hb
        go_wp2_with fail
        go_ret
        exact ⟨by rw [strV_q]; rfl, HB5.out⟩
      by_cases h5 : k = 5
      · subst h5
        go_wp2_with fail
        go_ret
        refine ⟨congrArg _ (strV_of ?_), HBR.out⟩
        show _ = 91 :: (Lib.join (Nd.txts rowF ks) [44, 32] ++ [93])
        rw [← HJE.out, ByteArray.data_append, ByteArray.data_append, Array.toList_append, Array.toList_append]; simp
      by_cases h7 : k = 7
      · subst h7
        go_wp2_with fail
        go_ret
        refine ⟨congrArg _ (strV_of ?_), HBR.out⟩
        show _ = 123 :: (Lib.join (Nd.txts rowF ks) [44, 32] ++ [125])
        rw [← HJE.out, ByteArray.data_append, ByteArray.data_append, Array.toList_append, Array.toList_append]; simp
      by_cases h8 : k = 8
      · subst h8
        go_wp2_with fail
        refine (refWord_any t wr HOK.out.1.t).mono ?_
        rintro e w5 ⟨rfl, hb⟩
        have HB5 := Lib.hid (bthen HBR.out hb)
        have hwl := word_len t HOK.out.1.t
        obtain ⟨Y, hY⟩ : ∃ Y, (wordP t).1 = Y := ⟨_, rfl⟩
        rw [hY] at hwl
        rw [hY]
        have hYs : Y.size ≤ 1048576 := hwl
        have HY := Lib.hid hY
        clear hb hwl hY
        go_wp2_with fail
        go_ret
        refine ⟨congrArg _ (strV_of ?_), HB5.out⟩
        show _ = (wordP t).1.data.toList ++ 32 :: 61 :: 32 :: Lib.join (Nd.txts rowF ks) [44, 32]
        rw [HY.out, ← HJE.out, ByteArray.data_append, ByteArray.data_append, Array.toList_append, Array.toList_append]; simp
      · have q1 : (k == 1) = false := by simp [h1]
        have q4 : (k == 4) = false := by simp [h4]
        have q5 : (k == 5) = false := by simp [h5]
        have q7 : (k == 7) = false := by simp [h7]
        have q8 : (k == 8) = false := by simp [h8]
        have HR := Lib.hid (show rowF k t v (Nd.txts rowF ks) = t.data.toList by unfold rowF; rw [if_neg h1, if_neg h4, if_neg h5, if_neg h7, if_neg h8])
        go_wp2_with fail
        go_ret
        exact ⟨by rw [HR.out]; exact congrArg Ending.returned (strV_t t), HBR.out⟩
end Go.Proofs.YtmniblcooficgaaGreatDoor

namespace Go.Proofs.YtmniblcooficgaaGreatDoor
open Go.RowKit Ev5
set_option linter.unusedSimpArgs false
set_option linter.unusedVariables false

mutual
def Nd.elems : Nd → Bool
  | .mk k t v ks => decide (k = 10) || Nd.elemss ks
def Nd.elemss : List Nd → Bool
  | [] => false
  | n :: r => n.elems || Nd.elemss r
end
theorem elems_mk (k : Int) (t v : ByteArray) (ks : List Nd) : (Nd.mk k t v ks).elems = (decide (k = 10) || Nd.elemss ks) := by rw [Nd.elems]
theorem elemss_any (l : List Nd) : Nd.elemss l = l.any Nd.elems := by
  induction l with
  | nil => rw [Nd.elemss]; rfl
  | cons x r ih => rw [Nd.elemss, ih, List.any_cons]
theorem elems_any (n : Nd) : n.elems = (decide (n.k = 10) || n.kids.any Nd.elems) := by
  cases n with
  | mk k t v ks => rw [elems_mk, elemss_any]; rfl
theorem kidsO_none_iff {out : Nat → Option (List Int)} {m : Nat} : kidsO out m = none ↔ ∀ j, j < m → out j = none := by
  constructor
  · intro h j hj
    cases ho : out j with
    | none => rfl
    | some q =>
      exfalso
      -- the first that is told
      obtain ⟨i, hi, h1⟩ : ∃ i, (∃ q, i < m ∧ out i = some q) ∧ ∀ j, j < i → out j = none := by
        have key : ∀ N j, j ≤ N → j < m → (∃ q, out j = some q) → ∃ i, (∃ q, i < m ∧ out i = some q) ∧ ∀ j, j < i → out j = none := by
          intro N
          induction N with
          | zero =>
            intro j hj hm ⟨q, hq⟩
            exact ⟨j, ⟨q, hm, hq⟩, fun k hk => by omega⟩
          | succ N ih =>
            intro j hj hm ⟨q, hq⟩
            by_cases hex : ∃ k, k < j ∧ ∃ q, out k = some q
            · obtain ⟨k, hk, hq2⟩ := hex
              exact ih k (by omega) (by omega) hq2
            · refine ⟨j, ⟨q, hm, hq⟩, fun k hk => ?_⟩
              cases hk2 : out k with
              | none => rfl
              | some q2 => exact absurd ⟨k, hk, q2, hk2⟩ hex
        exact key j j (Nat.le_refl _) hj ⟨q, ho⟩
      obtain ⟨q2, hi2, hq2⟩ := hi
      rw [kidsO_some hi2 h1 hq2] at h
      cases h
  · exact kidsO_none
theorem firstB_elems : ∀ (N : Nat) (n : Nd) (way : List Nd) (p : List Int), n.size ≤ N → (firstP tpB way n p = none ↔ n.elems = false) := by
  intro N
  induction N with
  | zero => intro n way p hn; have := kids_size n; omega
  | succ N ih =>
    intro n way p hn
    rw [elems_any]
    by_cases hk : n.k = 10
    · rw [firstP_no (by rw [tpB_last, hk]; rfl)]
      simp [hk]
    · rw [firstP_kids (by rw [tpB_last]; simp [hk]), kidsO_none_iff, decide_eq_false hk, Bool.false_or, List.any_eq_false]
      constructor
      · intro h x hx
        obtain ⟨i, hi, rfl⟩ := List.getElem_of_mem hx
        have h2 := h i hi
        rw [dif_pos hi] at h2
        have := (ih n.kids[i] (way ++ [n]) (p ++ [(i : Int)]) (by have := kid_size (n := n) hi; omega)).1 h2
        rw [this]; simp
      · intro h j hj
        rw [dif_pos hj]
        refine (ih n.kids[j] (way ++ [n]) (p ++ [(j : Int)]) (by have := kid_size (n := n) hj; omega)).2 ?_
        have := h _ (List.getElem_mem hj)
        simpa using this
theorem ofB_err (n : Nd) : (ofP tpB n).2 = if n.wh ≠ 0 then n.wh else if n.elems = true then 20 else 0 := by
  unfold ofP
  by_cases h : n.wh ≠ 0
  · rw [if_pos h, if_pos h]
  · rw [if_neg h, if_neg h]
    have h2 := firstB_elems n.size n [] [] (Nat.le_refl _)
    cases ho : firstP tpB [] n [] with
    | none => rw [h2.1 ho]; rfl
    | some q =>
      have : n.elems = true := by
        cases he : n.elems with
        | true => rfl
        | false => rw [h2.2 he] at ho; cases ho
      rw [this]; rfl
set_option maxRecDepth 100000 in
set_option maxHeartbeats 8000000 in
theorem refElems_any (n : Nd) : n.size ≤ 50000 → ∀ (w : World) (S : Nat → Prop) (nv : Value), NdV w S nv n →
    Calls Tryz.prog 100 #[nv] w fun e w' => e = .returned (.bool n.elems) ∧ Below w.heap.size w w' := by
  refine Nd.ind (C := fun n => n.size ≤ 50000 → ∀ (w : World) (S : Nat → Prop) (nv : Value), NdV w S nv n → Calls Tryz.prog 100 #[nv] w fun e w' => e = .returned (.bool n.elems) ∧ Below w.heap.size w w') ?_ n
  intro k t v ks ih hsz w S nv hv
  rw [size_mk] at hsz
  have hkl : ks.length ≤ 50000 := by have := sizes_len ks; omega
  obtain ⟨u, rfl, hs⟩ := hv
  simp only [ndV, Nd.k, Nd.t, Nd.v, Nd.kids] at hs ⊢
  obtain ⟨ao, cap, rfl, hcap, hcm⟩ := hs.shape
  have HS := Lib.hid hs.ltC; have HSZ := Lib.hid hsz; have HIH := Lib.hid ih
  have HX := Lib.hid (heap_alloc_new w (.cells #[.int .i64 k, .string t, .string v, .slice ao ks.length cap] 24))
  have HB0 := Lib.hid (show Below w.heap.size w (w.alloc (.cells #[.int .i64 k, .string t, .string v, .slice ao ks.length cap] 24)) from (Below.refl _ _).alloc (Nat.le_refl _) _)
  clear hs hsz ih
  rw [elems_mk, elemss_any]
  unfold maxLen at *
  by_cases hk : k = 10
  · subst hk
    go_enter Tryz.func100, Tryz.ntmps100
    go_wp2_with fail
    go_ret
    exact ⟨rfl, HB0.out⟩
  have hkb : (k == 10) = false := by simp [hk]
  rw [decide_eq_false hk, Bool.false_or]
  go_enter Tryz.func100, Tryz.ntmps100
  go_wp2_with fail
  go_loopw [3] (fun v3 wr => ∃ i : Nat, i ≤ ks.length ∧ v3 = .int .i64 i ∧ Hid ((ks.take i).any Nd.elems = false) ∧ Hid (wr.heap[w.heap.size]? = some (.cells #[.int .i64 k, .string t, .string v, .slice ao ks.length cap] 24 (0, 0))) ∧ Hid (Below w.heap.size w wr)) (fun v3 _ => ks.length - (intOf v3).toNat)
  case atStart => exact ⟨0, Nat.zero_le _, rfl, rfl, HX.out, HB0.out⟩
  case round =>
    obtain ⟨i, hi, rfl, HA, HXR, HBR⟩ := hrel
    obtain ⟨x0, x1, x2, x3, _, _, _, _, hxl⟩ := nd_cells HXR.out
    by_cases hlt : i < ks.length
    · have hi0 : (0 : Int) ≤ (i : Int) := Int.natCast_nonneg _
      have hi1 : (i : Int) < (ks.length : Int) := by omega
      obtain ⟨kb, ko, kx, hko, hkw, k0, k1, k2, k3, hkx⟩ := HS.out.at_ i hlt
      obtain ⟨ay, cy, rfl, _, _⟩ := hkx.shape
      subst hko
      have hmem := List.getElem_mem hlt
      have hih := HIH.out ks[i] hmem (by have := size_mem hmem; have := HSZ.out; omega)
      have htk : (ks.take (i + 1)).any Nd.elems = ((ks.take i).any Nd.elems || ks[i].elems) := by
        rw [List.take_add_one, List.getElem?_eq_getElem hlt, List.any_append]; simp
      have hall : ks[i].elems = true → ks.any Nd.elems = true := fun h => List.any_eq_true.2 ⟨_, hmem, h⟩
      obtain ⟨y, hy⟩ : ∃ y, ks[i] = y := ⟨_, rfl⟩
      rw [hy] at k0 k1 k2 k3 hkx hih htk hall
      obtain ⟨Z, hZ⟩ : ∃ Z, y.elems = Z := ⟨_, rfl⟩
      rw [hZ] at hih htk hall
      have HKS := Lib.hid (NdV.mk hkx); have HH := Lib.hid hih; have HTK := Lib.hid htk; have HAL := Lib.hid hall
      have hbw := HBR.out
      have d0 : wr.cell? ⟨kb, ko + i * 4, none⟩ = some (.int .i64 y.k) := (hbw.cell (p := ⟨kb, ko + i * 4, none⟩) hkw).trans k0
      have d1 : wr.cell? ⟨kb, ko + i * 4 + 1, none⟩ = some (.string y.t) := (hbw.cell (p := ⟨kb, ko + i * 4 + 1, none⟩) hkw).trans k1
      have d2 : wr.cell? ⟨kb, ko + i * 4 + 2, none⟩ = some (.string y.v) := (hbw.cell (p := ⟨kb, ko + i * 4 + 2, none⟩) hkw).trans k2
      have d3 : wr.cell? ⟨kb, ko + i * 4 + 3, none⟩ = some (.slice ay y.kids.length cy) := (hbw.cell (p := ⟨kb, ko + i * 4 + 3, none⟩) hkw).trans k3
      have hkl2 : kb < wr.heap.size := Nat.lt_of_lt_of_le hkw hbw.size
      clear k0 k1 k2 k3 hkx hih htk hy hbw hmem hZ hall
      go_wp2_with fail
      refine (HH.out _ _ _ (HKS.out.below HBR.out)).mono ?_
      rintro e w3 ⟨rfl, hb⟩
      have HB3 := Lib.hid (bthen HBR.out hb)
      have HX3 := Lib.hid ((hb.block _ hxl).trans HXR.out)
      clear hb d0 d1 d2 d3 x0 x1 x2 x3 hxl
      cases Z with
      | true =>
        go_wp2_with fail
        go_ret
        exact ⟨by rw [HAL.out trivial]; rfl, HB3.out⟩
      | false =>
        go_wp2_with fail
        go_roundw
        case rel => exact ⟨i + 1, by omega, by go_num, by show _ = _; rw [HTK.out, HA.out]; rfl, HX3.out, HB3.out⟩
        case measure => simp [intOf]; omega
    · obtain rfl : i = ks.length := by omega
      have hi1 : ¬ ((ks.length : Nat) : Int) < (ks.length : Int) := by omega
      have HE2 := Lib.hid (show ks.any Nd.elems = false by have h := HA.out; rwa [List.take_length] at h)
      go_wp2_with fail
      go_ret
      exact ⟨by rw [HE2.out]; rfl, HBR.out⟩
set_option maxRecDepth 100000 in
set_option maxHeartbeats 8000000 in
theorem carryRow_any (n : Nd) (w : World) (S : Nat → Prop) (v : Value) (hE : EnvU w) (hv : NdV w S v n) (hok : n.ok) (hsz : n.size ≤ 50000) :
    Calls Tryz.prog 11 #[v] w fun e w' => e = .returned (.tuple #[strV (if (ofP tpB n).2 = 0 then n.txt rowF else []), .int .i64 (ofP tpB n).2]) ∧ Below w.heap.size w w' := by
  obtain ⟨u, rfl, hs⟩ := hv
  obtain ⟨ao, cap, rfl, hcap, hcm⟩ := hs.shape
  have HV := Lib.hid (NdV.mk hs.ltC); have HE := Lib.hid hE; have HOK := Lib.hid hok; have HSZ := Lib.hid hsz
  have HWL := Lib.hid (show n.walk.length ≤ 100000 by have := walk_len n; omega)
  have HX := Lib.hid (heap_alloc_new w (.cells #[.int .i64 n.k, .string n.t, .string n.v, .slice ao n.kids.length cap] 24))
  have HB0 := Lib.hid (show Below w.heap.size w (w.alloc (.cells #[.int .i64 n.k, .string n.t, .string n.v, .slice ao n.kids.length cap] 24)) from (Below.refl _ _).alloc (Nat.le_refl _) _)
  obtain ⟨R, hR⟩ : ∃ R, (ofP tpB n).2 = R := ⟨_, rfl⟩
  rw [hR]
  obtain ⟨T, hT⟩ : ∃ T, (if R = 0 then n.txt rowF else []) = T := ⟨_, rfl⟩
  rw [hT]
  have HR := Lib.hid hR; have HT := Lib.hid hT
  clear hs hE hok hsz hT hR
  unfold ndV
  go_enter Tryz.func11, Tryz.ntmps11
  go_wp2_with fail
  refine (treeMay_any n _ _ _ (HE.out.below HB0.out) (HV.out.below HB0.out) (fun b hb => Nat.lt_of_lt_of_le hb HB0.out.size) HOK.out HWL.out).mono ?_
  rintro e w2 ⟨rfl, hb⟩
  have HX2 := Lib.hid ((hb.block _ (lt_blk HX.out)).trans HX.out)
  have HB2 := Lib.hid (bthen HB0.out hb)
  obtain ⟨x0, x1, x2, x3, _, _, _, _, hxl⟩ := nd_cells HX2.out
  obtain ⟨E, hEq⟩ : ∃ E, (wholeP RP (n.walk.map GoEv.ev)).2 = E := ⟨_, rfl⟩
  have HEQ := Lib.hid (show n.wh = E from hEq)
  rw [hEq]
  clear hb hEq
  by_cases hz : E = 0
  · subst hz
    go_wp2_with fail
    refine (carryBrace_any n w2 _ _ (HE.out.below HB2.out) (HV.out.below HB2.out) HOK.out HSZ.out).mono ?_
    rintro e w3 ⟨hb, a, len, c, rfl, _⟩
    have HX3 := Lib.hid ((hb.block _ hxl).trans HX2.out)
    have HB3 := Lib.hid (bthen HB2.out hb)
    clear x0 x1 x2 x3 hxl hb
    obtain ⟨x0, x1, x2, x3, _, _, _, _, hxl⟩ := nd_cells HX3.out
    rw [HR.out]
    by_cases hz2 : R = 0
    · have HT2 := Lib.hid (HT.out.symm.trans (if_pos hz2))
      subst hz2
      go_wp2_with fail
      refine (row_any n HOK.out HSZ.out w3 _ _ (HE.out.below HB3.out) (HV.out.below HB3.out)).mono ?_
      rintro e w4 ⟨rfl, hb⟩
      have HB4 := Lib.hid (bthen HB3.out hb)
      clear hb
      obtain ⟨Y, hY⟩ : ∃ Y : ByteArray, strV (n.txt rowF) = .string Y := ⟨_, rfl⟩
      have HY := Lib.hid hY
      rw [hY]
      clear hY
      go_wp2_with fail
      go_ret2
      exact ⟨by rw [HT2.out, HY.out]; rfl, HB4.out⟩
    · have hzb : (R != 0) = true := by simp [hz2]
      have HT2 := Lib.hid (HT.out.symm.trans (if_neg hz2))
      go_wp2_with fail
      go_ret2
      exact ⟨by rw [HT2.out]; rfl, HB3.out⟩
  · have hzb : (E != 0) = true := by simp [hz]
    have HP := Lib.hid (show R = E by rw [← HR.out, ofB_err, if_pos (by rw [HEQ.out]; exact hz), HEQ.out])
    have HT2 := Lib.hid (HT.out.symm.trans (if_neg (by rw [HP.out]; exact hz)))
    go_wp2_with fail
    go_ret2
    exact ⟨by rw [HP.out, HT2.out]; rfl, HB2.out⟩
end Go.Proofs.YtmniblcooficgaaGreatDoor
