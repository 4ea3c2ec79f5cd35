import Derived.Deep.AppendLies
import Derived.Deep.RegionHeld3
import Derived.Test.YtmniblcooficgaaGreatDoorD02
namespace Go.Proofs.YtmniblcooficgaaGreatDoor
open Go.RowKit Ev5 Go.Maps Go.WideMaps Go.MapKept Go.ChangeMaps
set_option linter.unusedSimpArgs false
set_option linter.unusedVariables false

theorem stepA (R : Ev → Bool) (st : St) (x : Ev) (hr : R x = true) (hk : x.kind = 1 ∨ x.kind = 2 ∨ x.kind = 3 ∨ x.kind = 4) : stepP R st x = if valueP st x = true then (standsP st x, 0) else (st, 19) := by
  unfold stepP; rw [if_neg (by rw [hr]; simp), if_pos hk]
theorem stepB (R : Ev → Bool) (st : St) (x : Ev) (hr : R x = true) (hk : x.kind = 5 ∨ x.kind = 7 ∨ x.kind = 10) : stepP R st x = if valueP st x = false then (st, 19) else if 6 ≤ st.opn.length then (st, 5) else (⟨⟨x.kind, false, false, false, []⟩ :: (standsP st x).opn, (standsP st x).over⟩, 0) := by
  unfold stepP; rw [if_neg (by rw [hr]; simp), if_neg (by omega), if_pos hk]
theorem stepK (R : Ev → Bool) (st : St) (x : Ev) (hr : R x = true) (hk : x.kind = 8) : stepP R st x = match st.opn with | [] => (st, 19) | l :: r => if l.kind ≠ 7 ∨ l.key = true then (st, 19) else (⟨(namedP l x).1 :: r, st.over⟩, (namedP l x).2) := by
  unfold stepP; rw [if_neg (by rw [hr]; simp), if_neg (by omega), if_neg (by omega)]
  cases st.opn with
  | nil => rfl
  | cons l r => simp only []; rw [if_pos hk]
theorem stepT (R : Ev → Bool) (st : St) (x : Ev) (hr : R x = true) (hk : x.kind = 11) : stepP R st x = match st.opn with | [] => (st, 19) | l :: r => if l.kind ≠ 10 ∨ l.full = true then (st, 19) else (⟨(namedP l x).1 :: r, st.over⟩, (namedP l x).2) := by
  unfold stepP; rw [if_neg (by rw [hr]; simp), if_neg (by omega), if_neg (by omega)]
  cases st.opn with
  | nil => rfl
  | cons l r => simp only []; rw [if_neg (by omega), if_pos hk]
theorem stepE (R : Ev → Bool) (st : St) (x : Ev) (hr : R x = true) (h1 : ¬ (x.kind = 1 ∨ x.kind = 2 ∨ x.kind = 3 ∨ x.kind = 4)) (h2 : ¬ (x.kind = 5 ∨ x.kind = 7 ∨ x.kind = 10)) (h8 : x.kind ≠ 8) (h11 : x.kind ≠ 11) :
    stepP R st x = match st.opn with | [] => (st, 19) | l :: r => if l.kind ≠ endOf x.kind ∨ l.key = true then (st, 19) else (⟨r, st.over⟩, 0) := by
  unfold stepP; rw [if_neg (by rw [hr]; simp), if_neg h1, if_neg h2]
  cases st.opn with
  | nil => rfl
  | cons l r => simp only []; rw [if_neg h8, if_neg h11]

theorem intZ (w : World) : (zeroValue 3).run Tryz.prog w = .ok (.int .i64 0) w := by kernel_rfl
theorem int_key (k : Int) (h : (Lit.int .i64 k).wf = true) : keyOf Tryz.prog 3 (.int .i64 k) = some (.int .i64 k) := keyOf_int_mk Tryz.underlying3 h
theorem ends_map (w : World) (xk : Int) (hk : (Lit.int .i64 xk).wf = true) :
    ∃ w2 w3 w4 : World, (Instr.mapUpdate 110 (.map (some w.heap.size)) (.int .i64 6) (.int .i64 5)).run Tryz.prog (w.alloc (.map #[] 0)) = .ok () w2 ∧
      (Instr.mapUpdate 110 (.map (some w.heap.size)) (.int .i64 9) (.int .i64 7)).run Tryz.prog w2 = .ok () w3 ∧
      (Instr.mapUpdate 110 (.map (some w.heap.size)) (.int .i64 12) (.int .i64 10)).run Tryz.prog w3 = .ok () w4 ∧
      (Instr.lookup 110 (.map (some w.heap.size)) (.int .i64 xk) false).run Tryz.prog w4.drew = .ok (.int .i64 (endOf xk)) w4.drew ∧ Below w.heap.size w w4 := by
  have K := int_keyed (P := Tryz.prog) Tryz.underlying3
  have h0 := World.ownsMap_made (H := Unit) w Tryz.prog 3 (plainElem Tryz.prog 3)
  obtain ⟨w2, r2, h2, g2⟩ := h0.update (t := 110) K Tryz.underlying110 (by decide) (int_key 6 (by decide)) (plainElem_int Tryz.underlying3 (a := 5) (by decide))
  obtain ⟨w3, r3, h3, g3⟩ := h2.update (t := 110) K Tryz.underlying110 (by decide) (int_key 9 (by decide)) (plainElem_int Tryz.underlying3 (a := 7) (by decide))
  obtain ⟨w4, r4, h4, g4⟩ := h3.update (t := 110) K Tryz.underlying110 (by decide) (int_key 12 (by decide)) (plainElem_int Tryz.underlying3 (a := 10) (by decide))
  have h5 : w4.drew.ownsMap Tryz.prog 3 (plainElem Tryz.prog 3) w.heap.size (0 + 1 + 1 + 1) _ := h4
  obtain ⟨cc, r5, hat, _⟩ := h5.lookup_int K (t := 110) Tryz.underlying110 Tryz.underlying3 (intZ _) (int_key xk hk)
  have hcc : cc = endOf xk := by
    have e : ∀ a : Int, WideAt.IsKeyLit (.int .i64 a) := fun a => trivial
    have hne : ∀ a b : Int, a ≠ b → (Lit.int .i64 a) ≠ (Lit.int .i64 b) := fun a b h e => h (by injection e)
    have t1 : Maps.IsMap (DataW.put (DataW.map (H := Unit) []) (.int .i64 6) (.lit (.int .i64 5))) := (Maps.tidy_empty.put (e 6) _).isMap
    have t2 : Maps.IsMap (DataW.put (DataW.put (DataW.map (H := Unit) []) (.int .i64 6) (.lit (.int .i64 5))) (.int .i64 9) (.lit (.int .i64 7))) := ((Maps.tidy_empty.put (e 6) _).put (e 9) _).isMap
    unfold endOf
    by_cases e12 : xk = 12
    · subst e12
      rw [Maps.atKey_put_same t2 (e 12)] at hat
      simp at hat; simp [← hat]
    rw [Maps.atKey_put_other (hne _ _ e12)] at hat
    by_cases e9 : xk = 9
    · subst e9
      rw [Maps.atKey_put_same t1 (e 9)] at hat
      simp at hat; simp [← hat]
    rw [Maps.atKey_put_other (hne _ _ e9)] at hat
    by_cases e6 : xk = 6
    · subst e6
      rw [Maps.atKey_put_same Maps.tidy_empty.isMap (e 6)] at hat
      simp at hat; simp [← hat]
    rw [Maps.atKey_put_other (hne _ _ e6), Maps.atKey_of_not_has rfl] at hat
    simp at hat; simp [← hat, e6, e9, e12]
  subst hcc
  refine ⟨w2, w3, w4, r2, r3, r4, r5, ?_⟩
  have hb1 : Below w.heap.size w (w.alloc (.map #[] 0)) := (Below.refl _ _).alloc (Nat.le_refl _) _
  have ofg : ∀ {a b : World}, w.heap.size ≤ a.heap.size → a.grownBy b (some w.heap.size) → Below w.heap.size a b := fun hs g => ⟨g.os, g.tape, g.output, g.size, fun k hk => g.block k (Nat.lt_of_lt_of_le hk hs) (fun e => by injection e; omega)⟩
  have b2 := hb1.trans (ofg hb1.size g2)
  have b3 := b2.trans (ofg b2.size g3)
  exact b3.trans (ofg b3.size g4)

structure Mid (w0 w : World) (base c bx : Nat) (v : Value) (ps : List (Nat × Nat)) (st : St) (x : GoEv) : Prop where
  chk : Chk w base c v ps st
  ev : w.heap[bx]? = some (.cells (evC x) 85 (0, 0))
  mv : Mv base w0 w
theorem Mid.below {w0 w w' : World} {base c bx : Nat} {v : Value} {ps : List (Nat × Nat)} {st : St} {x : GoEv} (h : Mid w0 w base c bx v ps st x) (hb : Below w.heap.size w w') : Mid w0 w' base c bx v ps st x :=
  ⟨h.chk.below hb, (hb.block _ (lt_blk h.ev)).trans h.ev, h.mv.trans (Mv.of hb h.chk.base_le)⟩
theorem Mid.turn {w0 w w' : World} {base c bx : Nat} {v v' : Value} {ps ps' : List (Nat × Nat)} {st st' : St} {x : GoEv} (h : Mid w0 w base c bx v ps st x) (hc : Chk w' base c v' ps' st') (hm : Mv base w w') : Mid w0 w' base c bx v' ps' st' x :=
  ⟨hc, hm.keep bx _ h.ev (by simp [mine]), h.mv.trans hm⟩

theorem infoP : (Tryz.prog.info? 104).map (fun i => (i.zero, i.size, i.bytes)) = some (some (.pointer none), 1, 8) := by kernel_rfl
theorem Chk.push {w W3 w5 : World} {base c : Nat} {v v' : Value} {ps : List (Nat × Nat)} {st : St} {b m : Nat} {k : Int} (h : Chk w base c v ps st) (hb : Below w.heap.size w W3)
    (hopen : W3.heap[b]? = some (.cells (opC ⟨k, false, false, false, []⟩ m) 109 (0, 0))) (hmap : Names W3 Tryz.prog 9 4 m []) (hbg : w.heap.size ≤ b) (hmg : w.heap.size ≤ m)
    (hrow : w5.ownsRow base 104 1 v' (ps.length + 1) (ptrs ps ++ [pV (b, m)])) (hg : W3.grownBy w5 v.ownBlock) :
    Chk (w5.setCell ⟨c, 0, none⟩ v') base c v' ((b, m) :: ps) ⟨⟨k, false, false, false, []⟩ :: st.opn, st.over⟩ ∧ Mv base w (w5.setCell ⟨c, 0, none⟩ v') := by
  have h3 := h.below hb
  have hv : ∀ q, v.ownBlock = some q → base ≤ q ∧ ∃ cur, W3.heap[q]? = some (.cells cur 104 (0, 0)) := by
    intro q hq
    rcases h3.row.2 with ⟨rfl, _⟩ | ⟨g, cap, cur, rfl, hbq, hgg, _⟩
    · simp [Value.ownBlock] at hq
    · simp [Value.ownBlock] at hq; subst hq; exact ⟨hbq, cur, hgg⟩
  have other : ∀ k, k < W3.heap.size → (∀ cur, W3.heap[k]? ≠ some (.cells cur 104 (0, 0))) → w5.heap[k]? = W3.heap[k]? := fun k hk hne => hg.block k hk (fun e => by obtain ⟨_, cur, hc⟩ := hv k e.symm; exact hne cur hc)
  have hm3 : Mv base W3 w5 := by
    refine ⟨⟨hg.os, hg.tape, hg.output, hg.size, fun k hk => hg.block k (Nat.lt_of_lt_of_le hk h3.base_le) (fun e => by have := (hv k e.symm).1; omega)⟩, fun k o ho hm => ?_⟩
    rw [other k (lt_blk ho) (fun cur hc => by rw [hc] at ho; injection ho with ho; rw [← ho] at hm; simp [mine] at hm)]; exact ho
  have hblk5 : w5.heap[c]? = some (.cells #[v, .bool st.over] 101 (0, 0)) := by
    rw [other c (lt_blk h3.blk) (fun cur hc => by rw [h3.blk] at hc; simp at hc)]; exact h3.blk
  have ho5 : Opens w5 base ps st.opn := h3.opens.same fun k hk => by
    rcases List.mem_append.1 hk with hk | hk
    · obtain ⟨cs, hc⟩ := h3.opens.fst k hk
      exact other k (lt_blk hc) (fun cur e => by rw [hc] at e; simp at e)
    · obtain ⟨es, cl, hc⟩ := h3.opens.snd k hk
      exact other k (lt_blk hc) (fun cur e => by rw [hc] at e; cases e)
  obtain ⟨es, cl, hmm⟩ := hmap.is_map
  have hop : Opens w5 base ((b, m) :: ps) (⟨k, false, false, false, []⟩ :: st.opn) := by
    refine ⟨?_, ?_, ?_, ?_, ?_, ?_, ho5⟩
    · rw [other b (lt_blk hopen) (fun cur e => by rw [hopen] at e; simp at e)]; exact hopen
    · exact hmap.same (other m (lt_blk hmm) (fun cur e => by rw [hmm] at e; cases e))
    · have := h.base_le; simp only []; omega
    · have := h.base_le; simp only []; omega
    · intro hk; obtain ⟨cs, hc⟩ := h.opens.fst b hk; have := lt_blk hc; omega
    · intro hk; obtain ⟨e1, c1, hc⟩ := h.opens.snd m hk; have := lt_blk hc; omega
  have hrow' : w5.ownsRow base 104 1 v' ((b, m) :: ps).length (ptrs ((b, m) :: ps)) := by
    have : ptrs ((b, m) :: ps) = ptrs ps ++ [pV (b, m)] := by simp [ptrs]
    rw [this]; exact hrow
  -- the Check's own block is turned
  have other2 : ∀ k, k < w5.heap.size → k ≠ c → (w5.setCell ⟨c, 0, none⟩ v').heap[k]? = w5.heap[k]? := fun k _ hne => Below.heap_setCell w5 _ _ k hne
  have hc0 : (w5.setCell ⟨c, 0, none⟩ v').heap[c]? = some (.cells #[v', .bool st.over] 101 (0, 0)) := heap_set2 hblk5
  have hgs := grown_set w5 c 0 v'
  refine ⟨⟨h.low, hc0, ?_, ?_⟩, ((Mv.of hb h.base_le).trans hm3).trans ⟨⟨rfl, rfl, rfl, by simp, fun k hk => Below.heap_setCell w5 _ _ k (by have := h.low; simp only []; omega)⟩, ?_⟩⟩
  · refine hrow'.kept hgs ?_
    rcases hrow'.2 with ⟨rfl, _⟩ | ⟨g, cap, cur, rfl, _, hgg, _⟩
    · exact .inl rfl
    · exact .inr (by simp [Value.ownBlock]; rintro rfl; rw [hblk5] at hgg; simp at hgg)
  · refine hop.same fun k hk => ?_
    rcases List.mem_append.1 hk with hk | hk
    · obtain ⟨cs, hc⟩ := hop.fst k hk
      exact other2 k (lt_blk hc) (fun e => by rw [e, hblk5] at hc; simp at hc)
    · obtain ⟨e1, c1, hc⟩ := hop.snd k hk
      exact other2 k (lt_blk hc) (fun e => by rw [e, hblk5] at hc; cases hc)
  · intro k o hk hm
    rw [other2 k (lt_blk hk) (fun e => by rw [e, hblk5] at hk; injection hk with hk; rw [← hk] at hm; simp [mine] at hm)]; exact hk
theorem three_below (w : World) (o1 o2 o3 : Obj) : Below w.heap.size w (((w.alloc o1).alloc o2).alloc o3).drew := ((((Below.refl _ _).alloc (Nat.le_refl _) _).alloc (by simp) _).alloc (by simp; omega) _).drew
theorem three_last (w : World) (o1 o2 o3 : Obj) : (((w.alloc o1).alloc o2).alloc o3).heap[w.heap.size + 1 + 1]? = some o3 := by
  have := heap_alloc_new ((w.alloc o1).alloc o2) o3
  simpa using this
theorem three_mid (w : World) (o1 o2 o3 : Obj) : (((w.alloc o1).alloc o2).alloc o3).heap[w.heap.size + 1]? = some o2 := by
  have h1 := heap_alloc_new (w.alloc o1) o2
  have h2 := Below.heap_alloc ((w.alloc o1).alloc o2) o3 (w.heap.size + 1) (by simp)
  rw [h2]; simpa using h1
theorem three_first (w : World) (o1 o2 o3 : Obj) : (((w.alloc o1).alloc o2).alloc o3).heap[w.heap.size]? = some o1 := by
  have h1 := heap_alloc_new w o1
  have h2 := Below.heap_alloc (w.alloc o1) o2 w.heap.size (by simp)
  have h3 := Below.heap_alloc ((w.alloc o1).alloc o2) o3 w.heap.size (by simp; omega)
  rw [h3, h2]; exact h1
theorem three_names (w : World) (o2 o3 : Obj) : Names (((w.alloc (.map #[] 0)).alloc o2).alloc o3).drew Tryz.prog 9 4 w.heap.size [] := by
  refine (names_new w _ _ _).same ?_
  show (((w.alloc (.map #[] 0)).alloc o2).alloc o3).heap[w.heap.size]? = _
  rw [three_first]; exact (heap_alloc_new w _).symm
theorem Chk.far {w : World} {base c : Nat} {v : Value} {ps : List (Nat × Nat)} {st : St} (h : Chk w base c v ps st) (W3 w5 : World) (hb : Below w.heap.size w W3) (hg : W3.grownBy w5 v.ownBlock) :
    w5.cell? ⟨c, 0, none⟩ = some v ∧ w5.frozen? ⟨c, 0, none⟩ = false ∧ c < w5.heap.size := by
  have h3 := h.below hb
  have e : w5.heap[c]? = some (.cells #[v, .bool st.over] 101 (0, 0)) := by
    rw [hg.block c (lt_blk h3.blk) (fun e => ?_)]
    · exact h3.blk
    · rcases h3.row.2 with ⟨rfl, _⟩ | ⟨g, cap, cur, rfl, _, hgg, _⟩
      · simp [Value.ownBlock] at e
      · simp [Value.ownBlock] at e; subst e; rw [h3.blk] at hgg; simp at hgg
  obtain ⟨k0, _, k2, _, k4⟩ := check_cells e
  exact ⟨k0, k2, k4⟩
theorem three_keep {w0 w : World} {base c bx : Nat} {v : Value} {ps : List (Nat × Nat)} {st : St} {x : GoEv} (h : Mid w0 w base c bx v ps st x) :
    (w.drew.cell? ⟨c, 0, none⟩ = some v ∧ w.drew.cell? ⟨bx, 0, none⟩ = some (.int .i64 x.k)) ∧
    (∀ o1 : Obj, (w.alloc o1).drew.cell? ⟨c, 0, none⟩ = some v ∧ (w.alloc o1).drew.cell? ⟨bx, 0, none⟩ = some (.int .i64 x.k)) ∧
    (∀ o1 o2 : Obj, ((w.alloc o1).alloc o2).drew.cell? ⟨c, 0, none⟩ = some v ∧ ((w.alloc o1).alloc o2).drew.cell? ⟨bx, 0, none⟩ = some (.int .i64 x.k)) ∧
    (∀ o1 o2 o3 : Obj, (((w.alloc o1).alloc o2).alloc o3).drew.cell? ⟨c, 0, none⟩ = some v ∧ (((w.alloc o1).alloc o2).alloc o3).drew.cell? ⟨bx, 0, none⟩ = some (.int .i64 x.k)) := by
  have gen : ∀ w' : World, Below w.heap.size w w' → w'.cell? ⟨c, 0, none⟩ = some v ∧ w'.cell? ⟨bx, 0, none⟩ = some (.int .i64 x.k) := fun w' hb => by
    have h3 := h.below hb
    exact ⟨(check_cells h3.chk.blk).1, (ev_cells h3.ev).1⟩
  exact ⟨gen _ (Below.refl _ _).drew, fun o1 => gen _ ((Below.refl _ _).alloc (Nat.le_refl _) _).drew, fun o1 o2 => gen _ (((Below.refl _ _).alloc (Nat.le_refl _) _).alloc (by simp) _).drew, fun o1 o2 o3 => gen _ (three_below w o1 o2 o3)⟩
theorem Mid.far {w0 w : World} {base c bx : Nat} {v : Value} {ps : List (Nat × Nat)} {st : St} {x : GoEv} (h : Mid w0 w base c bx v ps st x) (W3 w5 : World) (hb : Below w.heap.size w W3) (hg : W3.grownBy w5 v.ownBlock) :
    w5.cell? ⟨c, 0, none⟩ = some v ∧ w5.frozen? ⟨c, 0, none⟩ = false ∧ c < w5.heap.size ∧ w5.cell? ⟨bx, 0, none⟩ = some (.int .i64 x.k) ∧ bx < w5.heap.size := by
  obtain ⟨a1, a2, a3⟩ := h.chk.far W3 w5 hb hg
  have h3 := h.below hb
  have e : w5.heap[bx]? = some (.cells (evC x) 85 (0, 0)) := by
    rw [hg.block bx (lt_blk h3.ev) (fun e => ?_)]
    · exact h3.ev
    · rcases h3.chk.row.2 with ⟨rfl, _⟩ | ⟨g, cap, cur, rfl, _, hgg, _⟩
      · simp [Value.ownBlock] at e
      · simp [Value.ownBlock] at e; subst e; rw [h3.ev] at hgg; simp at hgg
  obtain ⟨x0, _, _, x3⟩ := ev_cells e
  exact ⟨a1, a2, a3, x0, x3⟩
theorem Chk.pop {w : World} {base c g cap : Nat} {p : Nat × Nat} {r : List (Nat × Nat)} {l : Ev5.Op} {os : List Ev5.Op} {ov : Bool} (h : Chk w base c (.slice (some ⟨g, 0, none⟩) (r.length + 1) cap) (p :: r) ⟨l :: os, ov⟩) :
    Chk (w.setCell ⟨c, 0, none⟩ (.slice (some ⟨g, 0, none⟩) r.length cap)) base c (.slice (some ⟨g, 0, none⟩) r.length cap) r ⟨os, ov⟩ ∧ Mv base w (w.setCell ⟨c, 0, none⟩ (.slice (some ⟨g, 0, none⟩) r.length cap)) := by
  refine Chk.own (st' := ⟨os, ov⟩) h (grown_set w c 0 _) (heap_set2 h.blk) ?_ h.opens.2.2.2.2.2.2
  have hr := h.row
  refine ⟨by simp [ptrs], .inr ?_⟩
  rcases hr.2 with ⟨e, _⟩ | ⟨g', cap', cur, e, h1, h2, h3, h4, h5, h6⟩
  · cases e
  · injection e with e1 e2 e3
    injection e1 with e1
    injection e1 with e1
    subst e1; subst e3
    refine ⟨g, cap, cur, rfl, h1, h2, by simp at h3; omega, h4, h5, ?_⟩
    have := congrArg (List.take (r.length * 1)) h6
    rw [List.take_take] at this
    rw [show min (r.length * 1) ((p :: r).length * 1) = r.length * 1 by simp] at this
    rw [this]
    simp [ptrs]

set_option maxRecDepth 100000 in
set_option maxHeartbeats 8000000 in
theorem cstep_any (R : Ev → Bool) (w : World) {base c : Nat} {v : Value} {ps : List (Nat × Nat)} {st : St} (h : Chk w base c v ps st) (h6 : st.opn.length ≤ 6) (x : GoEv) (ht : x.t.size ≤ 140737488351232) (hk : (Lit.int .i64 x.k).wf = true)
    (hR : ∀ W : World, Below w.heap.size w W → Calls Tryz.prog 77 #[evV x] W fun e w' => e = .returned (.bool (R x.ev)) ∧ Below W.heap.size W w') :
    Calls Tryz.prog 50 #[.pointer (some ⟨c, 0, none⟩), evV x] w fun e w' => e = .returned (.int .i64 (stepP R st x.ev).2) ∧ (∃ v' ps', Chk w' base c v' ps' (stepP R st x.ev).1) ∧ Mv base w w' := by
  obtain ⟨xk, xt, xv⟩ := x
  have hp6 : ps.length ≤ 6 := by rw [h.opens.len]; exact h6
  have hb0 : Below w.heap.size w (w.alloc (.cells (evC ⟨xk, xt, xv⟩) 85)) := (Below.refl _ _).alloc (Nat.le_refl _) _
  have M0 : Mid w (w.alloc (.cells (evC ⟨xk, xt, xv⟩) 85)) base c w.heap.size v ps st ⟨xk, xt, xv⟩ := ⟨h.below hb0, heap_alloc_new w _, Mv.of hb0 h.base_le⟩
  have hR1 := hR _ hb0
  have HR := Lib.hid hR1; have HM0 := Lib.hid M0
  have HP6 := Lib.hid hp6; have H6 := Lib.hid h6
  clear hR hR1 hb0 h M0 hp6 h6
  show Calls Tryz.prog 50 #[.pointer (some ⟨c, 0, none⟩), .agg #[.int .i64 xk, .string xt, .string xv]] w _
  go_enter Tryz.func50, Tryz.ntmps50
  go_wp2_with fail
  refine HR.out.mono ?_
  rintro e w1 ⟨rfl, hb⟩
  have M1 := Lib.hid (HM0.out.below hb); clear hb HM0 HR
  generalize w.heap.size = bx at *
  obtain ⟨x0, x1, x2, x3⟩ := ev_cells M1.out.ev
  cases hr : R (GoEv.ev ⟨xk, xt, xv⟩)
  · have HS := Lib.hid (show stepP R st (GoEv.ev ⟨xk, xt, xv⟩) = (st, 19) by unfold stepP; rw [if_pos hr])
    clear hr
    go_wp2_with fail
    go_ret
    rw [HS.out]
    exact ⟨rfl, ⟨v, ps, M1.out.chk⟩, M1.out.mv⟩
  have HRr := Lib.hid hr; clear hr
  go_wp2_with fail
  refine (last_any _ M1.out.chk HP6.out).mono ?_
  rintro e w2 ⟨rfl, hb⟩
  have M2 := Lib.hid (M1.out.below hb); clear hb M1 x0 x1 x2 x3
  obtain ⟨x0, x1, x2, x3⟩ := ev_cells M2.out.ev
  by_cases hA : xk = 1 ∨ xk = 2 ∨ xk = 3 ∨ xk = 4
  · have HS := Lib.hid (stepA R st (GoEv.ev ⟨xk, xt, xv⟩) HRr.out hA)
    have hks : ((xk == 1) = true) ∨ ((xk == 1) = false ∧ (xk == 2) = true) ∨ ((xk == 1) = false ∧ (xk == 2) = false ∧ (xk == 3) = true) ∨ ((xk == 1) = false ∧ (xk == 2) = false ∧ (xk == 3) = false ∧ (xk == 4) = true) := by
      rcases hA with rfl | rfl | rfl | rfl <;> simp
    clear hA
    rcases hks with q1 | ⟨q1, q2⟩ | ⟨q1, q2, q3⟩ | ⟨q1, q2, q3, q4⟩
    all_goals
      go_wp2_with fail
      refine (value_any _ M2.out.chk HP6.out ⟨xk, xt, xv⟩).mono ?_
      rintro e w3 ⟨rfl, hb⟩
      have M3 := Lib.hid (M2.out.below hb); clear hb M2 x0 x1 x2 x3
      obtain ⟨x0, x1, x2, x3⟩ := ev_cells M3.out.ev
      cases hv : valueP st (GoEv.ev ⟨xk, xt, xv⟩)
      · rw [hv] at HS; clear hv
        go_wp2_with fail
        go_ret
        rw [HS.out]
        exact ⟨rfl, ⟨v, ps, M3.out.chk⟩, M3.out.mv⟩
      · rw [hv] at HS; clear hv
        go_wp2_with fail
        refine (stands_any _ M3.out.chk HP6.out ⟨xk, xt, xv⟩).mono ?_
        rintro e w4 ⟨rfl, hc, hm⟩
        have M4 := Lib.hid (M3.out.turn hc hm); clear hc hm
        go_wp2_with fail
        go_ret
        rw [HS.out]
        exact ⟨rfl, ⟨v, ps, M4.out.chk⟩, M4.out.mv⟩
  by_cases h8 : xk = 8
  · have HS := Lib.hid (stepK R st (GoEv.ev ⟨xk, xt, xv⟩) HRr.out h8)
    have q1 : (xk == 1) = false := by rw [h8]; rfl
    have q2 : (xk == 2) = false := by rw [h8]; rfl
    have q3 : (xk == 3) = false := by rw [h8]; rfl
    have q4 : (xk == 4) = false := by rw [h8]; rfl
    have q5 : (xk == 5) = false := by rw [h8]; rfl
    have q7 : (xk == 7) = false := by rw [h8]; rfl
    have q10 : (xk == 10) = false := by rw [h8]; rfl
    have q8 : (xk == 8) = true := by rw [h8]; rfl
    have q11 : (xk == 11) = false := by rw [h8]; rfl
    clear h8 hA
    have ho := M2.out.chk.opens
    obtain ⟨opn, ov⟩ := st
    cases ps with
    | nil =>
      cases opn with
      | cons o os => exact ho.elim
      | nil =>
        unfold headPtr
        go_wp2_with fail
        go_ret
        rw [HS.out]
        exact ⟨rfl, ⟨v, [], M2.out.chk⟩, M2.out.mv⟩
    | cons p r =>
      cases opn with
      | nil => exact ho.elim
      | cons l os =>
        have oc := open_cells ho.1
        clear ho
        obtain ⟨o0, o1, o2, o3, o4, f0, f1, f2, f3, f4, olt⟩ := oc
        unfold headPtr pV
        obtain ⟨lk, lkey, ltext, lfull, lhad⟩ := l
        by_cases e7 : lk = 7
        · subst e7
          cases lkey
          · go_wp2_with fail
            refine (named_any _ M2.out.chk ⟨xk, xt, xv⟩ ht).mono ?_
            rintro e w3 ⟨rfl, hc, hm⟩
            have M3 := Lib.hid (M2.out.turn hc hm); clear hc hm
            go_wp2_with fail
            go_ret
            rw [HS.out]
            exact ⟨rfl, ⟨v, p :: r, M3.out.chk⟩, M3.out.mv⟩
          · go_wp2_with fail
            go_ret
            rw [HS.out]
            exact ⟨rfl, ⟨v, p :: r, M2.out.chk⟩, M2.out.mv⟩
        · have e7b : (lk != 7) = true := by simp [e7]
          have HS2 := Lib.hid (HS.out.trans (if_pos (.inl e7)))
          clear e7
          go_wp2_with fail
          go_ret
          rw [HS2.out]
          exact ⟨rfl, ⟨v, p :: r, M2.out.chk⟩, M2.out.mv⟩
  by_cases h11 : xk = 11
  · have HS := Lib.hid (stepT R st (GoEv.ev ⟨xk, xt, xv⟩) HRr.out h11)
    have q1 : (xk == 1) = false := by rw [h11]; rfl
    have q2 : (xk == 2) = false := by rw [h11]; rfl
    have q3 : (xk == 3) = false := by rw [h11]; rfl
    have q4 : (xk == 4) = false := by rw [h11]; rfl
    have q5 : (xk == 5) = false := by rw [h11]; rfl
    have q7 : (xk == 7) = false := by rw [h11]; rfl
    have q10 : (xk == 10) = false := by rw [h11]; rfl
    have q8 : (xk == 8) = false := by rw [h11]; rfl
    have q11 : (xk == 11) = true := by rw [h11]; rfl
    clear h11 hA h8
    have ho := M2.out.chk.opens
    obtain ⟨opn, ov⟩ := st
    cases ps with
    | nil =>
      cases opn with
      | cons o os => exact ho.elim
      | nil =>
        unfold headPtr
        go_wp2_with fail
        go_ret
        rw [HS.out]
        exact ⟨rfl, ⟨v, [], M2.out.chk⟩, M2.out.mv⟩
    | cons p r =>
      cases opn with
      | nil => exact ho.elim
      | cons l os =>
        have oc := open_cells ho.1
        clear ho
        obtain ⟨o0, o1, o2, o3, o4, f0, f1, f2, f3, f4, olt⟩ := oc
        unfold headPtr pV
        obtain ⟨lk, lkey, ltext, lfull, lhad⟩ := l
        by_cases e7 : lk = 10
        · subst e7
          cases lfull
          · go_wp2_with fail
            refine (named_any _ M2.out.chk ⟨xk, xt, xv⟩ ht).mono ?_
            rintro e w3 ⟨rfl, hc, hm⟩
            have M3 := Lib.hid (M2.out.turn hc hm); clear hc hm
            go_wp2_with fail
            go_ret
            rw [HS.out]
            exact ⟨rfl, ⟨v, p :: r, M3.out.chk⟩, M3.out.mv⟩
          · go_wp2_with fail
            go_ret
            rw [HS.out]
            exact ⟨rfl, ⟨v, p :: r, M2.out.chk⟩, M2.out.mv⟩
        · have e7b : (lk != 10) = true := by simp [e7]
          have HS2 := Lib.hid (HS.out.trans (if_pos (.inl e7)))
          clear e7
          go_wp2_with fail
          go_ret
          rw [HS2.out]
          exact ⟨rfl, ⟨v, p :: r, M2.out.chk⟩, M2.out.mv⟩
  by_cases hB : xk = 5 ∨ xk = 7 ∨ xk = 10
  · have HS := Lib.hid (stepB R st (GoEv.ev ⟨xk, xt, xv⟩) HRr.out hB)
    have q1 : (xk == 1) = false := by simp; omega
    have q2 : (xk == 2) = false := by simp; omega
    have q3 : (xk == 3) = false := by simp; omega
    have q4 : (xk == 4) = false := by simp; omega
    have hks : ((xk == 5) = true) ∨ ((xk == 5) = false ∧ (xk == 7) = true) ∨ ((xk == 5) = false ∧ (xk == 7) = false ∧ (xk == 10) = true) := by
      rcases hB with rfl | rfl | rfl <;> simp
    clear hA hB h8 h11
    rcases hks with q5 | ⟨q5, q7⟩ | ⟨q5, q7, q10⟩
    all_goals
      go_wp2_with fail
      refine (value_any _ M2.out.chk HP6.out ⟨xk, xt, xv⟩).mono ?_
      rintro e w3 ⟨rfl, hb⟩
      have M3 := Lib.hid (M2.out.below hb); clear hb M2 x0 x1 x2 x3
      obtain ⟨x0, x1, x2, x3⟩ := ev_cells M3.out.ev
      obtain ⟨k0, k1, k2, k3, k4⟩ := check_cells M3.out.chk.blk
      cases hv : valueP st (GoEv.ev ⟨xk, xt, xv⟩)
      · rw [hv] at HS; clear hv
        go_wp2_with fail
        go_ret
        rw [HS.out]
        exact ⟨rfl, ⟨v, ps, M3.out.chk⟩, M3.out.mv⟩
      · rw [hv] at HS; clear hv
        obtain ⟨a, cap, rfl⟩ : ∃ a cap, v = .slice a ps.length cap := by
          rcases M3.out.chk.slice with ⟨rfl, a, cap, rfl⟩ | ⟨p, r, g, cap, rfl, rfl, _⟩
          · exact ⟨_, _, rfl⟩
          · exact ⟨_, _, rfl⟩
        have hl := M3.out.chk.opens.len
        by_cases h6 : (6 : Int) ≤ ps.length
        · have HS2 := Lib.hid (HS.out.trans ((if_neg (by simp)).trans (if_pos (by omega))))
          clear HS hl
          go_wp2_with fail
          go_ret
          rw [HS2.out]
          exact ⟨rfl, ⟨_, ps, M3.out.chk⟩, M3.out.mv⟩
        · have HS2 := Lib.hid (HS.out.trans ((if_neg (by simp)).trans (if_neg (by omega))))
          clear HS hl
          go_wp2_with fail
          refine (stands_any _ M3.out.chk HP6.out ⟨xk, xt, xv⟩).mono ?_
          rintro e w4 ⟨rfl, hc, hm⟩
          have M4 := Lib.hid (M3.out.turn hc hm); clear hc hm M3 x0 x1 x2 x3 k0 k1 k2 k3 k4
          obtain ⟨x0, x1, x2, x3⟩ := ev_cells M4.out.ev
          obtain ⟨k0, k1, k2, k3, k4⟩ := check_cells M4.out.chk.blk
          obtain ⟨i0, hi, hz0, hz1, hz2⟩ := info_parts infoP
          have hmm := @run_makeMap Tryz.prog
          have HI := Lib.hid hi; clear hi
          go_wp2_with fail
          have HF := Lib.hid (M4.out.far)
          have HO := Lib.hid M4.out.chk.row
          obtain ⟨⟨t0, t1⟩, t2, t3, t4⟩ := three_keep M4.out
          have hp6 := HP6.out
          go_region_law? ((refine step_append_lies _ (by rfl) _ _ _ (by rfl) base 104 i0 _ 1 8 Tryz.underlying99 HI.out hz0 hz1 hz2 rfl (by omega) _ ps.length _ (by rfl) ((((HO.out.alloc _).alloc _).alloc _).drew) ⟨w4.heap.size + 1 + 1, 0, none⟩ 1 1 [.pointer (some ⟨w4.heap.size + 1, 0, none⟩)] (by rfl) (by rfl) (World.news_of_block (cs := #[.pointer (some ⟨w4.heap.size + 1, 0, none⟩)]) (t := 104) (fr := (0, 0)) (three_last w4 _ _ _)) (by simp [Value.oneCell']) (by omega) (by unfold maxLen; omega) (by omega) (by have := M4.out.chk.base_le; simp; omega) (w4.heap.size + 1 + 1 + 1) (by simp) ?_; intro gg cap' w5 hown1 hgrow hat hlt2; obtain ⟨f0, f1, f2, f3, f4⟩ := HF.out _ _ (three_below w4 _ _ _) hgrow))
          all_goals
            go_wp2_with fail
            go_ret
            rw [HS2.out]
            have Rr := Chk.push (k := xk) (b := w4.heap.size + 1) (m := w4.heap.size) M4.out.chk (three_below w4 _ _ _) (three_mid w4 _ _ _) (three_names w4 _ _) (by omega) (Nat.le_refl _) hown1 hgrow
            exact ⟨rfl, ⟨_, _, Rr.1⟩, M4.out.mv.trans Rr.2⟩
  have HS := Lib.hid (stepE R st (GoEv.ev ⟨xk, xt, xv⟩) HRr.out hA hB h8 h11)
  have q1 : (xk == 1) = false := by simp; omega
  have q2 : (xk == 2) = false := by simp; omega
  have q3 : (xk == 3) = false := by simp; omega
  have q4 : (xk == 4) = false := by simp; omega
  have q5 : (xk == 5) = false := by simp; omega
  have q7 : (xk == 7) = false := by simp; omega
  have q10 : (xk == 10) = false := by simp; omega
  have q8 : (xk == 8) = false := by simp; omega
  have q11 : (xk == 11) = false := by simp; omega
  clear hA hB h8 h11
  have hmm := @run_makeMap Tryz.prog
  obtain ⟨w3, w4, w5, r1, r2, r3, r4, hb⟩ := ends_map w2 xk hk
  have M5 := Lib.hid (M2.out.below hb); clear hb
  obtain ⟨y0, y1, y2, y3⟩ := ev_cells M5.out.ev
  have ho := M5.out.chk.opens
  have hl := Lib.hid M5.out.chk.slice
  obtain ⟨k0, k1, k2, k3, k4⟩ := check_cells M5.out.chk.blk
  obtain ⟨opn, ov⟩ := st
  clear M2
  cases ps with
  | nil =>
    cases opn with
    | cons o os => exact ho.elim
    | nil =>
      unfold headPtr
      go_wp2_with fail
      go_region
      go_wp2_with fail
      go_ret
      rw [HS.out]
      exact ⟨rfl, ⟨v, [], M5.out.chk.below (Below.refl _ _).drew⟩, (M5.out.below (Below.refl _ _).drew).mv⟩
  | cons p r =>
    cases opn with
    | nil => exact ho.elim
    | cons l os =>
      have oc := open_cells ho.1
      clear ho
      obtain ⟨o0, o1, o2, o3, o4, f0, f1, f2, f3, f4, olt⟩ := oc
      unfold headPtr pV
      obtain ⟨lk, lkey, ltext, lfull, lhad⟩ := l
      obtain ⟨p', r', g, cap, hpr, rfl, hcell, hg, hcap⟩ := hl.out.resolve_left (by rintro ⟨h, _⟩; cases h)
      obtain ⟨rfl, rfl⟩ : p = p' ∧ r = r' := by injection hpr with a b; exact ⟨a, b⟩
      clear hpr hl hcell
      have hr5 : r.length ≤ 5 := by have := HP6.out; simpa using this
      have hi0 : (0 : Int) ≤ (r.length : Int) := Int.natCast_nonneg _
      have hi1 : (r.length : Int) ≤ (cap : Int) := by omega
      generalize hen : endOf xk = en at *
      have hsn : stepP R ⟨⟨lk, lkey, ltext, lfull, lhad⟩ :: os, ov⟩ (GoEv.ev ⟨xk, xt, xv⟩) = if lk ≠ en ∨ lkey = true then (⟨⟨lk, lkey, ltext, lfull, lhad⟩ :: os, ov⟩, 19) else (⟨os, ov⟩, 0) := by rw [← hen]; exact HS.out
      have HSN := Lib.hid hsn; clear hsn HS
      clear hen
      by_cases he : lk = en
      · subst he
        have e7b : (lk != lk) = false := by simp
        cases lkey
        · have HS2 := Lib.hid (HSN.out.trans (if_neg (by simp)))
          clear HSN
          go_wp2_with fail
          go_region
          go_wp2_with fail
          go_region
          go_wp2_with fail
          go_ret
          rw [HS2.out]
          have R := Chk.pop (M5.out.chk.below ((Below.refl w5.heap.size w5).drew.drew))
          exact ⟨rfl, ⟨_, _, R.1⟩, (M5.out.below ((Below.refl w5.heap.size w5).drew.drew)).mv.trans R.2⟩
        · have HS2 := Lib.hid (HSN.out.trans (if_pos (.inr rfl)))
          clear HSN
          go_wp2_with fail
          go_region
          go_wp2_with fail
          go_ret
          rw [HS2.out]
          exact ⟨rfl, ⟨_, _, M5.out.chk.below (Below.refl _ _).drew⟩, (M5.out.below (Below.refl _ _).drew).mv⟩
      · have e7b : (lk != en) = true := by simp [he]
        have HS2 := Lib.hid (HSN.out.trans (if_pos (.inl he)))
        clear HSN he
        go_wp2_with fail
        go_region
        go_wp2_with fail
        go_ret
        rw [HS2.out]
        exact ⟨rfl, ⟨_, _, M5.out.chk.below (Below.refl _ _).drew⟩, (M5.out.below (Below.refl _ _).drew).mv⟩
end Go.Proofs.YtmniblcooficgaaGreatDoor
