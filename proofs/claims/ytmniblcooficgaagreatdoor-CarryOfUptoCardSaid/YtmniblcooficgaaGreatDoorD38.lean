import Derived.Test.YtmniblcooficgaaGreatDoorD37
namespace Go.Proofs.YtmniblcooficgaaGreatDoor
open Go.RowKit Ev5
set_option linter.unusedSimpArgs false
set_option linter.unusedVariables false

structure LkFarD (D X : Nat) (v : Value) (w w' : World) : Prop where
  os : w'.os = w.os
  tape : w'.tape = w.tape
  output : w'.output = w.output
  size : w.heap.size ≤ w'.heap.size
  oth : ∀ k, k < w.heap.size → k ≠ X → k ≠ D → v.ownBlock ≠ some k → w'.heap[k]? = w.heap[k]?
structure LkPostD (D B X : Nat) (v : Value) (p : List Int) (w w' : World) (v' : Value) : Prop where
  lk : Lk w' B X v' p
  far : LkFarD D X v w w'
  at_ : v'.ownBlock = v.ownBlock ∨ ∀ g, v'.ownBlock = some g → w.heap.size ≤ g
theorem LkFar.toD {X : Nat} {v : Value} {w w' : World} (h : LkFar X v w w') (D : Nat) : LkFarD D X v w w' := ⟨h.os, h.tape, h.output, h.size, fun k hk hX _ hv => h.oth k hk hX hv⟩
theorem LkFarD.of {D X : Nat} {v : Value} {w w' : World} (h : Below w.heap.size w w') : LkFarD D X v w w' := (LkFar.of h).toD D
theorem LkFarD.trans {D X : Nat} {v v1 : Value} {w w1 w2 : World} (h : LkFarD D X v w w1) (ha : v1.ownBlock = v.ownBlock ∨ ∀ g, v1.ownBlock = some g → w.heap.size ≤ g) (k : LkFarD D X v1 w1 w2) : LkFarD D X v w w2 :=
  ⟨k.os.trans h.os, k.tape.trans h.tape, k.output.trans h.output, Nat.le_trans h.size k.size, fun b hb hx hd hv => by
    rw [k.oth b (Nat.lt_of_lt_of_le hb h.size) hx hd (fun e => by
      rcases ha with e1 | e1
      · exact hv (e1 ▸ e)
      · have := e1 b e; omega)]
    exact h.oth b hb hx hd hv⟩
theorem LkFarD.below {D X B : Nat} {v : Value} {w w' : World} (h : LkFarD D X v w w') (hX : B ≤ X) (hv : ∀ g, v.ownBlock = some g → B ≤ g) (hB : B ≤ w.heap.size) (hD : B ≤ D) : Below B w w' :=
  ⟨h.os, h.tape, h.output, h.size, fun k hk => h.oth k (by omega) (by omega) (by omega) (fun e => by have := hv k e; omega)⟩
def LkEndD (D : Nat) (d : Bool) (B X : Nat) (v : Value) (p : List Int) (o : Option (List Int)) (w : World) (e : Ending) (w' : World) : Prop :=
  match o with
  | none => (∃ r, e = .returned r) ∧ (∃ v', LkPostD D B X v p w w' v') ∧ w'.heap[D]? = some (.cells #[.bool d] 4 (0, 0))
  | some q => LkFarD D X v w w' ∧ ∃ a c, e = .panicked (noV a q.length c) ∧ PlIn w w' a c q
set_option maxRecDepth 100000 in
set_option maxHeartbeats 8000000 in
theorem kidsD_any (D : Nat) (st : Nat → Bool) (f : FuncId) (cap : Array Value) (eg : ∀ args w, (callFunc f args).run Tryz.prog w = .ok (.enter f args) w) (w : World) (B X : Nat) (v : Value) (p : List Int) (S : Nat → Prop) (n : Nd) (nv : Value) (out : Nat → Option (List Int))
    (hD : w.heap[D]? = some (.cells #[.bool (st 0)] 4 (0, 0))) (hDX : D ≠ X) (hDv : v.ownBlock ≠ some D) (hDB : B ≤ D) (h : Lk w B X v p) (hn : NdV w S nv n) (hSB : ∀ b, S b → b < B) (hB : B ≤ w.heap.size) (hl : p.length + n.kids.length ≤ 1000000) (hk : n.kids.length ≤ 100000)
    (hcall : ∀ (W : World) (v' : Value) (i : Nat) (hi : i < n.kids.length) (u : Value), LkFarD D X v w W → (v'.ownBlock = v.ownBlock ∨ ∀ g, v'.ownBlock = some g → w.heap.size ≤ g) → Lk W B X v' (p ++ [(i : Int)]) → NdV W S (ndV n.kids[i] u) n.kids[i] → W.heap[D]? = some (.cells #[.bool (st i)] 4 (0, 0)) → v'.ownBlock ≠ some D → Calls Tryz.prog f (#[.int .i64 i, ndV n.kids[i] u] ++ cap) W (LkEndD D (st (i + 1)) B X v' (p ++ [(i : Int)]) (out i) W)) :
    Calls Tryz.prog 28 #[.pointer (some ⟨X, 0, none⟩), nv, .func (.func f) #[] cap] w (LkEndD D (st n.kids.length) B X v p (kidsO out n.kids.length) w) := by
  obtain ⟨u, rfl, hs⟩ := hn
  obtain ⟨ao, c, rfl, hcap, hcm⟩ := hs.shape
  obtain ⟨i0, hinf, hz0, hz1, hz2⟩ := info_parts infoI
  have HI := Lib.hid hinf
  have HDI := Lib.hid hD; have HDX := Lib.hid hDX; have HDV := Lib.hid hDv; have HDB := Lib.hid hDB; have H := Lib.hid h; have HS := Lib.hid hs; have HSB := Lib.hid hSB; have HBB := Lib.hid hB; have HCA := Lib.hid hcall
  have HX := Lib.hid (heap_alloc_new w (.cells #[.int .i64 n.k, .string n.t, .string n.v, .slice ao n.kids.length c] 24))
  have HB0 := Lib.hid (show Below w.heap.size w (w.alloc (.cells #[.int .i64 n.k, .string n.t, .string n.v, .slice ao n.kids.length c] 24)) from (Below.refl _ _).alloc (Nat.le_refl _) _)
  obtain ⟨x0, x1, x2, x3, _, _, _, _, hxl⟩ := nd_cells HX.out
  have HV := Lib.hid (fun g (e : v.ownBlock = some g) => (h.row.lt g e).1)
  clear h hs hSB hB hcall hinf hD hDX hDv hDB
  unfold ndV maxLen at *
  go_enter Tryz.func28, Tryz.ntmps28
  go_wp2_with fail
  clear x0 x1 x2 x3 hxl
  go_loopw [11] (fun v11 wr => ∃ i : Nat, i ≤ n.kids.length ∧ v11 = .int .i64 i ∧ Hid (∀ j, j < i → out j = none) ∧ Hid (∃ v', LkPostD D B X v p w wr v') ∧ Hid (wr.heap[D]? = some (.cells #[.bool (st i)] 4 (0, 0)))) (fun v11 _ => n.kids.length - (intOf v11).toNat)
  case atStart => exact ⟨0, Nat.zero_le _, rfl, by show ∀ _, _; intro j hj; omega, ⟨v, H.out.below HB0.out, LkFarD.of HB0.out, .inl rfl⟩, (HB0.out.block D (lt_blk HDI.out)).trans HDI.out⟩
  case round =>
    obtain ⟨i, hi, rfl, HA, HP, HDD⟩ := hrel
    obtain ⟨v', hp⟩ := HP.out
    by_cases hlt : i < n.kids.length
    · have hi0 : (0 : Int) ≤ (i : Int) := Int.natCast_nonneg _
      have hi1 : (i : Int) < (n.kids.length : Int) := by omega
      obtain ⟨va, vc, rfl⟩ := own_shapeC hp.lk.row
      have HP2 := Lib.hid hp
      have hbw : Below B w wr := hp.far.below H.out.lo HV.out HBB.out HDB.out
      obtain ⟨kb, ko, kx, hko, hkw, k0, k1, k2, k3, hkx⟩ := HS.out.at_ i hlt
      obtain ⟨ay, cy, rfl, _, _⟩ := hkx.shape
      have hkB : kb < B := by
        obtain ⟨a2, c2, e2, _, _, hor⟩ := HS.out
        rcases hor with h0 | ⟨b', o', e', hsb, _, _⟩
        · rw [h0] at hlt; simp at hlt
        · injection e2 with e2 _ _
          rw [e2, e'] at hko
          injection hko with hko
          injection hko with hko _ _
          rw [← hko]; exact HSB.out _ hsb
      subst hko
      have HCI := Lib.hid (HCA.out)
      obtain ⟨y, hy⟩ : ∃ y, n.kids[i] = y := ⟨_, rfl⟩
      have HY := Lib.hid hy
      rw [hy] at k0 k1 k2 k3 hkx
      have HKS := Lib.hid hkx
      have d0 : wr.cell? ⟨kb, ko + i * 4, none⟩ = some (.int .i64 y.k) := (hbw.cell (p := ⟨kb, ko + i * 4, none⟩) hkB).trans k0
      have d1 : wr.cell? ⟨kb, ko + i * 4 + 1, none⟩ = some (.string y.t) := (hbw.cell (p := ⟨kb, ko + i * 4 + 1, none⟩) hkB).trans k1
      have d2 : wr.cell? ⟨kb, ko + i * 4 + 2, none⟩ = some (.string y.v) := (hbw.cell (p := ⟨kb, ko + i * 4 + 2, none⟩) hkB).trans k2
      have d3 : wr.cell? ⟨kb, ko + i * 4 + 3, none⟩ = some (.slice ay y.kids.length cy) := (hbw.cell (p := ⟨kb, ko + i * 4 + 3, none⟩) hkB).trans k3
      have hkl : kb < wr.heap.size := Nat.lt_of_lt_of_le hkB (Nat.le_trans HBB.out hp.far.size)
      obtain ⟨c0, f0⟩ := blk_cell hp.lk.blk 0 (by simp)
      have hXl := lt_blk hp.lk.blk
      have hb1 : Below wr.heap.size wr ((wr.alloc (.cells #[.int .i64 y.k, .string y.t, .string y.v, .slice ay y.kids.length cy] 24)).alloc (.cells #[.int .i64 i] 3)) := ((Below.refl _ _).alloc (Nat.le_refl _) _).alloc (by simp) _
      have hlk1 := hp.lk.below hb1
      have HL1 := Lib.hid hlk1
      have HB1 := Lib.hid hb1
      have HBX := Lib.hid (two_first wr (.cells #[.int .i64 y.k, .string y.t, .string y.v, .slice ay y.kids.length cy] 24) (.cells #[.int .i64 i] 3))
      have HBW := Lib.hid hbw
      clear k0 k1 k2 k3 hkx hb1 hlk1 hp hbw hy
      go_wp2_with (at_builtin; refine wpList_append_own_at _ rfl _ _ 27 rfl B 3 i0 _ 1 8 Tryz.underlying27 HI.out hz0 hz1 hz2 rfl (by omega) _ p.length (intsR p) (by rfl) HL1.out.row ⟨wr.heap.size + 1, 0, none⟩ 1 1 [.int .i64 i] (by rfl) (by rfl) (World.news_of_block (two_last wr _ _)) (by intro u hu; rw [List.mem_singleton.1 hu]; rfl) (by unfold maxLen; omega) (by omega) (by have := HBB.out; have := HP2.out.far.size; simp; omega) ?_)
      intro v1 w1 hown hgrow _ hat
      have hsz : (wr.alloc (.cells #[.int .i64 y.k, .string y.t, .string y.v, .slice ay y.kids.length cy] 24)).heap.size = wr.heap.size + 1 := by simp
      have hsz2 : ((wr.alloc (.cells #[.int .i64 y.k, .string y.t, .string y.v, .slice ay y.kids.length cy] 24)).alloc (.cells #[.int .i64 i] 3)).heap.size = wr.heap.size + 2 := by simp
      have hown' : w1.ownsRow B 3 1 v1 (p ++ [(i : Int)]).length (intsR (p ++ [(i : Int)])) := by
        rw [List.length_append, List.length_singleton, show intsR (p ++ [(i : Int)]) = intsR p ++ [.int .i64 (i : Int)] from List.map_append ..]
        exact hown
      obtain ⟨g1, q1, rfl, hq1, hq2, _⟩ := row_cut hown'
      have hgs := hgrow.size
      try rw [hsz2] at hgs
      try rw [hsz2] at hat
      have hvl : ∀ g, (Value.slice va p.length vc).ownBlock = some g → g < wr.heap.size := fun g e => (HP2.out.lk.row.lt g e).2
      have hX1 : w1.heap[X]? = some (.cells #[.slice va p.length vc] 42 (0, 0)) := (hgrow.block X (by omega) (fun e => HL1.out.ne e.symm)).trans HL1.out.blk
      have hK1 : w1.heap[wr.heap.size]? = some (.cells #[.int .i64 y.k, .string y.t, .string y.v, .slice ay y.kids.length cy] 24 (0, 0)) := (hgrow.block wr.heap.size (by omega) (fun e => by have := hvl _ e.symm; omega)).trans HBX.out
      have hgX : g1 ≠ X := by
        rcases hat with e | e
        · intro e2; exact HL1.out.ne (e.symm.trans (by rw [e2]; rfl))
        · intro e2; simp [Value.ownBlock] at e; omega
      have hat2 : (Value.slice (some ⟨g1, 0, none⟩) (p.length + 1) q1).ownBlock = (Value.slice va p.length vc).ownBlock ∨ ∀ g, (Value.slice (some ⟨g1, 0, none⟩) (p.length + 1) q1).ownBlock = some g → wr.heap.size ≤ g := by
        rcases hat with e | e
        · exact .inl e
        · right; intro g hg; rw [e] at hg; injection hg with hg; omega
      obtain ⟨e0, h0⟩ := blk_cell hX1 0 (by simp)
      obtain ⟨y0, y1, y2, y3, _, _, _, _, hyl⟩ := nd_cells hK1
      have hKX : wr.heap.size ≠ X := by omega
      have hlk2 : Lk (w1.setCell ⟨X, 0, none⟩ (.slice (some ⟨g1, 0, none⟩) (p.length + 1) q1)) B X (.slice (some ⟨g1, 0, none⟩) (p.length + 1) q1) (p ++ [(i : Int)]) := by
        refine ⟨set_blkC (j := 0) (y := .slice (some ⟨g1, 0, none⟩) (p.length + 1) q1) hX1, ?_, fun e => hgX (by simpa [Value.ownBlock] using e), H.out.lo, fun x hx => ?_⟩
        · exact hown'.kept (row := some X) ⟨rfl, rfl, rfl, by simp, fun k _ hk => set_other (fun e => hk (by rw [e]))⟩ (.inr fun e => hgX (by simpa [Value.ownBlock] using e))
        · rcases List.mem_append.1 hx with hx | hx
          · exact H.out.ok x hx
          · rw [List.mem_singleton.1 hx]; exact wf_nat (by omega)
      have hfar2 : LkFar X (.slice va p.length vc) wr (w1.setCell ⟨X, 0, none⟩ (.slice (some ⟨g1, 0, none⟩) (p.length + 1) q1)) := by
        refine ⟨hgrow.os.trans HB1.out.os, hgrow.tape.trans HB1.out.tape, hgrow.output.trans HB1.out.output, by simp; omega, fun k hk hkX hkv => ?_⟩
        rw [set_other hkX, hgrow.block k (by omega) (fun e => hkv e.symm)]
        exact HB1.out.block k hk
      have hatw : (Value.slice (some ⟨g1, 0, none⟩) (p.length + 1) q1).ownBlock = v.ownBlock ∨ ∀ g, (Value.slice (some ⟨g1, 0, none⟩) (p.length + 1) q1).ownBlock = some g → w.heap.size ≤ g := by
        rcases hat2 with e | e
        · rw [e]; exact HP2.out.at_
        · right; intro g hg; have := e g hg; have := HP2.out.far.size; omega
      have HLK2 := Lib.hid hlk2
      have hnv : (Value.slice va p.length vc).ownBlock ≠ some D := by
        rcases HP2.out.at_ with e | e
        · rw [e]; exact HDV.out
        · intro e2; have := e D e2; have := lt_blk HDI.out; omega
      have hnv2 : (Value.slice (some ⟨g1, 0, none⟩) (p.length + 1) q1).ownBlock ≠ some D := by
        rcases hat2 with e | e
        · rw [e]; exact hnv
        · intro e2; have := e D e2; have := lt_blk HDD.out; omega
      have HD2 := Lib.hid ((hfar2.oth D (lt_blk HDD.out) HDX.out hnv).trans HDD.out)
      have HNV2 := Lib.hid hnv2
      have HFAR := Lib.hid (HP2.out.far.trans HP2.out.at_ (hfar2.toD D))
      have HATW := Lib.hid hatw
      have HKS2 := Lib.hid (show NdV (w1.setCell ⟨X, 0, none⟩ (.slice (some ⟨g1, 0, none⟩) (p.length + 1) q1)) S (ndV y (.slice ay y.kids.length cy)) y from
        .mk (HKS.out.alike ⟨HFAR.out.size, fun b hb hl => (HFAR.out.below H.out.lo HV.out HBB.out HDB.out).block b (HSB.out b hb)⟩ fun b h _ => h))
      clear hnv hnv2 hown hgrow hat hown' hX1 hK1 hlk2 hfar2 hatw hat2 hvl d0 d1 d2 d3 c0 f0
      have hcc := HCI.out (w1.setCell ⟨X, 0, none⟩ (.slice (some ⟨g1, 0, none⟩) (p.length + 1) q1)) (.slice (some ⟨g1, 0, none⟩) (p.length + 1) q1) i hlt (.slice ay y.kids.length cy) HFAR.out HATW.out HLK2.out (by rw [HY.out]; exact HKS2.out) HD2.out HNV2.out
      rw [HY.out] at hcc
      have HCC := Lib.hid hcc
      clear hcc
      go_wp2_with fail
      refine HCC.out.mono ?_
      intro e w3 he
      cases ho : out i with
      | none =>
        rw [ho] at he
        obtain ⟨⟨rr, rfl⟩, ⟨v3, hp3⟩, hd3⟩ := he
        obtain ⟨g3, q3, rfl, hq3, hq4, hcut⟩ := row_cut hp3.lk.row
        unfold maxLen at hq4
        have HA2 := Lib.hid (show ∀ j, j < i + 1 → out j = none from fun j hj => by
          rcases Nat.lt_or_eq_of_le (Nat.le_of_lt_succ hj) with h1 | h1
          · exact HA.out j h1
          · rw [h1]; exact ho)
        have hX3 := hp3.lk.blk
        have hgX3 : g3 ≠ X := fun e => hp3.lk.ne (by rw [e]; rfl)
        have HP4 := Lib.hid (show LkPostD D B X v p w (w3.drew.setCell ⟨X, 0, none⟩ (.slice (some ⟨g3, 0, none⟩) p.length q3)) (.slice (some ⟨g3, 0, none⟩) p.length q3) from by
          have hfar : LkFarD D X v w w3 := HFAR.out.trans HATW.out hp3.far
          refine ⟨⟨set_blkC (w := w3.drew) (j := 0) (y := .slice (some ⟨g3, 0, none⟩) p.length q3) hX3, ?_, fun e => hgX3 (by simpa [Value.ownBlock] using e), H.out.lo, H.out.ok⟩, ⟨hfar.os, hfar.tape, hfar.output, by simp; exact hfar.size, fun k hk hkX hkD hkv => ?_⟩, ?_⟩
          · exact hcut.kept (row := some X) ⟨rfl, rfl, rfl, by simp, fun k _ hk => set_other (w := w3.drew) (fun e => hk (by rw [e]))⟩ (.inr fun e => hgX3 (by simpa [Value.ownBlock] using e))
          · rw [set_other hkX]; exact hfar.oth k hk hkX hkD hkv
          · have h1 : (Value.slice (some ⟨g3, 0, none⟩) p.length q3).ownBlock = (Value.slice (some ⟨g3, 0, none⟩) (p.length + 1) q3).ownBlock := rfl
            rw [h1]
            rcases hp3.at_ with e | e
            · rw [e]; exact HATW.out
            · right; intro g hg; have := e g hg; have := HFAR.out.size; omega)
        have HD4 := Lib.hid (show (w3.drew.setCell ⟨X, 0, none⟩ (.slice (some ⟨g3, 0, none⟩) p.length q3)).heap[D]? = some (.cells #[.bool (st (i + 1))] 4 (0, 0)) from (set_other (w := w3.drew) HDX.out).trans hd3)
        obtain ⟨c0, f0⟩ := blk_cell hX3 0 (by simp)
        have c0' : w3.drew.cell? ⟨X, 0, none⟩ = some (.slice (some ⟨g3, 0, none⟩) (p.length + 1) q3) := c0
        have f0' : w3.drew.frozen? ⟨X, 0, none⟩ = false := f0
        have hp0 : (0 : Int) ≤ (p.length : Int) := Int.natCast_nonneg _
        clear hp3 hd3 hcut hX3 ho e0 h0 y0 y1 y2 y3 hyl
        go_wp2_with fail
        go_region
        go_wp2_with fail
        go_roundw
        case rel => exact ⟨i + 1, by omega, by go_num, HA2.out, ⟨_, HP4.out⟩, HD4.out⟩
        case measure => simp [intOf]; omega
      | some q =>
        rw [ho] at he
        obtain ⟨hfar, a, c', rfl, hints⟩ := he
        have HF := Lib.hid (HFAR.out.trans HATW.out hfar)
        have HQ := Lib.hid (hints.mono (w := w) HFAR.out.size)
        have HO := Lib.hid (kidsO_some (out := out) hlt HA.out ho)
        clear hfar hints ho
        go_wp2_with fail
        exact ⟨rfl, by rw [HO.out]; exact ⟨HF.out, a, c', rfl, HQ.out⟩⟩
    · obtain rfl : i = n.kids.length := by omega
      have hi1 : ¬ ((n.kids.length : Nat) : Int) < (n.kids.length : Int) := by omega
      go_wp2_with fail
      go_end0
      rw [kidsO_none HA.out]
      exact ⟨⟨_, rfl⟩, HP.out, HDD.out⟩
end Go.Proofs.YtmniblcooficgaaGreatDoor
namespace Go.Proofs.YtmniblcooficgaaGreatDoor
open Go.RowKit Ev5
set_option linter.unusedSimpArgs false
set_option linter.unusedVariables false

set_option maxRecDepth 100000 in
set_option maxHeartbeats 4000000 in
theorem tableR_any (r : Nd) (OW : Nat) (o : Option (List Int)) (hOW : OW ≤ 1000000000000) (W : World) (lb ob X B : Nat) (v : Value) (p : List Int) (u : Value) (i : Int) (hu : ∃ a l c, u = .slice a l c)
    (hlb : W.heap[lb]? = some (.cells #[.pointer (some ⟨X, 0, none⟩)] 41 (0, 0))) (hob : W.heap[ob]? = some (.cells #[.int .i64 (OW : Int)] 3 (0, 0)))
    (hcall : ∀ W' : World, Below W.heap.size W W' → Calls Tryz.prog 32 #[.pointer (some ⟨X, 0, none⟩), ndV r u, .int .i64 ((OW + 1 : Nat) : Int)] W' (LkEnd B X v p o W')) :
    Calls Tryz.prog 62 #[.int .i64 i, ndV r u, .pointer (some ⟨lb, 0, none⟩), .pointer (some ⟨ob, 0, none⟩)] W (LkEnd B X v p o W) := by
  obtain ⟨ua, ul, uc, rfl⟩ := hu
  obtain ⟨c0, f0⟩ := blk_cell hlb 0 (by simp)
  obtain ⟨c1, f1⟩ := blk_cell hob 0 (by simp)
  have hl0 := lt_blk hlb; have hl1 := lt_blk hob
  have HB := Lib.hid (show Below W.heap.size W (W.alloc (.cells #[.int .i64 r.k, .string r.t, .string r.v, .slice ua ul uc] 24)) from (Below.refl _ _).alloc (Nat.le_refl _) _)
  have HO1 := Lib.hid (show (OW : Int) + 1 = ((OW + 1 : Nat) : Int) by omega)
  have HC := Lib.hid hcall
  have e1 : IntKind.i64.wrap ((OW : Int) + 1) = (OW : Int) + 1 := IntWalk.i64_in _ (by omega)
  clear hlb hob hcall
  unfold ndV at *
  go_enter Tryz.func62, Tryz.ntmps62
  go_wp2_with fail
  rw [HO1.out]
  refine (HC.out _ HB.out).mono ?_
  intro e w3 he
  have he2 := he.after HB.out
  cases o with
  | none =>
    obtain ⟨⟨rr, rfl⟩, v', hp⟩ := he2
    have HP := Lib.hid hp
    clear hp he
    go_wp2_with fail
    go_end0
    exact ⟨⟨_, rfl⟩, _, HP.out⟩
  | some q =>
    obtain ⟨hfar, a, c, rfl, hints⟩ := he2
    have HF2 := Lib.hid hfar; have HI := Lib.hid hints
    clear hfar hints he
    go_wp2_with fail
    exact ⟨rfl, HF2.out, a, c, rfl, HI.out⟩
set_option maxRecDepth 100000 in
set_option maxHeartbeats 4000000 in
theorem tableV1_any (x : Nd) (OW : Nat) (out : Nat → Option (List Int)) (hOW : OW ≤ 1000000000000) (W : World) (mb lb ob X B : Nat) (v : Value) (p : List Int) (S : Nat → Prop) (u : Value) (i : Int)
    (hmb : W.heap[mb]? = some (.cells #[.bool true] 4 (0, 0))) (hlb : W.heap[lb]? = some (.cells #[.pointer (some ⟨X, 0, none⟩)] 41 (0, 0))) (hob : W.heap[ob]? = some (.cells #[.int .i64 (OW : Int)] 3 (0, 0)))
    (hne : ∀ b, b = lb ∨ b = ob → b ≠ X ∧ v.ownBlock ≠ some b)
    (hlk : Lk W B X v p) (hv : NdV W S (ndV x u) x) (hSB : ∀ b, S b → b < B) (hB : B ≤ W.heap.size) (hl : p.length + x.size ≤ 100000)
    (hcall : ∀ (W' : World) (v' : Value) (j : Nat) (hj : j < x.kids.length) (uu : Value), Below B W W' → Lk W' B X v' (p ++ [(j : Int)]) → NdV W' S (ndV x.kids[j] uu) x.kids[j] → Calls Tryz.prog 32 #[.pointer (some ⟨X, 0, none⟩), ndV x.kids[j] uu, .int .i64 ((OW + 1 : Nat) : Int)] W' (LkEnd B X v' (p ++ [(j : Int)]) (out j) W')) :
    Calls Tryz.prog 61 #[.int .i64 i, ndV x u, .pointer (some ⟨mb, 0, none⟩), .pointer (some ⟨lb, 0, none⟩), .pointer (some ⟨ob, 0, none⟩)] W (LkEnd B X v p (kidsO out x.kids.length) W) := by
  obtain ⟨u2, e2, hs⟩ := hv
  obtain rfl : u = u2 := by simpa [ndV] using e2
  clear e2
  obtain ⟨ao, cap, rfl, hcap, hcm⟩ := hs.shape
  have hmf : ∀ (fn : Fn) (first cap : Array Value) (w : World), (Instr.makeFunc fn first cap).run Tryz.prog w = .ok (.func fn first cap) w := fun _ _ _ _ => rfl
  obtain ⟨c0, f0⟩ := blk_cell hlb 0 (by simp)
  obtain ⟨c2, f2⟩ := blk_cell hmb 0 (by simp)
  have hl0 := lt_blk hlb; have hl1 := lt_blk hob; have hl2 := lt_blk hmb
  have HB := Lib.hid (show Below W.heap.size W (W.alloc (.cells #[.int .i64 x.k, .string x.t, .string x.v, .slice ao x.kids.length cap] 24)) from (Below.refl _ _).alloc (Nat.le_refl _) _)
  have H := Lib.hid hlk; have HS := Lib.hid hs; have HSB := Lib.hid hSB; have HBB := Lib.hid hB; have HC := Lib.hid hcall; have HNE := Lib.hid hne; have HLB := Lib.hid hlb; have HOB := Lib.hid hob
  have hpl : p.length + x.kids.length ≤ 100000 := by have := kids_size x; have := sizes_len x.kids; omega
  have hkl : x.kids.length ≤ 100000 := by omega
  obtain ⟨o, ho⟩ : ∃ o, kidsO out x.kids.length = o := ⟨_, rfl⟩
  have HO := Lib.hid ho
  clear hlb hob hmb hlk hs hSB hB hcall hne
  rw [ho]
  clear ho
  unfold ndV
  go_enter Tryz.func61, Tryz.ntmps61
  go_wp2_with fail
  have hk9 := kids_any 62 #[.pointer (some ⟨lb, 0, none⟩), .pointer (some ⟨ob, 0, none⟩)] (fun args w => by rfl) (W.alloc (.cells #[.int .i64 x.k, .string x.t, .string x.v, .slice ao x.kids.length cap] 24)) B X v p S x _ out (H.out.below HB.out) ⟨_, rfl, HS.out.below HB.out⟩ HSB.out (Nat.le_trans HBB.out HB.out.size) (by omega) (by omega) (fun W' v' j hj uu hfar hat hlkW hnW => by
    have hBW : Below B W W' := (HB.out.mono HBB.out).trans (hfar.below H.out.lo (fun g e => (H.out.row.lt g e).1) (Nat.le_trans HBB.out HB.out.size))
    have keep : ∀ b, b = lb ∨ b = ob → b < W.heap.size → W'.heap[b]? = W.heap[b]? := fun b h1 h2 => (hfar.oth b (Nat.lt_of_lt_of_le h2 HB.out.size) (HNE.out b h1).1 (HNE.out b h1).2).trans (HB.out.block b h2)
    refine tableR_any x.kids[j] OW (out j) hOW W' lb ob X B v' _ uu j (by obtain ⟨u2, e2, h2⟩ := hnW; obtain ⟨a2, c2, h3, _⟩ := h2.shape; exact ⟨a2, _, c2, (show uu = u2 by simpa [ndV] using e2).trans h3⟩) ?_ ?_ (fun W2 h2 => HC.out W2 v' j hj uu (hBW.trans (h2.mono (Nat.le_trans HBB.out hBW.size))) (hlkW.below h2) (hnW.below h2))
    · rw [keep lb (.inl rfl) hl0]; exact HLB.out
    · rw [keep ob (.inr rfl) hl1]; exact HOB.out)
  rw [HO.out] at hk9
  refine hk9.mono ?_
  intro e w3 he
  have he2 := he.after HB.out
  cases o with
  | none =>
    obtain ⟨⟨rr, rfl⟩, v', hp⟩ := he2
    have HP := Lib.hid hp
    clear hp he
    go_wp2_with fail
    go_end0
    exact ⟨⟨_, rfl⟩, _, HP.out⟩
  | some q =>
    obtain ⟨hfar, a, c, rfl, hints⟩ := he2
    have HF2 := Lib.hid hfar; have HI := Lib.hid hints
    clear hfar hints he
    go_wp2_with fail
    exact ⟨rfl, HF2.out, a, c, rfl, HI.out⟩
set_option maxRecDepth 100000 in
set_option maxHeartbeats 4000000 in
theorem tableV2_any (x : Nd) (OW : Nat) (o : Option (List Int)) (hOW : OW ≤ 1000000000000) (h7 : x.k = 7) (W : World) (mb lb ob X B : Nat) (v : Value) (p : List Int) (u : Value) (i : Int) (hu : ∃ a l c, u = .slice a l c)
    (hmb : W.heap[mb]? = some (.cells #[.bool false] 4 (0, 0))) (hlb : W.heap[lb]? = some (.cells #[.pointer (some ⟨X, 0, none⟩)] 41 (0, 0))) (hob : W.heap[ob]? = some (.cells #[.int .i64 (OW : Int)] 3 (0, 0)))
    (hcall : ∀ W' : World, Below W.heap.size W W' → Calls Tryz.prog 32 #[.pointer (some ⟨X, 0, none⟩), ndV x u, .int .i64 ((OW + 1 : Nat) : Int)] W' (LkEnd B X v p o W')) :
    Calls Tryz.prog 61 #[.int .i64 i, ndV x u, .pointer (some ⟨mb, 0, none⟩), .pointer (some ⟨lb, 0, none⟩), .pointer (some ⟨ob, 0, none⟩)] W (LkEnd B X v p o W) := by
  obtain ⟨ua, ul, uc, rfl⟩ := hu
  obtain ⟨c0, f0⟩ := blk_cell hlb 0 (by simp)
  obtain ⟨c1, f1⟩ := blk_cell hob 0 (by simp)
  obtain ⟨c2, f2⟩ := blk_cell hmb 0 (by simp)
  have hl0 := lt_blk hlb; have hl1 := lt_blk hob; have hl2 := lt_blk hmb
  have HB := Lib.hid (show Below W.heap.size W (W.alloc (.cells #[.int .i64 x.k, .string x.t, .string x.v, .slice ua ul uc] 24)) from (Below.refl _ _).alloc (Nat.le_refl _) _)
  have HO1 := Lib.hid (show (OW : Int) + 1 = ((OW + 1 : Nat) : Int) by omega)
  have HC := Lib.hid hcall
  have e1 : IntKind.i64.wrap ((OW : Int) + 1) = (OW : Int) + 1 := IntWalk.i64_in _ (by omega)
  have h7b : (x.k == 7) = true := by simp [h7]
  clear hlb hob hmb hcall h7
  unfold ndV at *
  go_enter Tryz.func61, Tryz.ntmps61
  go_wp2_with fail
  rw [HO1.out]
  refine (HC.out _ HB.out).mono ?_
  intro e w3 he
  have he2 := he.after HB.out
  cases o with
  | none =>
    obtain ⟨⟨rr, rfl⟩, v', hp⟩ := he2
    have HP := Lib.hid hp
    clear hp he
    go_wp2_with fail
    go_end0
    exact ⟨⟨_, rfl⟩, _, HP.out⟩
  | some q =>
    obtain ⟨hfar, a, c, rfl, hints⟩ := he2
    have HF2 := Lib.hid hfar; have HI := Lib.hid hints
    clear hfar hints he
    go_wp2_with fail
    exact ⟨rfl, HF2.out, a, c, rfl, HI.out⟩
set_option maxRecDepth 100000 in
set_option maxHeartbeats 4000000 in
theorem tableV3_any (x : Nd) (o : Option (List Int)) (h7 : x.k ≠ 7) (W : World) (mb lb ob X B : Nat) (v : Value) (p : List Int) (u : Value) (i : Int) (hu : ∃ a l c, u = .slice a l c)
    (hmb : W.heap[mb]? = some (.cells #[.bool false] 4 (0, 0))) (hlb : W.heap[lb]? = some (.cells #[.pointer (some ⟨X, 0, none⟩)] 41 (0, 0)))
    (hcall : ∀ W' : World, Below W.heap.size W W' → Calls Tryz.prog 63 #[.pointer (some ⟨X, 0, none⟩), ndV x u] W' (LkEnd B X v p o W')) :
    Calls Tryz.prog 61 #[.int .i64 i, ndV x u, .pointer (some ⟨mb, 0, none⟩), .pointer (some ⟨lb, 0, none⟩), .pointer (some ⟨ob, 0, none⟩)] W (LkEnd B X v p o W) := by
  obtain ⟨ua, ul, uc, rfl⟩ := hu
  obtain ⟨c0, f0⟩ := blk_cell hlb 0 (by simp)
  obtain ⟨c2, f2⟩ := blk_cell hmb 0 (by simp)
  have hl0 := lt_blk hlb; have hl2 := lt_blk hmb
  have HB := Lib.hid (show Below W.heap.size W (W.alloc (.cells #[.int .i64 x.k, .string x.t, .string x.v, .slice ua ul uc] 24)) from (Below.refl _ _).alloc (Nat.le_refl _) _)
  have HC := Lib.hid hcall
  have h7b : (x.k == 7) = false := by simp [h7]
  clear hlb hmb hcall h7
  unfold ndV at *
  go_enter Tryz.func61, Tryz.ntmps61
  go_wp2_with fail
  refine (HC.out _ HB.out).mono ?_
  intro e w3 he
  have he2 := he.after HB.out
  cases o with
  | none =>
    obtain ⟨⟨rr, rfl⟩, v', hp⟩ := he2
    have HP := Lib.hid hp
    clear hp he
    go_wp2_with fail
    go_end0
    exact ⟨⟨_, rfl⟩, _, HP.out⟩
  | some q =>
    obtain ⟨hfar, a, c, rfl, hints⟩ := he2
    have HF2 := Lib.hid hfar; have HI := Lib.hid hints
    clear hfar hints he
    go_wp2_with fail
    exact ⟨rfl, HF2.out, a, c, rfl, HI.out⟩
end Go.Proofs.YtmniblcooficgaaGreatDoor
