import Derived.Test.YtmniblcooficgaaGreatDoorD29
namespace Go.Proofs.YtmniblcooficgaaGreatDoor
open Go.RowKit Ev5
set_option linter.unusedSimpArgs false
set_option linter.unusedVariables false

set_option maxRecDepth 100000 in
set_option maxHeartbeats 4000000 in
theorem delim_any (n : Nd) (htk : ∀ k ∈ n.kids, ∀ f ∈ k.kids, ∀ x ∈ f.kids, x.k = 4 → x.kids = []) (w : World) (B X : Nat) (v : Value) (p : List Int) (S : Nat → Prop) (nv : Value) (hlk : Lk w B X v p) (hv : NdV w S nv n) (hSB : ∀ b, S b → b < B) (hB : B ≤ w.heap.size) (hl : p.length + n.size ≤ 100000) :
    Calls Tryz.prog 19 #[.pointer (some ⟨X, 0, none⟩), nv] w (LkEnd B X v p (firstP tpD [] n p) w) := by
  by_cases hk5 : n.k = 5
  · obtain ⟨u, rfl, hs⟩ := hv
    obtain ⟨ao, cap, rfl, hcap, hcm⟩ := hs.shape
    have hmf : ∀ (fn : Fn) (first cap : Array Value) (w : World), (Instr.makeFunc fn first cap).run Tryz.prog w = .ok (.func fn first cap) w := fun _ _ _ _ => rfl
    have hkb : (n.k != 5) = false := by simp [hk5]
    have HR := Lib.hid (firstP_kids (tp := tpD) (way := []) (n := n) (p := p) (by simp [tpD, hk5]))
    have h3 := threeC w (.cells #[.pointer (some ⟨X, 0, none⟩)] 41) (.cells #[.int .i64 n.k, .string n.t, .string n.v, .slice ao n.kids.length cap] 24) (.cells #[.func (.func 33) #[] #[]] 58)
    have H3 := Lib.hid h3
    have H := Lib.hid hlk; have HS := Lib.hid hs; have HSB := Lib.hid hSB; have HBB := Lib.hid hB; have HTK := Lib.hid htk
    have hsz := kids_size n
    have hsl := sizes_len n.kids
    have HXW := Lib.hid (lt_blk hlk.blk)
    have HVW := Lib.hid (fun g (e : v.ownBlock = some g) => (hlk.row.lt g e).2)
    clear hlk hs hSB hB hk5 htk h3
    unfold ndV
    go_enter Tryz.func19, Tryz.ntmps19
    go_wp2_with fail
    obtain ⟨W3, hW3⟩ : ∃ W3, (((w.alloc (.cells #[.pointer (some ⟨X, 0, none⟩)] 41)).alloc (.cells #[.int .i64 n.k, .string n.t, .string n.v, .slice ao n.kids.length cap] 24)).alloc (.cells #[.func (.func 33) #[] #[]] 58)) = W3 := ⟨_, rfl⟩
    have HL0 := Lib.hid (show W3.heap[w.heap.size]? = some (.cells #[.pointer (some ⟨X, 0, none⟩)] 41 (0, 0)) from hW3 ▸ H3.out.1)
    have HN0 := Lib.hid (show W3.heap[w.heap.size + 1]? = some (.cells #[.int .i64 n.k, .string n.t, .string n.v, .slice ao n.kids.length cap] 24 (0, 0)) from hW3 ▸ H3.out.2.1)
    have HK0 := Lib.hid (show W3.heap[w.heap.size + 1 + 1]? = some (.cells #[.func (.func 33) #[] #[]] 58 (0, 0)) from hW3 ▸ H3.out.2.2.1)
    have HB3 := Lib.hid (show Below w.heap.size w W3 from hW3 ▸ H3.out.2.2.2)
    obtain ⟨x0, x1, x2, x3, _, _, _, _, hxl⟩ := nd_cells HN0.out
    rw [hW3]
    clear hW3
    go_wp2_with fail
    refine (kids_any 34 #[.pointer (some ⟨w.heap.size + 1 + 1, 0, none⟩), .pointer (some ⟨w.heap.size + 1, 0, none⟩), .pointer (some ⟨w.heap.size, 0, none⟩)] (fun args w => by rfl) _ B X v p S n _ (fun i => if hi : i < n.kids.length then firstP tpD ([] ++ [n]) n.kids[i] (p ++ [(i : Int)]) else none) (H.out.below HB3.out) ⟨_, rfl, HS.out.below HB3.out⟩ HSB.out (Nat.le_trans HBB.out HB3.out.size) (by omega) (by omega) (fun W' v' i hi u hfar hat hlkW hnW => ?_)).mono ?_
    · rw [dif_pos hi]
      have hks := kid_size (n := n) hi
      have hn0 : 0 < n.kids.length := by omega
      have hk0 := kid_size (n := n) hn0
      have hkk := kids_size n.kids[0]
      have hkl := sizes_len n.kids[0].kids
      have hxw := HXW.out
      have hx3 := lt_blk HK0.out
      have keep : ∀ b, w.heap.size ≤ b → b < W3.heap.size → W'.heap[b]? = W3.heap[b]? := fun b h1 h2 => hfar.oth b h2 (by omega) (fun e => by have := HVW.out b e; omega)
      have knew : ∀ b, w.heap.size ≤ b → b < W3.heap.size → v'.ownBlock ≠ some b := fun b h1 h2 => by
        rcases hat with e | e
        · rw [e]; intro e2; have := HVW.out b e2; omega
        · intro e2; have := e b e2; omega
      refine delimK_any n n.kids[i] hn0 (HTK.out _ (List.getElem_mem hi)) W' (w.heap.size + 1 + 1) (w.heap.size + 1) w.heap.size X B v' _ S u (.slice ao n.kids.length cap) i ?_ ?_ ?_ ⟨by omega, by omega, by omega⟩ ⟨knew _ (by omega) (by omega), knew _ (by omega) (by omega), knew _ (by omega) (by omega)⟩ hlkW hnW ?_ HSB.out (Nat.le_trans HBB.out (Nat.le_trans HB3.out.size hfar.size)) (by rw [List.length_append, List.length_singleton]; omega) (by omega) (by omega)
      · rw [keep _ (by omega) (by omega)]; exact HK0.out
      · rw [keep _ (by omega) (by omega)]; exact HN0.out
      · rw [keep _ (by omega) (by omega)]; exact HL0.out
      · exact HS.out.alike ⟨Nat.le_trans HB3.out.size hfar.size, fun b hb hl => (hfar.oth b (Nat.lt_of_lt_of_le hl HB3.out.size) (by have := HSB.out b hb; have := H.out.lo; omega) (fun e => by have := (H.out.row.lt _ e).1; have := HSB.out b hb; omega)).trans (HB3.out.block b hl)⟩ fun b h _ => h
    · intro e w3 he
      have he2 := he.after HB3.out
      rw [← HR.out] at he2
      cases ho : firstP tpD [] n p with
      | none =>
        rw [ho] at he2
        obtain ⟨⟨rr, rfl⟩, v', hp⟩ := he2
        have HP := Lib.hid hp
        have HO := Lib.hid ho
        clear hp he
        go_wp2_with fail
        go_end0
        show LkEnd B X v p (firstP tpD [] n p) w _ _
        rw [HO.out]
        exact ⟨⟨_, rfl⟩, _, HP.out⟩
      | some q =>
        rw [ho] at he2
        obtain ⟨hfar, a, c, rfl, hints⟩ := he2
        have HF2 := Lib.hid hfar; have HI := Lib.hid hints
        have HO := Lib.hid ho
        clear hfar hints he
        go_wp2_with fail
        exact ⟨rfl, HF2.out, a, c, rfl, HI.out⟩
  · rw [firstP_no (by simp [tpD, hk5])]
    exact delimNo_any n hk5 w B X v p S nv hlk hv (by omega)
theorem tf_leaf {R : Ev → Bool} {n : Nd} (h : Tf R n) (hk : n.k = 4) : n.kids = [] := by
  cases h with
  | mk k t v ks hr ho hk' ht =>
    simp only [Nd.k] at hk
    subst hk
    rcases odd_kind ho with ⟨_, h⟩ | ⟨h, _⟩ | h
    · exact List.eq_nil_of_length_eq_zero h
    · omega
    · omega
theorem Tf.kid {R : Ev → Bool} {n x : Nd} (h : Tf R n) (hx : x ∈ n.kids) : Tf R x := by
  cases h with
  | mk k t v ks hr ho hk ht => exact ht x hx
theorem wh_leaf {n : Nd} (h : n.wh = 0) : ∀ k ∈ n.kids, ∀ f ∈ k.kids, ∀ x ∈ f.kids, x.k = 4 → x.kids = [] :=
  fun k hk f hf x hx => tf_leaf (((tf_wh h).1.kid hk).kid hf |>.kid hx)
set_option maxRecDepth 100000 in
set_option maxHeartbeats 4000000 in
theorem carryDelim_any (n : Nd) (w : World) (S : Nat → Prop) (v : Value) (hE : EnvU w) (hv : NdV w S v n) (hok : n.ok) (hN : n.size ≤ 50000) :
    Calls Tryz.prog 7 #[.int .i64 5, v] w (OfPost (ofP tpD n) w) := by
  obtain ⟨u, rfl, hs⟩ := hv
  obtain ⟨ao, cap, rfl, hcap, hcm⟩ := hs.shape
  have HV := Lib.hid (NdV.mk hs.ltC); have HE := Lib.hid hE; have HOK := Lib.hid hok; have HN := Lib.hid hN
  have HWL := Lib.hid (show n.walk.length ≤ 100000 by have := walk_len n; omega)
  have hmf : ∀ (fn : Fn) (first cap : Array Value) (w : World), (Instr.makeFunc fn first cap).run Tryz.prog w = .ok (.func fn first cap) w := fun _ _ _ _ => rfl
  clear hs hE hok hN
  unfold ndV
  go_enter_defers Tryz.func7, Tryz.ntmps7
  have h3 := threeC w (.cells #[.int .i64 n.k, .string n.t, .string n.v, .slice ao n.kids.length cap] 24) (.cells #[.slice none 0 0] 27) (.cells #[.int .i64 0] 28)
  have H3 := Lib.hid h3
  clear h3
  go_wp2_with fail
  refine (treeMay_any n _ _ _ (HE.out.below H3.out.2.2.2) (HV.out.below H3.out.2.2.2) (fun b hb => Nat.lt_of_lt_of_le hb H3.out.2.2.2.size) HOK.out HWL.out).mono ?_
  rintro e w2 ⟨rfl, hb⟩
  have hx0 := (hb.block _ (lt_blk H3.out.1)).trans H3.out.1
  have hx1 := (hb.block _ (lt_blk H3.out.2.1)).trans H3.out.2.1
  have hx2 := (hb.block _ (lt_blk H3.out.2.2.1)).trans H3.out.2.2.1
  have HB2 := Lib.hid (bthen H3.out.2.2.2 hb)
  obtain ⟨x0, x1, x2, x3, _, _, _, _, hxl⟩ := nd_cells hx0
  obtain ⟨P5, h5⟩ : ∃ P5, w.heap.size + 1 + 1 = P5 := ⟨_, rfl⟩
  obtain ⟨P4, h4⟩ : ∃ P4, w.heap.size + 1 = P4 := ⟨_, rfl⟩
  have hne : P5 ≠ P4 := by omega
  have hne' : P4 ≠ P5 := by omega
  have HLO := Lib.hid (show w.heap.size ≤ P4 ∧ w.heap.size ≤ P5 by omega)
  rw [h5] at hx2
  rw [h4] at hx1
  rw [h5, h4]
  have HX := Lib.hid (And.intro hx1 hx2)
  have hl4 := lt_blk hx1
  have hl5 := lt_blk hx2
  obtain ⟨c4, g4⟩ := blk_cell hx1 0 (by simp)
  obtain ⟨c5, g5⟩ := blk_cell hx2 0 (by simp)
  obtain ⟨E, hE⟩ : ∃ E, (wholeP RP (n.walk.map GoEv.ev)).2 = E := ⟨_, rfl⟩
  have HEQ := Lib.hid (show n.wh = E from hE)
  rw [hE]
  clear hb hx0 hx1 hx2 hE h4 h5
  by_cases hz : E = 0
  · subst hz
    have HLK := Lib.hid (show ∀ W : World, Below w.heap.size w W → Lk (W.alloc (.cells #[.slice none 0 0] 42)) W.heap.size W.heap.size (.slice none 0 0) [] from fun W _ => ⟨heap_alloc_new W _, World.ownsRow_nil _ _ _ _, (by simp [Value.ownBlock]), Nat.le_refl _, fun x hx => by cases hx⟩)
    go_wp2_with fail
    have hlk := HLK.out w2 HB2.out
    have hbl : Below w2.heap.size w2 (w2.alloc (.cells #[.slice none 0 0] 42)) := (Below.refl _ _).alloc (Nat.le_refl _) _
    have hnv := HV.out.below (bthen HB2.out hbl)
    refine (delim_any n (wh_leaf HEQ.out) _ w2.heap.size w2.heap.size (.slice none 0 0) [] _ _ hlk hnv (fun b hb => Nat.lt_of_lt_of_le hb HB2.out.size) (by simp) (by have := HN.out; simp; omega)).mono ?_
    intro e w3 he
    have hfar : LkFar w2.heap.size (.slice none 0 0) (w2.alloc (.cells #[.slice none 0 0] 42)) w3 := by
      cases ho : firstP tpD [] n [] with
      | none => rw [ho] at he; obtain ⟨_, v', hp⟩ := he; exact hp.far
      | some q => rw [ho] at he; exact he.1
    have hb3 : Below w2.heap.size w2 w3 := by
      refine ⟨hfar.os, hfar.tape, hfar.output, Nat.le_trans hbl.size hfar.size, fun k hk => ?_⟩
      rw [hfar.oth k (Nat.lt_of_lt_of_le hk hbl.size) (by omega) (by simp [Value.ownBlock])]
      exact hbl.block k hk
    have HB3 := Lib.hid hb3
    have hx4 := (hb3.block _ hl4).trans HX.out.1
    have hx5 := (hb3.block _ hl5).trans HX.out.2
    have HX3 := Lib.hid (And.intro hx4 hx5)
    have hl43 := lt_blk hx4
    have hl53 := lt_blk hx5
    clear c4 g4 c5 g5 hl4 hl5 x0 x1 x2 x3 hxl hnv hlk hfar hb3
    obtain ⟨c4, g4⟩ := blk_cell hx4 0 (by simp)
    obtain ⟨c5, g5⟩ := blk_cell hx5 0 (by simp)
    clear hx4 hx5
    cases ho : firstP tpD [] n [] with
    | none =>
      rw [ho] at he
      obtain ⟨⟨rr, rfl⟩, v', hp⟩ := he
      have HP := Lib.hid (show ofP tpD n = (none, 0) by unfold ofP; rw [if_neg (by rw [HEQ.out]; simp), ho])
      clear hp
      go_wp2_with fail
      obtain ⟨W9, hW9⟩ : ∃ W9, (w3.setCell ⟨P4, 0, none⟩ (.slice none 0 0)).setCell ⟨P5, 0, none⟩ (.int .i64 0) = W9 := ⟨_, rfl⟩
      have hk := two_vars HX3.out.1 HX3.out.2 hne' (.slice none 0 0) (.int .i64 0)
      rw [hW9] at hk
      have k4 : W9.cell? ⟨P4, 0, none⟩ = some (.slice none 0 0) := (blk_cell hk.1 0 (by simp)).1
      have k5 : W9.cell? ⟨P5, 0, none⟩ = some (.int .i64 0) := (blk_cell hk.2 0 (by simp)).1
      have hbw : Below w.heap.size w W9 := by
        rw [← hW9]
        exact ((bthen HB2.out HB3.out).setCell (p := ⟨P4, 0, none⟩) HLO.out.1 _).setCell (p := ⟨P5, 0, none⟩) HLO.out.2 _
      rw [hW9]
      refine leaves_cons (f := 14) (args := #[.pointer (some ⟨P4, 0, none⟩), .pointer (some ⟨P5, 0, none⟩)]) (by simp) (by simp [go_sem]) ?_
      refine (of1_idle ⟨P4, 0, none⟩ ⟨P5, 0, none⟩ W9).mono ?_
      rintro e u' w'' ⟨rfl, rfl, hb⟩
      have m4 : w''.cell? ⟨P4, 0, none⟩ = some (.slice none 0 0) := by rw [hb.cell (p := ⟨P4, 0, none⟩) (cell_lt k4)]; exact k4
      have m5 : w''.cell? ⟨P5, 0, none⟩ = some (.int .i64 0) := by rw [hb.cell (p := ⟨P5, 0, none⟩) (cell_lt k5)]; exact k5
      have hbb := bthen hbw hb
      simp [Leaves, settle, results, Tryz.results7, go_sem, m4, m5]
      rw [HP.out]
      exact ⟨hbb, none, 0, 0, rfl, rfl⟩
    | some q =>
      rw [ho] at he
      obtain ⟨_, a, c, rfl, hints⟩ := he
      have HP := Lib.hid (show ofP tpD n = (some q, 20) by unfold ofP; rw [if_neg (by rw [HEQ.out]; simp), ho])
      have HI := Lib.hid hints
      clear hints
      go_wp2_with fail
      refine leaves_cons (f := 14) (args := #[.pointer (some ⟨P4, 0, none⟩), .pointer (some ⟨P5, 0, none⟩)]) (by simp) (by simp [go_sem]) ?_
      refine (of1_catch P4 P5 a q.length c [] w3 _ _ HX3.out.1 HX3.out.2 hne').mono ?_
      rintro e u' w'' ⟨rfl, rfl, hw⟩
      obtain ⟨W9, hW9⟩ : ∃ W9, (w3.setCell ⟨P4, 0, none⟩ (.slice a q.length c)).setCell ⟨P5, 0, none⟩ (.int .i64 20) = W9 := ⟨_, rfl⟩
      have hk := two_vars HX3.out.1 HX3.out.2 hne' (.slice a q.length c) (.int .i64 20)
      rw [hW9] at hk hw
      have hba : Below W9.heap.size W9 w'' := by rw [hw]; exact (Below.refl _ _).alloc (Nat.le_refl _) _
      have m4 : w''.cell? ⟨P4, 0, none⟩ = some (.slice a q.length c) := (blk_cell ((hba.block _ (lt_blk hk.1)).trans hk.1) 0 (by simp)).1
      have m5 : w''.cell? ⟨P5, 0, none⟩ = some (.int .i64 20) := (blk_cell ((hba.block _ (lt_blk hk.2)).trans hk.2) 0 (by simp)).1
      have hbw : Below w.heap.size w W9 := by
        rw [← hW9]
        exact ((bthen HB2.out HB3.out).setCell (p := ⟨P4, 0, none⟩) HLO.out.1 _).setCell (p := ⟨P5, 0, none⟩) HLO.out.2 _
      have hbb := bthen hbw hba
      have hii : IntsIn w'' (.slice a q.length c) q := by
        obtain ⟨ao, cp, e, h1, h2, h3⟩ := HI.out.ints.ex
        injection e with e1 e2 e3
        subst e1; subst e3
        refine ⟨⟨a, c, rfl, h1, h2, fun i hi => ?_⟩, HI.out.ints.ok⟩
        obtain ⟨b, o, e, hc⟩ := h3 i hi
        refine ⟨b, o, e, ?_⟩
        have hnew := HI.out.new _ e
        have hb1 : w2.heap.size < b := by have h := hnew; simp at h; omega
        have hp4 := lt_blk HX.out.1
        have hp5 := lt_blk HX.out.2
        have hlt := cell_lt hc
        have h9 : W9.cell? ⟨b, o + i, none⟩ = some (.int .i64 q[i]) := by
          rw [← hW9, World.cell?_setCell_other _ _ _ _ (fun e => by injection e with e; omega), World.cell?_setCell_other _ _ _ _ (fun e => by injection e with e; omega)]; exact hc
        rw [hba.cell (p := ⟨b, o + i, none⟩) (cell_lt h9)]
        exact h9
      simp [Leaves, settle, results, Tryz.results7, go_sem, m4, m5]
      rw [HP.out]
      exact ⟨hbb, a, q.length, c, rfl, rfl, hii⟩
  · have hzb : (E != 0) = true := by simp [hz]
    go_wp2_with fail
    obtain ⟨W9, hW9⟩ : ∃ W9, (w2.setCell ⟨P4, 0, none⟩ (.slice none 0 0)).setCell ⟨P5, 0, none⟩ (.int .i64 E) = W9 := ⟨_, rfl⟩
    have hk := two_vars HX.out.1 HX.out.2 hne' (.slice none 0 0) (.int .i64 E)
    rw [hW9] at hk
    have k4 : W9.cell? ⟨P4, 0, none⟩ = some (.slice none 0 0) := (blk_cell hk.1 0 (by simp)).1
    have k5 : W9.cell? ⟨P5, 0, none⟩ = some (.int .i64 E) := (blk_cell hk.2 0 (by simp)).1
    have hbw : Below w.heap.size w W9 := by
      rw [← hW9]
      exact (HB2.out.setCell (p := ⟨P4, 0, none⟩) HLO.out.1 _).setCell (p := ⟨P5, 0, none⟩) HLO.out.2 _
    rw [hW9]
    have hP := Lib.hid (show ofP tpD n = (none, E) by unfold ofP; rw [if_pos (by rw [HEQ.out]; exact hz), HEQ.out])
    simp [bodyPostD, Leaves, settle, results, Tryz.results7, go_sem, k4, k5]
    rw [hP.out]
    exact ⟨hbw, none, 0, 0, rfl, rfl⟩
end Go.Proofs.YtmniblcooficgaaGreatDoor
