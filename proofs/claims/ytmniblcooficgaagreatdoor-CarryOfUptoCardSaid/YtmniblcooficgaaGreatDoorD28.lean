import Derived.Test.YtmniblcooficgaaGreatDoorD27
import Derived.Test.YtmniblcooficgaaGreatDoorD26
namespace Go.Proofs.YtmniblcooficgaaGreatDoor
open Go.RowKit Ev5
set_option linter.unusedSimpArgs false
set_option linter.unusedVariables false

def tpD0 (l : List Nd) : Bool := match l with
  | [n] => decide (n.k = 5)
  | _ => true
theorem firstD0 {n : Nd} (h : n.k ≠ 5) : firstP tpD0 [] n [] = some [] := firstP_no (by simp [tpD0, h])
set_option maxRecDepth 100000 in
set_option maxHeartbeats 2000000 in
theorem delimNo_any (n : Nd) (hk5 : n.k ≠ 5) (w : World) (B X : Nat) (v : Value) (p : List Int) (S : Nat → Prop) (nv : Value) (hlk : Lk w B X v p) (hv : NdV w S nv n) (hl : p.length ≤ 100000) :
    Calls Tryz.prog 19 #[.pointer (some ⟨X, 0, none⟩), nv] w (LkEnd B X v p (some p) w) := by
  obtain ⟨u, rfl, hs⟩ := hv
  obtain ⟨ao, cap, rfl, hcap, hcm⟩ := hs.shape
  have hb := ((Below.refl w.heap.size w).alloc (Nat.le_refl _) (.cells #[.pointer (some ⟨X, 0, none⟩)] 41)).alloc (by simp) (.cells #[.int .i64 n.k, .string n.t, .string n.v, .slice ao n.kids.length cap] 24)
  have H := Lib.hid hlk; have HB := Lib.hid hb
  have hkb : (n.k != 5) = true := by simp [hk5]
  clear hlk hs hb hk5
  unfold ndV
  go_enter Tryz.func19, Tryz.ntmps19
  go_wp2_with fail
  refine (fails_any _ B X v p (H.out.below HB.out) (by omega)).mono ?_
  intro e w3 he
  have he2 : LkEnd B X v p (some p) w e w3 := he.after HB.out
  obtain ⟨hfar, a, c, rfl, hints⟩ := he2
  have HF2 := Lib.hid hfar; have HI := Lib.hid hints
  clear hfar hints he
  go_wp2_with fail
  exact ⟨rfl, HF2.out, a, c, rfl, HI.out⟩
set_option maxRecDepth 100000 in
set_option maxHeartbeats 4000000 in
theorem carryDelimNo_any (n : Nd) (hk5 : n.k ≠ 5) (w : World) (S : Nat → Prop) (v : Value) (hE : EnvU w) (hv : NdV w S v n) (hok : n.ok) (hN : n.size ≤ 50000) :
    Calls Tryz.prog 7 #[.int .i64 5, v] w (OfPost (ofP tpD0 n) w) := by
  obtain ⟨u, rfl, hs⟩ := hv
  obtain ⟨ao, cap, rfl, hcap, hcm⟩ := hs.shape
  have HV := Lib.hid (NdV.mk hs.ltC); have HE := Lib.hid hE; have HOK := Lib.hid hok; have HN := Lib.hid hN
  have HWL := Lib.hid (show n.walk.length ≤ 100000 by have := walk_len n; omega)
  have hmf : ∀ (fn : Fn) (first cap : Array Value) (w : World), (Instr.makeFunc fn first cap).run Tryz.prog w = .ok (.func fn first cap) w := fun _ _ _ _ => rfl
  clear hs hE hok hN
  unfold ndV
  go_enter_defers Tryz.func7, Tryz.ntmps7
  have h3 := threeC w (.cells #[.int .i64 n.k, .string n.t, .string n.v, .slice ao n.kids.length cap] 24) (.cells #[.slice none 0 0] 27) (.cells #[.int .i64 0] 28)
  have H3 := Lib.hid h3
  clear h3
  go_wp2_with fail
  refine (treeMay_any n _ _ _ (HE.out.below H3.out.2.2.2) (HV.out.below H3.out.2.2.2) (fun b hb => Nat.lt_of_lt_of_le hb H3.out.2.2.2.size) HOK.out HWL.out).mono ?_
  rintro e w2 ⟨rfl, hb⟩
  have hx0 := (hb.block _ (lt_blk H3.out.1)).trans H3.out.1
  have hx1 := (hb.block _ (lt_blk H3.out.2.1)).trans H3.out.2.1
  have hx2 := (hb.block _ (lt_blk H3.out.2.2.1)).trans H3.out.2.2.1
  have HB2 := Lib.hid (bthen H3.out.2.2.2 hb)
  obtain ⟨x0, x1, x2, x3, _, _, _, _, hxl⟩ := nd_cells hx0
  obtain ⟨P5, h5⟩ : ∃ P5, w.heap.size + 1 + 1 = P5 := ⟨_, rfl⟩
  obtain ⟨P4, h4⟩ : ∃ P4, w.heap.size + 1 = P4 := ⟨_, rfl⟩
  have hne : P5 ≠ P4 := by omega
  have hne' : P4 ≠ P5 := by omega
  have HLO := Lib.hid (show w.heap.size ≤ P4 ∧ w.heap.size ≤ P5 by omega)
  rw [h5] at hx2
  rw [h4] at hx1
  rw [h5, h4]
  have HX := Lib.hid (And.intro hx1 hx2)
  have hl4 := lt_blk hx1
  have hl5 := lt_blk hx2
  obtain ⟨c4, g4⟩ := blk_cell hx1 0 (by simp)
  obtain ⟨c5, g5⟩ := blk_cell hx2 0 (by simp)
  obtain ⟨E, hE⟩ : ∃ E, (wholeP RP (n.walk.map GoEv.ev)).2 = E := ⟨_, rfl⟩
  have HEQ := Lib.hid (show n.wh = E from hE)
  rw [hE]
  clear hb hx0 hx1 hx2 hE h4 h5
  by_cases hz : E = 0
  · subst hz
    have HLK := Lib.hid (show ∀ W : World, Below w.heap.size w W → Lk (W.alloc (.cells #[.slice none 0 0] 42)) W.heap.size W.heap.size (.slice none 0 0) [] from fun W _ => ⟨heap_alloc_new W _, World.ownsRow_nil _ _ _ _, (by simp [Value.ownBlock]), Nat.le_refl _, fun x hx => by cases hx⟩)
    go_wp2_with fail
    have hlk := HLK.out w2 HB2.out
    have hbl : Below w2.heap.size w2 (w2.alloc (.cells #[.slice none 0 0] 42)) := (Below.refl _ _).alloc (Nat.le_refl _) _
    have hnv := HV.out.below (bthen HB2.out hbl)
    refine (delimNo_any n hk5 _ w2.heap.size w2.heap.size (.slice none 0 0) [] _ _ hlk hnv (by simp)).mono ?_
    intro e w3 he
    rw [← firstD0 hk5] at he
    have hfar : LkFar w2.heap.size (.slice none 0 0) (w2.alloc (.cells #[.slice none 0 0] 42)) w3 := by
      cases ho : firstP tpD0 [] n [] with
      | none => rw [ho] at he; obtain ⟨_, v', hp⟩ := he; exact hp.far
      | some q => rw [ho] at he; exact he.1
    have hb3 : Below w2.heap.size w2 w3 := by
      refine ⟨hfar.os, hfar.tape, hfar.output, Nat.le_trans hbl.size hfar.size, fun k hk => ?_⟩
      rw [hfar.oth k (Nat.lt_of_lt_of_le hk hbl.size) (by omega) (by simp [Value.ownBlock])]
      exact hbl.block k hk
    have HB3 := Lib.hid hb3
    have hx4 := (hb3.block _ hl4).trans HX.out.1
    have hx5 := (hb3.block _ hl5).trans HX.out.2
    have HX3 := Lib.hid (And.intro hx4 hx5)
    have hl43 := lt_blk hx4
    have hl53 := lt_blk hx5
    clear c4 g4 c5 g5 hl4 hl5 x0 x1 x2 x3 hxl hnv hlk hfar hb3
    obtain ⟨c4, g4⟩ := blk_cell hx4 0 (by simp)
    obtain ⟨c5, g5⟩ := blk_cell hx5 0 (by simp)
    clear hx4 hx5
    cases ho : firstP tpD0 [] n [] with
    | none =>
      rw [ho] at he
      obtain ⟨⟨rr, rfl⟩, v', hp⟩ := he
      have HP := Lib.hid (show ofP tpD0 n = (none, 0) by unfold ofP; rw [if_neg (by rw [HEQ.out]; simp), ho])
      clear hp
      go_wp2_with fail
      obtain ⟨W9, hW9⟩ : ∃ W9, (w3.setCell ⟨P4, 0, none⟩ (.slice none 0 0)).setCell ⟨P5, 0, none⟩ (.int .i64 0) = W9 := ⟨_, rfl⟩
      have hk := two_vars HX3.out.1 HX3.out.2 hne' (.slice none 0 0) (.int .i64 0)
      rw [hW9] at hk
      have k4 : W9.cell? ⟨P4, 0, none⟩ = some (.slice none 0 0) := (blk_cell hk.1 0 (by simp)).1
      have k5 : W9.cell? ⟨P5, 0, none⟩ = some (.int .i64 0) := (blk_cell hk.2 0 (by simp)).1
      have hbw : Below w.heap.size w W9 := by
        rw [← hW9]
        exact ((bthen HB2.out HB3.out).setCell (p := ⟨P4, 0, none⟩) HLO.out.1 _).setCell (p := ⟨P5, 0, none⟩) HLO.out.2 _
      rw [hW9]
      refine leaves_cons (f := 14) (args := #[.pointer (some ⟨P4, 0, none⟩), .pointer (some ⟨P5, 0, none⟩)]) (by simp) (by simp [go_sem]) ?_
      refine (of1_idle ⟨P4, 0, none⟩ ⟨P5, 0, none⟩ W9).mono ?_
      rintro e u' w'' ⟨rfl, rfl, hb⟩
      have m4 : w''.cell? ⟨P4, 0, none⟩ = some (.slice none 0 0) := by rw [hb.cell (p := ⟨P4, 0, none⟩) (cell_lt k4)]; exact k4
      have m5 : w''.cell? ⟨P5, 0, none⟩ = some (.int .i64 0) := by rw [hb.cell (p := ⟨P5, 0, none⟩) (cell_lt k5)]; exact k5
      have hbb := bthen hbw hb
      simp [Leaves, settle, results, Tryz.results7, go_sem, m4, m5]
      rw [HP.out]
      exact ⟨hbb, none, 0, 0, rfl, rfl⟩
    | some q =>
      rw [ho] at he
      obtain ⟨_, a, c, rfl, hints⟩ := he
      have HP := Lib.hid (show ofP tpD0 n = (some q, 20) by unfold ofP; rw [if_neg (by rw [HEQ.out]; simp), ho])
      have HI := Lib.hid hints
      clear hints
      go_wp2_with fail
      refine leaves_cons (f := 14) (args := #[.pointer (some ⟨P4, 0, none⟩), .pointer (some ⟨P5, 0, none⟩)]) (by simp) (by simp [go_sem]) ?_
      refine (of1_catch P4 P5 a q.length c [] w3 _ _ HX3.out.1 HX3.out.2 hne').mono ?_
      rintro e u' w'' ⟨rfl, rfl, hw⟩
      obtain ⟨W9, hW9⟩ : ∃ W9, (w3.setCell ⟨P4, 0, none⟩ (.slice a q.length c)).setCell ⟨P5, 0, none⟩ (.int .i64 20) = W9 := ⟨_, rfl⟩
      have hk := two_vars HX3.out.1 HX3.out.2 hne' (.slice a q.length c) (.int .i64 20)
      rw [hW9] at hk hw
      have hba : Below W9.heap.size W9 w'' := by rw [hw]; exact (Below.refl _ _).alloc (Nat.le_refl _) _
      have m4 : w''.cell? ⟨P4, 0, none⟩ = some (.slice a q.length c) := (blk_cell ((hba.block _ (lt_blk hk.1)).trans hk.1) 0 (by simp)).1
      have m5 : w''.cell? ⟨P5, 0, none⟩ = some (.int .i64 20) := (blk_cell ((hba.block _ (lt_blk hk.2)).trans hk.2) 0 (by simp)).1
      have hbw : Below w.heap.size w W9 := by
        rw [← hW9]
        exact ((bthen HB2.out HB3.out).setCell (p := ⟨P4, 0, none⟩) HLO.out.1 _).setCell (p := ⟨P5, 0, none⟩) HLO.out.2 _
      have hbb := bthen hbw hba
      have hii : IntsIn w'' (.slice a q.length c) q := by
        obtain ⟨ao, cp, e, h1, h2, h3⟩ := HI.out.ints.ex
        injection e with e1 e2 e3
        subst e1; subst e3
        refine ⟨⟨a, c, rfl, h1, h2, fun i hi => ?_⟩, HI.out.ints.ok⟩
        obtain ⟨b, o, e, hc⟩ := h3 i hi
        refine ⟨b, o, e, ?_⟩
        have hnew := HI.out.new _ e
        have hb1 : w2.heap.size < b := by have h := hnew; simp at h; omega
        have hp4 := lt_blk HX.out.1
        have hp5 := lt_blk HX.out.2
        have hlt := cell_lt hc
        have h9 : W9.cell? ⟨b, o + i, none⟩ = some (.int .i64 q[i]) := by
          rw [← hW9, World.cell?_setCell_other _ _ _ _ (fun e => by injection e with e; omega), World.cell?_setCell_other _ _ _ _ (fun e => by injection e with e; omega)]; exact hc
        rw [hba.cell (p := ⟨b, o + i, none⟩) (cell_lt h9)]
        exact h9
      simp [Leaves, settle, results, Tryz.results7, go_sem, m4, m5]
      rw [HP.out]
      exact ⟨hbb, a, q.length, c, rfl, rfl, hii⟩
  · have hzb : (E != 0) = true := by simp [hz]
    go_wp2_with fail
    obtain ⟨W9, hW9⟩ : ∃ W9, (w2.setCell ⟨P4, 0, none⟩ (.slice none 0 0)).setCell ⟨P5, 0, none⟩ (.int .i64 E) = W9 := ⟨_, rfl⟩
    have hk := two_vars HX.out.1 HX.out.2 hne' (.slice none 0 0) (.int .i64 E)
    rw [hW9] at hk
    have k4 : W9.cell? ⟨P4, 0, none⟩ = some (.slice none 0 0) := (blk_cell hk.1 0 (by simp)).1
    have k5 : W9.cell? ⟨P5, 0, none⟩ = some (.int .i64 E) := (blk_cell hk.2 0 (by simp)).1
    have hbw : Below w.heap.size w W9 := by
      rw [← hW9]
      exact (HB2.out.setCell (p := ⟨P4, 0, none⟩) HLO.out.1 _).setCell (p := ⟨P5, 0, none⟩) HLO.out.2 _
    rw [hW9]
    have hP := Lib.hid (show ofP tpD0 n = (none, E) by unfold ofP; rw [if_pos (by rw [HEQ.out]; exact hz), HEQ.out])
    simp [bodyPostD, Leaves, settle, results, Tryz.results7, go_sem, k4, k5]
    rw [hP.out]
    exact ⟨hbw, none, 0, 0, rfl, rfl⟩
set_option maxRecDepth 100000 in
set_option maxHeartbeats 2000000 in
theorem carryNone_any (n : Nd) (w : World) (S : Nat → Prop) (v : Value) (hv : NdV w S v n) :
    Calls Tryz.prog 7 #[.int .i64 7, v] w fun e w' => e = .returned (.tuple #[.slice none 0 0, .int .i64 50]) ∧ Below w.heap.size w w' := by
  obtain ⟨u, rfl, hs⟩ := hv
  obtain ⟨ao, cap, rfl, hcap, hcm⟩ := hs.shape
  have hmf : ∀ (fn : Fn) (first cap : Array Value) (w : World), (Instr.makeFunc fn first cap).run Tryz.prog w = .ok (.func fn first cap) w := fun _ _ _ _ => rfl
  have h3 := threeC w (.cells #[.int .i64 n.k, .string n.t, .string n.v, .slice ao n.kids.length cap] 24) (.cells #[.slice none 0 0] 27) (.cells #[.int .i64 50] 28)
  have H3 := Lib.hid h3
  clear hs h3
  unfold ndV
  go_enter_defers Tryz.func7, Tryz.ntmps7
  go_wp2_with fail
  obtain ⟨W9, hW9⟩ : ∃ W9, ((w.alloc (.cells #[.int .i64 n.k, .string n.t, .string n.v, .slice ao n.kids.length cap] 24)).alloc (.cells #[.slice none 0 0] 27)).alloc (.cells #[.int .i64 50] 28) = W9 := ⟨_, rfl⟩
  have H4 := Lib.hid H3.out
  clear H3
  rw [hW9] at H4
  rw [hW9]
  have k4 : W9.cell? ⟨w.heap.size + 1, 0, none⟩ = some (.slice none 0 0) := (blk_cell H4.out.2.1 0 (by simp)).1
  have k5 : W9.cell? ⟨w.heap.size + 1 + 1, 0, none⟩ = some (.int .i64 50) := (blk_cell H4.out.2.2.1 0 (by simp)).1
  simp [bodyPostD, Leaves, settle, results, Tryz.results7, go_sem, k4, k5]
  exact H4.out.2.2.2
end Go.Proofs.YtmniblcooficgaaGreatDoor
namespace Go.Proofs.YtmniblcooficgaaGreatDoor
open Go.RowKit Ev5
set_option linter.unusedSimpArgs false
set_option linter.unusedVariables false

def lv15T : ByteArray := ⟨#[97, 32, 98]⟩
theorem lv15_row : (lvN lv15T).txt rowF = [123, 34, 97, 32, 98, 34, 32, 61, 32, 91, 49, 44, 32, 34, 120, 34, 93, 125] := by decide +kernel
theorem lv15_B : (ofP tpB (lvN lv15T)).2 = 0 := by rw [ofB_err, if_neg (by rw [lv15T, lvN_wh2]; simp), if_neg (by decide +kernel)]
theorem lv15_D : ofP tpD0 (lvN lv15T) = (some [], 20) := by unfold ofP; rw [if_neg (by rw [lv15T, lvN_wh2]; simp), firstD0 (by decide)]
theorem lv15_W : wordP lv15T = (⟨#[34, 97, 32, 98, 34]⟩, 0) := by decide +kernel
def lv15V (w : World) : Value := .agg #[.int .i64 7, .string ⟨#[]⟩, .string ⟨#[]⟩, .slice (some ⟨w.heap.size + 1 + 1, 0, none⟩) 1 1]
structure Lv15 (w w2 : World) : Prop where
  bel : Below w.heap.size w w2
  nd : NdV w2 (fun b => b < w2.heap.size) (lv15V w) (lvN lv15T)
  box : w2.heap[w.heap.size + 1 + 1 + 1]? = some (.cells #[.int .i64 7, .string ⟨#[]⟩, .string ⟨#[]⟩, .slice (some ⟨w.heap.size + 1 + 1, 0, none⟩) 1 1] 24 (0, 0))
theorem Lv15.step {w w2 w3 : World} (h : Lv15 w w2) (hb : Below w2.heap.size w2 w3) : Lv15 w w3 := by
  refine ⟨bthen h.bel hb, ?_, (hb.block _ (lt_blk h.box)).trans h.box⟩
  obtain ⟨u, e, hs⟩ := h.nd.below hb
  exact ⟨u, e, hs.ltC⟩
set_option maxRecDepth 100000 in
set_option maxHeartbeats 8000000 in
theorem lives15_any (w : World) (hE : EnvU w) : Calls Tryz.prog 6 #[] w fun e w' => e = .returned (.bool true) ∧ Below w.heap.size w w' := by
  obtain ⟨hv, hb, hx⟩ := lvN_in w lv15T
  have hok := lvN_ok lv15T (by decide)
  have hsz : (lvN lv15T).size ≤ 50000 := by rw [lvN_size]; omega
  have hwl : (lvN lv15T).walk.length ≤ 100000 := by have := walk_len (lvN lv15T); omega
  have L0 : Lv15 w (lvNW w lv15T) := ⟨hb, hv, hx⟩
  have H1 := Lib.hid ((carryRow_any (lvN lv15T) _ _ _ (hE.below L0.bel) L0.nd hok hsz).mono fun e w2 h => show e = .returned (.tuple #[.string ⟨#[123, 34, 97, 32, 98, 34, 32, 61, 32, 91, 49, 44, 32, 34, 120, 34, 93, 125]⟩, .int .i64 0]) ∧ Lv15 w w2 from ⟨by rw [h.1, if_pos lv15_B, lv15_B, lv15_row]; rfl, L0.step h.2⟩)
  have H2 := Lib.hid (fun (w2 : World) (h : Lv15 w w2) => (word_any lv15T w2 (hE.below h.bel) (by decide)).mono fun e w3 h3 => show e = .returned (.tuple #[.string ⟨#[34, 97, 32, 98, 34]⟩, .int .i64 0]) ∧ Lv15 w w3 from ⟨by rw [h3.1, lv15_W], h.step h3.2⟩)
  have H3 := Lib.hid (fun (w2 : World) (h : Lv15 w w2) => (carryNone_any (lvN lv15T) w2 _ _ h.nd).mono fun e w3 h3 => show e = .returned (.tuple #[.slice none 0 0, .int .i64 50]) ∧ Lv15 w w3 from ⟨h3.1, h.step h3.2⟩)
  have H4 := Lib.hid (fun (w2 : World) (h : Lv15 w w2) => (carryDelimNo_any (lvN lv15T) (by decide) w2 _ _ (hE.below h.bel) h.nd hok hsz).mono fun e w3 h3 => show (∃ a c, e = .returned (.tuple #[.slice a 0 c, .int .i64 20])) ∧ Lv15 w w3 from by
    rw [lv15_D] at h3
    obtain ⟨hb, a, len, c, he, hl, _⟩ := h3
    subst hl
    exact ⟨⟨a, c, he⟩, h.step hb⟩)
  have H5 := Lib.hid (fun (w2 : World) (h : Lv15 w w2) => (carryParen_any (lvN lv15T) w2 _ _ (hE.below h.bel) h.nd hok hwl).mono fun e w3 h3 => show e = .returned (.tuple #[.slice none 0 0, .int .i64 0]) ∧ Lv15 w w3 from ⟨by rw [h3.1, lv15T, lvN_wh2], h.step h3.2⟩)
  clear hv hb hx L0 hE hok hsz hwl
  go_enter Tryz.func6, Tryz.ntmps6
  go_wp2_with fail
  refine H1.out.mono ?_
  rintro e w2 ⟨rfl, hl⟩
  have L1 := Lib.hid hl
  clear hl
  go_wp2_with fail
  refine (H2.out w2 L1.out).mono ?_
  rintro e w3 ⟨rfl, hl⟩
  have L2 := Lib.hid hl
  obtain ⟨x0, x1, x2, x3, _, _, _, _, hxl⟩ := nd_cells hl.box
  clear hl
  go_wp2_with fail
  refine (H3.out w3 L2.out).mono ?_
  rintro e w4 ⟨rfl, hl⟩
  have L3 := Lib.hid hl
  clear x0 x1 x2 x3 hxl
  obtain ⟨x0, x1, x2, x3, _, _, _, _, hxl⟩ := nd_cells hl.box
  clear hl
  go_wp2_with fail
  refine (H4.out w4 L3.out).mono ?_
  rintro e w5 ⟨⟨a, c, rfl⟩, hl⟩
  have L4 := Lib.hid hl
  clear x0 x1 x2 x3 hxl
  obtain ⟨x0, x1, x2, x3, _, _, _, _, hxl⟩ := nd_cells hl.box
  clear hl
  go_wp2_with fail
  refine (H5.out w5 L4.out).mono ?_
  rintro e w6 ⟨rfl, hl⟩
  have L5 := Lib.hid hl
  clear x0 x1 x2 x3 hxl hl
  go_wp2_with fail
  go_ret
  exact ⟨rfl, L5.out.bel⟩
end Go.Proofs.YtmniblcooficgaaGreatDoor
namespace Go.Proofs.YtmniblcooficgaaGreatDoor
open Go.RowKit Ev5
set_option linter.unusedSimpArgs false
set_option linter.unusedVariables false

set_option maxRecDepth 100000 in
set_option maxHeartbeats 2000000 in
theorem few15_any (n : Nd) (w : World) (S : Nat → Prop) (val : Value) (hv : NdV w S val n) :
    Calls Tryz.prog 5 #[val] w fun e w' => e = .returned (.bool (decide (0 ≤ n.few 200 20))) ∧ Below w.heap.size w w' := by
  obtain ⟨u, rfl, hs⟩ := hv
  obtain ⟨ao, cap, rfl, hcap, hcm⟩ := hs.shape
  have HS := Lib.hid hs
  have HB := Lib.hid (show Below w.heap.size w (w.alloc (.cells #[.int .i64 n.k, .string n.t, .string n.v, .slice ao n.kids.length cap] 24)) from (Below.refl _ _).alloc (Nat.le_refl _) _)
  clear hs
  unfold ndV
  go_enter Tryz.func5, Tryz.ntmps5
  go_wp2_with fail
  refine (few_any n _ S _ 200 20 ⟨_, rfl, HS.out.below HB.out⟩ (by omega) (by omega) (by omega) (by omega)).mono ?_
  rintro e w2 ⟨rfl, hb⟩
  have HB2 := Lib.hid (bthen HB.out hb)
  obtain ⟨F, hF⟩ : ∃ F, n.few 200 20 = F := ⟨_, rfl⟩
  rw [hF]
  have HF := Lib.hid hF
  clear hb hF
  go_wp2_with fail
  go_ret
  exact ⟨by rw [HF.out]; rfl, HB2.out⟩
theorem few15_size {x : Nd} (h : 0 ≤ x.few 200 20) : x.size ≤ 200 := by
  have := (few_says x 200 20 (by omega)).2.2 h
  omega
end Go.Proofs.YtmniblcooficgaaGreatDoor
namespace Go.Proofs.YtmniblcooficgaaGreatDoor
open Go.RowKit Ev5
set_option linter.unusedSimpArgs false
set_option linter.unusedVariables false

set_option maxRecDepth 100000 in
set_option maxHeartbeats 2000000 in
theorem same15_any (x y) (c d : Nat) (q : List Int) (w : World) (ha : IntsIn w (.slice x q.length c) q) (hb : IntsIn w (.slice y q.length d) q) :
    Calls Tryz.prog 9 #[.slice x q.length c, .slice y q.length d] w fun e w' => e = .returned (.bool true) ∧ Below w.heap.size w w' := by
  have HA := Lib.hid ha
  have HB := Lib.hid hb
  have hql : q.length ≤ 9223372036854775807 := by
    obtain ⟨_, _, _, h1, h2, _⟩ := hb.ex
    unfold maxLen at h2
    omega
  clear ha hb
  go_enter Tryz.func9, Tryz.ntmps9
  go_wp2_with fail
  go_loopw [5] (fun v8 wr => ∃ i : Nat, i ≤ q.length ∧ v8 = .int .i64 i ∧ Hid (Below w.heap.size w wr)) (fun v8 _ => q.length - (intOf v8).toNat)
  case atStart => exact ⟨0, Nat.zero_le _, rfl, Below.refl _ _⟩
  case round =>
    obtain ⟨i, hi, rfl, HBR⟩ := hrel
    by_cases hlt : i < q.length
    · have hi0 : (0 : Int) ≤ (i : Int) := Int.natCast_nonneg _
      have hi1 : (i : Int) < (q.length : Int) := by omega
      obtain ⟨ao3, cp3, e3, _, _, hc3⟩ := (HA.out.below HBR.out).ex
      injection e3 with e3 _ e3c
      subst e3c
      obtain ⟨b3, o3, ea3, k3⟩ := hc3 i hlt
      rw [ea3] at e3
      subst e3
      obtain ⟨ao4, cp4, e4, _, _, hc4⟩ := (HB.out.below HBR.out).ex
      injection e4 with e4 _ e4c
      subst e4c
      obtain ⟨b4, o4, ea4, k4⟩ := hc4 i hlt
      rw [ea4] at e4
      subst e4
      obtain ⟨z, hz⟩ : ∃ z, q[i] = z := ⟨_, rfl⟩
      rw [hz] at k3 k4
      have hl3 := cell_lt k3
      have hl4 := cell_lt k4
      have hd3 : wr.drew.cell? ⟨b3, o3 + i, none⟩ = some (.int .i64 z) := k3
      have hd4 : wr.drew.cell? ⟨b4, o4 + i, none⟩ = some (.int .i64 z) := k4
      clear hz hc3 hc4 ea3 ea4
      go_wp2_with fail
      go_region
      go_wp2_with fail
      go_roundw
      case rel => exact ⟨i + 1, by omega, by go_num, bthen HBR.out (Below.refl _ wr).drew⟩
      case measure => simp [intOf]; omega
    · obtain rfl : i = q.length := by omega
      have hi1 : ¬ ((q.length : Nat) : Int) < (q.length : Int) := by omega
      go_wp2_with fail
      go_ret
      exact ⟨rfl, HBR.out⟩
set_option maxRecDepth 100000 in
set_option maxHeartbeats 8000000 in
theorem carryNoneLo_any (s : Int) (h1 : s < 1) (n : Nd) (w : World) (S : Nat → Prop) (v : Value) (hv : NdV w S v n) :
    Calls Tryz.prog 7 #[.int .i64 s, v] w fun e w' => e = .returned (.tuple #[.slice none 0 0, .int .i64 50]) ∧ Below w.heap.size w w' := by
  obtain ⟨u, rfl, hs⟩ := hv
  obtain ⟨ao, cap, rfl, hcap, hcm⟩ := hs.shape
  have hmf : ∀ (fn : Fn) (first cap : Array Value) (w : World), (Instr.makeFunc fn first cap).run Tryz.prog w = .ok (.func fn first cap) w := fun _ _ _ _ => rfl
  have h3 := threeC w (.cells #[.int .i64 n.k, .string n.t, .string n.v, .slice ao n.kids.length cap] 24) (.cells #[.slice none 0 0] 27) (.cells #[.int .i64 50] 28)
  have H3 := Lib.hid h3
  clear hs h3
  unfold ndV
  go_enter_defers Tryz.func7, Tryz.ntmps7
  go_wp2_with fail
  obtain ⟨W9, hW9⟩ : ∃ W9, ((w.alloc (.cells #[.int .i64 n.k, .string n.t, .string n.v, .slice ao n.kids.length cap] 24)).alloc (.cells #[.slice none 0 0] 27)).alloc (.cells #[.int .i64 50] 28) = W9 := ⟨_, rfl⟩
  have H4 := Lib.hid H3.out
  clear H3
  rw [hW9] at H4
  rw [hW9]
  have k4 : W9.cell? ⟨w.heap.size + 1, 0, none⟩ = some (.slice none 0 0) := (blk_cell H4.out.2.1 0 (by simp)).1
  have k5 : W9.cell? ⟨w.heap.size + 1 + 1, 0, none⟩ = some (.int .i64 50) := (blk_cell H4.out.2.2.1 0 (by simp)).1
  simp [bodyPostD, Leaves, settle, results, Tryz.results7, go_sem, k4, k5]
  exact H4.out.2.2.2
set_option maxRecDepth 100000 in
set_option maxHeartbeats 8000000 in
theorem carryNoneHi_any (s : Int) (h1 : ¬ s < 1) (h6 : 6 < s) (n : Nd) (w : World) (S : Nat → Prop) (v : Value) (hv : NdV w S v n) :
    Calls Tryz.prog 7 #[.int .i64 s, v] w fun e w' => e = .returned (.tuple #[.slice none 0 0, .int .i64 50]) ∧ Below w.heap.size w w' := by
  obtain ⟨u, rfl, hs⟩ := hv
  obtain ⟨ao, cap, rfl, hcap, hcm⟩ := hs.shape
  have hmf : ∀ (fn : Fn) (first cap : Array Value) (w : World), (Instr.makeFunc fn first cap).run Tryz.prog w = .ok (.func fn first cap) w := fun _ _ _ _ => rfl
  have h3 := threeC w (.cells #[.int .i64 n.k, .string n.t, .string n.v, .slice ao n.kids.length cap] 24) (.cells #[.slice none 0 0] 27) (.cells #[.int .i64 50] 28)
  have H3 := Lib.hid h3
  clear hs h3
  unfold ndV
  go_enter_defers Tryz.func7, Tryz.ntmps7
  go_wp2_with fail
  obtain ⟨W9, hW9⟩ : ∃ W9, ((w.alloc (.cells #[.int .i64 n.k, .string n.t, .string n.v, .slice ao n.kids.length cap] 24)).alloc (.cells #[.slice none 0 0] 27)).alloc (.cells #[.int .i64 50] 28) = W9 := ⟨_, rfl⟩
  have H4 := Lib.hid H3.out
  clear H3
  rw [hW9] at H4
  rw [hW9]
  have k4 : W9.cell? ⟨w.heap.size + 1, 0, none⟩ = some (.slice none 0 0) := (blk_cell H4.out.2.1 0 (by simp)).1
  have k5 : W9.cell? ⟨w.heap.size + 1 + 1, 0, none⟩ = some (.int .i64 50) := (blk_cell H4.out.2.2.1 0 (by simp)).1
  simp [bodyPostD, Leaves, settle, results, Tryz.results7, go_sem, k4, k5]
  exact H4.out.2.2.2
set_option maxRecDepth 100000 in
set_option maxHeartbeats 8000000 in
theorem refNoneLo_any (s : Int) (h1 : s < 1) (n : Nd) (w : World) (S : Nat → Prop) (v : Value) (hv : NdV w S v n) :
    Calls Tryz.prog 8 #[.int .i64 s, v] w fun e w' => e = .returned (.tuple #[.slice none 0 0, .int .i64 50]) ∧ Below w.heap.size w w' := by
  obtain ⟨u, rfl, hs⟩ := hv
  obtain ⟨ao, cap, rfl, hcap, hcm⟩ := hs.shape
  have HB := Lib.hid (show Below w.heap.size w (w.alloc (.cells #[.int .i64 n.k, .string n.t, .string n.v, .slice ao n.kids.length cap] 24)) from (Below.refl _ _).alloc (Nat.le_refl _) _)
  clear hs
  unfold ndV
  go_enter Tryz.func8, Tryz.ntmps8
  go_wp2_with fail
  refine bodyPost_ret (v := .tuple #[.slice none 0 0, .int .i64 50]) (by simp [results, Tryz.results8, go_sem]) rfl ?_
  exact ⟨rfl, HB.out⟩
set_option maxRecDepth 100000 in
set_option maxHeartbeats 8000000 in
theorem refNoneHi_any (s : Int) (h1 : ¬ s < 1) (h6 : 6 < s) (n : Nd) (w : World) (S : Nat → Prop) (v : Value) (hv : NdV w S v n) :
    Calls Tryz.prog 8 #[.int .i64 s, v] w fun e w' => e = .returned (.tuple #[.slice none 0 0, .int .i64 50]) ∧ Below w.heap.size w w' := by
  obtain ⟨u, rfl, hs⟩ := hv
  obtain ⟨ao, cap, rfl, hcap, hcm⟩ := hs.shape
  have HB := Lib.hid (show Below w.heap.size w (w.alloc (.cells #[.int .i64 n.k, .string n.t, .string n.v, .slice ao n.kids.length cap] 24)) from (Below.refl _ _).alloc (Nat.le_refl _) _)
  clear hs
  unfold ndV
  go_enter Tryz.func8, Tryz.ntmps8
  go_wp2_with fail
  refine bodyPost_ret (v := .tuple #[.slice none 0 0, .int .i64 50]) (by simp [results, Tryz.results8, go_sem]) rfl ?_
  exact ⟨rfl, HB.out⟩
end Go.Proofs.YtmniblcooficgaaGreatDoor
