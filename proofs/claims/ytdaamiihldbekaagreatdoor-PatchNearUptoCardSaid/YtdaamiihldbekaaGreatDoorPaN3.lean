import Derived.Test.YtdaamiihldbekaaGreatDoorPaN2
import Derived.Test.YtdaamiihldbekaaGreatDoorPaN1
/- The document's example of layer 23 in plain Lean; few; Diff of a tree and itself. -/
namespace Go.Proofs.YtdaamiihldbekaaGreatDoor
open Go.RowKit Ev5
set_option linter.unusedSimpArgs false
set_option linter.unusedVariables false

def lvNum : Nd := .mk 3 ⟨#[49]⟩ ⟨#[]⟩ []
def lvNull : Nd := .mk 1 ⟨#[]⟩ ⟨#[]⟩ []
def lvOne : Nd := .mk 5 ⟨#[]⟩ ⟨#[]⟩ [lvNum]
def lvOpsA : List GoOp := [⟨1, [0], lvNull, ⟨#[]⟩⟩, ⟨2, [1], zeroNd, ⟨#[]⟩⟩]
def lvOpsB : List GoOp := [⟨2, [0], zeroNd, ⟨#[]⟩⟩, ⟨2, [0], zeroNd, ⟨#[]⟩⟩]
theorem lv_one_wh : lvOne.wh = 0 := by
  unfold Nd.wh
  rw [show lvOne.walk = [⟨5, emp, emp⟩, ⟨3, ⟨#[49]⟩, emp⟩, ⟨6, emp, emp⟩] by simp [lvOne, lvNum, Nd.walk, Nd.walks, oddK, leafK, endK, endEv, emp]]
  decide +kernel
theorem lv_two_wh : (Nd.mk 5 ⟨#[]⟩ ⟨#[]⟩ [lvNull, lvNum]).wh = 0 := by
  unfold Nd.wh
  rw [show (Nd.mk 5 ⟨#[]⟩ ⟨#[]⟩ [lvNull, lvNum]).walk = [⟨5, emp, emp⟩, ⟨1, emp, emp⟩, ⟨3, ⟨#[49]⟩, emp⟩, ⟨6, emp, emp⟩] by simp [lvNull, lvNum, Nd.walk, Nd.walks, oddK, leafK, endK, endEv, emp]]
  decide +kernel
theorem lv_null_wh : (Nd.mk 5 ⟨#[]⟩ ⟨#[]⟩ [lvNull]).wh = 0 := by
  unfold Nd.wh
  rw [show (Nd.mk 5 ⟨#[]⟩ ⟨#[]⟩ [lvNull]).walk = [⟨5, emp, emp⟩, ⟨1, emp, emp⟩, ⟨6, emp, emp⟩] by simp [lvNull, Nd.walk, Nd.walks, oddK, leafK, endK, endEv, emp]]
  decide +kernel
theorem lv_nil_wh : (Nd.mk 5 ⟨#[]⟩ ⟨#[]⟩ []).wh = 0 := by
  unfold Nd.wh
  rw [show (Nd.mk 5 ⟨#[]⟩ ⟨#[]⟩ []).walk = [⟨5, emp, emp⟩, ⟨6, emp, emp⟩] by simp [Nd.walk, Nd.walks, oddK, leafK, endK, endEv, emp]]
  decide +kernel
theorem lv_a1 : oneP lvOne ⟨1, [0], lvNull, ⟨#[]⟩⟩ = (Nd.mk 5 ⟨#[]⟩ ⟨#[]⟩ [lvNull, lvNum], 0) := by
  simp [oneP, lvOne, at_nil, put_nil, Nd.kids, Nd.k, Nd.t, Nd.v]
theorem lv_a2 : oneP (Nd.mk 5 ⟨#[]⟩ ⟨#[]⟩ [lvNull, lvNum]) ⟨2, [1], zeroNd, ⟨#[]⟩⟩ = (Nd.mk 5 ⟨#[]⟩ ⟨#[]⟩ [lvNull], 0) := by
  have h1 : (Nd.mk 5 ⟨#[]⟩ ⟨#[]⟩ [lvNull, lvNum]).at_ [1] = some lvNum := by rw [at_yes (k := 1) (i := 1) rfl (by decide), at_nil]; rfl
  have h2 : (Nd.mk 5 ⟨#[]⟩ ⟨#[]⟩ [lvNull, lvNum]).put [1] [] = Nd.mk 5 ⟨#[]⟩ ⟨#[]⟩ [lvNull] := by rw [put_yes (p := 1) (i := 1) rfl (by decide), if_pos rfl]; rfl
  simp [oneP, h1, h2]
theorem lv_b1 : oneP lvOne ⟨2, [0], zeroNd, ⟨#[]⟩⟩ = (Nd.mk 5 ⟨#[]⟩ ⟨#[]⟩ [], 0) := by
  have h1 : lvOne.at_ [0] = some lvNum := by rw [at_yes (k := 0) (i := 0) rfl (by decide), at_nil]; rfl
  have h2 : lvOne.put [0] [] = Nd.mk 5 ⟨#[]⟩ ⟨#[]⟩ [] := by rw [put_yes (p := 0) (i := 0) rfl (by decide), if_pos rfl]; rfl
  simp [oneP, h1, h2]
theorem lv_b2 : oneP (Nd.mk 5 ⟨#[]⟩ ⟨#[]⟩ []) ⟨2, [0], zeroNd, ⟨#[]⟩⟩ = (Nd.mk 5 ⟨#[]⟩ ⟨#[]⟩ [], 21) := by
  have h1 : (Nd.mk 5 ⟨#[]⟩ ⟨#[]⟩ []).at_ [0] = none := at_no (by decide)
  simp [oneP, h1]
theorem lv_applyA : applyP lvOne lvOpsA = (Nd.mk 5 ⟨#[]⟩ ⟨#[]⟩ [lvNull], 2, 0) := by
  have : playP lvOne lvOpsA = (Nd.mk 5 ⟨#[]⟩ ⟨#[]⟩ [lvNull], 2, 0) := by
    simp [lvOpsA, playP, lv_a1, lv_two_wh, lv_a2, lv_null_wh]
  unfold applyP
  rw [if_neg (by rw [lv_one_wh]; simp), this, if_neg (by simp)]
  rfl
theorem lv_applyB : applyP lvOne lvOpsB = (lvOne, 1, 21) := by
  have : playP lvOne lvOpsB = (Nd.mk 5 ⟨#[]⟩ ⟨#[]⟩ [], 1, 21) := by
    simp [lvOpsB, playP, lv_b1, lv_nil_wh, lv_b2]
  unfold applyP
  rw [if_neg (by rw [lv_one_wh]; simp), this, if_pos (by simp)]

set_option maxRecDepth 100000 in
set_option maxHeartbeats 4000000 in
theorem few23_any (n : Nd) (w : World) (S : Nat → Prop) (val : Value) (hv : NdV w S val n) :
    Calls Tryz.prog 13 #[val] w fun e w' => e = .returned (.bool (decide (0 ≤ n.few 150 20))) ∧ Below w.heap.size w w' := by
  obtain ⟨u, rfl, hs⟩ := hv
  obtain ⟨ao, cap, rfl, hcap, hcm⟩ := hs.shape
  have HS := Lib.hid hs
  have HB := Lib.hid (show Below w.heap.size w (w.alloc (.cells #[.int .i64 n.k, .string n.t, .string n.v, .slice ao n.kids.length cap] 24)) from (Below.refl _ _).alloc (Nat.le_refl _) _)
  clear hs
  unfold ndV
  go_enter Tryz.func13, Tryz.ntmps13
  go_wp2_with fail
  refine (few_any n _ S _ 150 20 ⟨_, rfl, HS.out.below HB.out⟩ (by omega) (by omega) (by omega) (by omega)).mono ?_
  rintro e w2 ⟨rfl, hb⟩
  have HB2 := Lib.hid (bthen HB.out hb)
  obtain ⟨F, hF⟩ : ∃ F, n.few 150 20 = F := ⟨_, rfl⟩
  rw [hF]
  have HF := Lib.hid hF
  clear hb hF
  go_wp2_with fail
  go_ret
  exact ⟨by rw [HF.out]; rfl, HB2.out⟩
theorem few23_size {x : Nd} (h : 0 ≤ x.few 150 20) : x.size ≤ 150 := by
  have := (few_says x 150 20 (by omega)).2.2 h
  omega

set_option maxRecDepth 100000 in
set_option maxHeartbeats 4000000 in
theorem diffSame_any (n : Nd) (w : World) (S S' : Nat → Prop) (va vb : Value) (pa : Option Addr) (pn pc : Nat) (ha : NdV w S va n) (hb : NdV w S' vb n) :
    Calls Tryz.prog 42 #[va, vb, .slice pa pn pc] w fun e w' => e = .returned (.slice none 0 0) ∧ Below w.heap.size w w' := by
  obtain ⟨u, rfl, hs⟩ := ha
  obtain ⟨u', rfl, hs'⟩ := hb
  obtain ⟨ao, cap, rfl, hcap, hcm⟩ := hs.shape
  obtain ⟨ao', cap', rfl, hcap', hcm'⟩ := hs'.shape
  have HS := Lib.hid hs; have HS' := Lib.hid hs'
  have HB2 := Lib.hid (show Below w.heap.size w ((w.alloc (.cells #[.int .i64 n.k, .string n.t, .string n.v, .slice ao n.kids.length cap] 24)).alloc (.cells #[.int .i64 n.k, .string n.t, .string n.v, .slice ao' n.kids.length cap'] 24)) from ((Below.refl _ _).alloc (Nat.le_refl _) _).alloc (by simp) _)
  clear hs hs'
  unfold ndV
  go_enter Tryz.func42, Tryz.ntmps42
  go_wp2_with fail
  refine (same_any n _ S S' _ _ n ⟨_, rfl, HS.out.below HB2.out⟩ ⟨_, rfl, HS'.out.below HB2.out⟩).mono ?_
  rintro e w2 ⟨r, rfl, hr, hb⟩
  obtain rfl : r = true := hr.2 rfl
  have HB3 := Lib.hid (bthen HB2.out hb)
  clear hb hr
  go_wp2_with fail
  go_ret
  exact ⟨rfl, HB3.out⟩

set_option maxRecDepth 100000 in
set_option maxHeartbeats 4000000 in
/-- Diff of a tree and itself. -/
theorem diffEq_any (n : Nd) (w : World) (S S' : Nat → Prop) (va vb : Value) (hE : EnvU w) (ha : NdV w S va n) (hb : NdV w S' vb n) (hok : n.ok) (hN : n.walk.length ≤ 100000) :
    Calls Tryz.prog 20 #[va, vb] w fun e w' => e = .returned (.tuple #[.slice none 0 0, .int .i64 n.wh]) ∧ Below w.heap.size w w' := by
  obtain ⟨u, rfl, hs⟩ := ha
  obtain ⟨u', rfl, hs'⟩ := hb
  obtain ⟨ao, cap, rfl, hcap, hcm⟩ := hs.shape
  obtain ⟨ao', cap', rfl, hcap', hcm'⟩ := hs'.shape
  have HS := Lib.hid hs.lt; have HS' := Lib.hid hs'.lt; have HE := Lib.hid hE; have HOK := Lib.hid hok; have HN := Lib.hid hN
  have HB2 := Lib.hid (show Below w.heap.size w ((w.alloc (.cells #[.int .i64 n.k, .string n.t, .string n.v, .slice ao n.kids.length cap] 24)).alloc (.cells #[.int .i64 n.k, .string n.t, .string n.v, .slice ao' n.kids.length cap'] 24)) from ((Below.refl _ _).alloc (Nat.le_refl _) _).alloc (by simp) _)
  have HT := Lib.hid (And.intro (two_first w (.cells #[.int .i64 n.k, .string n.t, .string n.v, .slice ao n.kids.length cap] 24) (.cells #[.int .i64 n.k, .string n.t, .string n.v, .slice ao' n.kids.length cap'] 24)) (two_last w (.cells #[.int .i64 n.k, .string n.t, .string n.v, .slice ao n.kids.length cap] 24) (.cells #[.int .i64 n.k, .string n.t, .string n.v, .slice ao' n.kids.length cap'] 24)))
  clear hs hs' hE hok hN
  unfold ndV
  go_enter Tryz.func20, Tryz.ntmps20
  go_wp2_with fail
  refine (treeMay_any n _ _ _ (HE.out.below HB2.out) ⟨_, rfl, HS.out.below HB2.out⟩ (fun b hb => Nat.lt_of_lt_of_le hb HB2.out.size) HOK.out HN.out).mono ?_
  rintro e w3 ⟨rfl, hb⟩
  have hx1 := (hb.block w.heap.size (by simp; omega)).trans HT.out.1
  have hx2 := (hb.block (w.heap.size + 1) (by simp)).trans HT.out.2
  have HX := Lib.hid (And.intro hx1 hx2)
  have HB3 := Lib.hid (bthen HB2.out hb)
  obtain ⟨x0, x1, x2, x3, _, _, _, _, hxl⟩ := nd_cells hx1
  obtain ⟨y0, y1, y2, y3, _, _, _, _, hyl⟩ := nd_cells hx2
  obtain ⟨E, hEq⟩ : ∃ E, (wholeP RP (n.walk.map GoEv.ev)).2 = E := ⟨_, rfl⟩
  have HEQ := Lib.hid (show n.wh = E from hEq)
  rw [hEq]
  clear hb hx1 hx2 hEq
  by_cases hz : E = 0
  · subst hz
    go_wp2_with fail
    refine (treeMay_any n _ _ _ (HE.out.below HB3.out) ⟨_, rfl, HS'.out.below HB3.out⟩ (fun b hb => Nat.lt_of_lt_of_le hb HB3.out.size) HOK.out HN.out).mono ?_
    rintro e w4 ⟨rfl, hb⟩
    have hx1 := (hb.block _ hxl).trans HX.out.1
    have hx2 := (hb.block _ hyl).trans HX.out.2
    have HB4 := Lib.hid (bthen HB3.out hb)
    clear x0 x1 x2 x3 y0 y1 y2 y3 hxl hyl
    obtain ⟨x0, x1, x2, x3, _, _, _, _, hxl⟩ := nd_cells hx1
    obtain ⟨y0, y1, y2, y3, _, _, _, _, hyl⟩ := nd_cells hx2
    have hz4 : (wholeP RP (n.walk.map GoEv.ev)).2 = 0 := HEQ.out
    rw [hz4]
    clear hb hx1 hx2 hz4
    go_wp2_with fail
    refine (diffSame_any n w4 _ _ _ _ none 0 0 ⟨_, rfl, HS.out.below HB4.out⟩ ⟨_, rfl, HS'.out.below HB4.out⟩).mono ?_
    rintro e w5 ⟨rfl, hb⟩
    have HB5 := Lib.hid (bthen HB4.out hb)
    clear hb
    go_wp2_with fail
    refine bodyPost_ret (v := .tuple #[.slice none 0 0, .int .i64 0]) (by simp [results, Tryz.results20, go_sem]) rfl ⟨by rw [HEQ.out], HB5.out⟩
  · have hzb : (E != 0) = true := by simp [hz]
    go_wp2_with fail
    refine bodyPost_ret (v := .tuple #[.slice none 0 0, .int .i64 E]) (by simp [results, Tryz.results20, go_sem]) rfl ⟨by rw [HEQ.out], HB3.out⟩
end Go.Proofs.YtdaamiihldbekaaGreatDoor

/- The walk of lives (layer 23) and of small. -/
namespace Go.Proofs.YtdaamiihldbekaaGreatDoor
open Go.RowKit Ev5
set_option linter.unusedSimpArgs false
set_option linter.unusedVariables false

theorem ok_zero : zeroNd.ok := by
  rw [zeroNd, ok_mk, oks_iff]
  exact ⟨ok_lit _ _ (by decide) (by decide), fun x hx => by cases hx⟩
theorem ok_null : lvNull.ok := by
  rw [lvNull, ok_mk, oks_iff]
  exact ⟨ok_lit _ _ (by decide) (by decide), fun x hx => by cases hx⟩
theorem ok_one : lvOne.ok := by
  simp only [lvOne, lvNum, ok_mk, oks_iff]
  refine ⟨ok_lit _ _ (by decide) (by decide), fun x hx => ?_⟩
  obtain rfl := List.mem_singleton.1 hx
  rw [ok_mk, oks_iff]
  exact ⟨ok_lit _ _ (by decide) (by decide), fun x hx => by cases hx⟩
theorem ops_okA : ∀ o ∈ lvOpsA, o.ok := by
  intro o ho
  simp [lvOpsA] at ho
  rcases ho with rfl | rfl
  · exact ⟨by decide, by intro x hx; simp at hx; subst hx; decide, ok_null, show (0 : Nat) ≤ 1048576 by decide⟩
  · exact ⟨by decide, by intro x hx; simp at hx; subst hx; decide, ok_zero, show (0 : Nat) ≤ 1048576 by decide⟩
theorem ops_okB : ∀ o ∈ lvOpsB, o.ok := by
  intro o ho
  simp [lvOpsB] at ho
  subst ho
  exact ⟨by decide, by intro x hx; simp at hx; subst hx; decide, ok_zero, show (0 : Nat) ≤ 1048576 by decide⟩
theorem one_sz : lvOne.size = 2 := by simp [lvOne, lvNum, Nd.size, Nd.sizes]
theorem opsA_sz : opsSize lvOpsA = 2 := by simp [opsSize, lvOpsA, lvNull, zeroNd, Nd.size, Nd.sizes]
theorem opsB_sz : opsSize lvOpsB = 2 := by simp [opsSize, lvOpsB, zeroNd, Nd.size, Nd.sizes]
theorem one_in (w : World) : NdV (w.alloc (.cells #[.int .i64 3, .string ⟨#[49]⟩, .string ⟨#[]⟩, .slice none 0 0] 24)) (fun _ => True) (.agg #[.int .i64 5, .string ⟨#[]⟩, .string ⟨#[]⟩, .slice (some ⟨w.heap.size, 0, none⟩) 1 1]) lvOne := by
  have hb := heap_alloc_new w (.cells #[.int .i64 3, .string ⟨#[49]⟩, .string ⟨#[]⟩, .slice none 0 0] 24)
  have c := fun j hj => (blk_cell hb j hj).1
  refine ⟨_, rfl, some ⟨w.heap.size, 0, none⟩, 1, rfl, Nat.le_refl _, by decide, .inr ⟨w.heap.size, 0, rfl, trivial, lt_blk hb, kidsIn_cons.2 ⟨ndAt_iff.2 ⟨c 0 (by simp), c 1 (by simp), c 2 (by simp), _, c 3 (by simp), none, 0, rfl, Nat.le_refl _, by decide, .inl rfl⟩, kidsIn_nil⟩⟩⟩
theorem ints_one (w : World) (B : Nat) (z : Int) (hz : (Lit.int .i64 z).wf = true) (h : w.heap[B]? = some (.cells #[.int .i64 z] 3 (0, 0))) : IntsIn w (.slice (some ⟨B, 0, none⟩) 1 1) [z] := by
  refine ⟨⟨some ⟨B, 0, none⟩, 1, rfl, Nat.le_refl _, by decide, fun i hi => ⟨B, 0, rfl, ?_⟩⟩, fun x hx => by simp at hx; subst hx; exact hz⟩
  have h1 : i = 0 := by simp at hi; exact hi
  subst h1
  exact (blk_cell h 0 (by simp)).1
/-- A row of two operations that the call has made. -/
theorem two_ops (w : World) (B b1 b2 : Nat) (o1 o2 : GoOp) (p1 p2 : Int) (h1 : o1.place = [p1]) (h2 : o2.place = [p2]) (w1 : (Lit.int .i64 p1).wf = true) (w2 : (Lit.int .i64 p2).wf = true) (k1 : o1.node.kids = []) (k2 : o2.node.kids = [])
    (hb1 : w.heap[b1]? = some (.cells #[.int .i64 p1] 3 (0, 0))) (hb2 : w.heap[b2]? = some (.cells #[.int .i64 p2] 3 (0, 0)))
    (hB : w.heap[B]? = some (.cells #[.int .i64 o1.k, .slice (some ⟨b1, 0, none⟩) 1 1, .int .i64 o1.node.k, .string o1.node.t, .string o1.node.v, .slice none 0 0, .string o1.t, .int .i64 o2.k, .slice (some ⟨b2, 0, none⟩) 1 1, .int .i64 o2.node.k, .string o2.node.t, .string o2.node.v, .slice none 0 0, .string o2.t] 45 (0, 0))) :
    OpsIn w (.slice (some ⟨B, 0, none⟩) 2 2) [o1, o2] := by
  have c := fun j hj => (blk_cell hB j hj).1
  have hl := lt_blk hB
  have sl : ∀ ks : List Nd, ks = [] → SlIn w (fun b => b < w.heap.size) (.slice none 0 0) ks := fun ks h => by subst h; exact ⟨none, 0, rfl, Nat.le_refl _, by decide, .inl rfl⟩
  refine ⟨⟨some ⟨B, 0, none⟩, 2, rfl, Nat.le_refl _, by decide, fun i hi => ?_⟩⟩
  have h01 : i = 0 ∨ i = 1 := by simp at hi; omega
  rcases h01 with rfl | rfl
  · exact ⟨B, 0, _, _, rfl, c 0 (by simp), c 1 (by simp), c 2 (by simp), c 3 (by simp), c 4 (by simp), c 5 (by simp), c 6 (by simp), hl, by show IntsIn w _ o1.place; rw [h1]; exact ints_one w b1 p1 w1 hb1, sl _ k1⟩
  · exact ⟨B, 0, _, _, rfl, c 7 (by simp), c 8 (by simp), c 9 (by simp), c 10 (by simp), c 11 (by simp), c 12 (by simp), c 13 (by simp), hl, by show IntsIn w _ o2.place; rw [h2]; exact ints_one w b2 p2 w2 hb2, sl _ k2⟩

theorem three_allocs (w : World) (o1 o2 o3 : Obj) : (((w.alloc o1).alloc o2).alloc o3).heap[w.heap.size]? = some o1 ∧ (((w.alloc o1).alloc o2).alloc o3).heap[w.heap.size + 1]? = some o2 ∧ (((w.alloc o1).alloc o2).alloc o3).heap[w.heap.size + 1 + 1]? = some o3 ∧ Below w.heap.size w (((w.alloc o1).alloc o2).alloc o3) := by
  have s2 : ((w.alloc o1).alloc o2).heap.size = w.heap.size + 2 := by simp
  have a3 := heap_alloc_new ((w.alloc o1).alloc o2) o3
  rw [s2] at a3
  have n3 : ∀ b, b < w.heap.size + 2 → (((w.alloc o1).alloc o2).alloc o3).heap[b]? = ((w.alloc o1).alloc o2).heap[b]? := fun b hb => ((Below.refl _ _).alloc (Nat.le_refl _) _).block b (by omega)
  refine ⟨by rw [n3 _ (by omega)]; exact two_first w o1 o2, by rw [n3 _ (by omega)]; exact two_last w o1 o2, a3, ?_⟩
  exact (((Below.refl w.heap.size w).alloc (Nat.le_refl _) o1).alloc (by simp) o2).alloc (by omega) o3
set_option maxRecDepth 100000 in
set_option maxHeartbeats 8000000 in
theorem lives23_any (w : World) (hE : EnvU w) : Calls Tryz.prog 15 #[] w fun e w' => e = .returned (.bool true) ∧ Below w.heap.size w w' := by
  have HE := Lib.hid hE; clear hE
  go_enter Tryz.func15, Tryz.ntmps15
  go_wp2_with fail
  -- the first call
  have H2 := Lib.hid (show ∃ wa, (w.alloc (.cells #[.int .i64 3, .string ⟨#[49]⟩, .string ⟨#[]⟩, .slice none 0 0] 24)).alloc (.cells #[.int .i64 5, .string ⟨#[]⟩, .string ⟨#[]⟩, .slice (some ⟨w.heap.size, 0, none⟩) 1 1] 24) = wa ∧ Below w.heap.size w wa ∧ wa.heap.size = w.heap.size + 1 + 1 ∧ wa.heap[w.heap.size + 1]? = some (.cells #[.int .i64 5, .string ⟨#[]⟩, .string ⟨#[]⟩, .slice (some ⟨w.heap.size, 0, none⟩) 1 1] 24 (0, 0)) ∧ NdV wa (fun b => b < wa.heap.size) (.agg #[.int .i64 5, .string ⟨#[]⟩, .string ⟨#[]⟩, .slice (some ⟨w.heap.size, 0, none⟩) 1 1]) lvOne from
    ⟨_, rfl, ((Below.refl _ _).alloc (Nat.le_refl _) _).alloc (by simp) _, by simp, two_last _ _ _, by
      obtain ⟨u, hu, hs⟩ := (one_in w).below (((Below.refl _ _).alloc (Nat.le_refl _) (.cells #[.int .i64 5, .string ⟨#[]⟩, .string ⟨#[]⟩, .slice (some ⟨w.heap.size, 0, none⟩) 1 1] 24)))
      exact ⟨u, hu, hs.lt⟩⟩)
  obtain ⟨wa, hwa, hba, hsa, hxa, hna⟩ := H2.out
  rw [hwa, show w.heap.size + 1 + 1 = wa.heap.size from hsa.symm]
  have HBA := Lib.hid hba; have HXA := Lib.hid hxa; have HNA := Lib.hid hna; have HSA := Lib.hid hsa
  clear H2 hwa hba hxa hna hsa
  obtain ⟨g1, g2, g3, gb⟩ := three_allocs wa (.cells #[.int .i64 0] 3) (.cells #[.int .i64 1] 3) (.cells #[.int .i64 1, .slice (some ⟨wa.heap.size, 0, none⟩) 1 1, .int .i64 1, .string ⟨#[]⟩, .string ⟨#[]⟩, .slice none 0 0, .string ⟨#[]⟩, .int .i64 2, .slice (some ⟨wa.heap.size + 1, 0, none⟩) 1 1, .int .i64 0, .string ⟨#[]⟩, .string ⟨#[]⟩, .slice none 0 0, .string ⟨#[]⟩] 45)
  refine (apply_any _ _ _ _ lvOne lvOpsA (HE.out.below (HBA.out.trans (gb.mono HBA.out.size))) (HNA.out.below gb) (two_ops _ _ _ _ ⟨1, [0], lvNull, ⟨#[]⟩⟩ ⟨2, [1], zeroNd, ⟨#[]⟩⟩ 0 1 rfl rfl (by decide) (by decide) rfl rfl g1 g2 g3) ok_one ops_okA (by rw [one_sz, opsA_sz]; omega)).mono ?_
  rintro e w2 ⟨a, c, he, hrk, hb⟩
  rw [lv_applyA] at he hrk
  have he' : e = .returned (.tuple #[.agg #[.int .i64 5, .string ⟨#[]⟩, .string ⟨#[]⟩, .slice a 1 c], .int .i64 2, .int .i64 0]) := he
  subst he'
  have HB2 := Lib.hid (show Below wa.heap.size wa w2 from bthen gb hb)
  have HK2 := Lib.hid (show SlIn w2 _ (.slice a 1 c) [lvNull] from hrk.1)
  have hx2 := (HB2.out.block (w.heap.size + 1) (by have := HSA.out; omega)).trans HXA.out
  obtain ⟨x0, x1, x2, x3, y0, y1, y2, y3, hxl⟩ := nd_cells hx2
  have HX2 := Lib.hid hx2
  clear he hrk hb g1 g2 g3 gb hx2
  go_wp2_with fail
  obtain ⟨wb, hwb⟩ : ∃ wb, w2.alloc (.cells #[.int .i64 5, .string ⟨#[]⟩, .string ⟨#[]⟩, .slice a 1 c] 24) = wb := ⟨_, rfl⟩
  have hbb : Below w2.heap.size w2 wb := by rw [← hwb]; exact (Below.refl _ _).alloc (Nat.le_refl _) _
  have hsb : wb.heap.size = w2.heap.size + 1 := by rw [← hwb]; simp
  have hrb : wb.heap[w2.heap.size]? = some (.cells #[.int .i64 5, .string ⟨#[]⟩, .string ⟨#[]⟩, .slice a 1 c] 24 (0, 0)) := by rw [← hwb]; exact heap_alloc_new w2 _
  rw [hwb, ← hsb]
  have HRB := Lib.hid hrb
  have HBB := Lib.hid (show Below w.heap.size w wb from HBA.out.trans ((bthen HB2.out hbb).mono HBA.out.size))
  have HXB := Lib.hid ((hbb.block _ hxl).trans HX2.out)
  have HNB := Lib.hid (HNA.out.below (bthen HB2.out hbb))
  have HKB := Lib.hid (HK2.out.below hbb)
  clear hwb hbb hsb hrb x0 x1 x2 x3 y0 y1 y2 y3 hxl
  obtain ⟨g1, g2, g3, gb⟩ := three_allocs wb (.cells #[.int .i64 0] 3) (.cells #[.int .i64 0] 3) (.cells #[.int .i64 2, .slice (some ⟨wb.heap.size, 0, none⟩) 1 1, .int .i64 0, .string ⟨#[]⟩, .string ⟨#[]⟩, .slice none 0 0, .string ⟨#[]⟩, .int .i64 2, .slice (some ⟨wb.heap.size + 1, 0, none⟩) 1 1, .int .i64 0, .string ⟨#[]⟩, .string ⟨#[]⟩, .slice none 0 0, .string ⟨#[]⟩] 45)
  refine (apply_any _ _ _ _ lvOne lvOpsB (HE.out.below (HBB.out.trans (gb.mono HBB.out.size))) (HNB.out.below gb) (two_ops _ _ _ _ ⟨2, [0], zeroNd, ⟨#[]⟩⟩ ⟨2, [0], zeroNd, ⟨#[]⟩⟩ 0 0 rfl rfl (by decide) (by decide) rfl rfl g1 g2 g3) ok_one ops_okB (by rw [one_sz, opsB_sz]; omega)).mono ?_
  rintro e w3 ⟨a3, c3, he, _, hb⟩
  rw [lv_applyB] at he
  have he' : e = .returned (.tuple #[.agg #[.int .i64 5, .string ⟨#[]⟩, .string ⟨#[]⟩, .slice a3 1 c3], .int .i64 1, .int .i64 21]) := he
  subst he'
  have HB3 := Lib.hid (show Below wb.heap.size wb w3 from bthen gb hb)
  have hx3 := (HB3.out.block _ (lt_blk HXB.out)).trans HXB.out
  have hr3 := (HB3.out.block _ (lt_blk HRB.out)).trans HRB.out
  obtain ⟨x0, x1, x2, x3, y0, y1, y2, y3, hxl⟩ := nd_cells hx3
  have HX3 := Lib.hid hx3; have HR3 := Lib.hid hr3
  have HK3 := Lib.hid (HKB.out.below HB3.out)
  have HN3 := Lib.hid (HNB.out.below HB3.out)
  have HW3 := Lib.hid (show Below w.heap.size w w3 from HBB.out.trans (HB3.out.mono HBB.out.size))
  clear he hb g1 g2 g3 gb hx3 hr3
  go_wp2_with fail
  have hb4 : Below w3.heap.size w3 (w3.alloc (.cells #[.int .i64 5, .string ⟨#[]⟩, .string ⟨#[]⟩, .slice a3 1 c3] 24)) := (Below.refl _ _).alloc (Nat.le_refl _) _
  refine (diffEq_any lvOne _ _ _ _ _ (HE.out.below (bthen HW3.out hb4)) (HN3.out.below hb4) (HN3.out.below hb4) ok_one (by have := walk_len lvOne; rw [one_sz] at this; omega)).mono ?_
  rintro e w5 ⟨rfl, hb⟩
  rw [lv_one_wh]
  have HB5 := Lib.hid (bthen hb4 hb)
  have hr5 := (HB5.out.block _ (lt_blk HR3.out)).trans HR3.out
  obtain ⟨kb, ko, ku, hka, hkl, k0, _, _, _, _⟩ := (HK3.out.below HB5.out).at_ 0 (by decide)
  subst hka
  have hk1 : w5.cell? ⟨kb, ko, none⟩ = some (.int .i64 1) := by have h := k0; simpa [lvNull, Nd.k] using h
  clear x0 x1 x2 x3 y0 y1 y2 y3 hxl k0 hb hb4
  obtain ⟨x0, x1, x2, x3, y0, y1, y2, y3, hxl⟩ := nd_cells hr5
  have HW5 := Lib.hid (bthen HW3.out HB5.out)
  clear hr5
  go_wp2_with fail
  go_ret
  exact ⟨rfl, HW5.out⟩

theorem OpsIn.cut {w : World} {a : Option Addr} {n cap : Nat} {l : List GoOp} (h : OpsIn w (.slice a n cap) l) (k : Nat) (hk : k ≤ l.length) : OpsIn w (.slice a k cap) (l.take k) := by
  obtain ⟨ao, c, e, h1, h2, h3⟩ := h.ex
  injection e with e1 e2 e3
  subst e1; subst e3
  have hl : (l.take k).length = k := by rw [List.length_take]; omega
  exact ⟨⟨a, cap, by rw [hl], by omega, h2, fun i hi => by rw [List.getElem_take]; exact h3 i (by omega)⟩⟩
/-- What small hands back. -/
def SmallPost (l : List GoOp) (w : World) (e : Ending) (w' : World) : Prop := Below w.heap.size w w' ∧
  ((∃ lv, e = .returned (.tuple #[lv, .bool true]) ∧ OpsIn w' lv (l.take 20) ∧ ∀ o ∈ l.take 20, 0 ≤ o.node.few 150 20) ∨ e = .returned (.tuple #[.slice none 0 0, .bool false]))

set_option maxRecDepth 100000 in
set_option maxHeartbeats 8000000 in
theorem small_any (w : World) (lv : Value) (l : List GoOp) (hl : OpsIn w lv l) : Calls Tryz.prog 14 #[lv] w (SmallPost l w) := by
  obtain ⟨la, lc, rfl, hlc, hlm, _⟩ := hl.ex
  have hc := hl.cut (min l.length 20) (by omega)
  have ht : l.take (min l.length 20) = l.take 20 := by
    by_cases h : l.length ≤ 20
    · rw [Nat.min_eq_left h, List.take_length, List.take_of_length_le h]
    · rw [Nat.min_eq_right (by omega)]
  rw [ht] at hc
  have htl : (l.take 20).length = min l.length 20 := by rw [List.length_take, Nat.min_comm]
  obtain ⟨L, hL⟩ : ∃ L, l.take 20 = L := ⟨_, rfl⟩
  rw [hL] at hc htl
  rw [← htl] at hc
  have HL := Lib.hid hL; have HC := Lib.hid hc
  unfold maxLen at hlm
  have hlen20 : L.length ≤ 20 := by omega
  have HTL := Lib.hid htl
  have hcap : L.length ≤ lc := by omega
  have HQ := Lib.hid (show (20 < l.length → L.length = 20) ∧ (¬ 20 < l.length → L.length = l.length) by omega)
  clear hl hc ht hL htl
  by_cases h20 : 20 < l.length
  · have HEQ := Lib.hid (HQ.out.1 h20)
    have h2 : (20 : Int) < (l.length : Int) := by omega
    have h3 : (20 : Int) ≤ (lc : Int) := by have := HQ.out.1 h20; omega
    have h4 : 20 ≤ lc := by omega
    clear hlc HQ HTL
    go_enter Tryz.func14, Tryz.ntmps14
    go_wp2_with fail
    clear h2 h3 h20
    go_loopw [4] (fun vi wr => ∃ i : Nat, i ≤ 20 ∧ vi = .int .i64 i ∧ Hid (∀ o ∈ L.take i, 0 ≤ o.node.few 150 20) ∧ Hid (Below w.heap.size w wr))
      (fun vi _ => 20 - (intOf vi).toNat)
    case atStart => exact ⟨0, Nat.zero_le _, rfl, by show ∀ _, _; intro o ho; simp at ho, Below.refl _ _⟩
    case round =>
      obtain ⟨i, hi, rfl, HA, HB⟩ := hrel
      by_cases hltI : i < 20
      · have hlt : i < L.length := by have := HEQ.out; omega
        obtain ⟨la', lc', e', _, _, hcells⟩ := (HC.out.below HB.out).ex
        injection e' with e1 e2 e3
        subst e1; subst e3
        obtain ⟨b, o, pv, uo, rfl, hat⟩ := hcells i hlt
        obtain ⟨na, ncap, rfl, hnc, hnm⟩ := hat.node.shape
        have HAT := Lib.hid hat
        have HTK := Lib.hid (show L.take (i + 1) = L.take i ++ [L[i]] by rw [List.take_add_one, List.getElem?_eq_getElem hlt]; rfl)
        obtain ⟨X, hX⟩ : ∃ X, L[i] = X := ⟨_, rfl⟩
        rw [hX] at hat HAT HTK hnc
        obtain ⟨d0, d1, d2, d3, d4, d5, d6, hdl, _, hnd⟩ := hat
        have HND := Lib.hid hnd
        clear hcells hX hnd hlt
        go_wp2_with fail
        refine (few23_any X.node wr _ _ ⟨_, rfl, HND.out⟩).mono ?_
        rintro e w2 ⟨rfl, hb⟩
        have HB2 := Lib.hid (bthen HB.out hb)
        clear hb d0 d1 d2 d3 d4 d5 d6 hdl
        by_cases hf : 0 ≤ X.node.few 150 20
        · rw [decide_eq_true hf]
          have HF := Lib.hid hf
          clear hf
          go_wp2_with fail
          go_roundw
          case rel => exact ⟨i + 1, by omega, by go_num, by
            show ∀ _, _
            intro o ho
            rw [HTK.out] at ho
            rcases List.mem_append.1 ho with ho | ho
            · exact HA.out o ho
            · rw [List.mem_singleton.1 ho]; exact HF.out, HB2.out⟩
          case measure => simp [intOf]; omega
        · rw [decide_eq_false hf]
          clear hf
          go_wp2_with fail
          refine bodyPost_ret (v := .tuple #[.slice none 0 0, .bool false]) (by simp [results, Tryz.results14, go_sem]) rfl ⟨HB2.out, .inr rfl⟩
      · obtain rfl : i = 20 := by omega
        have HF := Lib.hid (show ∀ o ∈ L, 0 ≤ o.node.few 150 20 by have := HA.out; rwa [← HEQ.out, List.take_length] at this)
        go_wp2_with fail
        refine bodyPost_ret (v := .tuple #[.slice la 20 lc, .bool true]) (by simp [results, Tryz.results14, go_sem]) rfl ⟨HB.out, .inl ⟨_, rfl, ?_, ?_⟩⟩
        · rw [HL.out, ← HEQ.out]; exact HC.out.below HB.out
        · rw [HL.out]; exact HF.out
  · have HEQ := Lib.hid (HQ.out.2 h20)
    have h2 : ¬ (20 : Int) < (l.length : Int) := by omega
    have h4 : l.length ≤ 20 := by omega
    clear HQ HTL
    go_enter Tryz.func14, Tryz.ntmps14
    go_wp2_with fail
    clear h2 h20
    go_loopw [4] (fun vi wr => ∃ i : Nat, i ≤ l.length ∧ vi = .int .i64 i ∧ Hid (∀ o ∈ L.take i, 0 ≤ o.node.few 150 20) ∧ Hid (Below w.heap.size w wr))
      (fun vi _ => l.length - (intOf vi).toNat)
    case atStart => exact ⟨0, Nat.zero_le _, rfl, by show ∀ _, _; intro o ho; simp at ho, Below.refl _ _⟩
    case round =>
      obtain ⟨i, hi, rfl, HA, HB⟩ := hrel
      by_cases hltI : i < l.length
      · have hlt : i < L.length := by have := HEQ.out; omega
        obtain ⟨la', lc', e', _, _, hcells⟩ := (HC.out.below HB.out).ex
        injection e' with e1 e2 e3
        subst e1; subst e3
        obtain ⟨b, o, pv, uo, rfl, hat⟩ := hcells i hlt
        obtain ⟨na, ncap, rfl, hnc, hnm⟩ := hat.node.shape
        have HAT := Lib.hid hat
        have HTK := Lib.hid (show L.take (i + 1) = L.take i ++ [L[i]] by rw [List.take_add_one, List.getElem?_eq_getElem hlt]; rfl)
        obtain ⟨X, hX⟩ : ∃ X, L[i] = X := ⟨_, rfl⟩
        rw [hX] at hat HAT HTK hnc
        obtain ⟨d0, d1, d2, d3, d4, d5, d6, hdl, _, hnd⟩ := hat
        have HND := Lib.hid hnd
        clear hcells hX hnd hlt
        go_wp2_with fail
        refine (few23_any X.node wr _ _ ⟨_, rfl, HND.out⟩).mono ?_
        rintro e w2 ⟨rfl, hb⟩
        have HB2 := Lib.hid (bthen HB.out hb)
        clear hb d0 d1 d2 d3 d4 d5 d6 hdl
        by_cases hf : 0 ≤ X.node.few 150 20
        · rw [decide_eq_true hf]
          have HF := Lib.hid hf
          clear hf
          go_wp2_with fail
          go_roundw
          case rel => exact ⟨i + 1, by omega, by go_num, by
            show ∀ _, _
            intro o ho
            rw [HTK.out] at ho
            rcases List.mem_append.1 ho with ho | ho
            · exact HA.out o ho
            · rw [List.mem_singleton.1 ho]; exact HF.out, HB2.out⟩
          case measure => simp [intOf]; omega
        · rw [decide_eq_false hf]
          clear hf
          go_wp2_with fail
          refine bodyPost_ret (v := .tuple #[.slice none 0 0, .bool false]) (by simp [results, Tryz.results14, go_sem]) rfl ⟨HB2.out, .inr rfl⟩
      · obtain rfl : i = l.length := by omega
        have HF := Lib.hid (show ∀ o ∈ L, 0 ≤ o.node.few 150 20 by have := HA.out; rwa [← HEQ.out, List.take_length] at this)
        go_wp2_with fail
        refine bodyPost_ret (v := .tuple #[.slice la l.length lc, .bool true]) (by simp [results, Tryz.results14, go_sem]) rfl ⟨HB.out, .inl ⟨_, rfl, ?_, ?_⟩⟩
        · rw [HL.out, ← HEQ.out]; exact HC.out.below HB.out
        · rw [HL.out]; exact HF.out
end Go.Proofs.YtdaamiihldbekaaGreatDoor
