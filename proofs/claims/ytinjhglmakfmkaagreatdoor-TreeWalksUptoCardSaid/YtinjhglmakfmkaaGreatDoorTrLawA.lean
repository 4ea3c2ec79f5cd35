/- TreeWalks. -/
import Derived.Test.YtinjhglmakfmkaaGreatDoorTrN4
namespace Go.Proofs.YtinjhglmakfmkaaGreatDoor
open Go.RowKit Ev5
set_option linter.unusedSimpArgs false
set_option linter.unusedVariables false

theorem walk_le (x : Nd) : x.walk.length ≤ 2 * x.size := by
  refine Nd.ind (C := fun x => x.walk.length ≤ 2 * x.size) ?_ x
  intro k t v ks ih
  have hk : ∀ (l : List Nd), (∀ y ∈ l, y ∈ ks) → (Nd.walks l).length ≤ 2 * Nd.sizes l := by
    intro l
    induction l with
    | nil => intro _; rw [walks_nil]; simp
    | cons y r ihr =>
      intro h
      rw [walks_cons, sizes_cons, List.length_append]
      have h1 := ih y (h y (by simp))
      have h2 := ihr (fun z hz => h z (by simp [hz]))
      omega
  have hks := hk ks (fun _ h => h)
  rw [walk_mk, size_mk]
  split
  · simp; omega
  · rw [List.length_cons, List.length_append]
    have : (if endK k = 0 then [] else [endEv k]).length ≤ 1 := by split <;> simp
    omega
theorem few_size {x : Nd} (h : 0 ≤ x.few 300 20) : x.size ≤ 300 := by
  have := (few_says x 300 20 (by omega)).2.2 h
  omega
theorem evIn_nil (w : World) : EvIn w (.slice none 0 0) [] := (show EvOwn w 0 (.slice none 0 0) [] from World.ownsRow_nil _ _ _ _).evIn (by simp) (by simp)
/-- What a walk hands back, as a row. -/
theorem WalkPost.row {x : Nd} {w w' : World} {e : Ending} (h : WalkPost x w e w') (hok : x.ok) (hl : x.walk.length ≤ 100000) : ∃ lv : Value, e = .returned (.tuple #[lv, .int .i64 (wholeP RP (x.walk.map GoEv.ev)).2]) ∧ Below w.heap.size w w' ∧ EvIn w' lv (if (wholeP RP (x.walk.map GoEv.ev)).2 = 0 then x.walk else []) := by
  obtain ⟨lv, he, hb, h0, h1⟩ := h
  refine ⟨lv, he, hb, ?_⟩
  split
  · exact (h1 (by assumption)).evIn (walk_ok x hok) (by omega)
  · rw [h0 (by assumption)]; exact evIn_nil _

set_option maxRecDepth 100000 in
set_option maxHeartbeats 8000000 in
theorem treeWalks_any (n : Nd) (w : World) (S : Nat → Prop) (val : Value) (hE : EnvU w) (hv : NdV w S val n) (hS : ∀ b, S b → b < w.heap.size) (hok : n.ok) :
    Calls Tryz.prog 5 #[val] w fun e w' => e = .returned (.bool true) ∧ Below w.heap.size w w' := by
  obtain ⟨u, rfl, hs⟩ := hv
  obtain ⟨ao, cap, rfl, hcap, hcm⟩ := hs.shape
  have HE := Lib.hid hE; have HSS := Lib.hid hS; have HOK := Lib.hid hok
  have HV := Lib.hid (show NdV w S (.agg #[.int .i64 n.k, .string n.t, .string n.v, .slice ao n.kids.length cap]) n from ⟨_, rfl, hs⟩)
  have HB1 := Lib.hid (show Below w.heap.size w (w.alloc (.cells #[.int .i64 n.k, .string n.t, .string n.v, .slice ao n.kids.length cap] 39)) from (Below.refl _ _).alloc (Nat.le_refl _) _)
  have HX := Lib.hid (heap_alloc_new w (.cells #[.int .i64 n.k, .string n.t, .string n.v, .slice ao n.kids.length cap] 39))
  clear hs hE hS hok
  unfold ndV
  go_enter Tryz.func5, Tryz.ntmps5
  go_wp2_with fail
  refine (fewB_any n _ S _ (HV.out.below HB1.out)).mono ?_
  rintro e w2 ⟨rfl, hb⟩
  have hx := (hb.block _ (by simp)).trans HX.out
  obtain ⟨x0, x1, x2, x3, y0, y1, y2, y3, hxl⟩ := nd_cells hx
  have HX2 := Lib.hid hx
  have HB2 := Lib.hid (bthen HB1.out hb)
  clear hb hx
  by_cases hf : 0 ≤ n.few 300 20
  · have HSZ := Lib.hid (few_size hf)
    have hfd : decide (0 ≤ n.few 300 20) = true := decide_eq_true hf
    rw [hfd]
    clear hf hfd
    have HLN := Lib.hid (show n.walk.length ≤ 100000 by have := walk_le n; have := HSZ.out; omega)
    go_wp2_with fail
    refine (treeWalk_any n w2 S _ (HE.out.below HB2.out) (HV.out.below HB2.out) (fun b hb => Nat.lt_of_lt_of_le (HSS.out b hb) HB2.out.size) HOK.out HLN.out).mono ?_
    intro e w3 hp
    obtain ⟨lv, rfl, hb, hr⟩ := hp.row HOK.out HLN.out
    have hx := (hb.block _ hxl).trans HX2.out
    have HB3 := Lib.hid (bthen HB2.out hb)
    have HX3 := Lib.hid hx
    obtain ⟨L, hL⟩ : ∃ L, (if (wholeP RP (n.walk.map GoEv.ev)).2 = 0 then n.walk else []) = L := ⟨_, rfl⟩
    rw [hL] at hr
    have HLL := Lib.hid hL
    have HR := Lib.hid hr
    obtain ⟨la, lc, rfl, _⟩ := hr.ex
    clear hL
    clear x0 x1 x2 x3 y0 y1 y2 y3 hp hb hr
    obtain ⟨x0, x1, x2, x3, y0, y1, y2, y3, hxl3⟩ := nd_cells hx
    clear hx
    obtain ⟨E, hE⟩ : ∃ E, (wholeP RP (n.walk.map GoEv.ev)).2 = E := ⟨_, rfl⟩
    have HEQ := Lib.hid hE
    rw [hE]
    clear hE
    go_wp2_with fail
    refine (refTreeWalk_any n w3 S _ (HV.out.below HB3.out) (fun b hb => Nat.lt_of_lt_of_le (HSS.out b hb) HB3.out.size) HOK.out HLN.out).mono ?_
    intro e w4 hp
    obtain ⟨lv, rfl, hb, hr⟩ := hp.row HOK.out HLN.out
    rw [HLL.out] at hr
    rw [HEQ.out]
    have hx := (hb.block _ hxl3).trans HX3.out
    have HB4 := Lib.hid (bthen HB3.out hb)
    have HX4 := Lib.hid hx
    have HR1 := Lib.hid (HR.out.below hb)
    have HR2 := Lib.hid hr
    obtain ⟨lb, ld, rfl, _⟩ := hr.ex
    clear x0 x1 x2 x3 y0 y1 y2 y3 hp hb hr HR
    obtain ⟨x0, x1, x2, x3, y0, y1, y2, y3, hxl4⟩ := nd_cells hx
    clear hx
    go_wp2_with fail
    refine (refRow_any w4 _ _ _ HR1.out HR2.out).mono ?_
    rintro e w5 ⟨rfl, hb⟩
    have hx := (hb.block _ hxl4).trans HX4.out
    have HB5 := Lib.hid (bthen HB4.out hb)
    have HX5 := Lib.hid hx
    clear x0 x1 x2 x3 y0 y1 y2 y3 hb HR1 HR2
    obtain ⟨x0, x1, x2, x3, y0, y1, y2, y3, hxl5⟩ := nd_cells hx
    have hee : (E == E) = true := by simp
    clear hx
    go_wp2_with fail
    refine (treeMay_any n w5 S _ (HE.out.below HB5.out) (HV.out.below HB5.out) (fun b hb => Nat.lt_of_lt_of_le (HSS.out b hb) HB5.out.size) HOK.out HLN.out).mono ?_
    rintro e w6 ⟨rfl, hb⟩
    rw [HEQ.out]
    have HB6 := Lib.hid (bthen HB5.out hb)
    clear hb
    go_wp2_with fail
    refine (lives_any w6 (HE.out.below HB6.out)).mono ?_
    rintro e w7 ⟨rfl, hb⟩
    have HB7 := Lib.hid (bthen HB6.out hb)
    clear hb
    go_wp2_with fail
    go_ret
    exact ⟨rfl, HB7.out⟩
  · have hfd : decide (0 ≤ n.few 300 20) = false := decide_eq_false hf
    rw [hfd]
    clear hf hfd
    go_wp2_with fail
    refine (lives_any w2 (HE.out.below HB2.out)).mono ?_
    rintro e w3 ⟨rfl, hb⟩
    have HB3 := Lib.hid (bthen HB2.out hb)
    clear hb
    go_wp2_with fail
    go_ret
    exact ⟨rfl, HB3.out⟩
theorem treeWalks_law (val : Value) (x : Nd) (w : World) (hE : EnvU w) (hv : NdV w (fun b => b < w.heap.size) val x ∧ x.ok ∧ x.size ≤ 1048576) :
    Calls Tryz.prog 5 #[val] w fun e w' => e = .returned (.bool true) ∧ Below w.heap.size w w' := treeWalks_any x w _ val hE hv.1 (fun _ h => h) hv.2.1
end Go.Proofs.YtinjhglmakfmkaaGreatDoor
