import Derived.Test.YtmniblcooficgaaGreatDoorD25
namespace Go.Proofs.YtmniblcooficgaaGreatDoor
open Go.RowKit Ev5
set_option linter.unusedSimpArgs false
set_option linter.unusedVariables false

theorem wf_nat {i : Nat} (h : i ≤ 1048576) : (Lit.int .i64 (i : Int)).wf = true := by
  have h3 : IntKind.i64.min = -9223372036854775808 := rfl
  have h4 : IntKind.i64.max = 9223372036854775807 := rfl
  simp only [Lit.wf, h3, h4, Bool.and_eq_true, decide_eq_true_eq]
  omega
set_option maxRecDepth 100000 in
set_option maxHeartbeats 8000000 in
theorem first_any (s : Int) (tp : List Nd → Bool) (ok : List Nd → Prop) (HT : TellsAt s tp ok) (hst : ∀ (way : List Nd) (n : Nd), ok (way ++ [n]) → ∀ (i : Nat) (hi : i < n.kids.length), ok (way ++ [n] ++ [n.kids[i]])) :
    ∀ (N : Nat) (n : Nd) (way : List Nd) (p : List Int) (w : World) (S : Nat → Prop) (wv pv : Value), n.size ≤ N → EnvU w → SlIn w S wv (way ++ [n]) → IntsIn w pv p → ok (way ++ [n]) → way.length + n.size ≤ 100000 → p.length + n.size ≤ 100000 →
    Calls Tryz.prog 21 #[.int .i64 s, wv, pv] w (FirstPost (firstP tp way n p) w) := by
  intro N
  induction N with
  | zero => intro n way p w S wv pv hn; have := kids_size n; omega
  | succ N ih =>
    intro n way p w S wv pv hN hE hwv hpv hok hl1 hl2
    obtain ⟨wa, wc, rfl, hwc, hwm⟩ := hwv.shape
    obtain ⟨pa, pc, rfl, hpc, hpm, _⟩ := hpv.ex
    have HIH := Lib.hid ih; have HTT := Lib.hid HT; have HST := Lib.hid hst; have HN := Lib.hid hN; have HE := Lib.hid hE; have HW := Lib.hid hwv.ltC; have HP := Lib.hid hpv; have HOK := Lib.hid hok; have HSZ := Lib.hid (And.intro hl1 hl2)
    have hpl : p.length ≤ 100000 := by omega
    have hwl : (way ++ [n]).length ≤ 100001 := by have := kids_size n; rw [List.length_append, List.length_singleton]; omega
    have hkl : n.kids.length ≤ 100000 := by have := kids_size n; have := sizes_len n.kids; omega
    have hw1 : 0 < (way ++ [n]).length := by rw [List.length_append, List.length_singleton]; omega
    have hlast : way.length < (way ++ [n]).length := by rw [List.length_append, List.length_singleton]; omega
    obtain ⟨bb, oo, ux, hao, hbw, c0, c1, c2, c3, hsx⟩ := hwv.at_ way.length hlast
    subst hao
    rw [List.getElem_append_right (Nat.le_refl _)] at c0 c1 c2 hsx
    simp only [Nat.sub_self, List.getElem_cons_zero] at c0 c1 c2 hsx
    obtain ⟨ax, cx, rfl, hcx, hcm⟩ := hsx.shape
    have HS := Lib.hid hsx.ltC
    have HLEN := Lib.hid (show (way ++ [n]).length = way.length + 1 by rw [List.length_append, List.length_singleton])
    unfold maxLen at hwm hpm hcm
    have HKC := Lib.hid (show ∀ W, Below w.heap.size w W → bb < W.heap.size ∧ W.cell? ⟨bb, oo + way.length * 4, none⟩ = some (.int .i64 n.k) ∧ W.cell? ⟨bb, oo + way.length * 4 + 1, none⟩ = some (.string n.t) ∧ W.cell? ⟨bb, oo + way.length * 4 + 2, none⟩ = some (.string n.v) ∧ W.cell? ⟨bb, oo + way.length * 4 + 3, none⟩ = some (.slice ax n.kids.length cx) from fun W hb =>
      ⟨Nat.lt_of_lt_of_le hbw hb.size, (hb.cell (p := ⟨bb, oo + way.length * 4, none⟩) hbw).trans c0, (hb.cell (p := ⟨bb, oo + way.length * 4 + 1, none⟩) hbw).trans c1, (hb.cell (p := ⟨bb, oo + way.length * 4 + 2, none⟩) hbw).trans c2, (hb.cell (p := ⟨bb, oo + way.length * 4 + 3, none⟩) hbw).trans c3⟩)
    have hWL := HLEN.out
    obtain ⟨WK, hWK⟩ : ∃ WK, way.length = WK := ⟨_, rfl⟩
    rw [hWK] at hWL HKC
    rw [hWL] at hwc hwl HW
    rw [hWL]
    clear ih HT hst hN hE hwv hpv hok hl1 hl2 c0 c1 c2 c3 hsx hlast hw1 hWL
    have hwk : WK ≤ 100000 := by omega
    have hwkI : ((WK + 1 : Nat) : Int) - 1 = (WK : Int) := by omega
    have hw0 : (0 : Int) ≤ (WK : Int) := Int.natCast_nonneg _
    have hw2 : (WK : Int) < ((WK + 1 : Nat) : Int) := by omega
    go_enter Tryz.func21, Tryz.ntmps21
    go_wp2_with fail
    refine (HTT.out w _ _ (way ++ [n]) HE.out HW.out HOK.out (by have := HLEN.out; omega)).mono ?_
    rintro e w1 ⟨rfl, hb⟩
    have H1 := Lib.hid hb
    obtain ⟨T, hT⟩ : ∃ T, tp (way ++ [n]) = T := ⟨_, rfl⟩
    rw [hT]
    have HTE := Lib.hid hT
    clear hb hT
    cases T with
    | false =>
      go_wp2_with fail
      refine bodyPost_ret (v := .tuple #[.slice pa p.length pc, .bool true]) (by simp [results, Tryz.results21, go_sem]) rfl ?_
      rw [firstP_no HTE.out]
      exact ⟨H1.out, _, _, rfl, HP.out.below H1.out⟩
    | true =>
      obtain ⟨hbl, d0, d1, d2, d3⟩ := HKC.out _ H1.out
      have H1d := Lib.hid (show Below w1.heap.size w1 (w1.alloc (.cells #[.int .i64 n.k, .string n.t, .string n.v, .slice ax n.kids.length cx] 24)) from (Below.refl _ _).alloc (Nat.le_refl _) _)
      have HX1 := Lib.hid (heap_alloc_new w1 (.cells #[.int .i64 n.k, .string n.t, .string n.v, .slice ax n.kids.length cx] 24))
      go_wp2_with fail
      obtain ⟨W2, hW2⟩ : ∃ W2, w1.alloc (.cells #[.int .i64 n.k, .string n.t, .string n.v, .slice ax n.kids.length cx] 24) = W2 := ⟨_, rfl⟩
      obtain ⟨X, hX⟩ : ∃ X, w1.heap.size = X := ⟨_, rfl⟩
      rw [hW2] at H1d HX1
      rw [hX] at HX1
      try rw [hW2]
      try rw [hX]
      have HB2 := Lib.hid (bthen H1.out H1d.out)
      have HLX := Lib.hid (show w.heap.size ≤ X from hX ▸ H1.out.size)
      clear hW2 hX hbl d0 d1 d2 d3
      go_loopw [10] (fun v10 wr => ∃ i : Nat, i ≤ n.kids.length ∧ v10 = .int .i64 i ∧ Hid (∀ (j : Nat) (hj : j < n.kids.length), j < i → firstP tp (way ++ [n]) n.kids[j] (p ++ [(j : Int)]) = none) ∧ Hid (Below W2.heap.size W2 wr)) (fun v10 _ => n.kids.length - (intOf v10).toNat)
      case atStart => exact ⟨0, Nat.zero_le _, rfl, by show ∀ _, _; intro j hj h; omega, Below.refl _ _⟩
      case round =>
        obtain ⟨i, hi, rfl, HA, HB⟩ := hrel
        obtain ⟨x0, x1, x2, x3, _, _, _, _, hxl⟩ := nd_cells ((HB.out.block _ (lt_blk HX1.out)).trans HX1.out)
        by_cases hlt : i < n.kids.length
        · have hi0 : (0 : Int) ≤ (i : Int) := Int.natCast_nonneg _
          have hi1 : (i : Int) < (n.kids.length : Int) := by omega
          have HBW := Lib.hid (bthen HB2.out HB.out)
          obtain ⟨kb, ko, kx, hko, hkw, k0, k1, k2, k3, hkx⟩ := HS.out.at_ i hlt
          subst hko
          obtain ⟨ay, cy, rfl, _, _⟩ := hkx.shape
          have HKZ := Lib.hid (kid_size (n := n) hlt)
          have HOK2 := Lib.hid (HST.out way n HOK.out i hlt)
          have HHIT := Lib.hid (fun (q : List Int) (h : firstP tp (way ++ [n]) n.kids[i] (p ++ [(i : Int)]) = some q) => firstP_hit (p := p) (q := q) HTE.out hlt (fun j hj h2 => HA.out j hj h2) h)
          have HNXT := Lib.hid (fun (h : firstP tp (way ++ [n]) n.kids[i] (p ++ [(i : Int)]) = none) (j : Nat) (hj : j < n.kids.length) (h2 : j < i + 1) => show firstP tp (way ++ [n]) n.kids[j] (p ++ [(j : Int)]) = none by
            rcases Nat.lt_or_eq_of_le (Nat.le_of_lt_succ h2) with h3 | h3
            · exact HA.out j hj h3
            · subst h3; exact h)
          obtain ⟨y, hy⟩ : ∃ y, n.kids[i] = y := ⟨_, rfl⟩
          rw [hy] at k0 k1 k2 k3 hkx HKZ HOK2 HHIT HNXT
          have HYS := Lib.hid (hkx.below HBW.out)
          obtain ⟨va1, wA1, va2, wA2, r1, r2, hsl, b1, b2, ⟨f1, g1, rfl⟩, f2, g2, rfl⟩ := way_app wr (fun b => b < w.heap.size) (fun b hb => Nat.lt_of_lt_of_le hb HBW.out.size) (.slice (some ⟨bb, oo, none⟩) (WK + 1) wc) (way ++ [n]) y (.slice ay y.kids.length cy) (HW.out.below HBW.out) (hkx.ltC.below HBW.out) (by have := HLEN.out; omega)
          have HR1 := Lib.hid r1; have HR2 := Lib.hid r2; have HSL := Lib.hid hsl; have HA1 := Lib.hid b1; have HA2 := Lib.hid b2
          obtain ⟨vb1, wB1, vb2, wB2, s1, s2, hpi, b3, b4, ⟨f3, g3, rfl⟩, f4, g4, rfl⟩ := place_two wA2 (.slice pa p.length pc) p (i : Int) (HP.out.below (bthen HBW.out b2)) (by omega) (wf_nat (by omega))
          have HS1 := Lib.hid s1; have HS2 := Lib.hid s2; have HPI := Lib.hid hpi; have HB4 := Lib.hid b4
          have hkA := fun W (hb : Below w.heap.size w W) => (show kb < W.heap.size ∧ W.cell? ⟨kb, ko + i * 4, none⟩ = some (.int .i64 y.k) ∧ W.cell? ⟨kb, ko + i * 4 + 1, none⟩ = some (.string y.t) ∧ W.cell? ⟨kb, ko + i * 4 + 2, none⟩ = some (.string y.v) ∧ W.cell? ⟨kb, ko + i * 4 + 3, none⟩ = some (.slice ay y.kids.length cy) from ⟨Nat.lt_of_lt_of_le hkw hb.size, (hb.cell (p := ⟨kb, ko + i * 4, none⟩) hkw).trans k0, (hb.cell (p := ⟨kb, ko + i * 4 + 1, none⟩) hkw).trans k1, (hb.cell (p := ⟨kb, ko + i * 4 + 2, none⟩) hkw).trans k2, (hb.cell (p := ⟨kb, ko + i * 4 + 3, none⟩) hkw).trans k3⟩)
          obtain ⟨l1, e0, e1, e2, e3⟩ := hkA _ (bthen HBW.out b1)
          obtain ⟨z0, z1, z2, z3, _, _, _, _, hzl⟩ := nd_cells ((b1.block _ hxl).trans ((HB.out.block _ (lt_blk HX1.out)).trans HX1.out))
          clear hkA k0 k1 k2 k3 hkx hy r1 r2 hsl b1 b2 s1 s2 hpi b3 b4
          have HWA1 := Lib.hid (show (way ++ [n]).length = WK + 1 by have := HLEN.out; omega)
          rw [HWA1.out] at HR1 HR2 HSL
          go_wp2_with (at_builtin; first | refine Lib.wpList_append_run _ rfl _ _ _ _ rfl _ _ rfl rfl _ _ HR1.out ?_ | refine Lib.wpList_append_run _ rfl _ _ _ _ rfl _ _ rfl rfl _ _ HR2.out ?_ | refine Lib.wpList_append_run _ rfl _ _ _ _ rfl _ _ rfl rfl _ _ HS1.out ?_ | refine Lib.wpList_append_run _ rfl _ _ _ _ rfl _ _ rfl rfl _ _ HS2.out ?_)
          have hpl2 : (p ++ [(i : Int)]).length = p.length + 1 := by rw [List.length_append, List.length_singleton]
          have hpi2 := HPI.out
          rw [← hpl2] at hpi2
          refine (HIH.out y (way ++ [n]) (p ++ [(i : Int)]) wB2 _ _ _ (by have := HKZ.out; have := HN.out; omega) (HE.out.below (bthen HBW.out (bthen HA2.out HB4.out))) (HSL.out.below HB4.out) HPI.out HOK2.out (by have := HKZ.out; have := HSZ.out.1; have := HLEN.out; omega) (by have := HKZ.out; have := HSZ.out.2; rw [hpl2]; omega)).mono ?_
          rintro e W3 ⟨hb, hq⟩
          have HB5 := Lib.hid (bthen HB.out (bthen HA2.out (bthen HB4.out hb)))
          have HB6 := Lib.hid (bthen HBW.out (bthen HA2.out (bthen HB4.out hb)))
          clear hb z0 z1 z2 z3 hzl e0 e1 e2 e3 l1 x0 x1 x2 x3 hxl
          cases hres : firstP tp (way ++ [n]) y (p ++ [(i : Int)]) with
          | none =>
            rw [hres] at hq
            obtain rfl := hq
            have HNX := Lib.hid (HNXT.out hres)
            clear hres
            go_wp2_with fail
            go_roundw
            case rel => exact ⟨i + 1, by omega, by go_num, by show ∀ _, _; exact fun j hj h2 => HNX.out j hj h2, HB5.out⟩
            case measure => simp [intOf]; omega
          | some q =>
            rw [hres] at hq
            obtain ⟨a, c, rfl, hints⟩ := hq
            have HH := Lib.hid (HHIT.out q hres)
            have HI := Lib.hid hints
            clear hres hints
            go_wp2_with fail
            refine bodyPost_ret (v := .tuple #[.slice a q.length c, .bool true]) (by simp [results, Tryz.results21, go_sem]) rfl ?_
            rw [HH.out]
            exact ⟨HB6.out, a, c, rfl, HI.out⟩
        · obtain rfl : i = n.kids.length := by omega
          have hi1 : ¬ ((n.kids.length : Nat) : Int) < (n.kids.length : Int) := by omega
          go_wp2_with fail
          refine bodyPost_ret (v := .tuple #[.slice none 0 0, .bool false]) (by simp [results, Tryz.results21, go_sem]) rfl ?_
          rw [firstP_all HTE.out fun j hj => HA.out j hj hj]
          exact ⟨bthen HB2.out HB.out, rfl⟩
end Go.Proofs.YtmniblcooficgaaGreatDoor

namespace Go.Proofs.YtmniblcooficgaaGreatDoor
open Go.RowKit Ev5
set_option linter.unusedSimpArgs false
set_option linter.unusedVariables false

noncomputable def ofP (tp : List Nd → Bool) (n : Nd) : Option (List Int) × Int := if n.wh ≠ 0 then (none, n.wh) else match firstP tp [] n [] with
  | none => (none, 0)
  | some q => (some q, 20)
def OfPost (r : Option (List Int) × Int) (w : World) (e : Ending) (w' : World) : Prop := Below w.heap.size w w' ∧ ∃ a len c, e = .returned (.tuple #[.slice a len c, .int .i64 r.2]) ∧ match r.1 with
  | none => Value.slice a len c = .slice none 0 0
  | some q => len = q.length ∧ IntsIn w' (.slice a q.length c) q
theorem ints_nilC (w : World) : IntsIn w (.slice none 0 0) [] := ⟨⟨none, 0, rfl, Nat.le_refl _, by decide, fun i hi => by simp at hi⟩, fun x hx => by cases hx⟩
set_option maxRecDepth 100000 in
set_option maxHeartbeats 4000000 in
theorem refOf_any (s : Int) (tp : List Nd → Bool) (ok : List Nd → Prop) (hs1 : 1 ≤ s) (hs6 : s ≤ 6) (HT : TellsAt s tp ok) (hst : ∀ (way : List Nd) (n : Nd), ok (way ++ [n]) → ∀ (i : Nat) (hi : i < n.kids.length), ok (way ++ [n] ++ [n.kids[i]]))
    (n : Nd) (w : World) (S : Nat → Prop) (v : Value) (hE : EnvU w) (hv : NdV w S v n) (hok : n.ok) (hsz : n.size ≤ 50000) (hnk : n.wh = 0 → ok [n]) :
    Calls Tryz.prog 8 #[.int .i64 s, v] w (OfPost (ofP tp n) w) := by
  obtain ⟨u, rfl, hs⟩ := hv
  obtain ⟨ao, cap, rfl, hcap, hcm⟩ := hs.shape
  have HS := Lib.hid hs.ltC; have HE := Lib.hid hE; have HOK := Lib.hid hok; have HSZ := Lib.hid hsz; have HNK := Lib.hid hnk; have HTT := Lib.hid HT; have HST := Lib.hid hst
  have hg1 : ¬ s < 1 := by omega
  have hg2 : ¬ 6 < s := by omega
  have HB := Lib.hid (show Below w.heap.size w (w.alloc (.cells #[.int .i64 n.k, .string n.t, .string n.v, .slice ao n.kids.length cap] 24)) from (Below.refl _ _).alloc (Nat.le_refl _) _)
  have HX := Lib.hid (heap_alloc_new w (.cells #[.int .i64 n.k, .string n.t, .string n.v, .slice ao n.kids.length cap] 24))
  clear hs hE hok hsz hnk HT hst hs1 hs6
  unfold ndV
  go_enter Tryz.func8, Tryz.ntmps8
  go_wp2_with fail
  refine (refTreeWalk_any n _ _ _ (NdV.mk (HS.out.below HB.out)) (fun b hb => Nat.lt_of_lt_of_le hb HB.out.size) HOK.out (by have := walk_len n; have := HSZ.out; omega)).mono ?_
  rintro e w2 ⟨rv, rfl, hb, _, _⟩
  have HB2 := Lib.hid (bthen HB.out hb)
  obtain ⟨x0, x1, x2, x3, _, _, _, _, hxl⟩ := nd_cells ((hb.block _ (lt_blk HX.out)).trans HX.out)
  obtain ⟨E, hEq⟩ : ∃ E, (wholeP RP (n.walk.map GoEv.ev)).2 = E := ⟨_, rfl⟩
  have HEQ := Lib.hid (show n.wh = E from hEq)
  rw [hEq]
  clear hb hEq
  by_cases hz : E = 0
  · subst hz
    have HB3 := Lib.hid (show Below w2.heap.size w2 (w2.alloc (.cells #[.int .i64 n.k, .string n.t, .string n.v, .slice ao n.kids.length cap] 24)) from (Below.refl _ _).alloc (Nat.le_refl _) _)
    have hr3 := heap_alloc_new w2 (.cells #[.int .i64 n.k, .string n.t, .string n.v, .slice ao n.kids.length cap] 24)
    have HSL := Lib.hid (one_rowC (S := fun b => b < (w2.alloc (.cells #[.int .i64 n.k, .string n.t, .string n.v, .slice ao n.kids.length cap] 24)).heap.size) hr3 (lt_blk hr3) (HS.out.below (bthen HB2.out HB3.out)).ltC)
    clear hr3
    go_wp2_with fail
    refine (first_any s tp _ HTT.out HST.out n.size n [] [] _ _ _ (.slice none 0 0) (Nat.le_refl _) (HE.out.below (bthen HB2.out HB3.out)) HSL.out (ints_nilC _) (HNK.out HEQ.out) (by have := HSZ.out; simp; omega) (by have := HSZ.out; simp; omega)).mono ?_
    rintro e w4 ⟨hb, hq⟩
    have HB4 := Lib.hid (bthen HB2.out (bthen HB3.out hb))
    cases hres : firstP tp [] n [] with
    | none =>
      rw [hres] at hq
      obtain rfl := hq
      have HP := Lib.hid (show ofP tp n = (none, 0) by unfold ofP; rw [if_neg (by rw [HEQ.out]; simp), hres])
      clear hres hb x0 x1 x2 x3 hxl
      go_wp2_with fail
      refine bodyPost_ret (v := .tuple #[.slice none 0 0, .int .i64 0]) (by simp [results, Tryz.results8, go_sem]) rfl ?_
      rw [HP.out]
      exact ⟨HB4.out, none, 0, 0, rfl, rfl⟩
    | some q =>
      rw [hres] at hq
      obtain ⟨a, c, rfl, hints⟩ := hq
      have HP := Lib.hid (show ofP tp n = (some q, 20) by unfold ofP; rw [if_neg (by rw [HEQ.out]; simp), hres])
      have HI := Lib.hid hints
      clear hres hb hints x0 x1 x2 x3 hxl
      go_wp2_with fail
      refine bodyPost_ret (v := .tuple #[.slice a q.length c, .int .i64 20]) (by simp [results, Tryz.results8, go_sem]) rfl ?_
      rw [HP.out]
      exact ⟨HB4.out, a, q.length, c, rfl, rfl, HI.out⟩
  · have hzb : (E != 0) = true := by simp [hz]
    have HP := Lib.hid (show ofP tp n = (none, E) by unfold ofP; rw [if_pos (by rw [HEQ.out]; exact hz), HEQ.out])
    go_wp2_with fail
    refine bodyPost_ret (v := .tuple #[.slice none 0 0, .int .i64 E]) (by simp [results, Tryz.results8, go_sem]) rfl ?_
    rw [HP.out]
    exact ⟨HB2.out, none, 0, 0, rfl, rfl⟩
set_option maxRecDepth 100000 in
set_option maxHeartbeats 4000000 in
theorem tellsParen : TellsAt 6 (fun _ => true) (fun _ => True) := by
  intro w S wv way hE hs _ hl
  obtain ⟨ao, cap, rfl, hcap, hcm⟩ := hs.shape
  clear hs hE
  go_enter Tryz.func40, Tryz.ntmps40
  go_wp2_with fail
  go_ret
  exact ⟨rfl, Below.refl _ _⟩
theorem ofParen (n : Nd) : ofP (fun _ => true) n = (none, n.wh) := by
  unfold ofP
  by_cases h : n.wh = 0
  · rw [if_neg (by rw [h]; simp), firstP_free (fun _ => rfl) n.size n [] [] (Nat.le_refl _), h]
  · rw [if_pos h]
theorem refOfParen_any (n : Nd) (w : World) (S : Nat → Prop) (v : Value) (hE : EnvU w) (hv : NdV w S v n) (hok : n.ok) (hsz : n.size ≤ 50000) :
    Calls Tryz.prog 8 #[.int .i64 6, v] w fun e w' => e = .returned (.tuple #[.slice none 0 0, .int .i64 n.wh]) ∧ Below w.heap.size w w' :=
  (refOf_any 6 _ _ (by omega) (by omega) tellsParen (fun _ _ _ _ _ => trivial) n w S v hE hv hok hsz (fun _ => trivial)).mono fun e w' h => by
    rw [ofParen] at h
    obtain ⟨hb, a, len, c, he, h2⟩ := h
    have h3 : Value.slice a len c = .slice none 0 0 := h2
    rw [h3] at he
    exact ⟨he, hb⟩
end Go.Proofs.YtmniblcooficgaaGreatDoor

namespace Go.Proofs.YtmniblcooficgaaGreatDoor
open Go.RowKit Ev5
set_option linter.unusedSimpArgs false
set_option linter.unusedVariables false

def lvN (t : ByteArray) : Nd := .mk 7 ⟨#[]⟩ ⟨#[]⟩ [.mk 8 t ⟨#[]⟩ [.mk 5 ⟨#[]⟩ ⟨#[]⟩ [.mk 3 ⟨#[49]⟩ ⟨#[]⟩ [], .mk 4 ⟨#[120]⟩ ⟨#[]⟩ []]]]
def lvNE (t : ByteArray) : List GoEv := [⟨7, ⟨#[]⟩, ⟨#[]⟩⟩, ⟨8, t, ⟨#[]⟩⟩, ⟨5, ⟨#[]⟩, ⟨#[]⟩⟩, ⟨3, ⟨#[49]⟩, ⟨#[]⟩⟩, ⟨4, ⟨#[120]⟩, ⟨#[]⟩⟩, ⟨6, ⟨#[]⟩, ⟨#[]⟩⟩, ⟨9, ⟨#[]⟩, ⟨#[]⟩⟩]
theorem lvN_walk (t : ByteArray) : (lvN t).walk = lvNE t := by
  simp [lvN, lvNE, Nd.walk, Nd.walks, oddK, leafK, endK, endEv, emp]
theorem lvN_wh2 : (lvN ⟨#[97, 32, 98]⟩).wh = 0 := by
  show (wholeP RP ((lvN ⟨#[97, 32, 98]⟩).walk.map GoEv.ev)).2 = 0
  rw [lvN_walk]; decide +kernel
theorem lvN_size (t : ByteArray) : (lvN t).size = 5 := by
  simp [lvN, Nd.size, Nd.sizes]
theorem lvN_ok (t : ByteArray) (h : t.size ≤ 1048576) : (lvN t).ok := by
  have hl : ∀ (k : Int) (s : ByteArray), (Lit.int .i64 k).wf = true → s.size ≤ 1048576 → (Nd.mk k s ⟨#[]⟩ []).ok := fun k s h1 h2 => by
    rw [ok_mk, oks_iff]; exact ⟨ok_lit _ _ h1 h2, fun x hx => by cases hx⟩
  simp only [lvN, ok_mk, oks_iff]
  refine ⟨ok_lit _ _ (by decide) (by decide), fun x hx => ?_⟩
  obtain rfl := List.mem_singleton.1 hx
  rw [ok_mk, oks_iff]
  refine ⟨ok_lit _ _ (by decide) h, fun x hx => ?_⟩
  obtain rfl := List.mem_singleton.1 hx
  rw [ok_mk, oks_iff]
  refine ⟨ok_lit _ _ (by decide) (by decide), fun x hx => ?_⟩
  rcases List.mem_cons.1 hx with rfl | hx
  · exact hl _ _ (by decide) (by decide)
  · obtain rfl := List.mem_singleton.1 hx
    exact hl _ _ (by decide) (by decide)
def lvNW (w : World) (t : ByteArray) : World := (((w.alloc (.cells #[.int .i64 3, .string ⟨#[49]⟩, .string ⟨#[]⟩, .slice none 0 0, .int .i64 4, .string ⟨#[120]⟩, .string ⟨#[]⟩, .slice none 0 0] 24)).alloc (.cells #[.int .i64 5, .string ⟨#[]⟩, .string ⟨#[]⟩, .slice (some ⟨w.heap.size, 0, none⟩) 2 2] 24)).alloc
  (.cells #[.int .i64 8, .string t, .string ⟨#[]⟩, .slice (some ⟨w.heap.size + 1, 0, none⟩) 1 1] 24)).alloc (.cells #[.int .i64 7, .string ⟨#[]⟩, .string ⟨#[]⟩, .slice (some ⟨w.heap.size + 1 + 1, 0, none⟩) 1 1] 24)
theorem lvN_in (w : World) (t : ByteArray) : NdV (lvNW w t) (fun b => b < (lvNW w t).heap.size) (.agg #[.int .i64 7, .string ⟨#[]⟩, .string ⟨#[]⟩, .slice (some ⟨w.heap.size + 1 + 1, 0, none⟩) 1 1]) (lvN t) ∧ Below w.heap.size w (lvNW w t) ∧
    (lvNW w t).heap[w.heap.size + 1 + 1 + 1]? = some (.cells #[.int .i64 7, .string ⟨#[]⟩, .string ⟨#[]⟩, .slice (some ⟨w.heap.size + 1 + 1, 0, none⟩) 1 1] 24 (0, 0)) := by
  obtain ⟨g1, g2, g3, gb⟩ := threeC w (.cells #[.int .i64 3, .string ⟨#[49]⟩, .string ⟨#[]⟩, .slice none 0 0, .int .i64 4, .string ⟨#[120]⟩, .string ⟨#[]⟩, .slice none 0 0] 24) (.cells #[.int .i64 5, .string ⟨#[]⟩, .string ⟨#[]⟩, .slice (some ⟨w.heap.size, 0, none⟩) 2 2] 24)
    (.cells #[.int .i64 8, .string t, .string ⟨#[]⟩, .slice (some ⟨w.heap.size + 1, 0, none⟩) 1 1] 24)
  unfold lvNW
  obtain ⟨W3, hW3⟩ : ∃ W3, (((w.alloc (.cells #[.int .i64 3, .string ⟨#[49]⟩, .string ⟨#[]⟩, .slice none 0 0, .int .i64 4, .string ⟨#[120]⟩, .string ⟨#[]⟩, .slice none 0 0] 24)).alloc (.cells #[.int .i64 5, .string ⟨#[]⟩, .string ⟨#[]⟩, .slice (some ⟨w.heap.size, 0, none⟩) 2 2] 24)).alloc
    (.cells #[.int .i64 8, .string t, .string ⟨#[]⟩, .slice (some ⟨w.heap.size + 1, 0, none⟩) 1 1] 24)) = W3 := ⟨_, rfl⟩
  have hsz : W3.heap.size = w.heap.size + 1 + 1 + 1 := by rw [← hW3]; simp
  rw [hW3] at g1 g2 g3 gb
  rw [hW3]
  have hb4 : Below W3.heap.size W3 (W3.alloc (.cells #[.int .i64 7, .string ⟨#[]⟩, .string ⟨#[]⟩, .slice (some ⟨w.heap.size + 1 + 1, 0, none⟩) 1 1] 24)) := (Below.refl _ _).alloc (Nat.le_refl _) _
  have g4 := heap_alloc_new W3 (.cells #[.int .i64 7, .string ⟨#[]⟩, .string ⟨#[]⟩, .slice (some ⟨w.heap.size + 1 + 1, 0, none⟩) 1 1] 24)
  have k1 := (hb4.block _ (lt_blk g1)).trans g1
  have k2 := (hb4.block _ (lt_blk g2)).trans g2
  have k3 := (hb4.block _ (lt_blk g3)).trans g3
  rw [hsz] at g4
  refine ⟨?_, bthen gb hb4, g4⟩
  have c1 := fun j hj => (blk_cell k1 j hj).1
  have c2 := fun j hj => (blk_cell k2 j hj).1
  have c3 := fun j hj => (blk_cell k3 j hj).1
  exact ⟨_, rfl, some ⟨w.heap.size + 1 + 1, 0, none⟩, 1, rfl, Nat.le_refl _, by decide, .inr ⟨w.heap.size + 1 + 1, 0, rfl, lt_blk k3, lt_blk k3,
    kidsIn_cons.2 ⟨ndAt_iff.2 ⟨c3 0 (by simp), c3 1 (by simp), c3 2 (by simp), _, c3 3 (by simp), some ⟨w.heap.size + 1, 0, none⟩, 1, rfl, Nat.le_refl _, by decide, .inr ⟨w.heap.size + 1, 0, rfl, lt_blk k2, lt_blk k2,
      kidsIn_cons.2 ⟨ndAt_iff.2 ⟨c2 0 (by simp), c2 1 (by simp), c2 2 (by simp), _, c2 3 (by simp), some ⟨w.heap.size, 0, none⟩, 2, rfl, Nat.le_refl _, by decide, .inr ⟨w.heap.size, 0, rfl, lt_blk k1, lt_blk k1,
        kidsIn_cons.2 ⟨ndAt_iff.2 ⟨c1 0 (by simp), c1 1 (by simp), c1 2 (by simp), _, c1 3 (by simp), none, 0, rfl, Nat.le_refl _, by decide, .inl rfl⟩,
          kidsIn_cons.2 ⟨ndAt_iff.2 ⟨c1 4 (by simp), c1 5 (by simp), c1 6 (by simp), _, c1 7 (by simp), none, 0, rfl, Nat.le_refl _, by decide, .inl rfl⟩, kidsIn_nil⟩⟩⟩⟩, kidsIn_nil⟩⟩⟩, kidsIn_nil⟩⟩⟩
end Go.Proofs.YtmniblcooficgaaGreatDoor

namespace Go.Proofs.YtmniblcooficgaaGreatDoor
open Go.RowKit Ev5
set_option linter.unusedSimpArgs false
set_option linter.unusedVariables false

def plc (r : Option (List Int) × Int) : List Int := r.1.getD []
theorem OfPost.ints {r : Option (List Int) × Int} {w w' : World} {e : Ending} (h : OfPost r w e w') : Below w.heap.size w w' ∧ ∃ a c, e = .returned (.tuple #[.slice a (plc r).length c, .int .i64 r.2]) ∧ IntsIn w' (.slice a (plc r).length c) (plc r) := by
  obtain ⟨hb, a, len, c, he, h2⟩ := h
  refine ⟨hb, ?_⟩
  obtain ⟨o, E⟩ := r
  cases o with
  | none =>
    have h3 : Value.slice a len c = .slice none 0 0 := h2
    rw [h3] at he
    exact ⟨none, 0, he, ints_nilC _⟩
  | some q =>
    obtain ⟨rfl, h4⟩ := h2
    exact ⟨a, c, he, h4⟩
def InkPost (r : Option (List Int) × Int) (X : List UInt8) (w : World) (e : Ending) (w' : World) : Prop :=
  Below w.heap.size w w' ∧ ∃ a c, e = .returned (.tuple #[strV (if r.2 = 0 then X else []), .slice a (plc r).length c, .int .i64 r.2]) ∧ IntsIn w' (.slice a (plc r).length c) (plc r)

theorem InkPost.to {r : Option (List Int) × Int} {X : List UInt8} {w w' : World} {e : Ending} (h : InkPost r X w e w') {Y : ByteArray} {E : Int} {q : List Int} (hY : strV (if r.2 = 0 then X else []) = .string Y) (hE : r.2 = E) (hq : plc r = q) :
    Below w.heap.size w w' ∧ ∃ a c, e = .returned (.tuple #[.string Y, .slice a q.length c, .int .i64 E]) ∧ IntsIn w' (.slice a q.length c) q := by
  subst hE; subst hq
  obtain ⟨hb, a, c, he, hi⟩ := h
  rw [hY] at he
  exact ⟨hb, a, c, he, hi⟩
theorem OfPost.to {r : Option (List Int) × Int} {w w' : World} {e : Ending} (h : OfPost r w e w') {E : Int} {q : List Int} (hE : r.2 = E) (hq : plc r = q) :
    Below w.heap.size w w' ∧ ∃ a c, e = .returned (.tuple #[.slice a q.length c, .int .i64 E]) ∧ IntsIn w' (.slice a q.length c) q := by
  subst hE; subst hq
  exact h.ints
end Go.Proofs.YtmniblcooficgaaGreatDoor
