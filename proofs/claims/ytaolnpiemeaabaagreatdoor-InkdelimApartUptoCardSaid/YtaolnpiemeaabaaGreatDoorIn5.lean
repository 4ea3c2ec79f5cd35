import Derived.Test.YtaolnpiemeaabaaGreatDoorIn1
import Derived.WalkSmall
import Derived.Deep.RegionHeld3
import Derived.Laws.EntriesVeiled
/- The walk of hexaplaref15.first, over whatever a syntax tells. -/
namespace Go.Proofs.YtaolnpiemeaabaaGreatDoor
open Go.RowKit Ev5
set_option linter.unusedSimpArgs false
set_option linter.unusedVariables false

theorem wf_nat {i : Nat} (h : i ≤ 1048576) : (Lit.int .i64 (i : Int)).wf = true := by
  have h3 : IntKind.i64.min = -9223372036854775808 := rfl
  have h4 : IntKind.i64.max = 9223372036854775807 := rfl
  simp only [Lit.wf, h3, h4, Bool.and_eq_true, decide_eq_true_eq]
  omega
set_option maxRecDepth 100000 in
set_option maxHeartbeats 8000000 in
theorem first_any (s : Int) (tp : List Nd → Bool) (ok : List Nd → Prop) (HT : TellsAt s tp ok) (hst : ∀ (way : List Nd) (n : Nd), ok (way ++ [n]) → ∀ (i : Nat) (hi : i < n.kids.length), ok (way ++ [n] ++ [n.kids[i]])) :
    ∀ (N : Nat) (n : Nd) (way : List Nd) (p : List Int) (w : World) (S : Nat → Prop) (wv pv : Value), n.size ≤ N → EnvU w → SlIn w S wv (way ++ [n]) → IntsIn w pv p → ok (way ++ [n]) → way.length + n.size ≤ 100000 → p.length + n.size ≤ 100000 →
    Calls Tryz.prog 27 #[.int .i64 s, wv, pv] w (FirstPost (firstP tp way n p) w) := by
  intro N
  induction N with
  | zero => intro n way p w S wv pv hn; have := kids_size n; omega
  | succ N ih =>
    intro n way p w S wv pv hN hE hwv hpv hok hl1 hl2
    obtain ⟨wa, wc, rfl, hwc, hwm⟩ := hwv.shape
    obtain ⟨pa, pc, rfl, hpc, hpm, _⟩ := hpv.ex
    have HIH := Lib.hid ih; have HTT := Lib.hid HT; have HST := Lib.hid hst; have HN := Lib.hid hN; have HE := Lib.hid hE; have HW := Lib.hid hwv.ltC; have HP := Lib.hid hpv; have HOK := Lib.hid hok; have HSZ := Lib.hid (And.intro hl1 hl2)
    have hpl : p.length ≤ 100000 := by omega
    have hwl : (way ++ [n]).length ≤ 100001 := by have := kids_size n; rw [List.length_append, List.length_singleton]; omega
    have hkl : n.kids.length ≤ 100000 := by have := kids_size n; have := sizes_len n.kids; omega
    have hw1 : 0 < (way ++ [n]).length := by rw [List.length_append, List.length_singleton]; omega
    have hlast : way.length < (way ++ [n]).length := by rw [List.length_append, List.length_singleton]; omega
    obtain ⟨bb, oo, ux, hao, hbw, c0, c1, c2, c3, hsx⟩ := hwv.at_ way.length hlast
    subst hao
    rw [List.getElem_append_right (Nat.le_refl _)] at c0 c1 c2 hsx
    simp only [Nat.sub_self, List.getElem_cons_zero] at c0 c1 c2 hsx
    obtain ⟨ax, cx, rfl, hcx, hcm⟩ := hsx.shape
    have HS := Lib.hid hsx.ltC
    have HLEN := Lib.hid (show (way ++ [n]).length = way.length + 1 by rw [List.length_append, List.length_singleton])
    unfold maxLen at hwm hpm hcm
    have HKC := Lib.hid (show ∀ W, Below w.heap.size w W → bb < W.heap.size ∧ W.cell? ⟨bb, oo + way.length * 4, none⟩ = some (.int .i64 n.k) ∧ W.cell? ⟨bb, oo + way.length * 4 + 1, none⟩ = some (.string n.t) ∧ W.cell? ⟨bb, oo + way.length * 4 + 2, none⟩ = some (.string n.v) ∧ W.cell? ⟨bb, oo + way.length * 4 + 3, none⟩ = some (.slice ax n.kids.length cx) from fun W hb =>
      ⟨Nat.lt_of_lt_of_le hbw hb.size, (hb.cell (p := ⟨bb, oo + way.length * 4, none⟩) hbw).trans c0, (hb.cell (p := ⟨bb, oo + way.length * 4 + 1, none⟩) hbw).trans c1, (hb.cell (p := ⟨bb, oo + way.length * 4 + 2, none⟩) hbw).trans c2, (hb.cell (p := ⟨bb, oo + way.length * 4 + 3, none⟩) hbw).trans c3⟩)
    have hWL := HLEN.out
    obtain ⟨WK, hWK⟩ : ∃ WK, way.length = WK := ⟨_, rfl⟩
    rw [hWK] at hWL HKC
    rw [hWL] at hwc hwl HW
    rw [hWL]
    clear ih HT hst hN hE hwv hpv hok hl1 hl2 c0 c1 c2 c3 hsx hlast hw1 hWL
    have hwk : WK ≤ 100000 := by omega
    have hwkI : ((WK + 1 : Nat) : Int) - 1 = (WK : Int) := by omega
    have hw0 : (0 : Int) ≤ (WK : Int) := Int.natCast_nonneg _
    have hw2 : (WK : Int) < ((WK + 1 : Nat) : Int) := by omega
    go_enter Tryz.func27, Tryz.ntmps27
    go_wp2_with fail
    refine (HTT.out w _ _ (way ++ [n]) HE.out HW.out HOK.out (by have := HLEN.out; omega)).mono ?_
    rintro e w1 ⟨rfl, hb⟩
    have H1 := Lib.hid hb
    obtain ⟨T, hT⟩ : ∃ T, tp (way ++ [n]) = T := ⟨_, rfl⟩
    rw [hT]
    have HTE := Lib.hid hT
    clear hb hT
    cases T with
    | false =>
      go_wp2_with fail
      refine bodyPost_ret (v := .tuple #[.slice pa p.length pc, .bool true]) (by simp [results, Tryz.results27, go_sem]) rfl ?_
      rw [firstP_no HTE.out]
      exact ⟨H1.out, _, _, rfl, HP.out.below H1.out⟩
    | true =>
      obtain ⟨hbl, d0, d1, d2, d3⟩ := HKC.out _ H1.out
      have H1d := Lib.hid (show Below w1.heap.size w1 (w1.alloc (.cells #[.int .i64 n.k, .string n.t, .string n.v, .slice ax n.kids.length cx] 24)) from (Below.refl _ _).alloc (Nat.le_refl _) _)
      have HX1 := Lib.hid (heap_alloc_new w1 (.cells #[.int .i64 n.k, .string n.t, .string n.v, .slice ax n.kids.length cx] 24))
      go_wp2_with fail
      obtain ⟨W2, hW2⟩ : ∃ W2, w1.alloc (.cells #[.int .i64 n.k, .string n.t, .string n.v, .slice ax n.kids.length cx] 24) = W2 := ⟨_, rfl⟩
      obtain ⟨X, hX⟩ : ∃ X, w1.heap.size = X := ⟨_, rfl⟩
      rw [hW2] at H1d HX1
      rw [hX] at HX1
      try rw [hW2]
      try rw [hX]
      have HB2 := Lib.hid (bthen H1.out H1d.out)
      have HLX := Lib.hid (show w.heap.size ≤ X from hX ▸ H1.out.size)
      clear hW2 hX hbl d0 d1 d2 d3
      go_loopw [10] (fun v10 wr => ∃ i : Nat, i ≤ n.kids.length ∧ v10 = .int .i64 i ∧ Hid (∀ (j : Nat) (hj : j < n.kids.length), j < i → firstP tp (way ++ [n]) n.kids[j] (p ++ [(j : Int)]) = none) ∧ Hid (Below W2.heap.size W2 wr)) (fun v10 _ => n.kids.length - (intOf v10).toNat)
      case atStart => exact ⟨0, Nat.zero_le _, rfl, by show ∀ _, _; intro j hj h; omega, Below.refl _ _⟩
      case round =>
        obtain ⟨i, hi, rfl, HA, HB⟩ := hrel
        obtain ⟨x0, x1, x2, x3, _, _, _, _, hxl⟩ := nd_cells ((HB.out.block _ (lt_blk HX1.out)).trans HX1.out)
        by_cases hlt : i < n.kids.length
        · have hi0 : (0 : Int) ≤ (i : Int) := Int.natCast_nonneg _
          have hi1 : (i : Int) < (n.kids.length : Int) := by omega
          have HBW := Lib.hid (bthen HB2.out HB.out)
          obtain ⟨kb, ko, kx, hko, hkw, k0, k1, k2, k3, hkx⟩ := HS.out.at_ i hlt
          subst hko
          obtain ⟨ay, cy, rfl, _, _⟩ := hkx.shape
          have HKZ := Lib.hid (kid_size (n := n) hlt)
          have HOK2 := Lib.hid (HST.out way n HOK.out i hlt)
          have HHIT := Lib.hid (fun (q : List Int) (h : firstP tp (way ++ [n]) n.kids[i] (p ++ [(i : Int)]) = some q) => firstP_hit (p := p) (q := q) HTE.out hlt (fun j hj h2 => HA.out j hj h2) h)
          have HNXT := Lib.hid (fun (h : firstP tp (way ++ [n]) n.kids[i] (p ++ [(i : Int)]) = none) (j : Nat) (hj : j < n.kids.length) (h2 : j < i + 1) => show firstP tp (way ++ [n]) n.kids[j] (p ++ [(j : Int)]) = none by
            rcases Nat.lt_or_eq_of_le (Nat.le_of_lt_succ h2) with h3 | h3
            · exact HA.out j hj h3
            · subst h3; exact h)
          obtain ⟨y, hy⟩ : ∃ y, n.kids[i] = y := ⟨_, rfl⟩
          rw [hy] at k0 k1 k2 k3 hkx HKZ HOK2 HHIT HNXT
          have HYS := Lib.hid (hkx.below HBW.out)
          obtain ⟨va1, wA1, va2, wA2, r1, r2, hsl, b1, b2, ⟨f1, g1, rfl⟩, f2, g2, rfl⟩ := way_app wr (fun b => b < w.heap.size) (fun b hb => Nat.lt_of_lt_of_le hb HBW.out.size) (.slice (some ⟨bb, oo, none⟩) (WK + 1) wc) (way ++ [n]) y (.slice ay y.kids.length cy) (HW.out.below HBW.out) (hkx.ltC.below HBW.out) (by have := HLEN.out; omega)
          have HR1 := Lib.hid r1; have HR2 := Lib.hid r2; have HSL := Lib.hid hsl; have HA1 := Lib.hid b1; have HA2 := Lib.hid b2
          obtain ⟨vb1, wB1, vb2, wB2, s1, s2, hpi, b3, b4, ⟨f3, g3, rfl⟩, f4, g4, rfl⟩ := place_two wA2 (.slice pa p.length pc) p (i : Int) (HP.out.below (bthen HBW.out b2)) (by omega) (wf_nat (by omega))
          have HS1 := Lib.hid s1; have HS2 := Lib.hid s2; have HPI := Lib.hid hpi; have HB4 := Lib.hid b4
          have hkA := fun W (hb : Below w.heap.size w W) => (show kb < W.heap.size ∧ W.cell? ⟨kb, ko + i * 4, none⟩ = some (.int .i64 y.k) ∧ W.cell? ⟨kb, ko + i * 4 + 1, none⟩ = some (.string y.t) ∧ W.cell? ⟨kb, ko + i * 4 + 2, none⟩ = some (.string y.v) ∧ W.cell? ⟨kb, ko + i * 4 + 3, none⟩ = some (.slice ay y.kids.length cy) from ⟨Nat.lt_of_lt_of_le hkw hb.size, (hb.cell (p := ⟨kb, ko + i * 4, none⟩) hkw).trans k0, (hb.cell (p := ⟨kb, ko + i * 4 + 1, none⟩) hkw).trans k1, (hb.cell (p := ⟨kb, ko + i * 4 + 2, none⟩) hkw).trans k2, (hb.cell (p := ⟨kb, ko + i * 4 + 3, none⟩) hkw).trans k3⟩)
          obtain ⟨l1, e0, e1, e2, e3⟩ := hkA _ (bthen HBW.out b1)
          obtain ⟨z0, z1, z2, z3, _, _, _, _, hzl⟩ := nd_cells ((b1.block _ hxl).trans ((HB.out.block _ (lt_blk HX1.out)).trans HX1.out))
          clear hkA k0 k1 k2 k3 hkx hy r1 r2 hsl b1 b2 s1 s2 hpi b3 b4
          have HWA1 := Lib.hid (show (way ++ [n]).length = WK + 1 by have := HLEN.out; omega)
          rw [HWA1.out] at HR1 HR2 HSL
          go_wp2_with (at_builtin; first | refine Lib.wpList_append_run _ rfl _ _ _ _ rfl _ _ rfl rfl _ _ HR1.out ?_ | refine Lib.wpList_append_run _ rfl _ _ _ _ rfl _ _ rfl rfl _ _ HR2.out ?_ | refine Lib.wpList_append_run _ rfl _ _ _ _ rfl _ _ rfl rfl _ _ HS1.out ?_ | refine Lib.wpList_append_run _ rfl _ _ _ _ rfl _ _ rfl rfl _ _ HS2.out ?_)
          have hpl2 : (p ++ [(i : Int)]).length = p.length + 1 := by rw [List.length_append, List.length_singleton]
          have hpi2 := HPI.out
          rw [← hpl2] at hpi2
          refine (HIH.out y (way ++ [n]) (p ++ [(i : Int)]) wB2 _ _ _ (by have := HKZ.out; have := HN.out; omega) (HE.out.below (bthen HBW.out (bthen HA2.out HB4.out))) (HSL.out.below HB4.out) HPI.out HOK2.out (by have := HKZ.out; have := HSZ.out.1; have := HLEN.out; omega) (by have := HKZ.out; have := HSZ.out.2; rw [hpl2]; omega)).mono ?_
          rintro e W3 ⟨hb, hq⟩
          have HB5 := Lib.hid (bthen HB.out (bthen HA2.out (bthen HB4.out hb)))
          have HB6 := Lib.hid (bthen HBW.out (bthen HA2.out (bthen HB4.out hb)))
          clear hb z0 z1 z2 z3 hzl e0 e1 e2 e3 l1 x0 x1 x2 x3 hxl
          cases hres : firstP tp (way ++ [n]) y (p ++ [(i : Int)]) with
          | none =>
            rw [hres] at hq
            obtain rfl := hq
            have HNX := Lib.hid (HNXT.out hres)
            clear hres
            go_wp2_with fail
            go_roundw
            case rel => exact ⟨i + 1, by omega, by go_num, by show ∀ _, _; exact fun j hj h2 => HNX.out j hj h2, HB5.out⟩
            case measure => simp [intOf]; omega
          | some q =>
            rw [hres] at hq
            obtain ⟨a, c, rfl, hints⟩ := hq
            have HH := Lib.hid (HHIT.out q hres)
            have HI := Lib.hid hints
            clear hres hints
            go_wp2_with fail
            refine bodyPost_ret (v := .tuple #[.slice a q.length c, .bool true]) (by simp [results, Tryz.results27, go_sem]) rfl ?_
            rw [HH.out]
            exact ⟨HB6.out, a, c, rfl, HI.out⟩
        · obtain rfl : i = n.kids.length := by omega
          have hi1 : ¬ ((n.kids.length : Nat) : Int) < (n.kids.length : Int) := by omega
          go_wp2_with fail
          refine bodyPost_ret (v := .tuple #[.slice none 0 0, .bool false]) (by simp [results, Tryz.results27, go_sem]) rfl ?_
          rw [firstP_all HTE.out fun j hj => HA.out j hj hj]
          exact ⟨bthen HB2.out HB.out, rfl⟩
end Go.Proofs.YtaolnpiemeaabaaGreatDoor

/- The walk of hexaplaref15.Of, over whatever a syntax tells; the syntax that tells all trees. -/
namespace Go.Proofs.YtaolnpiemeaabaaGreatDoor
open Go.RowKit Ev5
set_option linter.unusedSimpArgs false
set_option linter.unusedVariables false

/-- What Of tells of a syntax. -/
noncomputable def ofP (tp : List Nd → Bool) (n : Nd) : Option (List Int) × Int := if n.wh ≠ 0 then (none, n.wh) else match firstP tp [] n [] with
  | none => (none, 0)
  | some q => (some q, 20)
def OfPost (r : Option (List Int) × Int) (w : World) (e : Ending) (w' : World) : Prop := Below w.heap.size w w' ∧ ∃ a len c, e = .returned (.tuple #[.slice a len c, .int .i64 r.2]) ∧ match r.1 with
  | none => Value.slice a len c = .slice none 0 0
  | some q => len = q.length ∧ IntsIn w' (.slice a q.length c) q
theorem ints_nilC (w : World) : IntsIn w (.slice none 0 0) [] := ⟨⟨none, 0, rfl, Nat.le_refl _, by decide, fun i hi => by simp at hi⟩, fun x hx => by cases hx⟩
set_option maxRecDepth 100000 in
set_option maxHeartbeats 4000000 in
theorem refOf_any (s : Int) (tp : List Nd → Bool) (ok : List Nd → Prop) (hs1 : 1 ≤ s) (hs6 : s ≤ 6) (HT : TellsAt s tp ok) (hst : ∀ (way : List Nd) (n : Nd), ok (way ++ [n]) → ∀ (i : Nat) (hi : i < n.kids.length), ok (way ++ [n] ++ [n.kids[i]]))
    (n : Nd) (w : World) (S : Nat → Prop) (v : Value) (hE : EnvU w) (hv : NdV w S v n) (hok : n.ok) (hsz : n.size ≤ 50000) (hnk : n.wh = 0 → ok [n]) :
    Calls Tryz.prog 12 #[.int .i64 s, v] w (OfPost (ofP tp n) w) := by
  obtain ⟨u, rfl, hs⟩ := hv
  obtain ⟨ao, cap, rfl, hcap, hcm⟩ := hs.shape
  have HS := Lib.hid hs.ltC; have HE := Lib.hid hE; have HOK := Lib.hid hok; have HSZ := Lib.hid hsz; have HNK := Lib.hid hnk; have HTT := Lib.hid HT; have HST := Lib.hid hst
  have hg1 : ¬ s < 1 := by omega
  have hg2 : ¬ 6 < s := by omega
  have HB := Lib.hid (show Below w.heap.size w (w.alloc (.cells #[.int .i64 n.k, .string n.t, .string n.v, .slice ao n.kids.length cap] 24)) from (Below.refl _ _).alloc (Nat.le_refl _) _)
  have HX := Lib.hid (heap_alloc_new w (.cells #[.int .i64 n.k, .string n.t, .string n.v, .slice ao n.kids.length cap] 24))
  clear hs hE hok hsz hnk HT hst hs1 hs6
  unfold ndV
  go_enter Tryz.func12, Tryz.ntmps12
  go_wp2_with fail
  refine (refTreeWalk_any n _ _ _ (NdV.mk (HS.out.below HB.out)) (fun b hb => Nat.lt_of_lt_of_le hb HB.out.size) HOK.out (by have := walk_len n; have := HSZ.out; omega)).mono ?_
  rintro e w2 ⟨rv, rfl, hb, _, _⟩
  have HB2 := Lib.hid (bthen HB.out hb)
  obtain ⟨x0, x1, x2, x3, _, _, _, _, hxl⟩ := nd_cells ((hb.block _ (lt_blk HX.out)).trans HX.out)
  obtain ⟨E, hEq⟩ : ∃ E, (wholeP RP (n.walk.map GoEv.ev)).2 = E := ⟨_, rfl⟩
  have HEQ := Lib.hid (show n.wh = E from hEq)
  rw [hEq]
  clear hb hEq
  by_cases hz : E = 0
  · subst hz
    have HB3 := Lib.hid (show Below w2.heap.size w2 (w2.alloc (.cells #[.int .i64 n.k, .string n.t, .string n.v, .slice ao n.kids.length cap] 24)) from (Below.refl _ _).alloc (Nat.le_refl _) _)
    have hr3 := heap_alloc_new w2 (.cells #[.int .i64 n.k, .string n.t, .string n.v, .slice ao n.kids.length cap] 24)
    have HSL := Lib.hid (one_rowC (S := fun b => b < (w2.alloc (.cells #[.int .i64 n.k, .string n.t, .string n.v, .slice ao n.kids.length cap] 24)).heap.size) hr3 (lt_blk hr3) (HS.out.below (bthen HB2.out HB3.out)).ltC)
    clear hr3
    go_wp2_with fail
    refine (first_any s tp _ HTT.out HST.out n.size n [] [] _ _ _ (.slice none 0 0) (Nat.le_refl _) (HE.out.below (bthen HB2.out HB3.out)) HSL.out (ints_nilC _) (HNK.out HEQ.out) (by have := HSZ.out; simp; omega) (by have := HSZ.out; simp; omega)).mono ?_
    rintro e w4 ⟨hb, hq⟩
    have HB4 := Lib.hid (bthen HB2.out (bthen HB3.out hb))
    cases hres : firstP tp [] n [] with
    | none =>
      rw [hres] at hq
      obtain rfl := hq
      have HP := Lib.hid (show ofP tp n = (none, 0) by unfold ofP; rw [if_neg (by rw [HEQ.out]; simp), hres])
      clear hres hb x0 x1 x2 x3 hxl
      go_wp2_with fail
      refine bodyPost_ret (v := .tuple #[.slice none 0 0, .int .i64 0]) (by simp [results, Tryz.results12, go_sem]) rfl ?_
      rw [HP.out]
      exact ⟨HB4.out, none, 0, 0, rfl, rfl⟩
    | some q =>
      rw [hres] at hq
      obtain ⟨a, c, rfl, hints⟩ := hq
      have HP := Lib.hid (show ofP tp n = (some q, 20) by unfold ofP; rw [if_neg (by rw [HEQ.out]; simp), hres])
      have HI := Lib.hid hints
      clear hres hb hints x0 x1 x2 x3 hxl
      go_wp2_with fail
      refine bodyPost_ret (v := .tuple #[.slice a q.length c, .int .i64 20]) (by simp [results, Tryz.results12, go_sem]) rfl ?_
      rw [HP.out]
      exact ⟨HB4.out, a, q.length, c, rfl, rfl, HI.out⟩
  · have hzb : (E != 0) = true := by simp [hz]
    have HP := Lib.hid (show ofP tp n = (none, E) by unfold ofP; rw [if_pos (by rw [HEQ.out]; exact hz), HEQ.out])
    go_wp2_with fail
    refine bodyPost_ret (v := .tuple #[.slice none 0 0, .int .i64 E]) (by simp [results, Tryz.results12, go_sem]) rfl ?_
    rw [HP.out]
    exact ⟨HB2.out, none, 0, 0, rfl, rfl⟩
set_option maxRecDepth 100000 in
set_option maxHeartbeats 4000000 in
theorem tellsParen : TellsAt 6 (fun _ => true) (fun _ => True) := by
  intro w S wv way hE hs _ hl
  obtain ⟨ao, cap, rfl, hcap, hcm⟩ := hs.shape
  clear hs hE
  go_enter Tryz.func44, Tryz.ntmps44
  go_wp2_with fail
  go_ret
  exact ⟨rfl, Below.refl _ _⟩
theorem ofParen (n : Nd) : ofP (fun _ => true) n = (none, n.wh) := by
  unfold ofP
  by_cases h : n.wh = 0
  · rw [if_neg (by rw [h]; simp), firstP_free (fun _ => rfl) n.size n [] [] (Nat.le_refl _), h]
  · rw [if_pos h]
theorem refOfParen_any (n : Nd) (w : World) (S : Nat → Prop) (v : Value) (hE : EnvU w) (hv : NdV w S v n) (hok : n.ok) (hsz : n.size ≤ 50000) :
    Calls Tryz.prog 12 #[.int .i64 6, v] w fun e w' => e = .returned (.tuple #[.slice none 0 0, .int .i64 n.wh]) ∧ Below w.heap.size w w' :=
  (refOf_any 6 _ _ (by omega) (by omega) tellsParen (fun _ _ _ _ _ => trivial) n w S v hE hv hok hsz (fun _ => trivial)).mono fun e w' h => by
    rw [ofParen] at h
    obtain ⟨hb, a, len, c, he, h2⟩ := h
    have h3 : Value.slice a len c = .slice none 0 0 := h2
    rw [h3] at he
    exact ⟨he, hb⟩
end Go.Proofs.YtaolnpiemeaabaaGreatDoor

/- The tree of the examples of layers 15, 16 and 17, in memory. -/
namespace Go.Proofs.YtaolnpiemeaabaaGreatDoor
open Go.RowKit Ev5
set_option linter.unusedSimpArgs false
set_option linter.unusedVariables false

/-- The example's tree. -/
def lvN (t : ByteArray) : Nd := .mk 7 ⟨#[]⟩ ⟨#[]⟩ [.mk 8 t ⟨#[]⟩ [.mk 5 ⟨#[]⟩ ⟨#[]⟩ [.mk 3 ⟨#[49]⟩ ⟨#[]⟩ [], .mk 4 ⟨#[120]⟩ ⟨#[]⟩ []]]]
def lvNE (t : ByteArray) : List GoEv := [⟨7, ⟨#[]⟩, ⟨#[]⟩⟩, ⟨8, t, ⟨#[]⟩⟩, ⟨5, ⟨#[]⟩, ⟨#[]⟩⟩, ⟨3, ⟨#[49]⟩, ⟨#[]⟩⟩, ⟨4, ⟨#[120]⟩, ⟨#[]⟩⟩, ⟨6, ⟨#[]⟩, ⟨#[]⟩⟩, ⟨9, ⟨#[]⟩, ⟨#[]⟩⟩]
theorem lvN_walk (t : ByteArray) : (lvN t).walk = lvNE t := by
  simp [lvN, lvNE, Nd.walk, Nd.walks, oddK, leafK, endK, endEv, emp]
theorem lvN_wh1 : (lvN ⟨#[97]⟩).wh = 0 := by
  show (wholeP RP ((lvN ⟨#[97]⟩).walk.map GoEv.ev)).2 = 0
  rw [lvN_walk]; decide +kernel
theorem lvN_wh2 : (lvN ⟨#[97, 32, 98]⟩).wh = 0 := by
  show (wholeP RP ((lvN ⟨#[97, 32, 98]⟩).walk.map GoEv.ev)).2 = 0
  rw [lvN_walk]; decide +kernel
theorem lvN_size (t : ByteArray) : (lvN t).size = 5 := by
  simp [lvN, Nd.size, Nd.sizes]
theorem lvN_ok (t : ByteArray) (h : t.size ≤ 1048576) : (lvN t).ok := by
  have hl : ∀ (k : Int) (s : ByteArray), (Lit.int .i64 k).wf = true → s.size ≤ 1048576 → (Nd.mk k s ⟨#[]⟩ []).ok := fun k s h1 h2 => by
    rw [ok_mk, oks_iff]; exact ⟨ok_lit _ _ h1 h2, fun x hx => by cases hx⟩
  simp only [lvN, ok_mk, oks_iff]
  refine ⟨ok_lit _ _ (by decide) (by decide), fun x hx => ?_⟩
  obtain rfl := List.mem_singleton.1 hx
  rw [ok_mk, oks_iff]
  refine ⟨ok_lit _ _ (by decide) h, fun x hx => ?_⟩
  obtain rfl := List.mem_singleton.1 hx
  rw [ok_mk, oks_iff]
  refine ⟨ok_lit _ _ (by decide) (by decide), fun x hx => ?_⟩
  rcases List.mem_cons.1 hx with rfl | hx
  · exact hl _ _ (by decide) (by decide)
  · obtain rfl := List.mem_singleton.1 hx
    exact hl _ _ (by decide) (by decide)
/-- The four blocks of the example's tree. -/
def lvNW (w : World) (t : ByteArray) : World := (((w.alloc (.cells #[.int .i64 3, .string ⟨#[49]⟩, .string ⟨#[]⟩, .slice none 0 0, .int .i64 4, .string ⟨#[120]⟩, .string ⟨#[]⟩, .slice none 0 0] 24)).alloc (.cells #[.int .i64 5, .string ⟨#[]⟩, .string ⟨#[]⟩, .slice (some ⟨w.heap.size, 0, none⟩) 2 2] 24)).alloc
  (.cells #[.int .i64 8, .string t, .string ⟨#[]⟩, .slice (some ⟨w.heap.size + 1, 0, none⟩) 1 1] 24)).alloc (.cells #[.int .i64 7, .string ⟨#[]⟩, .string ⟨#[]⟩, .slice (some ⟨w.heap.size + 1 + 1, 0, none⟩) 1 1] 24)
theorem lvN_in (w : World) (t : ByteArray) : NdV (lvNW w t) (fun b => b < (lvNW w t).heap.size) (.agg #[.int .i64 7, .string ⟨#[]⟩, .string ⟨#[]⟩, .slice (some ⟨w.heap.size + 1 + 1, 0, none⟩) 1 1]) (lvN t) ∧ Below w.heap.size w (lvNW w t) ∧
    (lvNW w t).heap[w.heap.size + 1 + 1 + 1]? = some (.cells #[.int .i64 7, .string ⟨#[]⟩, .string ⟨#[]⟩, .slice (some ⟨w.heap.size + 1 + 1, 0, none⟩) 1 1] 24 (0, 0)) := by
  obtain ⟨g1, g2, g3, gb⟩ := threeC w (.cells #[.int .i64 3, .string ⟨#[49]⟩, .string ⟨#[]⟩, .slice none 0 0, .int .i64 4, .string ⟨#[120]⟩, .string ⟨#[]⟩, .slice none 0 0] 24) (.cells #[.int .i64 5, .string ⟨#[]⟩, .string ⟨#[]⟩, .slice (some ⟨w.heap.size, 0, none⟩) 2 2] 24)
    (.cells #[.int .i64 8, .string t, .string ⟨#[]⟩, .slice (some ⟨w.heap.size + 1, 0, none⟩) 1 1] 24)
  unfold lvNW
  obtain ⟨W3, hW3⟩ : ∃ W3, (((w.alloc (.cells #[.int .i64 3, .string ⟨#[49]⟩, .string ⟨#[]⟩, .slice none 0 0, .int .i64 4, .string ⟨#[120]⟩, .string ⟨#[]⟩, .slice none 0 0] 24)).alloc (.cells #[.int .i64 5, .string ⟨#[]⟩, .string ⟨#[]⟩, .slice (some ⟨w.heap.size, 0, none⟩) 2 2] 24)).alloc
    (.cells #[.int .i64 8, .string t, .string ⟨#[]⟩, .slice (some ⟨w.heap.size + 1, 0, none⟩) 1 1] 24)) = W3 := ⟨_, rfl⟩
  have hsz : W3.heap.size = w.heap.size + 1 + 1 + 1 := by rw [← hW3]; simp
  rw [hW3] at g1 g2 g3 gb
  rw [hW3]
  have hb4 : Below W3.heap.size W3 (W3.alloc (.cells #[.int .i64 7, .string ⟨#[]⟩, .string ⟨#[]⟩, .slice (some ⟨w.heap.size + 1 + 1, 0, none⟩) 1 1] 24)) := (Below.refl _ _).alloc (Nat.le_refl _) _
  have g4 := heap_alloc_new W3 (.cells #[.int .i64 7, .string ⟨#[]⟩, .string ⟨#[]⟩, .slice (some ⟨w.heap.size + 1 + 1, 0, none⟩) 1 1] 24)
  have k1 := (hb4.block _ (lt_blk g1)).trans g1
  have k2 := (hb4.block _ (lt_blk g2)).trans g2
  have k3 := (hb4.block _ (lt_blk g3)).trans g3
  rw [hsz] at g4
  refine ⟨?_, bthen gb hb4, g4⟩
  have c1 := fun j hj => (blk_cell k1 j hj).1
  have c2 := fun j hj => (blk_cell k2 j hj).1
  have c3 := fun j hj => (blk_cell k3 j hj).1
  exact ⟨_, rfl, some ⟨w.heap.size + 1 + 1, 0, none⟩, 1, rfl, Nat.le_refl _, by decide, .inr ⟨w.heap.size + 1 + 1, 0, rfl, lt_blk k3, lt_blk k3,
    kidsIn_cons.2 ⟨ndAt_iff.2 ⟨c3 0 (by simp), c3 1 (by simp), c3 2 (by simp), _, c3 3 (by simp), some ⟨w.heap.size + 1, 0, none⟩, 1, rfl, Nat.le_refl _, by decide, .inr ⟨w.heap.size + 1, 0, rfl, lt_blk k2, lt_blk k2,
      kidsIn_cons.2 ⟨ndAt_iff.2 ⟨c2 0 (by simp), c2 1 (by simp), c2 2 (by simp), _, c2 3 (by simp), some ⟨w.heap.size, 0, none⟩, 2, rfl, Nat.le_refl _, by decide, .inr ⟨w.heap.size, 0, rfl, lt_blk k1, lt_blk k1,
        kidsIn_cons.2 ⟨ndAt_iff.2 ⟨c1 0 (by simp), c1 1 (by simp), c1 2 (by simp), _, c1 3 (by simp), none, 0, rfl, Nat.le_refl _, by decide, .inl rfl⟩,
          kidsIn_cons.2 ⟨ndAt_iff.2 ⟨c1 4 (by simp), c1 5 (by simp), c1 6 (by simp), _, c1 7 (by simp), none, 0, rfl, Nat.le_refl _, by decide, .inl rfl⟩, kidsIn_nil⟩⟩⟩⟩, kidsIn_nil⟩⟩⟩, kidsIn_nil⟩⟩⟩
end Go.Proofs.YtaolnpiemeaabaaGreatDoor

/- What the inks' Print is shown to do. -/
namespace Go.Proofs.YtaolnpiemeaabaaGreatDoor
open Go.RowKit Ev5
set_option linter.unusedSimpArgs false
set_option linter.unusedVariables false

/-- The place that is told, or none. -/
def plc (r : Option (List Int) × Int) : List Int := r.1.getD []
theorem OfPost.ints {r : Option (List Int) × Int} {w w' : World} {e : Ending} (h : OfPost r w e w') : Below w.heap.size w w' ∧ ∃ a c, e = .returned (.tuple #[.slice a (plc r).length c, .int .i64 r.2]) ∧ IntsIn w' (.slice a (plc r).length c) (plc r) := by
  obtain ⟨hb, a, len, c, he, h2⟩ := h
  refine ⟨hb, ?_⟩
  obtain ⟨o, E⟩ := r
  cases o with
  | none =>
    have h3 : Value.slice a len c = .slice none 0 0 := h2
    rw [h3] at he
    exact ⟨none, 0, he, ints_nilC _⟩
  | some q =>
    obtain ⟨rfl, h4⟩ := h2
    exact ⟨a, c, he, h4⟩
theorem ofP_ok {tp : List Nd → Bool} {n : Nd} (h : (ofP tp n).2 = 0) : plc (ofP tp n) = [] ∧ n.wh = 0 := by
  unfold ofP at h ⊢
  by_cases hw : n.wh ≠ 0
  · rw [if_pos hw] at h; exact absurd h hw
  · rw [if_neg hw] at h ⊢
    refine ⟨?_, by simpa using hw⟩
    cases hf : firstP tp [] n [] with
    | none => rfl
    | some q => rw [hf] at h; cases h
/-- What Print leaves with: the text, or where it cannot be told. -/
def InkPost (r : Option (List Int) × Int) (X : List UInt8) (w : World) (e : Ending) (w' : World) : Prop :=
  Below w.heap.size w w' ∧ ∃ a c, e = .returned (.tuple #[strV (if r.2 = 0 then X else []), .slice a (plc r).length c, .int .i64 r.2]) ∧ IntsIn w' (.slice a (plc r).length c) (plc r)

theorem InkPost.to {r : Option (List Int) × Int} {X : List UInt8} {w w' : World} {e : Ending} (h : InkPost r X w e w') {Y : ByteArray} {E : Int} {q : List Int} (hY : strV (if r.2 = 0 then X else []) = .string Y) (hE : r.2 = E) (hq : plc r = q) :
    Below w.heap.size w w' ∧ ∃ a c, e = .returned (.tuple #[.string Y, .slice a q.length c, .int .i64 E]) ∧ IntsIn w' (.slice a q.length c) q := by
  subst hE; subst hq
  obtain ⟨hb, a, c, he, hi⟩ := h
  rw [hY] at he
  exact ⟨hb, a, c, he, hi⟩
theorem OfPost.to {r : Option (List Int) × Int} {w w' : World} {e : Ending} (h : OfPost r w e w') {E : Int} {q : List Int} (hE : r.2 = E) (hq : plc r = q) :
    Below w.heap.size w w' ∧ ∃ a c, e = .returned (.tuple #[.slice a q.length c, .int .i64 E]) ∧ IntsIn w' (.slice a q.length c) q := by
  subst hE; subst hq
  exact h.ints
end Go.Proofs.YtaolnpiemeaabaaGreatDoor

/- A look through a tree: its place in memory; what it leaves with. -/
namespace Go.Proofs.YtaolnpiemeaabaaGreatDoor
open Go.RowKit Ev5
set_option linter.unusedSimpArgs false
set_option linter.unusedVariables false

/-- What Clone of whole numbers hands back. -/
def IntsC (l : List Int) (w : World) (e : Ending) (w' : World) : Prop := ∃ v, e = .returned v ∧ w'.ownsRow w.heap.size 3 1 v l.length (intsR l) ∧ Below w.heap.size w w'
set_option maxRecDepth 100000 in
set_option maxHeartbeats 4000000 in
theorem cloneC_any (w : World) (u : Value) (l : List Int) (hs : IntsIn w u l) (hl : l.length ≤ 1048576) :
    Calls Tryz.prog 85 #[u] w (IntsC l w) := by
  obtain ⟨ao, cap, rfl, hc, hm, hcell⟩ := hs.ex
  obtain ⟨i0, hi, hz0, hz1, hz2⟩ := info_parts infoI
  have HI := Lib.hid hi; clear hi
  have H1 := Lib.hid (intsR_one l)
  clear hs
  unfold maxLen at hm
  have q22 : ∀ (w : World) (a : Option Addr) (n c n' c' : Nat), (binOp .eql 27 (.slice a n c) (.slice none n' c')).run Tryz.prog w = .ok (.bool a.isNone) w := fun w a n c n' c' => Lib.run_eql_slice_nil w _ _ a n c n' c' Tryz.underlying27
  cases ao with
  | none =>
    obtain rfl : l = [] := by
      refine List.eq_nil_of_length_eq_zero (Nat.eq_zero_of_not_pos fun h => ?_)
      obtain ⟨b, o, e, _⟩ := hcell 0 h
      cases e
    go_enter Tryz.func85, Tryz.ntmps85
    go_wp2_with fail
    go_ret
    exact ⟨_, rfl, World.ownsRow_nil _ _ _ _, Below.refl _ _⟩
  | some a =>
    obtain ⟨ab, aoff, asp⟩ := a
    have HC := Lib.hid (show ∀ (w' : World), Below w.heap.size w w' → ∀ j u, (intsR l)[j]? = some u → w'.cell? ((⟨ab, aoff, asp⟩ : Addr).add j) = some u from fun w' hb j u hj => by
      obtain ⟨hj1, hj2⟩ := List.getElem?_eq_some_iff.1 hj
      rw [intsR_len] at hj1
      obtain ⟨b, o, e, h⟩ := hcell j hj1
      injection e with e; injection e with e1 e2 e3; subst e1; subst e2; subst e3
      have h5 : u = .int .i64 l[j] := by rw [← hj2]; simp [intsR]
      rw [Addr.add_lit, hb.cell (p := ⟨ab, aoff + j, none⟩) (cell_lt h), h5]
      exact h)
    clear hcell
    go_enter Tryz.func85, Tryz.ntmps85
    go_wp2_with (at_builtin; refine wpList_append_own_at _ rfl _ _ 27 rfl w.heap.size 3 i0 _ 1 8 Tryz.underlying27 HI.out hz0 hz1 hz2 rfl (by omega) _ 0 [] (by rfl) (World.ownsRow_made w #[] 0 (Nat.le_refl _) (by unfold maxLen; omega) rfl) ⟨ab, aoff, asp⟩ l.length cap (intsR l) (by rfl) (by rw [intsR_len]; omega) (HC.out _ ((Below.refl _ _).alloc (Nat.le_refl _) _)) H1.out (by unfold maxLen; omega) (by omega) (by simp) ?_; intro v' w' hown hgrow _ hat)
    all_goals
      go_ret
      refine ⟨v', rfl, ?_, ?_⟩
      · rw [Nat.zero_add, List.nil_append] at hown; exact hown
      · exact ((Below.refl _ _).alloc (Nat.le_refl _) _).grown hgrow (by simp) (fun k hk => by simp [Value.ownBlock] at hk; omega)

/-- A look: block X, its place in v. -/
structure Lk (w : World) (B X : Nat) (v : Value) (p : List Int) : Prop where
  blk : w.heap[X]? = some (.cells #[v] 52 (0, 0))
  row : w.ownsRow B 3 1 v p.length (intsR p)
  ne : v.ownBlock ≠ some X
  lo : B ≤ X
  ok : ∀ x ∈ p, (Lit.int .i64 x).wf = true
/-- What a look leaves alone. -/
structure LkFar (X : Nat) (v : Value) (w w' : World) : Prop where
  os : w'.os = w.os
  tape : w'.tape = w.tape
  output : w'.output = w.output
  size : w.heap.size ≤ w'.heap.size
  oth : ∀ k, k < w.heap.size → k ≠ X → v.ownBlock ≠ some k → w'.heap[k]? = w.heap[k]?
/-- A look that goes on. -/
structure LkPost (B X : Nat) (v : Value) (p : List Int) (w w' : World) (v' : Value) : Prop where
  lk : Lk w' B X v' p
  far : LkFar X v w w'
  at_ : v'.ownBlock = v.ownBlock ∨ ∀ g, v'.ownBlock = some g → w.heap.size ≤ g
theorem LkFar.refl (X : Nat) (v : Value) (w : World) : LkFar X v w w := ⟨rfl, rfl, rfl, Nat.le_refl _, fun _ _ _ _ => rfl⟩
theorem LkFar.of {X : Nat} {v : Value} {w w' : World} (h : Below w.heap.size w w') : LkFar X v w w' := ⟨h.os, h.tape, h.output, h.size, fun k hk _ _ => h.block k hk⟩
theorem LkFar.trans {X : Nat} {v v1 : Value} {w w1 w2 : World} (h : LkFar X v w w1) (ha : v1.ownBlock = v.ownBlock ∨ ∀ g, v1.ownBlock = some g → w.heap.size ≤ g) (k : LkFar X v1 w1 w2) : LkFar X v w w2 :=
  ⟨k.os.trans h.os, k.tape.trans h.tape, k.output.trans h.output, Nat.le_trans h.size k.size, fun b hb hx hv => by
    rw [k.oth b (Nat.lt_of_lt_of_le hb h.size) hx (fun e => by
      rcases ha with e1 | e1
      · exact hv (e1 ▸ e)
      · have := e1 b e; omega)]
    exact h.oth b hb hx hv⟩
theorem LkFar.below {X B : Nat} {v : Value} {w w' : World} (h : LkFar X v w w') (hX : B ≤ X) (hv : ∀ g, v.ownBlock = some g → B ≤ g) (hB : B ≤ w.heap.size) : Below B w w' :=
  ⟨h.os, h.tape, h.output, h.size, fun k hk => h.oth k (by omega) (by omega) (fun e => by have := hv k e; omega)⟩
theorem Lk.below {w w' : World} {B X : Nat} {v : Value} {p : List Int} (h : Lk w B X v p) (hb : Below w.heap.size w w') : Lk w' B X v p :=
  ⟨(hb.block _ (lt_blk h.blk)).trans h.blk, h.row.kept (row := none) ⟨hb.os, hb.tape, hb.output, hb.size, fun k hk _ => hb.block k hk⟩ (by cases hv : v.ownBlock <;> simp), h.ne, h.lo, h.ok⟩
theorem Lk.ints {w : World} {B X : Nat} {v : Value} {p : List Int} (h : Lk w B X v p) : IntsIn w v p := ownsR_ints h.row h.ok
/-- What a look is left with, where it fails. -/
def noV (a : Option Addr) (n c : Nat) : List PanicEntry := [{ v := .iface 49 (.agg #[.slice a n c]), recovered := false }]
/-- The place that a look leaves for: in memory of its own. -/
structure PlIn (w w' : World) (a : Option Addr) (c : Nat) (q : List Int) : Prop where
  ints : IntsIn w' (.slice a q.length c) q
  new : ∀ ad, a = some ad → w.heap.size ≤ ad.block
theorem PlIn.mono {w w1 w' : World} {a : Option Addr} {c : Nat} {q : List Int} (h : PlIn w1 w' a c q) (k : w.heap.size ≤ w1.heap.size) : PlIn w w' a c q := ⟨h.ints, fun ad e => Nat.le_trans k (h.new ad e)⟩
/-- How a look's part ends: it goes on, or leaves for a place. -/
def LkEnd (B X : Nat) (v : Value) (p : List Int) (o : Option (List Int)) (w : World) (e : Ending) (w' : World) : Prop :=
  match o with
  | none => (∃ r, e = .returned r) ∧ ∃ v', LkPost B X v p w w' v'
  | some q => LkFar X v w w' ∧ ∃ a c, e = .panicked (noV a q.length c) ∧ PlIn w w' a c q
set_option maxRecDepth 100000 in
set_option maxHeartbeats 2000000 in
theorem fails_any (w : World) (B X : Nat) (v : Value) (p : List Int) (h : Lk w B X v p) (hl : p.length ≤ 1000000) :
    Calls Tryz.prog 51 #[.pointer (some ⟨X, 0, none⟩)] w (LkEnd B X v p (some p) w) := by
  obtain ⟨a, c, rfl⟩ := own_shapeC h.row
  have H := Lib.hid h
  obtain ⟨c0, f0⟩ := blk_cell h.blk 0 (by simp)
  clear h
  go_enter Tryz.func51, Tryz.ntmps51
  go_wp2_with fail
  refine (cloneC_any w _ p H.out.ints (by omega)).mono ?_
  rintro e w1 ⟨v1, rfl, hown, hb⟩
  have hnew : ∀ ad l c, v1 = .slice (some ad) l c → w.heap.size ≤ ad.block := by
    intro ad l c e
    rcases hown.2 with ⟨e2, _⟩ | ⟨g, cap, cur, e2, hb, _⟩
    · rw [e2] at e; injection e with e; cases e
    · rw [e2] at e; injection e with e; injection e with e; rw [← e]; exact hb
  obtain ⟨a1, c1, rfl⟩ := own_shapeC hown
  have HI := Lib.hid (show PlIn w w1 a1 c1 p from ⟨ownsR_ints hown H.out.ok, fun ad e => hnew ad _ _ (by rw [e])⟩)
  have HB := Lib.hid hb
  clear hown hb
  go_wp2_with fail
  exact ⟨rfl, LkFar.of HB.out, a1, c1, rfl, HI.out⟩
theorem row_cut {w : World} {B : Nat} {v : Value} {p : List Int} {x : Int} (h : w.ownsRow B 3 1 v (p ++ [x]).length (intsR (p ++ [x]))) : ∃ g c, v = .slice (some ⟨g, 0, none⟩) (p.length + 1) c ∧ p.length + 1 ≤ c ∧ c ≤ maxLen ∧ w.ownsRow B 3 1 (.slice (some ⟨g, 0, none⟩) p.length c) p.length (intsR p) := by
  rcases h.2 with ⟨_, h0⟩ | ⟨g, cap, cur, rfl, hb, hg, hc, hm, hs, ht⟩
  · simp at h0
  · rw [List.length_append, List.length_singleton] at hc ht ⊢
    refine ⟨g, cap, rfl, hc, hm, by rw [intsR_len]; omega, .inr ⟨g, cap, cur, rfl, hb, hg, by omega, hm, hs, ?_⟩⟩
    have h1 := congrArg (List.take p.length) ht
    rw [List.take_take] at h1
    have h2 : intsR (p ++ [x]) = intsR p ++ [.int .i64 x] := List.map_append ..
    rw [h2, List.take_append_of_le_length (by rw [intsR_len]; exact Nat.le_refl _), show (intsR p).take p.length = intsR p from by rw [← intsR_len p, List.take_length], Nat.min_eq_left (by omega)] at h1
    rw [Nat.mul_one]; exact h1
/-- What the kids tell, one after the other. -/
def kidsO (out : Nat → Option (List Int)) (m : Nat) : Option (List Int) := firstSome ((List.range m).map out)
theorem kidsO_none {out : Nat → Option (List Int)} {m : Nat} (h : ∀ j, j < m → out j = none) : kidsO out m = none :=
  firstSome_none fun x hx => by
    obtain ⟨j, hj, rfl⟩ := List.mem_map.1 hx
    exact h j (List.mem_range.1 hj)
theorem kidsO_some {out : Nat → Option (List Int)} {m i : Nat} {q : List Int} (hi : i < m) (h : ∀ j, j < i → out j = none) (hq : out i = some q) : kidsO out m = some q :=
  firstSome_some (i := i) (by simp [hi, hq]) fun j hj => by simp [show j < m by omega, h j hj]
set_option maxRecDepth 100000 in
set_option maxHeartbeats 8000000 in
/-- The kids, over whatever is done at each. -/
theorem kids_any (f : FuncId) (cap : Array Value) (eg : ∀ args w, (callFunc f args).run Tryz.prog w = .ok (.enter f args) w) (w : World) (B X : Nat) (v : Value) (p : List Int) (S : Nat → Prop) (n : Nd) (nv : Value) (out : Nat → Option (List Int))
    (h : Lk w B X v p) (hn : NdV w S nv n) (hSB : ∀ b, S b → b < B) (hB : B ≤ w.heap.size) (hl : p.length + n.kids.length ≤ 1000000) (hk : n.kids.length ≤ 100000)
    (hcall : ∀ (W : World) (v' : Value) (i : Nat) (hi : i < n.kids.length) (u : Value), LkFar X v w W → (v'.ownBlock = v.ownBlock ∨ ∀ g, v'.ownBlock = some g → w.heap.size ≤ g) → Lk W B X v' (p ++ [(i : Int)]) → NdV W S (ndV n.kids[i] u) n.kids[i] → Calls Tryz.prog f (#[.int .i64 i, ndV n.kids[i] u] ++ cap) W (LkEnd B X v' (p ++ [(i : Int)]) (out i) W)) :
    Calls Tryz.prog 52 #[.pointer (some ⟨X, 0, none⟩), nv, .func (.func f) #[] cap] w (LkEnd B X v p (kidsO out n.kids.length) w) := by
  obtain ⟨u, rfl, hs⟩ := hn
  obtain ⟨ao, c, rfl, hcap, hcm⟩ := hs.shape
  obtain ⟨i0, hinf, hz0, hz1, hz2⟩ := info_parts infoI
  have HI := Lib.hid hinf
  have H := Lib.hid h; have HS := Lib.hid hs; have HSB := Lib.hid hSB; have HBB := Lib.hid hB; have HCA := Lib.hid hcall
  have HX := Lib.hid (heap_alloc_new w (.cells #[.int .i64 n.k, .string n.t, .string n.v, .slice ao n.kids.length c] 24))
  have HB0 := Lib.hid (show Below w.heap.size w (w.alloc (.cells #[.int .i64 n.k, .string n.t, .string n.v, .slice ao n.kids.length c] 24)) from (Below.refl _ _).alloc (Nat.le_refl _) _)
  obtain ⟨x0, x1, x2, x3, _, _, _, _, hxl⟩ := nd_cells HX.out
  have HV := Lib.hid (fun g (e : v.ownBlock = some g) => (h.row.lt g e).1)
  clear h hs hSB hB hcall hinf
  unfold ndV maxLen at *
  go_enter Tryz.func52, Tryz.ntmps52
  go_wp2_with fail
  clear x0 x1 x2 x3 hxl
  go_loopw [11] (fun v11 wr => ∃ i : Nat, i ≤ n.kids.length ∧ v11 = .int .i64 i ∧ Hid (∀ j, j < i → out j = none) ∧ Hid (∃ v', LkPost B X v p w wr v')) (fun v11 _ => n.kids.length - (intOf v11).toNat)
  case atStart => exact ⟨0, Nat.zero_le _, rfl, by show ∀ _, _; intro j hj; omega, v, H.out.below HB0.out, LkFar.of HB0.out, .inl rfl⟩
  case round =>
    obtain ⟨i, hi, rfl, HA, HP⟩ := hrel
    obtain ⟨v', hp⟩ := HP.out
    by_cases hlt : i < n.kids.length
    · have hi0 : (0 : Int) ≤ (i : Int) := Int.natCast_nonneg _
      have hi1 : (i : Int) < (n.kids.length : Int) := by omega
      obtain ⟨va, vc, rfl⟩ := own_shapeC hp.lk.row
      have HP2 := Lib.hid hp
      have hbw : Below B w wr := hp.far.below H.out.lo HV.out HBB.out
      obtain ⟨kb, ko, kx, hko, hkw, k0, k1, k2, k3, hkx⟩ := HS.out.at_ i hlt
      obtain ⟨ay, cy, rfl, _, _⟩ := hkx.shape
      have hkB : kb < B := by
        obtain ⟨a2, c2, e2, _, _, hor⟩ := HS.out
        rcases hor with h0 | ⟨b', o', e', hsb, _, _⟩
        · rw [h0] at hlt; simp at hlt
        · injection e2 with e2 _ _
          rw [e2, e'] at hko
          injection hko with hko
          injection hko with hko _ _
          rw [← hko]; exact HSB.out _ hsb
      subst hko
      have HCI := Lib.hid (HCA.out)
      obtain ⟨y, hy⟩ : ∃ y, n.kids[i] = y := ⟨_, rfl⟩
      have HY := Lib.hid hy
      rw [hy] at k0 k1 k2 k3 hkx
      have HKS := Lib.hid hkx
      have d0 : wr.cell? ⟨kb, ko + i * 4, none⟩ = some (.int .i64 y.k) := (hbw.cell (p := ⟨kb, ko + i * 4, none⟩) hkB).trans k0
      have d1 : wr.cell? ⟨kb, ko + i * 4 + 1, none⟩ = some (.string y.t) := (hbw.cell (p := ⟨kb, ko + i * 4 + 1, none⟩) hkB).trans k1
      have d2 : wr.cell? ⟨kb, ko + i * 4 + 2, none⟩ = some (.string y.v) := (hbw.cell (p := ⟨kb, ko + i * 4 + 2, none⟩) hkB).trans k2
      have d3 : wr.cell? ⟨kb, ko + i * 4 + 3, none⟩ = some (.slice ay y.kids.length cy) := (hbw.cell (p := ⟨kb, ko + i * 4 + 3, none⟩) hkB).trans k3
      have hkl : kb < wr.heap.size := Nat.lt_of_lt_of_le hkB (Nat.le_trans HBB.out hp.far.size)
      obtain ⟨c0, f0⟩ := blk_cell hp.lk.blk 0 (by simp)
      have hXl := lt_blk hp.lk.blk
      have hb1 : Below wr.heap.size wr ((wr.alloc (.cells #[.int .i64 y.k, .string y.t, .string y.v, .slice ay y.kids.length cy] 24)).alloc (.cells #[.int .i64 i] 3)) := ((Below.refl _ _).alloc (Nat.le_refl _) _).alloc (by simp) _
      have hlk1 := hp.lk.below hb1
      have HL1 := Lib.hid hlk1
      have HB1 := Lib.hid hb1
      have HBX := Lib.hid (two_first wr (.cells #[.int .i64 y.k, .string y.t, .string y.v, .slice ay y.kids.length cy] 24) (.cells #[.int .i64 i] 3))
      have HBW := Lib.hid hbw
      clear k0 k1 k2 k3 hkx hb1 hlk1 hp hbw hy
      go_wp2_with (at_builtin; refine wpList_append_own_at _ rfl _ _ 27 rfl B 3 i0 _ 1 8 Tryz.underlying27 HI.out hz0 hz1 hz2 rfl (by omega) _ p.length (intsR p) (by rfl) HL1.out.row ⟨wr.heap.size + 1, 0, none⟩ 1 1 [.int .i64 i] (by rfl) (by rfl) (World.news_of_block (two_last wr _ _)) (by intro u hu; rw [List.mem_singleton.1 hu]; rfl) (by unfold maxLen; omega) (by omega) (by have := HBB.out; have := HP2.out.far.size; simp; omega) ?_)
      intro v1 w1 hown hgrow _ hat
      have hsz : (wr.alloc (.cells #[.int .i64 y.k, .string y.t, .string y.v, .slice ay y.kids.length cy] 24)).heap.size = wr.heap.size + 1 := by simp
      have hsz2 : ((wr.alloc (.cells #[.int .i64 y.k, .string y.t, .string y.v, .slice ay y.kids.length cy] 24)).alloc (.cells #[.int .i64 i] 3)).heap.size = wr.heap.size + 2 := by simp
      have hown' : w1.ownsRow B 3 1 v1 (p ++ [(i : Int)]).length (intsR (p ++ [(i : Int)])) := by
        rw [List.length_append, List.length_singleton, show intsR (p ++ [(i : Int)]) = intsR p ++ [.int .i64 (i : Int)] from List.map_append ..]
        exact hown
      obtain ⟨g1, q1, rfl, hq1, hq2, _⟩ := row_cut hown'
      have hgs := hgrow.size
      try rw [hsz2] at hgs
      try rw [hsz2] at hat
      have hvl : ∀ g, (Value.slice va p.length vc).ownBlock = some g → g < wr.heap.size := fun g e => (HP2.out.lk.row.lt g e).2
      have hX1 : w1.heap[X]? = some (.cells #[.slice va p.length vc] 52 (0, 0)) := (hgrow.block X (by omega) (fun e => HL1.out.ne e.symm)).trans HL1.out.blk
      have hK1 : w1.heap[wr.heap.size]? = some (.cells #[.int .i64 y.k, .string y.t, .string y.v, .slice ay y.kids.length cy] 24 (0, 0)) := (hgrow.block wr.heap.size (by omega) (fun e => by have := hvl _ e.symm; omega)).trans HBX.out
      have hgX : g1 ≠ X := by
        rcases hat with e | e
        · intro e2; exact HL1.out.ne (e.symm.trans (by rw [e2]; rfl))
        · intro e2; simp [Value.ownBlock] at e; omega
      have hat2 : (Value.slice (some ⟨g1, 0, none⟩) (p.length + 1) q1).ownBlock = (Value.slice va p.length vc).ownBlock ∨ ∀ g, (Value.slice (some ⟨g1, 0, none⟩) (p.length + 1) q1).ownBlock = some g → wr.heap.size ≤ g := by
        rcases hat with e | e
        · exact .inl e
        · right; intro g hg; rw [e] at hg; injection hg with hg; omega
      obtain ⟨e0, h0⟩ := blk_cell hX1 0 (by simp)
      obtain ⟨y0, y1, y2, y3, _, _, _, _, hyl⟩ := nd_cells hK1
      have hKX : wr.heap.size ≠ X := by omega
      have hlk2 : Lk (w1.setCell ⟨X, 0, none⟩ (.slice (some ⟨g1, 0, none⟩) (p.length + 1) q1)) B X (.slice (some ⟨g1, 0, none⟩) (p.length + 1) q1) (p ++ [(i : Int)]) := by
        refine ⟨set_blkC (j := 0) (y := .slice (some ⟨g1, 0, none⟩) (p.length + 1) q1) hX1, ?_, fun e => hgX (by simpa [Value.ownBlock] using e), H.out.lo, fun x hx => ?_⟩
        · exact hown'.kept (row := some X) ⟨rfl, rfl, rfl, by simp, fun k _ hk => set_other (fun e => hk (by rw [e]))⟩ (.inr fun e => hgX (by simpa [Value.ownBlock] using e))
        · rcases List.mem_append.1 hx with hx | hx
          · exact H.out.ok x hx
          · rw [List.mem_singleton.1 hx]; exact wf_nat (by omega)
      have hfar2 : LkFar X (.slice va p.length vc) wr (w1.setCell ⟨X, 0, none⟩ (.slice (some ⟨g1, 0, none⟩) (p.length + 1) q1)) := by
        refine ⟨hgrow.os.trans HB1.out.os, hgrow.tape.trans HB1.out.tape, hgrow.output.trans HB1.out.output, by simp; omega, fun k hk hkX hkv => ?_⟩
        rw [set_other hkX, hgrow.block k (by omega) (fun e => hkv e.symm)]
        exact HB1.out.block k hk
      have hatw : (Value.slice (some ⟨g1, 0, none⟩) (p.length + 1) q1).ownBlock = v.ownBlock ∨ ∀ g, (Value.slice (some ⟨g1, 0, none⟩) (p.length + 1) q1).ownBlock = some g → w.heap.size ≤ g := by
        rcases hat2 with e | e
        · rw [e]; exact HP2.out.at_
        · right; intro g hg; have := e g hg; have := HP2.out.far.size; omega
      have HLK2 := Lib.hid hlk2
      have HFAR := Lib.hid (HP2.out.far.trans HP2.out.at_ hfar2)
      have HATW := Lib.hid hatw
      have HKS2 := Lib.hid (show NdV (w1.setCell ⟨X, 0, none⟩ (.slice (some ⟨g1, 0, none⟩) (p.length + 1) q1)) S (ndV y (.slice ay y.kids.length cy)) y from
        .mk (HKS.out.alike ⟨HFAR.out.size, fun b hb hl => (HFAR.out.below H.out.lo HV.out HBB.out).block b (HSB.out b hb)⟩ fun b h _ => h))
      clear hown hgrow hat hown' hX1 hK1 hlk2 hfar2 hatw hat2 hvl d0 d1 d2 d3 c0 f0
      have hcc := HCI.out (w1.setCell ⟨X, 0, none⟩ (.slice (some ⟨g1, 0, none⟩) (p.length + 1) q1)) (.slice (some ⟨g1, 0, none⟩) (p.length + 1) q1) i hlt (.slice ay y.kids.length cy) HFAR.out HATW.out HLK2.out (by rw [HY.out]; exact HKS2.out)
      rw [HY.out] at hcc
      have HCC := Lib.hid hcc
      clear hcc
      go_wp2_with fail
      refine HCC.out.mono ?_
      intro e w3 he
      cases ho : out i with
      | none =>
        rw [ho] at he
        obtain ⟨⟨rr, rfl⟩, v3, hp3⟩ := he
        obtain ⟨g3, q3, rfl, hq3, hq4, hcut⟩ := row_cut hp3.lk.row
        unfold maxLen at hq4
        have HA2 := Lib.hid (show ∀ j, j < i + 1 → out j = none from fun j hj => by
          rcases Nat.lt_or_eq_of_le (Nat.le_of_lt_succ hj) with h1 | h1
          · exact HA.out j h1
          · rw [h1]; exact ho)
        have hX3 := hp3.lk.blk
        have hgX3 : g3 ≠ X := fun e => hp3.lk.ne (by rw [e]; rfl)
        have HP4 := Lib.hid (show LkPost B X v p w (w3.drew.setCell ⟨X, 0, none⟩ (.slice (some ⟨g3, 0, none⟩) p.length q3)) (.slice (some ⟨g3, 0, none⟩) p.length q3) from by
          have hfar : LkFar X v w w3 := HFAR.out.trans HATW.out hp3.far
          refine ⟨⟨set_blkC (w := w3.drew) (j := 0) (y := .slice (some ⟨g3, 0, none⟩) p.length q3) hX3, ?_, fun e => hgX3 (by simpa [Value.ownBlock] using e), H.out.lo, H.out.ok⟩, ⟨hfar.os, hfar.tape, hfar.output, by simp; exact hfar.size, fun k hk hkX hkv => ?_⟩, ?_⟩
          · exact hcut.kept (row := some X) ⟨rfl, rfl, rfl, by simp, fun k _ hk => set_other (w := w3.drew) (fun e => hk (by rw [e]))⟩ (.inr fun e => hgX3 (by simpa [Value.ownBlock] using e))
          · rw [set_other hkX]; exact hfar.oth k hk hkX hkv
          · have h1 : (Value.slice (some ⟨g3, 0, none⟩) p.length q3).ownBlock = (Value.slice (some ⟨g3, 0, none⟩) (p.length + 1) q3).ownBlock := rfl
            rw [h1]
            rcases hp3.at_ with e | e
            · rw [e]; exact HATW.out
            · right; intro g hg; have := e g hg; have := HFAR.out.size; omega)
        obtain ⟨c0, f0⟩ := blk_cell hX3 0 (by simp)
        have c0' : w3.drew.cell? ⟨X, 0, none⟩ = some (.slice (some ⟨g3, 0, none⟩) (p.length + 1) q3) := c0
        have f0' : w3.drew.frozen? ⟨X, 0, none⟩ = false := f0
        have hp0 : (0 : Int) ≤ (p.length : Int) := Int.natCast_nonneg _
        clear hp3 hcut hX3 ho e0 h0 y0 y1 y2 y3 hyl
        go_wp2_with fail
        go_region
        go_wp2_with fail
        go_roundw
        case rel => exact ⟨i + 1, by omega, by go_num, HA2.out, _, HP4.out⟩
        case measure => simp [intOf]; omega
      | some q =>
        rw [ho] at he
        obtain ⟨hfar, a, c', rfl, hints⟩ := he
        have HF := Lib.hid (HFAR.out.trans HATW.out hfar)
        have HQ := Lib.hid (hints.mono (w := w) HFAR.out.size)
        have HO := Lib.hid (kidsO_some (out := out) hlt HA.out ho)
        clear hfar hints ho
        go_wp2_with fail
        exact ⟨rfl, by rw [HO.out]; exact ⟨HF.out, a, c', rfl, HQ.out⟩⟩
    · obtain rfl : i = n.kids.length := by omega
      have hi1 : ¬ ((n.kids.length : Nat) : Int) < (n.kids.length : Int) := by omega
      go_wp2_with fail
      go_end0
      rw [kidsO_none HA.out]
      exact ⟨⟨_, rfl⟩, HP.out⟩
end Go.Proofs.YtaolnpiemeaabaaGreatDoor

/- The looks of the brace syntax. -/
namespace Go.Proofs.YtaolnpiemeaabaaGreatDoor
open Go.RowKit Ev5
set_option linter.unusedSimpArgs false
set_option linter.unusedVariables false

theorem LkEnd.after {B X : Nat} {v : Value} {p : List Int} {o : Option (List Int)} {w w1 w' : World} {e : Ending} (hb : Below w.heap.size w w1) (h : LkEnd B X v p o w1 e w') : LkEnd B X v p o w e w' := by
  cases o with
  | none =>
    obtain ⟨hr, v', hp⟩ := h
    refine ⟨hr, v', hp.lk, (LkFar.of hb).trans (.inl rfl) hp.far, ?_⟩
    rcases hp.at_ with e | e
    · exact .inl e
    · exact .inr fun g hg => Nat.le_trans hb.size (e g hg)
  | some q =>
    obtain ⟨hf, a, c, he, hp⟩ := h
    exact ⟨(LkFar.of hb).trans (.inl rfl) hf, a, c, he, hp.mono hb.size⟩
theorem firstP_kids {tp : List Nd → Bool} {way : List Nd} {n : Nd} {p : List Int} (h : tp (way ++ [n]) = true) : firstP tp way n p = kidsO (fun i => if hi : i < n.kids.length then firstP tp (way ++ [n]) n.kids[i] (p ++ [(i : Int)]) else none) n.kids.length := by
  rw [firstP, if_neg (by rw [h]; simp)]
  unfold kidsO
  congr 1
  refine List.ext_getElem (by simp) fun i h1 h2 => ?_
  rw [List.getElem_ofFn, List.getElem_map, List.getElem_range, dif_pos (by simpa using h1)]
  rfl
/-- What the brace syntax tells. -/
def tpB (l : List Nd) : Bool := match l.getLast? with
  | some n => decide (n.k ≠ 10)
  | none => true
theorem tpB_last (way : List Nd) (n : Nd) : tpB (way ++ [n]) = decide (n.k ≠ 10) := by unfold tpB; rw [List.getLast?_concat]
set_option maxRecDepth 100000 in
set_option maxHeartbeats 2000000 in
theorem braceK_any (W : World) (lb X B : Nat) (v : Value) (p : List Int) (o : Option (List Int)) (x : Nd) (u : Value) (hu : ∃ a l c, u = .slice a l c) (i : Int) (hb : W.heap[lb]? = some (.cells #[.pointer (some ⟨X, 0, none⟩)] 51 (0, 0)))
    (hcall : ∀ W', Below W.heap.size W W' → Calls Tryz.prog 35 #[.pointer (some ⟨X, 0, none⟩), ndV x u] W' (LkEnd B X v p o W')) :
    Calls Tryz.prog 53 #[.int .i64 i, ndV x u, .pointer (some ⟨lb, 0, none⟩)] W (LkEnd B X v p o W) := by
  obtain ⟨ua, ul, uc, rfl⟩ := hu
  obtain ⟨c0, f0⟩ := blk_cell hb 0 (by simp)
  have hlt := lt_blk hb
  have HC := Lib.hid hcall
  have HB := Lib.hid (show Below W.heap.size W (W.alloc (.cells #[.int .i64 x.k, .string x.t, .string x.v, .slice ua ul uc] 24)) from (Below.refl _ _).alloc (Nat.le_refl _) _)
  clear hb hcall
  unfold ndV at *
  go_enter Tryz.func53, Tryz.ntmps53
  go_wp2_with fail
  refine (HC.out _ HB.out).mono ?_
  intro e w3 he1
  have he := he1.after HB.out
  clear he1
  cases o with
  | none =>
    obtain ⟨⟨rr, rfl⟩, hp⟩ := he
    have HP := Lib.hid hp
    clear hp
    go_wp2_with fail
    go_end0
    exact ⟨⟨_, rfl⟩, HP.out⟩
  | some q =>
    obtain ⟨hfar, a, c, rfl, hints⟩ := he
    have HF2 := Lib.hid hfar; have HI := Lib.hid hints
    clear hfar hints
    go_wp2_with fail
    exact ⟨rfl, HF2.out, a, c, rfl, HI.out⟩
set_option maxRecDepth 100000 in
set_option maxHeartbeats 8000000 in
theorem brace_any : ∀ (N : Nat) (n : Nd) (way : List Nd) (w : World) (B X : Nat) (v : Value) (p : List Int) (S : Nat → Prop) (nv : Value), n.size ≤ N → Lk w B X v p → NdV w S nv n → (∀ b, S b → b < B) → B ≤ w.heap.size → p.length + n.size ≤ 100000 →
    Calls Tryz.prog 35 #[.pointer (some ⟨X, 0, none⟩), nv] w (LkEnd B X v p (firstP tpB way n p) w) := by
  intro N
  induction N with
  | zero => intro n way w B X v p S nv hn; have := kids_size n; omega
  | succ N ih =>
    intro n way w B X v p S nv hn hlk hv hSB hB hl
    obtain ⟨u, rfl, hs⟩ := hv
    obtain ⟨ao, cap, rfl, hcap, hcm⟩ := hs.shape
    have hmf : ∀ (fn : Fn) (first cap : Array Value) (w : World), (Instr.makeFunc fn first cap).run Tryz.prog w = .ok (.func fn first cap) w := fun _ _ _ _ => rfl
    have hb := ((Below.refl w.heap.size w).alloc (Nat.le_refl _) (.cells #[.pointer (some ⟨X, 0, none⟩)] 51)).alloc (by simp) (.cells #[.int .i64 n.k, .string n.t, .string n.v, .slice ao n.kids.length cap] 24)
    have hX0 := two_first w (.cells #[.pointer (some ⟨X, 0, none⟩)] 51) (.cells #[.int .i64 n.k, .string n.t, .string n.v, .slice ao n.kids.length cap] 24)
    have hX1 := two_last w (.cells #[.pointer (some ⟨X, 0, none⟩)] 51) (.cells #[.int .i64 n.k, .string n.t, .string n.v, .slice ao n.kids.length cap] 24)
    have HN := Lib.hid hn; have H := Lib.hid hlk; have HS := Lib.hid hs; have HSB := Lib.hid hSB; have HBB := Lib.hid hB; have HL := Lib.hid hl; have HIH := Lib.hid ih
    have HB := Lib.hid hb; have HX0 := Lib.hid hX0; have HX1 := Lib.hid hX1
    clear hn hlk hs hSB hB hl ih hb hX0 hX1
    have HF := Lib.hid (fun g (e : v.ownBlock = some g) => (H.out.row.lt g e).2)
    have HFB := Lib.hid (fun g (e : v.ownBlock = some g) => (H.out.row.lt g e).1)
    have hXw := lt_blk H.out.blk
    have HXW := Lib.hid hXw
    clear hXw
    unfold ndV
    by_cases hk : n.k = 10
    · have HR := Lib.hid (firstP_no (tp := tpB) (way := way) (n := n) (p := p) (by rw [tpB_last, hk]; rfl))
      obtain ⟨K, hK⟩ : ∃ K, n.k = K := ⟨_, rfl⟩
      rw [hK] at hk HB HX0 HX1
      rw [hK]
      subst hk
      go_enter Tryz.func35, Tryz.ntmps35
      go_wp2_with fail
      refine (fails_any _ B X v p (H.out.below HB.out) (by have := HL.out; omega)).mono ?_
      intro e w3 he
      have he2 := he.after HB.out
      rw [← HR.out] at he2
      rw [HR.out] at he2
      obtain ⟨hfar, a, c, rfl, hints⟩ := he2
      have HF2 := Lib.hid hfar; have HI := Lib.hid hints
      clear hfar hints he
      go_wp2_with fail
      exact ⟨rfl, by rw [HR.out]; exact ⟨HF2.out, a, c, rfl, HI.out⟩⟩
    · have hkb : (n.k == 10) = false := by simp [hk]
      have HR := Lib.hid (firstP_kids (tp := tpB) (way := way) (n := n) (p := p) (by rw [tpB_last]; simp [hk]))
      go_enter Tryz.func35, Tryz.ntmps35
      go_wp2_with fail
      refine (kids_any 53 #[.pointer (some ⟨w.heap.size, 0, none⟩)] (fun args w => by rfl) _ B X v p S n _ (fun i => if hi : i < n.kids.length then firstP tpB (way ++ [n]) n.kids[i] (p ++ [(i : Int)]) else none) (H.out.below HB.out) ⟨_, rfl, HS.out.below HB.out⟩ HSB.out (Nat.le_trans HBB.out HB.out.size) (by have := HL.out; have := kids_size n; have := sizes_len n.kids; omega) (by have := HL.out; have := kids_size n; have := sizes_len n.kids; omega) (fun W v' i hi u hfar hat hlkW hnW => ?_)).mono ?_
      · refine braceK_any W w.heap.size X B v' _ _ _ u (by obtain ⟨u2, e2, h2⟩ := hnW; obtain ⟨a2, c2, h3, _⟩ := h2.shape; exact ⟨a2, _, c2, (show u = u2 by simpa [ndV] using e2).trans h3⟩) i ?_ ?_
        · rw [hfar.oth w.heap.size (by simp; omega) (by have := HXW.out; omega) (fun e => by have := HF.out _ e; omega)]
          exact HX0.out
        · rw [dif_pos hi]
          have hsz := kid_size (n := n) hi
          intro W' hbW
          exact HIH.out n.kids[i] (way ++ [n]) W' B X v' (p ++ [(i : Int)]) S _ (by have := HN.out; omega) (hlkW.below hbW) (hnW.below hbW) HSB.out (Nat.le_trans HBB.out (Nat.le_trans HB.out.size (Nat.le_trans hfar.size hbW.size))) (by have := HL.out; rw [List.length_append, List.length_singleton]; omega)
      · intro e w3 he
        have he2 := he.after HB.out
        rw [← HR.out] at he2
        cases ho : firstP tpB way n p with
        | none =>
          rw [ho] at he2
          obtain ⟨⟨rr, rfl⟩, hp⟩ := he2
          have HP := Lib.hid hp
          have HO := Lib.hid ho
          clear hp he
          go_wp2_with fail
          go_end0
          show LkEnd B X v p (firstP tpB way n p) w _ _
          rw [HO.out]
          exact ⟨⟨_, rfl⟩, HP.out⟩
        | some q =>
          rw [ho] at he2
          obtain ⟨hfar, a, c, rfl, hints⟩ := he2
          have HF2 := Lib.hid hfar; have HI := Lib.hid hints
          have HO := Lib.hid ho
          clear hfar hints he
          go_wp2_with fail
          exact ⟨rfl, HF2.out, a, c, rfl, HI.out⟩
end Go.Proofs.YtaolnpiemeaabaaGreatDoor

/- The walk of carry.Of where a look leaves: what is deferred catches it; the brace syntax. -/
namespace Go.Proofs.YtaolnpiemeaabaaGreatDoor
open Go.RowKit Ev5
set_option linter.unusedSimpArgs false
set_option linter.unusedVariables false

theorem assert_noC (v : Value) (w : World) : (Instr.typeAssert (.iface 49 v) 20 49 true).run Tryz.prog w = .ok (.tuple #[v, .bool true]) w := by kernel_rfl
set_option maxRecDepth 100000 in
set_option maxHeartbeats 2000000 in
/-- What is deferred, where a look has left for a place. -/
theorem of1_catch (P4 P5 : Nat) (a : Option Addr) (n c : Nat) (older : List PanicEntry) (w : World) (x4 x5 : Value) (h4 : w.heap[P4]? = some (.cells #[x4] 27 (0, 0))) (h5 : w.heap[P5]? = some (.cells #[x5] 28 (0, 0))) (hne : P4 ≠ P5) :
    CallsD Tryz.prog 34 #[.pointer (some ⟨P4, 0, none⟩), .pointer (some ⟨P5, 0, none⟩)] (.panicking ({ v := .iface 49 (.agg #[.slice a n c]), recovered := false } :: older)) w fun e u' w' =>
      e = .returned (.tuple #[]) ∧ u' = .panicking ({ v := .iface 49 (.agg #[.slice a n c]), recovered := true } :: older) ∧
      w' = ((w.setCell ⟨P4, 0, none⟩ (.slice a n c)).setCell ⟨P5, 0, none⟩ (.int .i64 20)).alloc (.cells #[.slice a n c] 49) := by
  have hta := assert_noC
  obtain ⟨c4, f4⟩ := blk_cell h4 0 (by simp)
  obtain ⟨c5, f5⟩ := blk_cell h5 0 (by simp)
  have l4 := lt_blk h4
  have l5 := lt_blk h5
  refine callsD_of_wpS Tryz.func34 rfl fun c₀ cs hu => ?_
  apply wpS_seq
  apply wpS_region
  simp [wpOpsS, go_sem, recoverD, hu, Tryz.ntmps34, Exit.thenS]
  refine wpS_of_wp ?_
  rw [show #[Value.pointer (some ⟨P4, 0, none⟩), Value.pointer (some ⟨P5, 0, none⟩)] ++ ((Array.replicate 15 undef).setIfInBounds 3 (Value.iface 49 (Value.agg #[Value.slice a n c]))).setIfInBounds 0 (Value.iface 49 (Value.agg #[Value.slice a n c])) = #[Value.pointer (some ⟨P4, 0, none⟩), Value.pointer (some ⟨P5, 0, none⟩), .iface 49 (.agg #[.slice a n c]), undef, undef, .iface 49 (.agg #[.slice a n c]), undef, undef, undef, undef, undef, undef, undef, undef, undef, undef, undef] from rfl]
  go_wp2_with fail
  simp [bodyPostS, results, Tryz.results34]
set_option maxRecDepth 100000 in
set_option maxHeartbeats 4000000 in
/-- carry.Of of the brace syntax. -/
theorem carryBrace_any (n : Nd) (w : World) (S : Nat → Prop) (v : Value) (hE : EnvU w) (hv : NdV w S v n) (hok : n.ok) (hN : n.size ≤ 50000) :
    Calls Tryz.prog 22 #[.int .i64 1, v] w (OfPost (ofP tpB n) w) := by
  obtain ⟨u, rfl, hs⟩ := hv
  obtain ⟨ao, cap, rfl, hcap, hcm⟩ := hs.shape
  have HV := Lib.hid (NdV.mk hs.ltC); have HE := Lib.hid hE; have HOK := Lib.hid hok; have HN := Lib.hid hN
  have HWL := Lib.hid (show n.walk.length ≤ 100000 by have := walk_len n; omega)
  have hmf : ∀ (fn : Fn) (first cap : Array Value) (w : World), (Instr.makeFunc fn first cap).run Tryz.prog w = .ok (.func fn first cap) w := fun _ _ _ _ => rfl
  clear hs hE hok hN
  unfold ndV
  go_enter_defers Tryz.func22, Tryz.ntmps22
  have h3 := threeC w (.cells #[.int .i64 n.k, .string n.t, .string n.v, .slice ao n.kids.length cap] 24) (.cells #[.slice none 0 0] 27) (.cells #[.int .i64 0] 28)
  have H3 := Lib.hid h3
  clear h3
  go_wp2_with fail
  refine (treeMay_any n _ _ _ (HE.out.below H3.out.2.2.2) (HV.out.below H3.out.2.2.2) (fun b hb => Nat.lt_of_lt_of_le hb H3.out.2.2.2.size) HOK.out HWL.out).mono ?_
  rintro e w2 ⟨rfl, hb⟩
  have hx0 := (hb.block _ (lt_blk H3.out.1)).trans H3.out.1
  have hx1 := (hb.block _ (lt_blk H3.out.2.1)).trans H3.out.2.1
  have hx2 := (hb.block _ (lt_blk H3.out.2.2.1)).trans H3.out.2.2.1
  have HB2 := Lib.hid (bthen H3.out.2.2.2 hb)
  obtain ⟨x0, x1, x2, x3, _, _, _, _, hxl⟩ := nd_cells hx0
  obtain ⟨P5, h5⟩ : ∃ P5, w.heap.size + 1 + 1 = P5 := ⟨_, rfl⟩
  obtain ⟨P4, h4⟩ : ∃ P4, w.heap.size + 1 = P4 := ⟨_, rfl⟩
  have hne : P5 ≠ P4 := by omega
  have hne' : P4 ≠ P5 := by omega
  have HLO := Lib.hid (show w.heap.size ≤ P4 ∧ w.heap.size ≤ P5 by omega)
  rw [h5] at hx2
  rw [h4] at hx1
  rw [h5, h4]
  have HX := Lib.hid (And.intro hx1 hx2)
  have hl4 := lt_blk hx1
  have hl5 := lt_blk hx2
  obtain ⟨c4, g4⟩ := blk_cell hx1 0 (by simp)
  obtain ⟨c5, g5⟩ := blk_cell hx2 0 (by simp)
  obtain ⟨E, hE⟩ : ∃ E, (wholeP RP (n.walk.map GoEv.ev)).2 = E := ⟨_, rfl⟩
  have HEQ := Lib.hid (show n.wh = E from hE)
  rw [hE]
  clear hb hx0 hx1 hx2 hE h4 h5
  by_cases hz : E = 0
  · subst hz
    have HLK := Lib.hid (show ∀ W : World, Below w.heap.size w W → Lk (W.alloc (.cells #[.slice none 0 0] 52)) W.heap.size W.heap.size (.slice none 0 0) [] from fun W _ => ⟨heap_alloc_new W _, World.ownsRow_nil _ _ _ _, (by simp [Value.ownBlock]), Nat.le_refl _, fun x hx => by cases hx⟩)
    go_wp2_with fail
    have hlk := HLK.out w2 HB2.out
    have hbl : Below w2.heap.size w2 (w2.alloc (.cells #[.slice none 0 0] 52)) := (Below.refl _ _).alloc (Nat.le_refl _) _
    have hnv := HV.out.below (bthen HB2.out hbl)
    refine (brace_any n.size n [] _ w2.heap.size w2.heap.size (.slice none 0 0) [] _ _ (Nat.le_refl _) hlk hnv (fun b hb => Nat.lt_of_lt_of_le hb HB2.out.size) (by simp) (by have := HN.out; simp; omega)).mono ?_
    intro e w3 he
    have hfar : LkFar w2.heap.size (.slice none 0 0) (w2.alloc (.cells #[.slice none 0 0] 52)) w3 := by
      cases ho : firstP tpB [] n [] with
      | none => rw [ho] at he; obtain ⟨_, v', hp⟩ := he; exact hp.far
      | some q => rw [ho] at he; exact he.1
    have hb3 : Below w2.heap.size w2 w3 := by
      refine ⟨hfar.os, hfar.tape, hfar.output, Nat.le_trans hbl.size hfar.size, fun k hk => ?_⟩
      rw [hfar.oth k (Nat.lt_of_lt_of_le hk hbl.size) (by omega) (by simp [Value.ownBlock])]
      exact hbl.block k hk
    have HB3 := Lib.hid hb3
    have hx4 := (hb3.block _ hl4).trans HX.out.1
    have hx5 := (hb3.block _ hl5).trans HX.out.2
    have HX3 := Lib.hid (And.intro hx4 hx5)
    have hl43 := lt_blk hx4
    have hl53 := lt_blk hx5
    clear c4 g4 c5 g5 hl4 hl5 x0 x1 x2 x3 hxl hnv hlk hfar hb3
    obtain ⟨c4, g4⟩ := blk_cell hx4 0 (by simp)
    obtain ⟨c5, g5⟩ := blk_cell hx5 0 (by simp)
    clear hx4 hx5
    cases ho : firstP tpB [] n [] with
    | none =>
      rw [ho] at he
      obtain ⟨⟨rr, rfl⟩, v', hp⟩ := he
      have HP := Lib.hid (show ofP tpB n = (none, 0) by unfold ofP; rw [if_neg (by rw [HEQ.out]; simp), ho])
      clear hp
      go_wp2_with fail
      obtain ⟨W9, hW9⟩ : ∃ W9, (w3.setCell ⟨P4, 0, none⟩ (.slice none 0 0)).setCell ⟨P5, 0, none⟩ (.int .i64 0) = W9 := ⟨_, rfl⟩
      have hk := two_vars HX3.out.1 HX3.out.2 hne' (.slice none 0 0) (.int .i64 0)
      rw [hW9] at hk
      have k4 : W9.cell? ⟨P4, 0, none⟩ = some (.slice none 0 0) := (blk_cell hk.1 0 (by simp)).1
      have k5 : W9.cell? ⟨P5, 0, none⟩ = some (.int .i64 0) := (blk_cell hk.2 0 (by simp)).1
      have hbw : Below w.heap.size w W9 := by
        rw [← hW9]
        exact ((bthen HB2.out HB3.out).setCell (p := ⟨P4, 0, none⟩) HLO.out.1 _).setCell (p := ⟨P5, 0, none⟩) HLO.out.2 _
      rw [hW9]
      refine leaves_cons (f := 34) (args := #[.pointer (some ⟨P4, 0, none⟩), .pointer (some ⟨P5, 0, none⟩)]) (by simp) (by simp [go_sem]) ?_
      refine (of1_idle ⟨P4, 0, none⟩ ⟨P5, 0, none⟩ W9).mono ?_
      rintro e u' w'' ⟨rfl, rfl, hb⟩
      have m4 : w''.cell? ⟨P4, 0, none⟩ = some (.slice none 0 0) := by rw [hb.cell (p := ⟨P4, 0, none⟩) (cell_lt k4)]; exact k4
      have m5 : w''.cell? ⟨P5, 0, none⟩ = some (.int .i64 0) := by rw [hb.cell (p := ⟨P5, 0, none⟩) (cell_lt k5)]; exact k5
      have hbb := bthen hbw hb
      simp [Leaves, settle, results, Tryz.results22, go_sem, m4, m5]
      rw [HP.out]
      exact ⟨hbb, none, 0, 0, rfl, rfl⟩
    | some q =>
      rw [ho] at he
      obtain ⟨_, a, c, rfl, hints⟩ := he
      have HP := Lib.hid (show ofP tpB n = (some q, 20) by unfold ofP; rw [if_neg (by rw [HEQ.out]; simp), ho])
      have HI := Lib.hid hints
      clear hints
      go_wp2_with fail
      refine leaves_cons (f := 34) (args := #[.pointer (some ⟨P4, 0, none⟩), .pointer (some ⟨P5, 0, none⟩)]) (by simp) (by simp [go_sem]) ?_
      refine (of1_catch P4 P5 a q.length c [] w3 _ _ HX3.out.1 HX3.out.2 hne').mono ?_
      rintro e u' w'' ⟨rfl, rfl, hw⟩
      obtain ⟨W9, hW9⟩ : ∃ W9, (w3.setCell ⟨P4, 0, none⟩ (.slice a q.length c)).setCell ⟨P5, 0, none⟩ (.int .i64 20) = W9 := ⟨_, rfl⟩
      have hk := two_vars HX3.out.1 HX3.out.2 hne' (.slice a q.length c) (.int .i64 20)
      rw [hW9] at hk hw
      have hba : Below W9.heap.size W9 w'' := by rw [hw]; exact (Below.refl _ _).alloc (Nat.le_refl _) _
      have m4 : w''.cell? ⟨P4, 0, none⟩ = some (.slice a q.length c) := (blk_cell ((hba.block _ (lt_blk hk.1)).trans hk.1) 0 (by simp)).1
      have m5 : w''.cell? ⟨P5, 0, none⟩ = some (.int .i64 20) := (blk_cell ((hba.block _ (lt_blk hk.2)).trans hk.2) 0 (by simp)).1
      have hbw : Below w.heap.size w W9 := by
        rw [← hW9]
        exact ((bthen HB2.out HB3.out).setCell (p := ⟨P4, 0, none⟩) HLO.out.1 _).setCell (p := ⟨P5, 0, none⟩) HLO.out.2 _
      have hbb := bthen hbw hba
      have hii : IntsIn w'' (.slice a q.length c) q := by
        obtain ⟨ao, cp, e, h1, h2, h3⟩ := HI.out.ints.ex
        injection e with e1 e2 e3
        subst e1; subst e3
        refine ⟨⟨a, c, rfl, h1, h2, fun i hi => ?_⟩, HI.out.ints.ok⟩
        obtain ⟨b, o, e, hc⟩ := h3 i hi
        refine ⟨b, o, e, ?_⟩
        have hnew := HI.out.new _ e
        have hb1 : w2.heap.size < b := by have h := hnew; simp at h; omega
        have hp4 := lt_blk HX.out.1
        have hp5 := lt_blk HX.out.2
        have hlt := cell_lt hc
        have h9 : W9.cell? ⟨b, o + i, none⟩ = some (.int .i64 q[i]) := by
          rw [← hW9, World.cell?_setCell_other _ _ _ _ (fun e => by injection e with e; omega), World.cell?_setCell_other _ _ _ _ (fun e => by injection e with e; omega)]; exact hc
        rw [hba.cell (p := ⟨b, o + i, none⟩) (cell_lt h9)]
        exact h9
      simp [Leaves, settle, results, Tryz.results22, go_sem, m4, m5]
      rw [HP.out]
      exact ⟨hbb, a, q.length, c, rfl, rfl, hii⟩
  · have hzb : (E != 0) = true := by simp [hz]
    go_wp2_with fail
    obtain ⟨W9, hW9⟩ : ∃ W9, (w2.setCell ⟨P4, 0, none⟩ (.slice none 0 0)).setCell ⟨P5, 0, none⟩ (.int .i64 E) = W9 := ⟨_, rfl⟩
    have hk := two_vars HX.out.1 HX.out.2 hne' (.slice none 0 0) (.int .i64 E)
    rw [hW9] at hk
    have k4 : W9.cell? ⟨P4, 0, none⟩ = some (.slice none 0 0) := (blk_cell hk.1 0 (by simp)).1
    have k5 : W9.cell? ⟨P5, 0, none⟩ = some (.int .i64 E) := (blk_cell hk.2 0 (by simp)).1
    have hbw : Below w.heap.size w W9 := by
      rw [← hW9]
      exact (HB2.out.setCell (p := ⟨P4, 0, none⟩) HLO.out.1 _).setCell (p := ⟨P5, 0, none⟩) HLO.out.2 _
    rw [hW9]
    have hP := Lib.hid (show ofP tpB n = (none, E) by unfold ofP; rw [if_pos (by rw [HEQ.out]; exact hz), HEQ.out])
    simp [bodyPostD, Leaves, settle, results, Tryz.results22, go_sem, k4, k5]
    rw [hP.out]
    exact ⟨hbw, none, 0, 0, rfl, rfl⟩
end Go.Proofs.YtaolnpiemeaabaaGreatDoor

/- hexaplaref15.tells of the brace syntax; hexaplaref15.Of of it. -/
namespace Go.Proofs.YtaolnpiemeaabaaGreatDoor
open Go.RowKit Ev5
set_option linter.unusedSimpArgs false
set_option linter.unusedVariables false

set_option maxRecDepth 100000 in
set_option maxHeartbeats 4000000 in
theorem tellsBrace : TellsAt 1 tpB (fun l => l ≠ []) := by
  intro w S wv way hE hs hne hl
  obtain ⟨way, n, rfl⟩ : ∃ l x, way = l ++ [x] := ⟨_, _, (List.dropLast_concat_getLast hne).symm⟩
  obtain ⟨wa, wc, rfl, hwc, hwm⟩ := hs.shape
  have hlast : way.length < (way ++ [n]).length := by rw [List.length_append, List.length_singleton]; omega
  obtain ⟨bb, oo, ux, hao, hbw, c0, c1, c2, c3, hsx⟩ := hs.at_ way.length hlast
  subst hao
  rw [List.getElem_append_right (Nat.le_refl _)] at c0 c1 c2 hsx
  simp only [Nat.sub_self, List.getElem_cons_zero] at c0 c1 c2 hsx
  obtain ⟨ax, cx, rfl, hcx, hcm⟩ := hsx.shape
  have hlen : (way ++ [n]).length = way.length + 1 := by rw [List.length_append, List.length_singleton]
  obtain ⟨WK, hWK⟩ : ∃ WK, way.length = WK := ⟨_, rfl⟩
  rw [hWK] at hlen c0 c1 c2 c3
  rw [hlen] at hwc hl
  rw [hlen]
  have hw0 : (0 : Int) ≤ (WK : Int) := Int.natCast_nonneg _
  have hwkI : ((WK + 1 : Nat) : Int) - 1 = (WK : Int) := by omega
  have hw2 : (WK : Int) < ((WK + 1 : Nat) : Int) := by omega
  have HT := Lib.hid (show tpB (way ++ [n]) = (n.k != 10) by rw [tpB_last]; by_cases h : n.k = 10 <;> simp [h])
  clear hs hE hne hsx hlast hWK
  unfold maxLen at *
  go_enter Tryz.func44, Tryz.ntmps44
  go_wp2_with fail
  go_ret
  exact ⟨by rw [HT.out]; rfl, Below.refl _ _⟩
theorem refOfBrace_any (n : Nd) (w : World) (S : Nat → Prop) (v : Value) (hE : EnvU w) (hv : NdV w S v n) (hok : n.ok) (hsz : n.size ≤ 50000) :
    Calls Tryz.prog 12 #[.int .i64 1, v] w (OfPost (ofP tpB n) w) :=
  refOf_any 1 _ _ (by omega) (by omega) tellsBrace (fun _ _ _ _ _ => by simp) n w S v hE hv hok hsz (fun _ => by simp)
end Go.Proofs.YtaolnpiemeaabaaGreatDoor

/- The walk of hexaplaref15's row of a node. -/
namespace Go.Proofs.YtaolnpiemeaabaaGreatDoor
open Go.RowKit Ev5
set_option linter.unusedSimpArgs false
set_option linter.unusedVariables false

set_option maxRecDepth 100000 in
set_option maxHeartbeats 8000000 in
theorem refRow15_any (n : Nd) : n.ok → n.size ≤ 50000 → ∀ (w : World) (S : Nat → Prop) (nv : Value), NdV w S nv n →
    Calls Tryz.prog 31 #[nv] w fun e w' => e = .returned (strV (n.txt rowF)) ∧ Below w.heap.size w w' := by
  refine Nd.ind (C := fun n => n.ok → n.size ≤ 50000 → ∀ (w : World) (S : Nat → Prop) (nv : Value), NdV w S nv n → Calls Tryz.prog 31 #[nv] w fun e w' => e = .returned (strV (n.txt rowF)) ∧ Below w.heap.size w w') ?_ n
  intro k t v ks ih hok hsz w S nv hv
  rw [ok_mk] at hok
  rw [size_mk] at hsz
  have hlen := txts_take_len (F := rowF) textF_row hok.2 (N := 50000) (by omega)
  have hkl : ks.length ≤ 50000 := by have := sizes_len ks; omega
  obtain ⟨u, rfl, hs⟩ := hv
  simp only [ndV, Nd.k, Nd.t, Nd.v, Nd.kids] at hs ⊢
  obtain ⟨ao, cap, rfl, hcap, hcm⟩ := hs.shape
  have HS := Lib.hid hs.ltC; have HOK := Lib.hid hok; have HSZ := Lib.hid hsz; have HIH := Lib.hid ih
  have HLEN := Lib.hid (show ∀ i, (Lib.join ((Nd.txts rowF ks).take i) [44, 32]).length ≤ 1050000 * 50000 from fun i => Nat.le_trans (join_lenS [44, 32] (by decide) _) (hlen i))
  have HTL := Lib.hid (show (Nd.txts rowF ks).length = ks.length from txts_len _ _)
  have HX := Lib.hid (heap_alloc_new w (.cells #[.int .i64 k, .string t, .string v, .slice ao ks.length cap] 24))
  have HB0 := Lib.hid (show Below w.heap.size w (w.alloc (.cells #[.int .i64 k, .string t, .string v, .slice ao ks.length cap] 24)) from (Below.refl _ _).alloc (Nat.le_refl _) _)
  clear hs hok hsz ih hlen
  rw [txt_mk]
  unfold maxLen at *
  go_enter Tryz.func31, Tryz.ntmps31
  go_wp2_with fail
  go_loopw [3, 4] (fun v3 v4 wr => ∃ (i : Nat) (O : ByteArray), i ≤ ks.length ∧ v4 = .int .i64 i ∧ v3 = .string O ∧ Hid (O.data.toList = Lib.join ((Nd.txts rowF ks).take i) [44, 32]) ∧ Hid (wr.heap[w.heap.size]? = some (.cells #[.int .i64 k, .string t, .string v, .slice ao ks.length cap] 24 (0, 0))) ∧ Hid (Below w.heap.size w wr)) (fun _ v4 _ => ks.length - (intOf v4).toNat)
  case atStart => exact ⟨0, ⟨#[]⟩, Nat.zero_le _, rfl, rfl, rfl, HX.out, HB0.out⟩
  case round =>
    obtain ⟨i, O, hi, rfl, rfl, HO, HXR, HBR⟩ := hrel
    have hOs : O.size ≤ 1050000 * 50000 := by
      have h1 := HLEN.out i
      rw [← HO.out] at h1
      have h3 : O.data.toList.length = O.size := Array.length_toList
      omega
    obtain ⟨x0, x1, x2, x3, _, _, _, _, hxl⟩ := nd_cells HXR.out
    by_cases hlt : i < ks.length
    · have hi0 : (0 : Int) ≤ (i : Int) := Int.natCast_nonneg _
      have hi1 : (i : Int) < (ks.length : Int) := by omega
      obtain ⟨kb, ko, kx, hko, hkw, k0, k1, k2, k3, hkx⟩ := HS.out.at_ i hlt
      obtain ⟨ay, cy, rfl, _, _⟩ := hkx.shape
      subst hko
      have hmem := List.getElem_mem hlt
      have hkok := (oks_iff ks).1 HOK.out.2 _ hmem
      have hks : ks[i].size ≤ 50000 := by have := size_mem hmem; have := HSZ.out; omega
      have hih := HIH.out ks[i] hmem hkok hks
      have htl := txt_len (F := rowF) textF_row ks[i] hkok
      have htk : (Nd.txts rowF ks).take (i + 1) = (Nd.txts rowF ks).take i ++ [ks[i].txt rowF] := by
        rw [List.take_add_one, List.getElem?_eq_getElem (by rw [HTL.out]; exact hlt)]
        congr 1
        show [(Nd.txts rowF ks)[i]'(by rw [HTL.out]; exact hlt)] = _
        simp [txts_map]
      obtain ⟨y, hy⟩ : ∃ y, ks[i] = y := ⟨_, rfl⟩
      rw [hy] at k0 k1 k2 k3 hkx hih htk hks htl
      obtain ⟨Y, hY1, hY2⟩ : ∃ Y : ByteArray, strV (y.txt rowF) = .string Y ∧ Y.data.toList = y.txt rowF := ⟨_, rfl, rfl⟩
      have hYs : Y.size ≤ 1050000 * 50000 := by
        rw [← hY2] at htl
        have h3 : Y.data.toList.length = Y.size := Array.length_toList
        omega
      rw [hY1] at hih
      have HKS := Lib.hid (NdV.mk hkx); have HH := Lib.hid hih; have HTK := Lib.hid htk; have HY := Lib.hid hY2
      have hbw := HBR.out
      have d0 : wr.cell? ⟨kb, ko + i * 4, none⟩ = some (.int .i64 y.k) := (hbw.cell (p := ⟨kb, ko + i * 4, none⟩) hkw).trans k0
      have d1 : wr.cell? ⟨kb, ko + i * 4 + 1, none⟩ = some (.string y.t) := (hbw.cell (p := ⟨kb, ko + i * 4 + 1, none⟩) hkw).trans k1
      have d2 : wr.cell? ⟨kb, ko + i * 4 + 2, none⟩ = some (.string y.v) := (hbw.cell (p := ⟨kb, ko + i * 4 + 2, none⟩) hkw).trans k2
      have d3 : wr.cell? ⟨kb, ko + i * 4 + 3, none⟩ = some (.slice ay y.kids.length cy) := (hbw.cell (p := ⟨kb, ko + i * 4 + 3, none⟩) hkw).trans k3
      have hkl2 : kb < wr.heap.size := Nat.lt_of_lt_of_le hkw hbw.size
      clear k0 k1 k2 k3 hkx hih htk hy hbw hmem hY1 hY2 htl hks hkok
      by_cases h0 : i = 0
      · subst h0
        have HO0 := Lib.hid (show O.data.toList = [] by rw [HO.out]; rfl)
        have HT0 := Lib.hid (show (Nd.txts rowF ks).take 0 = [] from rfl)
        rw [Nat.zero_mul, Nat.add_zero] at d0 d1 d2 d3
        go_wp2_with fail
        refine (HH.out _ _ _ (HKS.out.below HBR.out)).mono ?_
        rintro e w3 ⟨rfl, hb⟩
        have HB3 := Lib.hid (bthen HBR.out hb)
        have HX3 := Lib.hid ((hb.block _ hxl).trans HXR.out)
        have HO3 := Lib.hid (show (O ++ Y).data.toList = Lib.join ((Nd.txts rowF ks).take (0 + 1)) [44, 32] by
          rw [HTK.out, join_snoc, if_pos HT0.out, ByteArray.data_append, Array.toList_append, HY.out, HO0.out]; rfl)
        clear hb d0 d1 d2 d3 x0 x1 x2 x3 hxl
        go_wp2_with fail
        go_roundw
        case rel => exact ⟨1, O ++ Y, by omega, by go_num, rfl, HO3.out, HX3.out, HB3.out⟩
        case measure => simp [intOf]; omega
      · have hi2 : (0 : Int) < (i : Int) := by omega
        have hOP : (O ++ (⟨#[44, 32]⟩ : ByteArray)).size ≤ 1050000 * 50000 + 2 := by
          rw [ByteArray.size_append]
          have : (⟨#[44, 32]⟩ : ByteArray).size ≤ 2 := by decide
          omega
        have HO2 := Lib.hid (show (O ++ (⟨#[44, 32]⟩ : ByteArray)).data.toList = Lib.join ((Nd.txts rowF ks).take i) [44, 32] ++ [44, 32] by
          rw [ByteArray.data_append, Array.toList_append, HO.out])
        go_wp2_with fail
        refine (HH.out _ _ _ (HKS.out.below HBR.out)).mono ?_
        rintro e w3 ⟨rfl, hb⟩
        have HB3 := Lib.hid (bthen HBR.out hb)
        have HX3 := Lib.hid ((hb.block _ hxl).trans HXR.out)
        have HO3 := Lib.hid (show (O ++ (⟨#[44, 32]⟩ : ByteArray) ++ Y).data.toList = Lib.join ((Nd.txts rowF ks).take (i + 1)) [44, 32] by
          rw [HTK.out, join_snoc, if_neg (fun e => h0 (by have h8 : ((Nd.txts rowF ks).take i).length = i := (by rw [List.length_take, HTL.out]; omega); rw [e] at h8; exact h8.symm)), ByteArray.data_append, Array.toList_append, HY.out, HO2.out])
        clear hb d0 d1 d2 d3 x0 x1 x2 x3 hxl
        go_wp2_with fail
        go_roundw
        case rel => exact ⟨i + 1, O ++ (⟨#[44, 32]⟩ : ByteArray) ++ Y, by omega, by go_num, rfl, HO3.out, HX3.out, HB3.out⟩
        case measure => simp [intOf]; omega
    · obtain rfl : i = ks.length := by omega
      have hi1 : ¬ ((ks.length : Nat) : Int) < (ks.length : Int) := by omega
      have HJE := Lib.hid (show O.data.toList = Lib.join (Nd.txts rowF ks) [44, 32] by
        have h := HO.out
        rw [List.take_of_length_le (by rw [HTL.out]; exact Nat.le_refl _)] at h
        exact h)
      clear HO
      by_cases h1 : k = 1
      · subst h1
        go_wp2_with fail
        go_ret
        exact ⟨rfl, HBR.out⟩
      by_cases h4 : k = 4
      · subst h4
        go_wp2_with fail
        refine (refQuote_any t wr HOK.out.1.t).mono ?_
        rintro e w5 ⟨rfl, hb⟩
        have HB5 := Lib.hid (bthen HBR.out hb)
        clear hb
        go_wp2_with fail
        go_ret
        exact ⟨by rw [strV_q]; rfl, HB5.out⟩
      by_cases h5 : k = 5
      · subst h5
        go_wp2_with fail
        go_ret
        refine ⟨congrArg _ (strV_of ?_), HBR.out⟩
        show _ = 91 :: (Lib.join (Nd.txts rowF ks) [44, 32] ++ [93])
        rw [← HJE.out, ByteArray.data_append, ByteArray.data_append, Array.toList_append, Array.toList_append]; simp
      by_cases h7 : k = 7
      · subst h7
        go_wp2_with fail
        go_ret
        refine ⟨congrArg _ (strV_of ?_), HBR.out⟩
        show _ = 123 :: (Lib.join (Nd.txts rowF ks) [44, 32] ++ [125])
        rw [← HJE.out, ByteArray.data_append, ByteArray.data_append, Array.toList_append, Array.toList_append]; simp
      by_cases h8 : k = 8
      · subst h8
        go_wp2_with fail
        refine (refWord_any t wr HOK.out.1.t).mono ?_
        rintro e w5 ⟨rfl, hb⟩
        have HB5 := Lib.hid (bthen HBR.out hb)
        have hwl := word_len t HOK.out.1.t
        obtain ⟨Y, hY⟩ : ∃ Y, (wordP t).1 = Y := ⟨_, rfl⟩
        rw [hY] at hwl
        rw [hY]
        have hYs : Y.size ≤ 1048576 := hwl
        have HY := Lib.hid hY
        clear hb hwl hY
        go_wp2_with fail
        go_ret
        refine ⟨congrArg _ (strV_of ?_), HB5.out⟩
        show _ = (wordP t).1.data.toList ++ 32 :: 61 :: 32 :: Lib.join (Nd.txts rowF ks) [44, 32]
        rw [HY.out, ← HJE.out, ByteArray.data_append, ByteArray.data_append, Array.toList_append, Array.toList_append]; simp
      · have q1 : (k == 1) = false := by simp [h1]
        have q4 : (k == 4) = false := by simp [h4]
        have q5 : (k == 5) = false := by simp [h5]
        have q7 : (k == 7) = false := by simp [h7]
        have q8 : (k == 8) = false := by simp [h8]
        have HR := Lib.hid (show rowF k t v (Nd.txts rowF ks) = t.data.toList by unfold rowF; rw [if_neg h1, if_neg h4, if_neg h5, if_neg h7, if_neg h8])
        go_wp2_with fail
        go_ret
        exact ⟨by rw [HR.out]; exact congrArg Ending.returned (strV_t t), HBR.out⟩
end Go.Proofs.YtaolnpiemeaabaaGreatDoor

/- The walks of carry.Row and of hexaplaref15.Elems. -/
namespace Go.Proofs.YtaolnpiemeaabaaGreatDoor
open Go.RowKit Ev5
set_option linter.unusedSimpArgs false
set_option linter.unusedVariables false

mutual
/-- Is there an Elem in a node? -/
def Nd.elems : Nd → Bool
  | .mk k t v ks => decide (k = 10) || Nd.elemss ks
def Nd.elemss : List Nd → Bool
  | [] => false
  | n :: r => n.elems || Nd.elemss r
end
theorem elems_mk (k : Int) (t v : ByteArray) (ks : List Nd) : (Nd.mk k t v ks).elems = (decide (k = 10) || Nd.elemss ks) := by rw [Nd.elems]
theorem elemss_any (l : List Nd) : Nd.elemss l = l.any Nd.elems := by
  induction l with
  | nil => rw [Nd.elemss]; rfl
  | cons x r ih => rw [Nd.elemss, ih, List.any_cons]
theorem elems_any (n : Nd) : n.elems = (decide (n.k = 10) || n.kids.any Nd.elems) := by
  cases n with
  | mk k t v ks => rw [elems_mk, elemss_any]; rfl
theorem kidsO_none_iff {out : Nat → Option (List Int)} {m : Nat} : kidsO out m = none ↔ ∀ j, j < m → out j = none := by
  constructor
  · intro h j hj
    cases ho : out j with
    | none => rfl
    | some q =>
      exfalso
      -- the first that is told
      obtain ⟨i, hi, h1⟩ : ∃ i, (∃ q, i < m ∧ out i = some q) ∧ ∀ j, j < i → out j = none := by
        have key : ∀ N j, j ≤ N → j < m → (∃ q, out j = some q) → ∃ i, (∃ q, i < m ∧ out i = some q) ∧ ∀ j, j < i → out j = none := by
          intro N
          induction N with
          | zero =>
            intro j hj hm ⟨q, hq⟩
            exact ⟨j, ⟨q, hm, hq⟩, fun k hk => by omega⟩
          | succ N ih =>
            intro j hj hm ⟨q, hq⟩
            by_cases hex : ∃ k, k < j ∧ ∃ q, out k = some q
            · obtain ⟨k, hk, hq2⟩ := hex
              exact ih k (by omega) (by omega) hq2
            · refine ⟨j, ⟨q, hm, hq⟩, fun k hk => ?_⟩
              cases hk2 : out k with
              | none => rfl
              | some q2 => exact absurd ⟨k, hk, q2, hk2⟩ hex
        exact key j j (Nat.le_refl _) hj ⟨q, ho⟩
      obtain ⟨q2, hi2, hq2⟩ := hi
      rw [kidsO_some hi2 h1 hq2] at h
      cases h
  · exact kidsO_none
theorem firstB_elems : ∀ (N : Nat) (n : Nd) (way : List Nd) (p : List Int), n.size ≤ N → (firstP tpB way n p = none ↔ n.elems = false) := by
  intro N
  induction N with
  | zero => intro n way p hn; have := kids_size n; omega
  | succ N ih =>
    intro n way p hn
    rw [elems_any]
    by_cases hk : n.k = 10
    · rw [firstP_no (by rw [tpB_last, hk]; rfl)]
      simp [hk]
    · rw [firstP_kids (by rw [tpB_last]; simp [hk]), kidsO_none_iff, decide_eq_false hk, Bool.false_or, List.any_eq_false]
      constructor
      · intro h x hx
        obtain ⟨i, hi, rfl⟩ := List.getElem_of_mem hx
        have h2 := h i hi
        rw [dif_pos hi] at h2
        have := (ih n.kids[i] (way ++ [n]) (p ++ [(i : Int)]) (by have := kid_size (n := n) hi; omega)).1 h2
        rw [this]; simp
      · intro h j hj
        rw [dif_pos hj]
        refine (ih n.kids[j] (way ++ [n]) (p ++ [(j : Int)]) (by have := kid_size (n := n) hj; omega)).2 ?_
        have := h _ (List.getElem_mem hj)
        simpa using this
/-- What carry.Row tells besides the text. -/
theorem ofB_err (n : Nd) : (ofP tpB n).2 = if n.wh ≠ 0 then n.wh else if n.elems = true then 20 else 0 := by
  unfold ofP
  by_cases h : n.wh ≠ 0
  · rw [if_pos h, if_pos h]
  · rw [if_neg h, if_neg h]
    have h2 := firstB_elems n.size n [] [] (Nat.le_refl _)
    cases ho : firstP tpB [] n [] with
    | none => rw [h2.1 ho]; rfl
    | some q =>
      have : n.elems = true := by
        cases he : n.elems with
        | true => rfl
        | false => rw [h2.2 he] at ho; cases ho
      rw [this]; rfl
set_option maxRecDepth 100000 in
set_option maxHeartbeats 8000000 in
theorem refElems_any (n : Nd) : n.size ≤ 50000 → ∀ (w : World) (S : Nat → Prop) (nv : Value), NdV w S nv n →
    Calls Tryz.prog 110 #[nv] w fun e w' => e = .returned (.bool n.elems) ∧ Below w.heap.size w w' := by
  refine Nd.ind (C := fun n => n.size ≤ 50000 → ∀ (w : World) (S : Nat → Prop) (nv : Value), NdV w S nv n → Calls Tryz.prog 110 #[nv] w fun e w' => e = .returned (.bool n.elems) ∧ Below w.heap.size w w') ?_ n
  intro k t v ks ih hsz w S nv hv
  rw [size_mk] at hsz
  have hkl : ks.length ≤ 50000 := by have := sizes_len ks; omega
  obtain ⟨u, rfl, hs⟩ := hv
  simp only [ndV, Nd.k, Nd.t, Nd.v, Nd.kids] at hs ⊢
  obtain ⟨ao, cap, rfl, hcap, hcm⟩ := hs.shape
  have HS := Lib.hid hs.ltC; have HSZ := Lib.hid hsz; have HIH := Lib.hid ih
  have HX := Lib.hid (heap_alloc_new w (.cells #[.int .i64 k, .string t, .string v, .slice ao ks.length cap] 24))
  have HB0 := Lib.hid (show Below w.heap.size w (w.alloc (.cells #[.int .i64 k, .string t, .string v, .slice ao ks.length cap] 24)) from (Below.refl _ _).alloc (Nat.le_refl _) _)
  clear hs hsz ih
  rw [elems_mk, elemss_any]
  unfold maxLen at *
  by_cases hk : k = 10
  · subst hk
    go_enter Tryz.func110, Tryz.ntmps110
    go_wp2_with fail
    go_ret
    exact ⟨rfl, HB0.out⟩
  have hkb : (k == 10) = false := by simp [hk]
  rw [decide_eq_false hk, Bool.false_or]
  go_enter Tryz.func110, Tryz.ntmps110
  go_wp2_with fail
  go_loopw [3] (fun v3 wr => ∃ i : Nat, i ≤ ks.length ∧ v3 = .int .i64 i ∧ Hid ((ks.take i).any Nd.elems = false) ∧ Hid (wr.heap[w.heap.size]? = some (.cells #[.int .i64 k, .string t, .string v, .slice ao ks.length cap] 24 (0, 0))) ∧ Hid (Below w.heap.size w wr)) (fun v3 _ => ks.length - (intOf v3).toNat)
  case atStart => exact ⟨0, Nat.zero_le _, rfl, rfl, HX.out, HB0.out⟩
  case round =>
    obtain ⟨i, hi, rfl, HA, HXR, HBR⟩ := hrel
    obtain ⟨x0, x1, x2, x3, _, _, _, _, hxl⟩ := nd_cells HXR.out
    by_cases hlt : i < ks.length
    · have hi0 : (0 : Int) ≤ (i : Int) := Int.natCast_nonneg _
      have hi1 : (i : Int) < (ks.length : Int) := by omega
      obtain ⟨kb, ko, kx, hko, hkw, k0, k1, k2, k3, hkx⟩ := HS.out.at_ i hlt
      obtain ⟨ay, cy, rfl, _, _⟩ := hkx.shape
      subst hko
      have hmem := List.getElem_mem hlt
      have hih := HIH.out ks[i] hmem (by have := size_mem hmem; have := HSZ.out; omega)
      have htk : (ks.take (i + 1)).any Nd.elems = ((ks.take i).any Nd.elems || ks[i].elems) := by
        rw [List.take_add_one, List.getElem?_eq_getElem hlt, List.any_append]; simp
      have hall : ks[i].elems = true → ks.any Nd.elems = true := fun h => List.any_eq_true.2 ⟨_, hmem, h⟩
      obtain ⟨y, hy⟩ : ∃ y, ks[i] = y := ⟨_, rfl⟩
      rw [hy] at k0 k1 k2 k3 hkx hih htk hall
      obtain ⟨Z, hZ⟩ : ∃ Z, y.elems = Z := ⟨_, rfl⟩
      rw [hZ] at hih htk hall
      have HKS := Lib.hid (NdV.mk hkx); have HH := Lib.hid hih; have HTK := Lib.hid htk; have HAL := Lib.hid hall
      have hbw := HBR.out
      have d0 : wr.cell? ⟨kb, ko + i * 4, none⟩ = some (.int .i64 y.k) := (hbw.cell (p := ⟨kb, ko + i * 4, none⟩) hkw).trans k0
      have d1 : wr.cell? ⟨kb, ko + i * 4 + 1, none⟩ = some (.string y.t) := (hbw.cell (p := ⟨kb, ko + i * 4 + 1, none⟩) hkw).trans k1
      have d2 : wr.cell? ⟨kb, ko + i * 4 + 2, none⟩ = some (.string y.v) := (hbw.cell (p := ⟨kb, ko + i * 4 + 2, none⟩) hkw).trans k2
      have d3 : wr.cell? ⟨kb, ko + i * 4 + 3, none⟩ = some (.slice ay y.kids.length cy) := (hbw.cell (p := ⟨kb, ko + i * 4 + 3, none⟩) hkw).trans k3
      have hkl2 : kb < wr.heap.size := Nat.lt_of_lt_of_le hkw hbw.size
      clear k0 k1 k2 k3 hkx hih htk hy hbw hmem hZ hall
      go_wp2_with fail
      refine (HH.out _ _ _ (HKS.out.below HBR.out)).mono ?_
      rintro e w3 ⟨rfl, hb⟩
      have HB3 := Lib.hid (bthen HBR.out hb)
      have HX3 := Lib.hid ((hb.block _ hxl).trans HXR.out)
      clear hb d0 d1 d2 d3 x0 x1 x2 x3 hxl
      cases Z with
      | true =>
        go_wp2_with fail
        go_ret
        exact ⟨by rw [HAL.out trivial]; rfl, HB3.out⟩
      | false =>
        go_wp2_with fail
        go_roundw
        case rel => exact ⟨i + 1, by omega, by go_num, by show _ = _; rw [HTK.out, HA.out]; rfl, HX3.out, HB3.out⟩
        case measure => simp [intOf]; omega
    · obtain rfl : i = ks.length := by omega
      have hi1 : ¬ ((ks.length : Nat) : Int) < (ks.length : Int) := by omega
      have HE2 := Lib.hid (show ks.any Nd.elems = false by have h := HA.out; rwa [List.take_length] at h)
      go_wp2_with fail
      go_ret
      exact ⟨by rw [HE2.out]; rfl, HBR.out⟩
set_option maxRecDepth 100000 in
set_option maxHeartbeats 8000000 in
/-- carry.Row: a node in one row, or why not. -/
theorem carryRow_any (n : Nd) (w : World) (S : Nat → Prop) (v : Value) (hE : EnvU w) (hv : NdV w S v n) (hok : n.ok) (hsz : n.size ≤ 50000) :
    Calls Tryz.prog 47 #[v] w fun e w' => e = .returned (.tuple #[strV (if (ofP tpB n).2 = 0 then n.txt rowF else []), .int .i64 (ofP tpB n).2]) ∧ Below w.heap.size w w' := by
  obtain ⟨u, rfl, hs⟩ := hv
  obtain ⟨ao, cap, rfl, hcap, hcm⟩ := hs.shape
  have HV := Lib.hid (NdV.mk hs.ltC); have HE := Lib.hid hE; have HOK := Lib.hid hok; have HSZ := Lib.hid hsz
  have HWL := Lib.hid (show n.walk.length ≤ 100000 by have := walk_len n; omega)
  have HX := Lib.hid (heap_alloc_new w (.cells #[.int .i64 n.k, .string n.t, .string n.v, .slice ao n.kids.length cap] 24))
  have HB0 := Lib.hid (show Below w.heap.size w (w.alloc (.cells #[.int .i64 n.k, .string n.t, .string n.v, .slice ao n.kids.length cap] 24)) from (Below.refl _ _).alloc (Nat.le_refl _) _)
  obtain ⟨R, hR⟩ : ∃ R, (ofP tpB n).2 = R := ⟨_, rfl⟩
  rw [hR]
  obtain ⟨T, hT⟩ : ∃ T, (if R = 0 then n.txt rowF else []) = T := ⟨_, rfl⟩
  rw [hT]
  have HR := Lib.hid hR; have HT := Lib.hid hT
  clear hs hE hok hsz hT hR
  unfold ndV
  go_enter Tryz.func47, Tryz.ntmps47
  go_wp2_with fail
  refine (treeMay_any n _ _ _ (HE.out.below HB0.out) (HV.out.below HB0.out) (fun b hb => Nat.lt_of_lt_of_le hb HB0.out.size) HOK.out HWL.out).mono ?_
  rintro e w2 ⟨rfl, hb⟩
  have HX2 := Lib.hid ((hb.block _ (lt_blk HX.out)).trans HX.out)
  have HB2 := Lib.hid (bthen HB0.out hb)
  obtain ⟨x0, x1, x2, x3, _, _, _, _, hxl⟩ := nd_cells HX2.out
  obtain ⟨E, hEq⟩ : ∃ E, (wholeP RP (n.walk.map GoEv.ev)).2 = E := ⟨_, rfl⟩
  have HEQ := Lib.hid (show n.wh = E from hEq)
  rw [hEq]
  clear hb hEq
  by_cases hz : E = 0
  · subst hz
    go_wp2_with fail
    refine (carryBrace_any n w2 _ _ (HE.out.below HB2.out) (HV.out.below HB2.out) HOK.out HSZ.out).mono ?_
    rintro e w3 ⟨hb, a, len, c, rfl, _⟩
    have HX3 := Lib.hid ((hb.block _ hxl).trans HX2.out)
    have HB3 := Lib.hid (bthen HB2.out hb)
    clear x0 x1 x2 x3 hxl hb
    obtain ⟨x0, x1, x2, x3, _, _, _, _, hxl⟩ := nd_cells HX3.out
    rw [HR.out]
    by_cases hz2 : R = 0
    · have HT2 := Lib.hid (HT.out.symm.trans (if_pos hz2))
      subst hz2
      go_wp2_with fail
      refine (row_any n HOK.out HSZ.out w3 _ _ (HE.out.below HB3.out) (HV.out.below HB3.out)).mono ?_
      rintro e w4 ⟨rfl, hb⟩
      have HB4 := Lib.hid (bthen HB3.out hb)
      clear hb
      obtain ⟨Y, hY⟩ : ∃ Y : ByteArray, strV (n.txt rowF) = .string Y := ⟨_, rfl⟩
      have HY := Lib.hid hY
      rw [hY]
      clear hY
      go_wp2_with fail
      go_ret2
      exact ⟨by rw [HT2.out, HY.out]; rfl, HB4.out⟩
    · have hzb : (R != 0) = true := by simp [hz2]
      have HT2 := Lib.hid (HT.out.symm.trans (if_neg hz2))
      go_wp2_with fail
      go_ret2
      exact ⟨by rw [HT2.out]; rfl, HB3.out⟩
  · have hzb : (E != 0) = true := by simp [hz]
    have HP := Lib.hid (show R = E by rw [← HR.out, ofB_err, if_pos (by rw [HEQ.out]; exact hz), HEQ.out])
    have HT2 := Lib.hid (HT.out.symm.trans (if_neg (by rw [HP.out]; exact hz)))
    go_wp2_with fail
    go_ret2
    exact ⟨by rw [HP.out, HT2.out]; rfl, HB2.out⟩
end Go.Proofs.YtaolnpiemeaabaaGreatDoor

/- carry.Of where no look is begun, or the delim syntax's ends at once; the walk of lives (layer 15). -/
namespace Go.Proofs.YtaolnpiemeaabaaGreatDoor
open Go.RowKit Ev5
set_option linter.unusedSimpArgs false
set_option linter.unusedVariables false

def tpD0 (l : List Nd) : Bool := match l with
  | [n] => decide (n.k = 5)
  | _ => true
theorem firstD0 {n : Nd} (h : n.k ≠ 5) : firstP tpD0 [] n [] = some [] := firstP_no (by simp [tpD0, h])
set_option maxRecDepth 100000 in
set_option maxHeartbeats 2000000 in
theorem delimNo_any (n : Nd) (hk5 : n.k ≠ 5) (w : World) (B X : Nat) (v : Value) (p : List Int) (S : Nat → Prop) (nv : Value) (hlk : Lk w B X v p) (hv : NdV w S nv n) (hl : p.length ≤ 100000) :
    Calls Tryz.prog 39 #[.pointer (some ⟨X, 0, none⟩), nv] w (LkEnd B X v p (some p) w) := by
  obtain ⟨u, rfl, hs⟩ := hv
  obtain ⟨ao, cap, rfl, hcap, hcm⟩ := hs.shape
  have hb := ((Below.refl w.heap.size w).alloc (Nat.le_refl _) (.cells #[.pointer (some ⟨X, 0, none⟩)] 51)).alloc (by simp) (.cells #[.int .i64 n.k, .string n.t, .string n.v, .slice ao n.kids.length cap] 24)
  have H := Lib.hid hlk; have HB := Lib.hid hb
  have hkb : (n.k != 5) = true := by simp [hk5]
  clear hlk hs hb hk5
  unfold ndV
  go_enter Tryz.func39, Tryz.ntmps39
  go_wp2_with fail
  refine (fails_any _ B X v p (H.out.below HB.out) (by omega)).mono ?_
  intro e w3 he
  have he2 : LkEnd B X v p (some p) w e w3 := he.after HB.out
  obtain ⟨hfar, a, c, rfl, hints⟩ := he2
  have HF2 := Lib.hid hfar; have HI := Lib.hid hints
  clear hfar hints he
  go_wp2_with fail
  exact ⟨rfl, HF2.out, a, c, rfl, HI.out⟩
set_option maxRecDepth 100000 in
set_option maxHeartbeats 4000000 in
/-- carry.Of of the delim syntax, at a node that is no list. -/
theorem carryDelimNo_any (n : Nd) (hk5 : n.k ≠ 5) (w : World) (S : Nat → Prop) (v : Value) (hE : EnvU w) (hv : NdV w S v n) (hok : n.ok) (hN : n.size ≤ 50000) :
    Calls Tryz.prog 22 #[.int .i64 5, v] w (OfPost (ofP tpD0 n) w) := by
  obtain ⟨u, rfl, hs⟩ := hv
  obtain ⟨ao, cap, rfl, hcap, hcm⟩ := hs.shape
  have HV := Lib.hid (NdV.mk hs.ltC); have HE := Lib.hid hE; have HOK := Lib.hid hok; have HN := Lib.hid hN
  have HWL := Lib.hid (show n.walk.length ≤ 100000 by have := walk_len n; omega)
  have hmf : ∀ (fn : Fn) (first cap : Array Value) (w : World), (Instr.makeFunc fn first cap).run Tryz.prog w = .ok (.func fn first cap) w := fun _ _ _ _ => rfl
  clear hs hE hok hN
  unfold ndV
  go_enter_defers Tryz.func22, Tryz.ntmps22
  have h3 := threeC w (.cells #[.int .i64 n.k, .string n.t, .string n.v, .slice ao n.kids.length cap] 24) (.cells #[.slice none 0 0] 27) (.cells #[.int .i64 0] 28)
  have H3 := Lib.hid h3
  clear h3
  go_wp2_with fail
  refine (treeMay_any n _ _ _ (HE.out.below H3.out.2.2.2) (HV.out.below H3.out.2.2.2) (fun b hb => Nat.lt_of_lt_of_le hb H3.out.2.2.2.size) HOK.out HWL.out).mono ?_
  rintro e w2 ⟨rfl, hb⟩
  have hx0 := (hb.block _ (lt_blk H3.out.1)).trans H3.out.1
  have hx1 := (hb.block _ (lt_blk H3.out.2.1)).trans H3.out.2.1
  have hx2 := (hb.block _ (lt_blk H3.out.2.2.1)).trans H3.out.2.2.1
  have HB2 := Lib.hid (bthen H3.out.2.2.2 hb)
  obtain ⟨x0, x1, x2, x3, _, _, _, _, hxl⟩ := nd_cells hx0
  obtain ⟨P5, h5⟩ : ∃ P5, w.heap.size + 1 + 1 = P5 := ⟨_, rfl⟩
  obtain ⟨P4, h4⟩ : ∃ P4, w.heap.size + 1 = P4 := ⟨_, rfl⟩
  have hne : P5 ≠ P4 := by omega
  have hne' : P4 ≠ P5 := by omega
  have HLO := Lib.hid (show w.heap.size ≤ P4 ∧ w.heap.size ≤ P5 by omega)
  rw [h5] at hx2
  rw [h4] at hx1
  rw [h5, h4]
  have HX := Lib.hid (And.intro hx1 hx2)
  have hl4 := lt_blk hx1
  have hl5 := lt_blk hx2
  obtain ⟨c4, g4⟩ := blk_cell hx1 0 (by simp)
  obtain ⟨c5, g5⟩ := blk_cell hx2 0 (by simp)
  obtain ⟨E, hE⟩ : ∃ E, (wholeP RP (n.walk.map GoEv.ev)).2 = E := ⟨_, rfl⟩
  have HEQ := Lib.hid (show n.wh = E from hE)
  rw [hE]
  clear hb hx0 hx1 hx2 hE h4 h5
  by_cases hz : E = 0
  · subst hz
    have HLK := Lib.hid (show ∀ W : World, Below w.heap.size w W → Lk (W.alloc (.cells #[.slice none 0 0] 52)) W.heap.size W.heap.size (.slice none 0 0) [] from fun W _ => ⟨heap_alloc_new W _, World.ownsRow_nil _ _ _ _, (by simp [Value.ownBlock]), Nat.le_refl _, fun x hx => by cases hx⟩)
    go_wp2_with fail
    have hlk := HLK.out w2 HB2.out
    have hbl : Below w2.heap.size w2 (w2.alloc (.cells #[.slice none 0 0] 52)) := (Below.refl _ _).alloc (Nat.le_refl _) _
    have hnv := HV.out.below (bthen HB2.out hbl)
    refine (delimNo_any n hk5 _ w2.heap.size w2.heap.size (.slice none 0 0) [] _ _ hlk hnv (by simp)).mono ?_
    intro e w3 he
    rw [← firstD0 hk5] at he
    have hfar : LkFar w2.heap.size (.slice none 0 0) (w2.alloc (.cells #[.slice none 0 0] 52)) w3 := by
      cases ho : firstP tpD0 [] n [] with
      | none => rw [ho] at he; obtain ⟨_, v', hp⟩ := he; exact hp.far
      | some q => rw [ho] at he; exact he.1
    have hb3 : Below w2.heap.size w2 w3 := by
      refine ⟨hfar.os, hfar.tape, hfar.output, Nat.le_trans hbl.size hfar.size, fun k hk => ?_⟩
      rw [hfar.oth k (Nat.lt_of_lt_of_le hk hbl.size) (by omega) (by simp [Value.ownBlock])]
      exact hbl.block k hk
    have HB3 := Lib.hid hb3
    have hx4 := (hb3.block _ hl4).trans HX.out.1
    have hx5 := (hb3.block _ hl5).trans HX.out.2
    have HX3 := Lib.hid (And.intro hx4 hx5)
    have hl43 := lt_blk hx4
    have hl53 := lt_blk hx5
    clear c4 g4 c5 g5 hl4 hl5 x0 x1 x2 x3 hxl hnv hlk hfar hb3
    obtain ⟨c4, g4⟩ := blk_cell hx4 0 (by simp)
    obtain ⟨c5, g5⟩ := blk_cell hx5 0 (by simp)
    clear hx4 hx5
    cases ho : firstP tpD0 [] n [] with
    | none =>
      rw [ho] at he
      obtain ⟨⟨rr, rfl⟩, v', hp⟩ := he
      have HP := Lib.hid (show ofP tpD0 n = (none, 0) by unfold ofP; rw [if_neg (by rw [HEQ.out]; simp), ho])
      clear hp
      go_wp2_with fail
      obtain ⟨W9, hW9⟩ : ∃ W9, (w3.setCell ⟨P4, 0, none⟩ (.slice none 0 0)).setCell ⟨P5, 0, none⟩ (.int .i64 0) = W9 := ⟨_, rfl⟩
      have hk := two_vars HX3.out.1 HX3.out.2 hne' (.slice none 0 0) (.int .i64 0)
      rw [hW9] at hk
      have k4 : W9.cell? ⟨P4, 0, none⟩ = some (.slice none 0 0) := (blk_cell hk.1 0 (by simp)).1
      have k5 : W9.cell? ⟨P5, 0, none⟩ = some (.int .i64 0) := (blk_cell hk.2 0 (by simp)).1
      have hbw : Below w.heap.size w W9 := by
        rw [← hW9]
        exact ((bthen HB2.out HB3.out).setCell (p := ⟨P4, 0, none⟩) HLO.out.1 _).setCell (p := ⟨P5, 0, none⟩) HLO.out.2 _
      rw [hW9]
      refine leaves_cons (f := 34) (args := #[.pointer (some ⟨P4, 0, none⟩), .pointer (some ⟨P5, 0, none⟩)]) (by simp) (by simp [go_sem]) ?_
      refine (of1_idle ⟨P4, 0, none⟩ ⟨P5, 0, none⟩ W9).mono ?_
      rintro e u' w'' ⟨rfl, rfl, hb⟩
      have m4 : w''.cell? ⟨P4, 0, none⟩ = some (.slice none 0 0) := by rw [hb.cell (p := ⟨P4, 0, none⟩) (cell_lt k4)]; exact k4
      have m5 : w''.cell? ⟨P5, 0, none⟩ = some (.int .i64 0) := by rw [hb.cell (p := ⟨P5, 0, none⟩) (cell_lt k5)]; exact k5
      have hbb := bthen hbw hb
      simp [Leaves, settle, results, Tryz.results22, go_sem, m4, m5]
      rw [HP.out]
      exact ⟨hbb, none, 0, 0, rfl, rfl⟩
    | some q =>
      rw [ho] at he
      obtain ⟨_, a, c, rfl, hints⟩ := he
      have HP := Lib.hid (show ofP tpD0 n = (some q, 20) by unfold ofP; rw [if_neg (by rw [HEQ.out]; simp), ho])
      have HI := Lib.hid hints
      clear hints
      go_wp2_with fail
      refine leaves_cons (f := 34) (args := #[.pointer (some ⟨P4, 0, none⟩), .pointer (some ⟨P5, 0, none⟩)]) (by simp) (by simp [go_sem]) ?_
      refine (of1_catch P4 P5 a q.length c [] w3 _ _ HX3.out.1 HX3.out.2 hne').mono ?_
      rintro e u' w'' ⟨rfl, rfl, hw⟩
      obtain ⟨W9, hW9⟩ : ∃ W9, (w3.setCell ⟨P4, 0, none⟩ (.slice a q.length c)).setCell ⟨P5, 0, none⟩ (.int .i64 20) = W9 := ⟨_, rfl⟩
      have hk := two_vars HX3.out.1 HX3.out.2 hne' (.slice a q.length c) (.int .i64 20)
      rw [hW9] at hk hw
      have hba : Below W9.heap.size W9 w'' := by rw [hw]; exact (Below.refl _ _).alloc (Nat.le_refl _) _
      have m4 : w''.cell? ⟨P4, 0, none⟩ = some (.slice a q.length c) := (blk_cell ((hba.block _ (lt_blk hk.1)).trans hk.1) 0 (by simp)).1
      have m5 : w''.cell? ⟨P5, 0, none⟩ = some (.int .i64 20) := (blk_cell ((hba.block _ (lt_blk hk.2)).trans hk.2) 0 (by simp)).1
      have hbw : Below w.heap.size w W9 := by
        rw [← hW9]
        exact ((bthen HB2.out HB3.out).setCell (p := ⟨P4, 0, none⟩) HLO.out.1 _).setCell (p := ⟨P5, 0, none⟩) HLO.out.2 _
      have hbb := bthen hbw hba
      have hii : IntsIn w'' (.slice a q.length c) q := by
        obtain ⟨ao, cp, e, h1, h2, h3⟩ := HI.out.ints.ex
        injection e with e1 e2 e3
        subst e1; subst e3
        refine ⟨⟨a, c, rfl, h1, h2, fun i hi => ?_⟩, HI.out.ints.ok⟩
        obtain ⟨b, o, e, hc⟩ := h3 i hi
        refine ⟨b, o, e, ?_⟩
        have hnew := HI.out.new _ e
        have hb1 : w2.heap.size < b := by have h := hnew; simp at h; omega
        have hp4 := lt_blk HX.out.1
        have hp5 := lt_blk HX.out.2
        have hlt := cell_lt hc
        have h9 : W9.cell? ⟨b, o + i, none⟩ = some (.int .i64 q[i]) := by
          rw [← hW9, World.cell?_setCell_other _ _ _ _ (fun e => by injection e with e; omega), World.cell?_setCell_other _ _ _ _ (fun e => by injection e with e; omega)]; exact hc
        rw [hba.cell (p := ⟨b, o + i, none⟩) (cell_lt h9)]
        exact h9
      simp [Leaves, settle, results, Tryz.results22, go_sem, m4, m5]
      rw [HP.out]
      exact ⟨hbb, a, q.length, c, rfl, rfl, hii⟩
  · have hzb : (E != 0) = true := by simp [hz]
    go_wp2_with fail
    obtain ⟨W9, hW9⟩ : ∃ W9, (w2.setCell ⟨P4, 0, none⟩ (.slice none 0 0)).setCell ⟨P5, 0, none⟩ (.int .i64 E) = W9 := ⟨_, rfl⟩
    have hk := two_vars HX.out.1 HX.out.2 hne' (.slice none 0 0) (.int .i64 E)
    rw [hW9] at hk
    have k4 : W9.cell? ⟨P4, 0, none⟩ = some (.slice none 0 0) := (blk_cell hk.1 0 (by simp)).1
    have k5 : W9.cell? ⟨P5, 0, none⟩ = some (.int .i64 E) := (blk_cell hk.2 0 (by simp)).1
    have hbw : Below w.heap.size w W9 := by
      rw [← hW9]
      exact (HB2.out.setCell (p := ⟨P4, 0, none⟩) HLO.out.1 _).setCell (p := ⟨P5, 0, none⟩) HLO.out.2 _
    rw [hW9]
    have hP := Lib.hid (show ofP tpD0 n = (none, E) by unfold ofP; rw [if_pos (by rw [HEQ.out]; exact hz), HEQ.out])
    simp [bodyPostD, Leaves, settle, results, Tryz.results22, go_sem, k4, k5]
    rw [hP.out]
    exact ⟨hbw, none, 0, 0, rfl, rfl⟩
set_option maxRecDepth 100000 in
set_option maxHeartbeats 2000000 in
/-- carry.Of of no syntax. -/
theorem carryNone_any (n : Nd) (w : World) (S : Nat → Prop) (v : Value) (hv : NdV w S v n) :
    Calls Tryz.prog 22 #[.int .i64 7, v] w fun e w' => e = .returned (.tuple #[.slice none 0 0, .int .i64 50]) ∧ Below w.heap.size w w' := by
  obtain ⟨u, rfl, hs⟩ := hv
  obtain ⟨ao, cap, rfl, hcap, hcm⟩ := hs.shape
  have hmf : ∀ (fn : Fn) (first cap : Array Value) (w : World), (Instr.makeFunc fn first cap).run Tryz.prog w = .ok (.func fn first cap) w := fun _ _ _ _ => rfl
  have h3 := threeC w (.cells #[.int .i64 n.k, .string n.t, .string n.v, .slice ao n.kids.length cap] 24) (.cells #[.slice none 0 0] 27) (.cells #[.int .i64 50] 28)
  have H3 := Lib.hid h3
  clear hs h3
  unfold ndV
  go_enter_defers Tryz.func22, Tryz.ntmps22
  go_wp2_with fail
  obtain ⟨W9, hW9⟩ : ∃ W9, ((w.alloc (.cells #[.int .i64 n.k, .string n.t, .string n.v, .slice ao n.kids.length cap] 24)).alloc (.cells #[.slice none 0 0] 27)).alloc (.cells #[.int .i64 50] 28) = W9 := ⟨_, rfl⟩
  have H4 := Lib.hid H3.out
  clear H3
  rw [hW9] at H4
  rw [hW9]
  have k4 : W9.cell? ⟨w.heap.size + 1, 0, none⟩ = some (.slice none 0 0) := (blk_cell H4.out.2.1 0 (by simp)).1
  have k5 : W9.cell? ⟨w.heap.size + 1 + 1, 0, none⟩ = some (.int .i64 50) := (blk_cell H4.out.2.2.1 0 (by simp)).1
  simp [bodyPostD, Leaves, settle, results, Tryz.results22, go_sem, k4, k5]
  exact H4.out.2.2.2
end Go.Proofs.YtaolnpiemeaabaaGreatDoor

/- The looks of the delim syntax. -/
namespace Go.Proofs.YtaolnpiemeaabaaGreatDoor
open Go.RowKit Ev5
set_option linter.unusedSimpArgs false
set_option linter.unusedVariables false

/-- Texts in a row. -/
structure StrIn (w : World) (v : Value) (l : List ByteArray) : Prop where
  ex : ∃ (ao : Option Addr) (cap : Nat), v = .slice ao l.length cap ∧ l.length ≤ cap ∧ cap ≤ maxLen ∧
    ∀ (i : Nat) (h : i < l.length), ∃ b o, ao = some ⟨b, o, none⟩ ∧ w.cell? ⟨b, o + i, none⟩ = some (.string l[i])
theorem StrIn.below {w w' : World} {v : Value} {l : List ByteArray} (h : StrIn w v l) (hb : Below w.heap.size w w') : StrIn w' v l := by
  obtain ⟨ao, cap, h1, h2, h3, h4⟩ := h.ex
  refine ⟨ao, cap, h1, h2, h3, fun i hi => ?_⟩
  obtain ⟨b, o, e, c⟩ := h4 i hi
  exact ⟨b, o, e, by rw [hb.cell (p := ⟨b, o + i, none⟩) (cell_lt c)]; exact c⟩
def baR (l : List ByteArray) : List Value := l.map Value.string
theorem baR_len (l : List ByteArray) : (baR l).length = l.length := List.length_map ..
theorem baR_app (a b : List ByteArray) : baR (a ++ b) = baR a ++ baR b := List.map_append ..
theorem baR_one (l : List ByteArray) : ∀ u ∈ baR l, u.oneCell' = true := by
  intro u hu
  obtain ⟨x, _, rfl⟩ := List.mem_map.1 hu
  rfl
theorem strIn_own {w : World} {base : Nat} {v : Value} {l : List ByteArray} (h : w.ownsRow base 9 1 v l.length (baR l)) : StrIn w v l := by
  rcases h.2 with ⟨rfl, h0⟩ | ⟨g, cap, cur, rfl, hb, hg, hc, hm, hs, ht⟩
  · obtain rfl : l = [] := List.eq_nil_of_length_eq_zero h0
    exact ⟨none, 0, rfl, Nat.le_refl _, by decide, fun i hi => by simp at hi⟩
  · refine ⟨some ⟨g, 0, none⟩, cap, rfl, hc, hm, fun i hi => ⟨g, 0, rfl, ?_⟩⟩
    rw [cell_of_row w g (0 + i) _ _ _ hg, Nat.zero_add]
    have h1 : cur.toList.take (l.length * 1) = baR l := ht
    have h2 : (cur.toList.take (l.length * 1))[i]? = some (.string l[i]) := by rw [h1]; simp [baR, hi]
    rw [List.getElem?_take_of_lt (by omega)] at h2
    simpa using h2
/-- The keys of a node's fields. -/
def Nd.keys (n : Nd) : List ByteArray := n.kids.map Nd.t
set_option maxRecDepth 100000 in
set_option maxHeartbeats 8000000 in
theorem keys_any (n : Nd) (w : World) (S : Nat → Prop) (nv : Value) (hv : NdV w S nv n) (hk : n.kids.length ≤ 100000) :
    Calls Tryz.prog 57 #[nv] w fun e w' => (∃ v, e = .returned v ∧ StrIn w' v n.keys) ∧ Below w.heap.size w w' := by
  obtain ⟨u, rfl, hs⟩ := hv
  obtain ⟨ao, cap, rfl, hcap, hcm⟩ := hs.shape
  obtain ⟨i0, hinf, hz0, hz1, hz2⟩ := info_parts infoT
  have HI := Lib.hid hinf; have HS := Lib.hid hs.ltC
  have HTL := Lib.hid (show n.keys.length = n.kids.length from List.length_map ..)
  have HX := Lib.hid (heap_alloc_new w (.cells #[.int .i64 n.k, .string n.t, .string n.v, .slice ao n.kids.length cap] 24))
  have HB0 := Lib.hid (show Below w.heap.size w (w.alloc (.cells #[.int .i64 n.k, .string n.t, .string n.v, .slice ao n.kids.length cap] 24)) from (Below.refl _ _).alloc (Nat.le_refl _) _)
  clear hinf hs
  unfold ndV
  unfold maxLen at *
  go_enter Tryz.func57, Tryz.ntmps57
  go_wp2_with fail
  go_loopw [3, 9] (fun v3 v9 wr => ∃ i : Nat, i ≤ n.kids.length ∧ v9 = .int .i64 i ∧ Hid (wr.ownsRow (w.heap.size + 1) 9 1 v3 i (baR (n.keys.take i))) ∧ Hid (Below (w.heap.size + 1) (w.alloc (.cells #[.int .i64 n.k, .string n.t, .string n.v, .slice ao n.kids.length cap] 24)) wr)) (fun _ v9 _ => n.kids.length - (intOf v9).toNat)
  case atStart => exact ⟨0, Nat.zero_le _, rfl, World.ownsRow_nil _ _ _ _, Below.refl _ _⟩
  case round =>
    obtain ⟨i, hi, rfl, HO, HBW⟩ := hrel
    have HBR := Lib.hid (show Below w.heap.size w wr from HB0.out.trans (HBW.out.mono (by omega)))
    obtain ⟨va, vc, hva⟩ := own_shapeC HO.out
    subst hva
    by_cases hlt : i < n.kids.length
    · have hi0 : (0 : Int) ≤ (i : Int) := Int.natCast_nonneg _
      have hi1 : (i : Int) < (n.kids.length : Int) := by omega
      obtain ⟨kb, ko, kx, hko, hkw, k0, k1, k2, k3, hkx⟩ := HS.out.at_ i hlt
      obtain ⟨ay, cy, rfl, _, _⟩ := hkx.shape
      subst hko
      have htk : n.keys.take (i + 1) = n.keys.take i ++ [n.kids[i].t] := by
        rw [List.take_add_one, List.getElem?_eq_getElem (by rw [HTL.out]; exact hlt)]
        congr 1
        show [n.keys[i]'(by rw [HTL.out]; exact hlt)] = _
        simp [Nd.keys]
      obtain ⟨y, hy⟩ : ∃ y, n.kids[i] = y := ⟨_, rfl⟩
      rw [hy] at k0 k1 k2 k3 hkx htk
      have HTK := Lib.hid htk
      have hbw := HBR.out
      have d0 : wr.cell? ⟨kb, ko + i * 4, none⟩ = some (.int .i64 y.k) := (hbw.cell (p := ⟨kb, ko + i * 4, none⟩) hkw).trans k0
      have d1 : wr.cell? ⟨kb, ko + i * 4 + 1, none⟩ = some (.string y.t) := (hbw.cell (p := ⟨kb, ko + i * 4 + 1, none⟩) hkw).trans k1
      have d2 : wr.cell? ⟨kb, ko + i * 4 + 2, none⟩ = some (.string y.v) := (hbw.cell (p := ⟨kb, ko + i * 4 + 2, none⟩) hkw).trans k2
      have d3 : wr.cell? ⟨kb, ko + i * 4 + 3, none⟩ = some (.slice ay y.kids.length cy) := (hbw.cell (p := ⟨kb, ko + i * 4 + 3, none⟩) hkw).trans k3
      have hkl : kb < wr.heap.size := Nat.lt_of_lt_of_le hkw hbw.size
      have HW1 := Lib.hid (show w.heap.size + 1 ≤ wr.heap.size by have := HBW.out.size; simp at this; omega)
      have HOW := Lib.hid (owns_below (owns_below HO.out (show Below wr.heap.size wr (wr.alloc (.cells #[.int .i64 y.k, .string y.t, .string y.v, .slice ay y.kids.length cy] 24)) from (Below.refl _ _).alloc (Nat.le_refl _) _)) (show Below (wr.alloc (.cells #[.int .i64 y.k, .string y.t, .string y.v, .slice ay y.kids.length cy] 24)).heap.size _ ((wr.alloc (.cells #[.int .i64 y.k, .string y.t, .string y.v, .slice ay y.kids.length cy] 24)).alloc (.cells #[.string y.t] 9)) from (Below.refl _ _).alloc (Nat.le_refl _) _))
      clear k0 k1 k2 k3 hkx htk hy hbw hkw
      go_wp2_with (at_builtin; refine wpList_append_own_at _ rfl _ _ 54 rfl (w.heap.size + 1) 9 i0 _ 1 16 Tryz.underlying54 HI.out hz0 hz1 hz2 rfl (by omega) _ i (baR (n.keys.take i)) (by rfl) HOW.out ⟨wr.heap.size + 1, 0, none⟩ 1 1 [.string y.t] (by rfl) (by rfl) (World.news_of_block (by simpa using heap_alloc_new (wr.alloc (.cells #[.int .i64 y.k, .string y.t, .string y.v, .slice ay y.kids.length cy] 24)) (.cells #[.string y.t] 9))) (by intro u hu; rw [List.mem_singleton.1 hu]; rfl) (by unfold maxLen; omega) (by omega) (by have := HW1.out; simp; omega) ?_)
      intro v1 w1 hown hgrow _ hat
      have hlo : ∀ g, (Value.slice va i vc).ownBlock = some g → w.heap.size + 1 ≤ g := fun g e => (HO.out.lt g e).1
      have HOW2 := Lib.hid (show w1.ownsRow (w.heap.size + 1) 9 1 v1 (i + 1) (baR (n.keys.take (i + 1))) by rw [HTK.out, baR_app]; exact hown)
      have HBN := Lib.hid (show Below (w.heap.size + 1) (w.alloc (.cells #[.int .i64 n.k, .string n.t, .string n.v, .slice _ n.kids.length cap] 24)) w1 from
        ((HBW.out.alloc HW1.out _).alloc (by have := HW1.out; simp; omega) _).grown hgrow (by have := HW1.out; simp; omega) hlo)
      clear hown hgrow hat hlo d0 d1 d2 d3
      go_wp2_with fail
      go_roundw
      case rel => exact ⟨i + 1, by omega, by go_num, HOW2, HBN⟩
      case measure => simp [intOf]; omega
    · obtain rfl : i = n.kids.length := by omega
      have hi1 : ¬ ((n.kids.length : Nat) : Int) < (n.kids.length : Int) := by omega
      have hown := HO.out
      rw [List.take_of_length_le (by rw [HTL.out]; exact Nat.le_refl _)] at hown
      have HSI := Lib.hid (show StrIn wr (.slice va n.kids.length vc) n.keys from strIn_own (base := w.heap.size + 1) (by rw [HTL.out]; exact hown))
      clear hown
      go_wp2_with fail
      go_ret
      exact ⟨⟨_, rfl, HSI.out⟩, HBR.out⟩
set_option maxRecDepth 100000 in
set_option maxHeartbeats 8000000 in
theorem strEqual_any (w : World) (va vb : Value) (l m : List ByteArray) (ha : StrIn w va l) (hb : StrIn w vb m) :
    Calls Tryz.prog 59 #[va, vb] w (BoolP (l = m) w) := by
  have HA := Lib.hid ha; have HB := Lib.hid hb
  obtain ⟨ao, cap, rfl, hcap, hcm, hca⟩ := ha.ex
  obtain ⟨ao', cap', rfl, hcap', hcm', hcb⟩ := hb.ex
  have HCA := Lib.hid hca; have HCB := Lib.hid hcb
  clear ha hb hca hcb
  unfold maxLen at hcm hcm'
  by_cases hlm : l.length = m.length
  · have HLM := Lib.hid hlm
    have hll : (((l.length : Nat) : Int) != ((m.length : Nat) : Int)) = false := by simp [hlm]
    clear hlm
    go_enter Tryz.func59, Tryz.ntmps59
    go_wp2_with fail
    go_loopw [13] (fun v13 wr => ∃ i : Nat, i ≤ l.length ∧ v13 = .int .i64 i ∧ Hid (l.take i = m.take i) ∧ Hid (Below w.heap.size w wr)) (fun v13 _ => l.length - (intOf v13).toNat)
    case atStart => exact ⟨0, Nat.zero_le _, rfl, by show _ = _; simp, Below.refl _ _⟩
    case round =>
      obtain ⟨i, hi, rfl, HT, HW⟩ := hrel
      by_cases hlt : i < l.length
      · have hlt' : i < m.length := by have := HLM.out; omega
        obtain ⟨b, o, hao, c0⟩ := HCA.out i hlt
        obtain ⟨b', o', hao', c0'⟩ := HCB.out i hlt'
        subst hao; subst hao'
        have hi0 : (0 : Int) ≤ (i : Int) := Int.natCast_nonneg _
        have hi1 : (i : Int) < (l.length : Int) := by omega
        have hi2 : (i : Int) < (m.length : Int) := by omega
        have hcl : i < cap := by omega
        have hcl' : i < cap' := by omega
        have HST := Lib.hid (fun he : l[i] = m[i] => show l.take (i + 1) = m.take (i + 1) by
          rw [List.take_add_one, List.take_add_one, List.getElem?_eq_getElem hlt, List.getElem?_eq_getElem hlt', HT.out, he])
        have HNE := Lib.hid (show l[i] ≠ m[i] → l ≠ m from fun hne e => by subst e; exact hne rfl)
        obtain ⟨x, hx⟩ : ∃ x, l[i] = x := ⟨_, rfl⟩
        obtain ⟨y, hy⟩ : ∃ y, m[i] = y := ⟨_, rfl⟩
        rw [hx] at c0
        rw [hy] at c0'
        rw [hx, hy] at HST HNE
        have hbw := cell_lt c0
        have hbw' := cell_lt c0'
        have HD := Lib.hid (show ∀ w' : World, Below wr.heap.size wr w' → w'.cell? ⟨b, o + i, none⟩ = some (.string x) ∧ w'.cell? ⟨b', o' + i, none⟩ = some (.string y) from fun w' hb => by
          have hb0 : Below w.heap.size w w' := bthen HW.out hb
          exact ⟨(hb0.cell (p := ⟨b, o + i, none⟩) hbw).trans c0, (hb0.cell (p := ⟨b', o' + i, none⟩) hbw').trans c0'⟩)
        have hsz := HW.out.size
        have hbr : b < wr.heap.size := by simp at hbw; omega
        have hbr' : b' < wr.heap.size := by simp at hbw'; omega
        clear c0 c0' hx hy hbw hbw'
        obtain ⟨c0, c0'⟩ := HD.out wr (Below.refl _ _)
        by_cases hxy : x = y
        · subst hxy
          have HT2 := Lib.hid (HST.out rfl)
          go_wp2_with fail
          go_region_held3? (fun w' => w'.cell? ⟨b, o + i, none⟩ = some (.string x) ∧ w'.cell? ⟨b', o' + i, none⟩ = some (.string x)) (first | exact HD.out _ (Below.refl _ _).drew | go_keep) ((first | fail))
          go_wp2_with fail
          go_roundw
          case rel => exact ⟨i + 1, by omega, by go_num, HT2, Lib.hid (bthen HW.out (Below.refl _ wr).drew)⟩
          case measure => simp [intOf]; omega
        · have HN := Lib.hid (HNE.out hxy)
          have hne : (x.toList == y.toList) = false := by rw [beq_eq_false_iff_ne]; exact fun e => hxy (toL_inj e)
          clear hxy
          go_wp2_with fail
          go_region_held3? (fun w' => w'.cell? ⟨b, o + i, none⟩ = some (.string x) ∧ w'.cell? ⟨b', o' + i, none⟩ = some (.string y)) (first | exact HD.out _ (Below.refl _ _).drew | go_keep) ((first | fail))
          go_wp2_with fail
          go_ret
          exact ⟨false, rfl, ⟨fun h => (by cases h), fun h => absurd h HN.out⟩, bthen HW.out (Below.refl _ wr).drew⟩
      · obtain rfl : i = l.length := by omega
        have hi1 : ¬ ((l.length : Nat) : Int) < (l.length : Int) := by omega
        have HE := Lib.hid (show l = m by have h := HT.out; have hl := HLM.out; rw [List.take_length, hl, List.take_length] at h; exact h)
        go_wp2_with fail
        go_ret
        exact ⟨true, rfl, ⟨fun _ => HE.out, fun _ => rfl⟩, HW.out⟩
  · have hll : (((l.length : Nat) : Int) != ((m.length : Nat) : Int)) = true := by simp; omega
    have HN := Lib.hid (show l ≠ m from fun e => hlm (by rw [e]))
    go_enter Tryz.func59, Tryz.ntmps59
    go_wp2_with fail
    go_ret
    exact ⟨false, rfl, ⟨fun h => (by cases h), fun h => absurd h HN.out⟩, Below.refl _ _⟩
/-- What the delim syntax tells. -/
def tpD : List Nd → Bool
  | [n] => decide (n.k = 5)
  | [r, n] => decide (n.k = 7) && decide (n.kids ≠ []) && decide (n.kids.length ≤ 8) && decide (n.keys = (r.kids.headD n).keys)
  | [_, _, _, n] => decide (n.k = 4)
  | _ => true
theorem LkPost.of {w w' : World} {B X : Nat} {v : Value} {p : List Int} (h : Lk w B X v p) (hb : Below w.heap.size w w') : LkPost B X v p w w' v := ⟨h.below hb, LkFar.of hb, .inl rfl⟩
theorem firstP_leaf {tp : List Nd → Bool} {way : List Nd} {n : Nd} {p : List Int} (h : tp (way ++ [n]) = true) (hk : n.kids = []) : firstP tp way n p = none := by
  rw [firstP_kids h, hk]; rfl
set_option maxRecDepth 100000 in
set_option maxHeartbeats 2000000 in
theorem delimV_any (n k f x : Nd) (hx4 : x.k = 4 → x.kids = []) (W : World) (lb X B : Nat) (v : Value) (p : List Int) (u : Value) (hu : ∃ a l c, u = .slice a l c) (i : Int) (hb : W.heap[lb]? = some (.cells #[.pointer (some ⟨X, 0, none⟩)] 51 (0, 0)))
    (hlk : Lk W B X v p) (hl : p.length ≤ 1000000) :
    Calls Tryz.prog 61 #[.int .i64 i, ndV x u, .pointer (some ⟨lb, 0, none⟩)] W (LkEnd B X v p (firstP tpD [n, k, f] x p) W) := by
  obtain ⟨ua, ul, uc, rfl⟩ := hu
  obtain ⟨c0, f0⟩ := blk_cell hb 0 (by simp)
  have hlt := lt_blk hb
  have HB := Lib.hid (show Below W.heap.size W (W.alloc (.cells #[.int .i64 x.k, .string x.t, .string x.v, .slice ua ul uc] 24)) from (Below.refl _ _).alloc (Nat.le_refl _) _)
  have H := Lib.hid hlk
  clear hb hlk
  unfold ndV
  by_cases hk : x.k = 4
  · have HR := Lib.hid (show firstP tpD [n, k, f] x p = none from firstP_leaf (by simp [tpD, hk]) (hx4 hk))
    have hkb : (x.k != 4) = false := by simp [hk]
    clear hk
    go_enter Tryz.func61, Tryz.ntmps61
    go_wp2_with fail
    go_end0
    rw [HR.out]
    exact ⟨⟨_, rfl⟩, _, LkPost.of H.out HB.out⟩
  · have HR := Lib.hid (show firstP tpD [n, k, f] x p = some p from firstP_no (by simp [tpD, hk]))
    have hkb : (x.k != 4) = true := by simp [hk]
    clear hk
    go_enter Tryz.func61, Tryz.ntmps61
    go_wp2_with fail
    refine (fails_any _ B X v p (H.out.below HB.out) (by omega)).mono ?_
    intro e w3 he
    have he2 : LkEnd B X v p (some p) W e w3 := he.after HB.out
    obtain ⟨hfar, a, c, rfl, hints⟩ := he2
    have HF2 := Lib.hid hfar; have HI := Lib.hid hints
    clear hfar hints he
    go_wp2_with fail
    exact ⟨rfl, by rw [HR.out]; exact ⟨HF2.out, a, c, rfl, HI.out⟩⟩
set_option maxRecDepth 100000 in
set_option maxHeartbeats 4000000 in
theorem delimF_any (n k f : Nd) (hf4 : ∀ x ∈ f.kids, x.k = 4 → x.kids = []) (W : World) (lb X B : Nat) (v : Value) (p : List Int) (S : Nat → Prop) (u : Value) (i : Int) (hb : W.heap[lb]? = some (.cells #[.pointer (some ⟨X, 0, none⟩)] 51 (0, 0))) (hlbX : lb ≠ X) (hlbv : v.ownBlock ≠ some lb)
    (hlk : Lk W B X v p) (hv : NdV W S (ndV f u) f) (hSB : ∀ b, S b → b < B) (hB : B ≤ W.heap.size) (hl : p.length + f.size ≤ 100000) :
    Calls Tryz.prog 60 #[.int .i64 i, ndV f u, .pointer (some ⟨lb, 0, none⟩)] W (LkEnd B X v p (firstP tpD [n, k] f p) W) := by
  obtain ⟨u2, e2, hs⟩ := hv
  obtain rfl : u = u2 := by simpa [ndV] using e2
  clear e2
  obtain ⟨ao, cap, rfl, hcap, hcm⟩ := hs.shape
  obtain ⟨c0, f0⟩ := blk_cell hb 0 (by simp)
  have hmf : ∀ (fn : Fn) (first cap : Array Value) (w : World), (Instr.makeFunc fn first cap).run Tryz.prog w = .ok (.func fn first cap) w := fun _ _ _ _ => rfl
  have hlt := lt_blk hb
  have HB := Lib.hid (show Below W.heap.size W (W.alloc (.cells #[.int .i64 f.k, .string f.t, .string f.v, .slice ao f.kids.length cap] 24)) from (Below.refl _ _).alloc (Nat.le_refl _) _)
  have H := Lib.hid hlk; have HS := Lib.hid hs; have HSB := Lib.hid hSB; have HBB := Lib.hid hB; have HL := Lib.hid hl; have HLB := Lib.hid hb; have H4 := Lib.hid hf4; have HNE := Lib.hid (And.intro hlbX hlbv)
  have HR := Lib.hid (firstP_kids (tp := tpD) (way := [n, k]) (n := f) (p := p) rfl)
  have hsz := kids_size f
  have hsl := sizes_len f.kids
  clear hb hlk hs hSB hB hf4 hlbX hlbv
  unfold ndV
  go_enter Tryz.func60, Tryz.ntmps60
  go_wp2_with fail
  refine (kids_any 61 #[.pointer (some ⟨lb, 0, none⟩)] (fun args w => by rfl) _ B X v p S f _ (fun i => if hi : i < f.kids.length then firstP tpD ([n, k] ++ [f]) f.kids[i] (p ++ [(i : Int)]) else none) (H.out.below HB.out) ⟨_, rfl, HS.out.below HB.out⟩ HSB.out (Nat.le_trans HBB.out HB.out.size) (by omega) (by omega) (fun W' v' i hi u hfar hat hlkW hnW => ?_)).mono ?_
  · rw [dif_pos hi]
    refine delimV_any n k f f.kids[i] (H4.out _ (List.getElem_mem hi)) W' lb X B v' _ u (by obtain ⟨u2, e2, h2⟩ := hnW; obtain ⟨a2, c2, h3, _⟩ := h2.shape; exact ⟨a2, _, c2, (show u = u2 by simpa [ndV] using e2).trans h3⟩) i ?_ hlkW (by rw [List.length_append, List.length_singleton]; omega)
    rw [hfar.oth lb (by simp; omega) HNE.out.1 HNE.out.2, HB.out.block lb hlt]
    exact HLB.out
  · intro e w3 he
    have he2 := he.after HB.out
    rw [← HR.out] at he2
    cases ho : firstP tpD [n, k] f p with
    | none =>
      rw [ho] at he2
      obtain ⟨⟨rr, rfl⟩, v', hp⟩ := he2
      have HP := Lib.hid hp
      have HO := Lib.hid ho
      clear hp he
      go_wp2_with fail
      go_end0
      show LkEnd B X v p (firstP tpD [n, k] f p) W _ _
      rw [HO.out]
      exact ⟨⟨_, rfl⟩, _, HP.out⟩
    | some q =>
      rw [ho] at he2
      obtain ⟨hfar, a, c, rfl, hints⟩ := he2
      have HF2 := Lib.hid hfar; have HI := Lib.hid hints
      have HO := Lib.hid ho
      clear hfar hints he
      go_wp2_with fail
      exact ⟨rfl, HF2.out, a, c, rfl, HI.out⟩

set_option maxRecDepth 100000 in
set_option maxHeartbeats 8000000 in
theorem delimK_any (n k : Nd) (hn : 0 < n.kids.length) (htk : ∀ f ∈ k.kids, ∀ x ∈ f.kids, x.k = 4 → x.kids = []) (W : World) (kb nb lb X B : Nat) (v : Value) (p : List Int) (S : Nat → Prop) (u un : Value) (i : Int)
    (hkb : W.heap[kb]? = some (.cells #[.func (.func 57) #[] #[]] 68 (0, 0))) (hnb : W.heap[nb]? = some (.cells #[.int .i64 n.k, .string n.t, .string n.v, un] 24 (0, 0))) (hlb : W.heap[lb]? = some (.cells #[.pointer (some ⟨X, 0, none⟩)] 51 (0, 0)))
    (hbX : kb ≠ X ∧ nb ≠ X ∧ lb ≠ X) (hbv : v.ownBlock ≠ some kb ∧ v.ownBlock ≠ some nb ∧ v.ownBlock ≠ some lb)
    (hlk : Lk W B X v p) (hv : NdV W S (ndV k u) k) (hvn : SlIn W S un n.kids) (hSB : ∀ b, S b → b < B) (hB : B ≤ W.heap.size) (hl : p.length + k.size ≤ 100000) (hnl : n.kids.length ≤ 100000) (hn0 : n.kids[0].kids.length ≤ 100000) :
    Calls Tryz.prog 58 #[.int .i64 i, ndV k u, .pointer (some ⟨kb, 0, none⟩), .pointer (some ⟨nb, 0, none⟩), .pointer (some ⟨lb, 0, none⟩)] W (LkEnd B X v p (firstP tpD [n] k p) W) := by
  obtain ⟨u2, e2, hs⟩ := hv
  obtain rfl : u = u2 := by simpa [ndV] using e2
  clear e2
  obtain ⟨ao, cap, rfl, hcap, hcm⟩ := hs.shape
  obtain ⟨an, cn, rfl, hcn, hcnm⟩ := hvn.shape
  obtain ⟨c0, f0⟩ := blk_cell hlb 0 (by simp)
  have hmf : ∀ (fn : Fn) (first cap : Array Value) (w : World), (Instr.makeFunc fn first cap).run Tryz.prog w = .ok (.func fn first cap) w := fun _ _ _ _ => rfl
  have hlt := lt_blk hlb
  have HB := Lib.hid (show Below W.heap.size W (W.alloc (.cells #[.int .i64 k.k, .string k.t, .string k.v, .slice ao k.kids.length cap] 24)) from (Below.refl _ _).alloc (Nat.le_refl _) _)
  have HX := Lib.hid (heap_alloc_new W (.cells #[.int .i64 k.k, .string k.t, .string k.v, .slice ao k.kids.length cap] 24))
  obtain ⟨fb, fo, fx, hfo, hfw, k0, k1, k2, k3, hfx⟩ := hvn.at_ 0 hn
  obtain ⟨ay, cy, rfl, _, _⟩ := hfx.shape
  subst hfo
  obtain ⟨y, hy⟩ : ∃ y, n.kids[0] = y := ⟨_, rfl⟩
  rw [hy] at k0 k1 k2 k3 hfx hn0
  rw [Nat.zero_mul, Nat.add_zero] at k0 k1 k2 k3
  have HY := Lib.hid hy
  have HKY := Lib.hid (show NdV W S (.agg #[.int .i64 y.k, .string y.t, .string y.v, .slice ay y.kids.length cy]) y from NdV.mk hfx)
  have H := Lib.hid hlk; have HS := Lib.hid hs; have HSB := Lib.hid hSB; have HBB := Lib.hid hB; have HLB := Lib.hid hlb; have HKB := Lib.hid hkb; have HNB := Lib.hid hnb; have HTK := Lib.hid htk; have HBX := Lib.hid hbX; have HBV := Lib.hid hbv
  have HKK := Lib.hid (show NdV W S (.agg #[.int .i64 k.k, .string k.t, .string k.v, .slice ao k.kids.length cap]) k from NdV.mk hs)
  have hsz := kids_size k
  have hsl := sizes_len k.kids
  clear hlb hlk hs hSB hB htk hkb hnb hbX hbv hvn hfx hy
  unfold ndV
  unfold maxLen at *
  obtain ⟨W0, hW0⟩ : ∃ W0, W.alloc (.cells #[.int .i64 k.k, .string k.t, .string k.v, .slice ao k.kids.length cap] 24) = W0 := ⟨_, rfl⟩
  rw [hW0] at HB HX
  have HD := Lib.hid (show ∀ w' : World, Below W0.heap.size W0 w' → w'.cell? ⟨kb, 0, none⟩ = some (.func (.func 57) #[] #[]) ∧ w'.cell? ⟨nb, 3, none⟩ = some (.slice (some ⟨fb, fo, none⟩) n.kids.length cn) ∧ (w'.cell? ⟨fb, fo, none⟩ = some (.int .i64 y.k) ∧ w'.cell? ⟨fb, fo + 1, none⟩ = some (.string y.t) ∧ w'.cell? ⟨fb, fo + 2, none⟩ = some (.string y.v) ∧ w'.cell? ⟨fb, fo + 3, none⟩ = some (.slice ay y.kids.length cy)) ∧ (w'.cell? ⟨W.heap.size, 0, none⟩ = some (.int .i64 k.k) ∧ w'.cell? ⟨W.heap.size, 1, none⟩ = some (.string k.t) ∧ w'.cell? ⟨W.heap.size, 2, none⟩ = some (.string k.v) ∧ w'.cell? ⟨W.heap.size, 3, none⟩ = some (.slice ao k.kids.length cap)) from fun w' hb => by
    have hbw := bthen HB.out hb
    obtain ⟨x0, x1, x2, x3, _⟩ := nd_cells ((hb.block _ (lt_blk HX.out)).trans HX.out)
    obtain ⟨_, _, _, y3, _⟩ := nd_cells ((hbw.block _ (lt_blk HNB.out)).trans HNB.out)
    exact ⟨(blk_cell ((hbw.block _ (lt_blk HKB.out)).trans HKB.out) 0 (by simp)).1, y3, ⟨(hbw.cell (p := ⟨fb, fo, none⟩) hfw).trans k0, (hbw.cell (p := ⟨fb, fo + 1, none⟩) hfw).trans k1, (hbw.cell (p := ⟨fb, fo + 2, none⟩) hfw).trans k2, (hbw.cell (p := ⟨fb, fo + 3, none⟩) hfw).trans k3⟩, x0, x1, x2, x3⟩)
  have hl0 := lt_blk HX.out
  have hlk0 : kb < W0.heap.size := Nat.lt_of_lt_of_le (lt_blk HKB.out) HB.out.size
  have hln0 : nb < W0.heap.size := Nat.lt_of_lt_of_le (lt_blk HNB.out) HB.out.size
  have hlf0 : fb < W0.heap.size := Nat.lt_of_lt_of_le hfw HB.out.size
  have hbr : Below W0.heap.size W0 W0.drew := (Below.refl _ _).drew
  obtain ⟨q0, q1, ⟨q2, q3, q4, q5⟩, q6, q7, q8, q9⟩ := HD.out _ (Below.refl _ W0)
  clear k0 k1 k2 k3 c0 f0
  have HYK := Lib.hid (show (n.kids.headD k).keys = y.keys by
    match h : n.kids, hn with
    | z :: r, _ =>
      have h2 := HY.out
      simp only [h, List.getElem_cons_zero] at h2
      rw [h2]; rfl)
  by_cases h7 : k.k = 7
  · by_cases h0 : k.kids = []
    · have HR := Lib.hid (show firstP tpD [n] k p = some p from firstP_no (by simp [tpD, h0]))
      have hk1 : ((k.kids.length : Int) == 0) = true := by simp [h0]
      have hk7 : (k.k != 7) = false := by simp [h7]
      clear h7 h0
      go_enter Tryz.func58, Tryz.ntmps58
      go_wp2_with fail
      obtain ⟨q0, q1, ⟨q2, q3, q4, q5⟩, q6, q7, q8, q9⟩ := HD.out _ hbr
      go_region
      have hlc := blk_cell (((bthen HB.out hbr).block _ (lt_blk HLB.out)).trans HLB.out) 0 (by simp)
      obtain ⟨c0, f0⟩ := hlc
      have hllb : lb < W0.drew.heap.size := Nat.lt_of_lt_of_le (lt_blk HLB.out) (bthen HB.out hbr).size
      go_wp2_with fail
      refine (fails_any _ B X v p (H.out.below (bthen HB.out hbr)) (by omega)).mono ?_
      intro e w3 he
      have he2 : LkEnd B X v p (some p) W e w3 := he.after (bthen HB.out hbr)
      obtain ⟨hfar, a, c, rfl, hints⟩ := he2
      have HF2 := Lib.hid hfar; have HI := Lib.hid hints
      clear hfar hints he
      go_wp2_with fail
      exact ⟨rfl, by rw [HR.out]; exact ⟨HF2.out, a, c, rfl, HI.out⟩⟩
    · have hk0 : 0 < k.kids.length := List.length_pos_iff.2 h0
      have hk1 : ((k.kids.length : Int) == 0) = false := by simp; omega
      have hk7 : (k.k != 7) = false := by simp [h7]
      by_cases h8 : k.kids.length ≤ 8
      · have hk8 : decide (8 < (k.kids.length : Int)) = false := decide_eq_false (by omega)
        obtain ⟨R, hR⟩ : ∃ R : Bool, (R = true ↔ k.keys = y.keys) := by
          by_cases h : k.keys = y.keys
          · exact ⟨true, by simp [h]⟩
          · exact ⟨false, by simp [h]⟩
        have HRR := Lib.hid hR
        cases R
        · have HR := Lib.hid (show firstP tpD [n] k p = some p from firstP_no (by
            have h9 : ¬ k.keys = y.keys := fun e => by have := hR.2 e; cases this
            show (decide (k.k = 7) && decide (k.kids ≠ []) && decide (k.kids.length ≤ 8) && decide (k.keys = (n.kids.headD k).keys)) = false
            rw [HYK.out]
            simp [h9]))
          clear h7 h0 hR
          go_enter Tryz.func58, Tryz.ntmps58
          go_wp2_with fail
          go_region_held3? (fun w' => w'.cell? ⟨kb, 0, none⟩ = some (.func (.func 57) #[] #[]) ∧ w'.cell? ⟨nb, 3, none⟩ = some (.slice (some ⟨fb, fo, none⟩) n.kids.length cn) ∧ (w'.cell? ⟨fb, fo, none⟩ = some (.int .i64 y.k) ∧ w'.cell? ⟨fb, fo + 1, none⟩ = some (.string y.t) ∧ w'.cell? ⟨fb, fo + 2, none⟩ = some (.string y.v) ∧ w'.cell? ⟨fb, fo + 3, none⟩ = some (.slice ay y.kids.length cy)) ∧ (w'.cell? ⟨W.heap.size, 0, none⟩ = some (.int .i64 k.k) ∧ w'.cell? ⟨W.heap.size, 1, none⟩ = some (.string k.t) ∧ w'.cell? ⟨W.heap.size, 2, none⟩ = some (.string k.v) ∧ w'.cell? ⟨W.heap.size, 3, none⟩ = some (.slice ao k.kids.length cap))) (first | exact HD.out _ hbr | go_keep) ((first
            | (go_at_call 57
               first
                 | with_reducible refine (keys_any k _ _ _ (HKK.out.below (bthen HB.out hbr)) (by omega)).mono ?_
                   rintro e wq ⟨⟨va, rfl, hsk⟩, hbn⟩
                   have HSA := Lib.hid hsk
                   obtain ⟨aa, ca, rfl, _, _, _⟩ := hsk.ex
                   have hbo := hbr
                   clear hbr hsk
                   have hbr := bthen hbo hbn
                   clear hbo hbn
                 | with_reducible refine (keys_any y _ _ _ (HKY.out.below (bthen HB.out hbr)) hn0).mono ?_
                   rintro e wq2 ⟨⟨vb, rfl, hsk⟩, hbn⟩
                   have HSY := Lib.hid hsk
                   have HSA2 := Lib.hid (HSA.out.below hbn)
                   obtain ⟨ab, cb, rfl, _, _, _⟩ := hsk.ex
                   have hbo := hbr
                   clear hbr hsk HSA
                   have hbr := bthen hbo hbn
                   clear hbo hbn)
            | (go_at_call 59
               with_reducible refine (strEqual_any _ _ _ k.keys y.keys HSA2.out HSY.out).mono ?_
               rintro e wq3 ⟨r, rfl, hr, hbn⟩
               have hqr : r = false := by rw [Bool.eq_iff_iff]; exact hr.trans HRR.out.symm
               rw [hqr]
               clear hqr
               have hbo := hbr
               clear hbr
               have hbr := bthen hbo hbn
               clear hbo hbn hr)))
          all_goals
            have hlc := blk_cell (((bthen HB.out hbr).block _ (lt_blk HLB.out)).trans HLB.out) 0 (by simp)
            obtain ⟨c0, f0⟩ := hlc
            have hllb := Nat.lt_of_lt_of_le (lt_blk HLB.out) (bthen HB.out hbr).size
            go_wp2_with fail
            refine (fails_any _ B X v p (H.out.below (bthen HB.out hbr)) (by omega)).mono ?_
            intro e w3 he
            have he2 : LkEnd B X v p (some p) W e w3 := he.after (bthen HB.out hbr)
            obtain ⟨hfar, a, c, rfl, hints⟩ := he2
            have HF2 := Lib.hid hfar; have HI := Lib.hid hints
            clear hfar hints he
            go_wp2_with fail
            exact ⟨rfl, by rw [HR.out]; exact ⟨HF2.out, a, c, rfl, HI.out⟩⟩
        · have HKE := Lib.hid (show k.keys = y.keys from hR.1 rfl)
          have HR := Lib.hid (firstP_kids (tp := tpD) (way := [n]) (n := k) (p := p) (by
            have h9 : k.keys = y.keys := hR.1 rfl
            show (decide (k.k = 7) && decide (k.kids ≠ []) && decide (k.kids.length ≤ 8) && decide (k.keys = (n.kids.headD k).keys)) = true
            rw [HYK.out]
            simp [h9, h7, h0, h8]))
          clear h7 h0 hR
          go_enter Tryz.func58, Tryz.ntmps58
          go_wp2_with fail
          go_region_held3? (fun w' => w'.cell? ⟨kb, 0, none⟩ = some (.func (.func 57) #[] #[]) ∧ w'.cell? ⟨nb, 3, none⟩ = some (.slice (some ⟨fb, fo, none⟩) n.kids.length cn) ∧ (w'.cell? ⟨fb, fo, none⟩ = some (.int .i64 y.k) ∧ w'.cell? ⟨fb, fo + 1, none⟩ = some (.string y.t) ∧ w'.cell? ⟨fb, fo + 2, none⟩ = some (.string y.v) ∧ w'.cell? ⟨fb, fo + 3, none⟩ = some (.slice ay y.kids.length cy)) ∧ (w'.cell? ⟨W.heap.size, 0, none⟩ = some (.int .i64 k.k) ∧ w'.cell? ⟨W.heap.size, 1, none⟩ = some (.string k.t) ∧ w'.cell? ⟨W.heap.size, 2, none⟩ = some (.string k.v) ∧ w'.cell? ⟨W.heap.size, 3, none⟩ = some (.slice ao k.kids.length cap))) (first | exact HD.out _ hbr | go_keep) ((first
            | (go_at_call 57
               first
                 | with_reducible refine (keys_any k _ _ _ (HKK.out.below (bthen HB.out hbr)) (by omega)).mono ?_
                   rintro e wq ⟨⟨va, rfl, hsk⟩, hbn⟩
                   have HSA := Lib.hid hsk
                   obtain ⟨aa, ca, rfl, _, _, _⟩ := hsk.ex
                   have hbo := hbr
                   clear hbr hsk
                   have hbr := bthen hbo hbn
                   clear hbo hbn
                 | with_reducible refine (keys_any y _ _ _ (HKY.out.below (bthen HB.out hbr)) hn0).mono ?_
                   rintro e wq2 ⟨⟨vb, rfl, hsk⟩, hbn⟩
                   have HSY := Lib.hid hsk
                   have HSA2 := Lib.hid (HSA.out.below hbn)
                   obtain ⟨ab, cb, rfl, _, _, _⟩ := hsk.ex
                   have hbo := hbr
                   clear hbr hsk HSA
                   have hbr := bthen hbo hbn
                   clear hbo hbn)
            | (go_at_call 59
               with_reducible refine (strEqual_any _ _ _ k.keys y.keys HSA2.out HSY.out).mono ?_
               rintro e wq3 ⟨r, rfl, hr, hbn⟩
               have hqr : r = true := hr.2 (HKE.out)
               rw [hqr]
               clear hqr
               have hbo := hbr
               clear hbr
               have hbr := bthen hbo hbn
               clear hbo hbn hr)))
          all_goals
            have hlc := blk_cell (((bthen HB.out hbr).block _ (lt_blk HLB.out)).trans HLB.out) 0 (by simp)
            obtain ⟨c0, f0⟩ := hlc
            have hllb := Nat.lt_of_lt_of_le (lt_blk HLB.out) (bthen HB.out hbr).size
            go_wp2_with fail
            refine (kids_any 60 #[.pointer (some ⟨lb, 0, none⟩)] (fun args w => by rfl) _ B X v p S k _ (fun i => if hi : i < k.kids.length then firstP tpD ([n] ++ [k]) k.kids[i] (p ++ [(i : Int)]) else none) (H.out.below (bthen HB.out hbr)) ⟨_, rfl, HS.out.below (bthen HB.out hbr)⟩ HSB.out (Nat.le_trans HBB.out (bthen HB.out hbr).size) (by omega) (by omega) (fun W' v' i hi u hfar hat hlkW hnW => ?_)).mono ?_
            · rw [dif_pos hi]
              have hks := kid_size (n := k) hi
              refine delimF_any n k k.kids[i] (HTK.out _ (List.getElem_mem hi)) W' lb X B v' _ S u i ?_ HBX.out.2.2 ?_ hlkW hnW HSB.out (Nat.le_trans HBB.out (Nat.le_trans (bthen HB.out hbr).size hfar.size)) (by rw [List.length_append, List.length_singleton]; omega)
              · rw [hfar.oth lb (Nat.lt_of_lt_of_le (lt_blk HLB.out) (bthen HB.out hbr).size) HBX.out.2.2 HBV.out.2.2, (bthen HB.out hbr).block lb (lt_blk HLB.out)]
                exact HLB.out
              · rcases hat with e | e
                · rw [e]; exact HBV.out.2.2
                · intro e2; have := e lb e2; have := Nat.lt_of_lt_of_le (lt_blk HLB.out) (bthen HB.out hbr).size; omega
            · intro e w3 he
              have he2 := he.after (bthen HB.out hbr)
              rw [← HR.out] at he2
              cases ho : firstP tpD [n] k p with
              | none =>
                rw [ho] at he2
                obtain ⟨⟨rr, rfl⟩, v', hp⟩ := he2
                have HP := Lib.hid hp
                have HO := Lib.hid ho
                clear hp he
                go_wp2_with fail
                go_end0
                show LkEnd B X v p (firstP tpD [n] k p) W _ _
                rw [HO.out]
                exact ⟨⟨_, rfl⟩, _, HP.out⟩
              | some q =>
                rw [ho] at he2
                obtain ⟨hfar, a, c, rfl, hints⟩ := he2
                have HF2 := Lib.hid hfar; have HI := Lib.hid hints
                have HO := Lib.hid ho
                clear hfar hints he
                go_wp2_with fail
                exact ⟨rfl, HF2.out, a, c, rfl, HI.out⟩
      · have HR := Lib.hid (show firstP tpD [n] k p = some p from firstP_no (by simp [tpD, h8]))
        have hk8 : 8 < (k.kids.length : Int) := by omega
        clear h7 h0
        go_enter Tryz.func58, Tryz.ntmps58
        go_wp2_with fail
        obtain ⟨q0, q1, ⟨q2, q3, q4, q5⟩, q6, q7, q8, q9⟩ := HD.out _ hbr
        go_region
        have hlc := blk_cell (((bthen HB.out hbr).block _ (lt_blk HLB.out)).trans HLB.out) 0 (by simp)
        obtain ⟨c0, f0⟩ := hlc
        have hllb : lb < W0.drew.heap.size := Nat.lt_of_lt_of_le (lt_blk HLB.out) (bthen HB.out hbr).size
        go_wp2_with fail
        refine (fails_any _ B X v p (H.out.below (bthen HB.out hbr)) (by omega)).mono ?_
        intro e w3 he
        have he2 : LkEnd B X v p (some p) W e w3 := he.after (bthen HB.out hbr)
        obtain ⟨hfar, a, c, rfl, hints⟩ := he2
        have HF2 := Lib.hid hfar; have HI := Lib.hid hints
        clear hfar hints he
        go_wp2_with fail
        exact ⟨rfl, by rw [HR.out]; exact ⟨HF2.out, a, c, rfl, HI.out⟩⟩
  · have HR := Lib.hid (show firstP tpD [n] k p = some p from firstP_no (by simp [tpD, h7]))
    have hk7 : (k.k != 7) = true := by simp [h7]
    clear h7
    go_enter Tryz.func58, Tryz.ntmps58
    go_wp2_with fail
    obtain ⟨q0, q1, ⟨q2, q3, q4, q5⟩, q6, q7, q8, q9⟩ := HD.out _ hbr
    go_region
    have hlc := blk_cell (((bthen HB.out hbr).block _ (lt_blk HLB.out)).trans HLB.out) 0 (by simp)
    obtain ⟨c0, f0⟩ := hlc
    have hllb : lb < W0.drew.heap.size := Nat.lt_of_lt_of_le (lt_blk HLB.out) (bthen HB.out hbr).size
    go_wp2_with fail
    refine (fails_any _ B X v p (H.out.below (bthen HB.out hbr)) (by omega)).mono ?_
    intro e w3 he
    have he2 : LkEnd B X v p (some p) W e w3 := he.after (bthen HB.out hbr)
    obtain ⟨hfar, a, c, rfl, hints⟩ := he2
    have HF2 := Lib.hid hfar; have HI := Lib.hid hints
    clear hfar hints he
    go_wp2_with fail
    exact ⟨rfl, by rw [HR.out]; exact ⟨HF2.out, a, c, rfl, HI.out⟩⟩
end Go.Proofs.YtaolnpiemeaabaaGreatDoor

/- carry.Of of the delim syntax. -/
namespace Go.Proofs.YtaolnpiemeaabaaGreatDoor
open Go.RowKit Ev5
set_option linter.unusedSimpArgs false
set_option linter.unusedVariables false

set_option maxRecDepth 100000 in
set_option maxHeartbeats 4000000 in
theorem delim_any (n : Nd) (htk : ∀ k ∈ n.kids, ∀ f ∈ k.kids, ∀ x ∈ f.kids, x.k = 4 → x.kids = []) (w : World) (B X : Nat) (v : Value) (p : List Int) (S : Nat → Prop) (nv : Value) (hlk : Lk w B X v p) (hv : NdV w S nv n) (hSB : ∀ b, S b → b < B) (hB : B ≤ w.heap.size) (hl : p.length + n.size ≤ 100000) :
    Calls Tryz.prog 39 #[.pointer (some ⟨X, 0, none⟩), nv] w (LkEnd B X v p (firstP tpD [] n p) w) := by
  by_cases hk5 : n.k = 5
  · obtain ⟨u, rfl, hs⟩ := hv
    obtain ⟨ao, cap, rfl, hcap, hcm⟩ := hs.shape
    have hmf : ∀ (fn : Fn) (first cap : Array Value) (w : World), (Instr.makeFunc fn first cap).run Tryz.prog w = .ok (.func fn first cap) w := fun _ _ _ _ => rfl
    have hkb : (n.k != 5) = false := by simp [hk5]
    have HR := Lib.hid (firstP_kids (tp := tpD) (way := []) (n := n) (p := p) (by simp [tpD, hk5]))
    have h3 := threeC w (.cells #[.pointer (some ⟨X, 0, none⟩)] 51) (.cells #[.int .i64 n.k, .string n.t, .string n.v, .slice ao n.kids.length cap] 24) (.cells #[.func (.func 57) #[] #[]] 68)
    have H3 := Lib.hid h3
    have H := Lib.hid hlk; have HS := Lib.hid hs; have HSB := Lib.hid hSB; have HBB := Lib.hid hB; have HTK := Lib.hid htk
    have hsz := kids_size n
    have hsl := sizes_len n.kids
    have HXW := Lib.hid (lt_blk hlk.blk)
    have HVW := Lib.hid (fun g (e : v.ownBlock = some g) => (hlk.row.lt g e).2)
    clear hlk hs hSB hB hk5 htk h3
    unfold ndV
    go_enter Tryz.func39, Tryz.ntmps39
    go_wp2_with fail
    obtain ⟨W3, hW3⟩ : ∃ W3, (((w.alloc (.cells #[.pointer (some ⟨X, 0, none⟩)] 51)).alloc (.cells #[.int .i64 n.k, .string n.t, .string n.v, .slice ao n.kids.length cap] 24)).alloc (.cells #[.func (.func 57) #[] #[]] 68)) = W3 := ⟨_, rfl⟩
    have HL0 := Lib.hid (show W3.heap[w.heap.size]? = some (.cells #[.pointer (some ⟨X, 0, none⟩)] 51 (0, 0)) from hW3 ▸ H3.out.1)
    have HN0 := Lib.hid (show W3.heap[w.heap.size + 1]? = some (.cells #[.int .i64 n.k, .string n.t, .string n.v, .slice ao n.kids.length cap] 24 (0, 0)) from hW3 ▸ H3.out.2.1)
    have HK0 := Lib.hid (show W3.heap[w.heap.size + 1 + 1]? = some (.cells #[.func (.func 57) #[] #[]] 68 (0, 0)) from hW3 ▸ H3.out.2.2.1)
    have HB3 := Lib.hid (show Below w.heap.size w W3 from hW3 ▸ H3.out.2.2.2)
    obtain ⟨x0, x1, x2, x3, _, _, _, _, hxl⟩ := nd_cells HN0.out
    rw [hW3]
    clear hW3
    go_wp2_with fail
    refine (kids_any 58 #[.pointer (some ⟨w.heap.size + 1 + 1, 0, none⟩), .pointer (some ⟨w.heap.size + 1, 0, none⟩), .pointer (some ⟨w.heap.size, 0, none⟩)] (fun args w => by rfl) _ B X v p S n _ (fun i => if hi : i < n.kids.length then firstP tpD ([] ++ [n]) n.kids[i] (p ++ [(i : Int)]) else none) (H.out.below HB3.out) ⟨_, rfl, HS.out.below HB3.out⟩ HSB.out (Nat.le_trans HBB.out HB3.out.size) (by omega) (by omega) (fun W' v' i hi u hfar hat hlkW hnW => ?_)).mono ?_
    · rw [dif_pos hi]
      have hks := kid_size (n := n) hi
      have hn0 : 0 < n.kids.length := by omega
      have hk0 := kid_size (n := n) hn0
      have hkk := kids_size n.kids[0]
      have hkl := sizes_len n.kids[0].kids
      have hxw := HXW.out
      have hx3 := lt_blk HK0.out
      have keep : ∀ b, w.heap.size ≤ b → b < W3.heap.size → W'.heap[b]? = W3.heap[b]? := fun b h1 h2 => hfar.oth b h2 (by omega) (fun e => by have := HVW.out b e; omega)
      have knew : ∀ b, w.heap.size ≤ b → b < W3.heap.size → v'.ownBlock ≠ some b := fun b h1 h2 => by
        rcases hat with e | e
        · rw [e]; intro e2; have := HVW.out b e2; omega
        · intro e2; have := e b e2; omega
      refine delimK_any n n.kids[i] hn0 (HTK.out _ (List.getElem_mem hi)) W' (w.heap.size + 1 + 1) (w.heap.size + 1) w.heap.size X B v' _ S u (.slice ao n.kids.length cap) i ?_ ?_ ?_ ⟨by omega, by omega, by omega⟩ ⟨knew _ (by omega) (by omega), knew _ (by omega) (by omega), knew _ (by omega) (by omega)⟩ hlkW hnW ?_ HSB.out (Nat.le_trans HBB.out (Nat.le_trans HB3.out.size hfar.size)) (by rw [List.length_append, List.length_singleton]; omega) (by omega) (by omega)
      · rw [keep _ (by omega) (by omega)]; exact HK0.out
      · rw [keep _ (by omega) (by omega)]; exact HN0.out
      · rw [keep _ (by omega) (by omega)]; exact HL0.out
      · exact HS.out.alike ⟨Nat.le_trans HB3.out.size hfar.size, fun b hb hl => (hfar.oth b (Nat.lt_of_lt_of_le hl HB3.out.size) (by have := HSB.out b hb; have := H.out.lo; omega) (fun e => by have := (H.out.row.lt _ e).1; have := HSB.out b hb; omega)).trans (HB3.out.block b hl)⟩ fun b h _ => h
    · intro e w3 he
      have he2 := he.after HB3.out
      rw [← HR.out] at he2
      cases ho : firstP tpD [] n p with
      | none =>
        rw [ho] at he2
        obtain ⟨⟨rr, rfl⟩, v', hp⟩ := he2
        have HP := Lib.hid hp
        have HO := Lib.hid ho
        clear hp he
        go_wp2_with fail
        go_end0
        show LkEnd B X v p (firstP tpD [] n p) w _ _
        rw [HO.out]
        exact ⟨⟨_, rfl⟩, _, HP.out⟩
      | some q =>
        rw [ho] at he2
        obtain ⟨hfar, a, c, rfl, hints⟩ := he2
        have HF2 := Lib.hid hfar; have HI := Lib.hid hints
        have HO := Lib.hid ho
        clear hfar hints he
        go_wp2_with fail
        exact ⟨rfl, HF2.out, a, c, rfl, HI.out⟩
  · rw [firstP_no (by simp [tpD, hk5])]
    exact delimNo_any n hk5 w B X v p S nv hlk hv (by omega)
theorem tf_leaf {R : Ev → Bool} {n : Nd} (h : Tf R n) (hk : n.k = 4) : n.kids = [] := by
  cases h with
  | mk k t v ks hr ho hk' ht =>
    simp only [Nd.k] at hk
    subst hk
    rcases odd_kind ho with ⟨_, h⟩ | ⟨h, _⟩ | h
    · exact List.eq_nil_of_length_eq_zero h
    · omega
    · omega
theorem Tf.kid {R : Ev → Bool} {n x : Nd} (h : Tf R n) (hx : x ∈ n.kids) : Tf R x := by
  cases h with
  | mk k t v ks hr ho hk ht => exact ht x hx
theorem wh_leaf {n : Nd} (h : n.wh = 0) : ∀ k ∈ n.kids, ∀ f ∈ k.kids, ∀ x ∈ f.kids, x.k = 4 → x.kids = [] :=
  fun k hk f hf x hx => tf_leaf (((tf_wh h).1.kid hk).kid hf |>.kid hx)
set_option maxRecDepth 100000 in
set_option maxHeartbeats 4000000 in
/-- carry.Of of the delim syntax. -/
theorem carryDelim_any (n : Nd) (w : World) (S : Nat → Prop) (v : Value) (hE : EnvU w) (hv : NdV w S v n) (hok : n.ok) (hN : n.size ≤ 50000) :
    Calls Tryz.prog 22 #[.int .i64 5, v] w (OfPost (ofP tpD n) w) := by
  obtain ⟨u, rfl, hs⟩ := hv
  obtain ⟨ao, cap, rfl, hcap, hcm⟩ := hs.shape
  have HV := Lib.hid (NdV.mk hs.ltC); have HE := Lib.hid hE; have HOK := Lib.hid hok; have HN := Lib.hid hN
  have HWL := Lib.hid (show n.walk.length ≤ 100000 by have := walk_len n; omega)
  have hmf : ∀ (fn : Fn) (first cap : Array Value) (w : World), (Instr.makeFunc fn first cap).run Tryz.prog w = .ok (.func fn first cap) w := fun _ _ _ _ => rfl
  clear hs hE hok hN
  unfold ndV
  go_enter_defers Tryz.func22, Tryz.ntmps22
  have h3 := threeC w (.cells #[.int .i64 n.k, .string n.t, .string n.v, .slice ao n.kids.length cap] 24) (.cells #[.slice none 0 0] 27) (.cells #[.int .i64 0] 28)
  have H3 := Lib.hid h3
  clear h3
  go_wp2_with fail
  refine (treeMay_any n _ _ _ (HE.out.below H3.out.2.2.2) (HV.out.below H3.out.2.2.2) (fun b hb => Nat.lt_of_lt_of_le hb H3.out.2.2.2.size) HOK.out HWL.out).mono ?_
  rintro e w2 ⟨rfl, hb⟩
  have hx0 := (hb.block _ (lt_blk H3.out.1)).trans H3.out.1
  have hx1 := (hb.block _ (lt_blk H3.out.2.1)).trans H3.out.2.1
  have hx2 := (hb.block _ (lt_blk H3.out.2.2.1)).trans H3.out.2.2.1
  have HB2 := Lib.hid (bthen H3.out.2.2.2 hb)
  obtain ⟨x0, x1, x2, x3, _, _, _, _, hxl⟩ := nd_cells hx0
  obtain ⟨P5, h5⟩ : ∃ P5, w.heap.size + 1 + 1 = P5 := ⟨_, rfl⟩
  obtain ⟨P4, h4⟩ : ∃ P4, w.heap.size + 1 = P4 := ⟨_, rfl⟩
  have hne : P5 ≠ P4 := by omega
  have hne' : P4 ≠ P5 := by omega
  have HLO := Lib.hid (show w.heap.size ≤ P4 ∧ w.heap.size ≤ P5 by omega)
  rw [h5] at hx2
  rw [h4] at hx1
  rw [h5, h4]
  have HX := Lib.hid (And.intro hx1 hx2)
  have hl4 := lt_blk hx1
  have hl5 := lt_blk hx2
  obtain ⟨c4, g4⟩ := blk_cell hx1 0 (by simp)
  obtain ⟨c5, g5⟩ := blk_cell hx2 0 (by simp)
  obtain ⟨E, hE⟩ : ∃ E, (wholeP RP (n.walk.map GoEv.ev)).2 = E := ⟨_, rfl⟩
  have HEQ := Lib.hid (show n.wh = E from hE)
  rw [hE]
  clear hb hx0 hx1 hx2 hE h4 h5
  by_cases hz : E = 0
  · subst hz
    have HLK := Lib.hid (show ∀ W : World, Below w.heap.size w W → Lk (W.alloc (.cells #[.slice none 0 0] 52)) W.heap.size W.heap.size (.slice none 0 0) [] from fun W _ => ⟨heap_alloc_new W _, World.ownsRow_nil _ _ _ _, (by simp [Value.ownBlock]), Nat.le_refl _, fun x hx => by cases hx⟩)
    go_wp2_with fail
    have hlk := HLK.out w2 HB2.out
    have hbl : Below w2.heap.size w2 (w2.alloc (.cells #[.slice none 0 0] 52)) := (Below.refl _ _).alloc (Nat.le_refl _) _
    have hnv := HV.out.below (bthen HB2.out hbl)
    refine (delim_any n (wh_leaf HEQ.out) _ w2.heap.size w2.heap.size (.slice none 0 0) [] _ _ hlk hnv (fun b hb => Nat.lt_of_lt_of_le hb HB2.out.size) (by simp) (by have := HN.out; simp; omega)).mono ?_
    intro e w3 he
    have hfar : LkFar w2.heap.size (.slice none 0 0) (w2.alloc (.cells #[.slice none 0 0] 52)) w3 := by
      cases ho : firstP tpD [] n [] with
      | none => rw [ho] at he; obtain ⟨_, v', hp⟩ := he; exact hp.far
      | some q => rw [ho] at he; exact he.1
    have hb3 : Below w2.heap.size w2 w3 := by
      refine ⟨hfar.os, hfar.tape, hfar.output, Nat.le_trans hbl.size hfar.size, fun k hk => ?_⟩
      rw [hfar.oth k (Nat.lt_of_lt_of_le hk hbl.size) (by omega) (by simp [Value.ownBlock])]
      exact hbl.block k hk
    have HB3 := Lib.hid hb3
    have hx4 := (hb3.block _ hl4).trans HX.out.1
    have hx5 := (hb3.block _ hl5).trans HX.out.2
    have HX3 := Lib.hid (And.intro hx4 hx5)
    have hl43 := lt_blk hx4
    have hl53 := lt_blk hx5
    clear c4 g4 c5 g5 hl4 hl5 x0 x1 x2 x3 hxl hnv hlk hfar hb3
    obtain ⟨c4, g4⟩ := blk_cell hx4 0 (by simp)
    obtain ⟨c5, g5⟩ := blk_cell hx5 0 (by simp)
    clear hx4 hx5
    cases ho : firstP tpD [] n [] with
    | none =>
      rw [ho] at he
      obtain ⟨⟨rr, rfl⟩, v', hp⟩ := he
      have HP := Lib.hid (show ofP tpD n = (none, 0) by unfold ofP; rw [if_neg (by rw [HEQ.out]; simp), ho])
      clear hp
      go_wp2_with fail
      obtain ⟨W9, hW9⟩ : ∃ W9, (w3.setCell ⟨P4, 0, none⟩ (.slice none 0 0)).setCell ⟨P5, 0, none⟩ (.int .i64 0) = W9 := ⟨_, rfl⟩
      have hk := two_vars HX3.out.1 HX3.out.2 hne' (.slice none 0 0) (.int .i64 0)
      rw [hW9] at hk
      have k4 : W9.cell? ⟨P4, 0, none⟩ = some (.slice none 0 0) := (blk_cell hk.1 0 (by simp)).1
      have k5 : W9.cell? ⟨P5, 0, none⟩ = some (.int .i64 0) := (blk_cell hk.2 0 (by simp)).1
      have hbw : Below w.heap.size w W9 := by
        rw [← hW9]
        exact ((bthen HB2.out HB3.out).setCell (p := ⟨P4, 0, none⟩) HLO.out.1 _).setCell (p := ⟨P5, 0, none⟩) HLO.out.2 _
      rw [hW9]
      refine leaves_cons (f := 34) (args := #[.pointer (some ⟨P4, 0, none⟩), .pointer (some ⟨P5, 0, none⟩)]) (by simp) (by simp [go_sem]) ?_
      refine (of1_idle ⟨P4, 0, none⟩ ⟨P5, 0, none⟩ W9).mono ?_
      rintro e u' w'' ⟨rfl, rfl, hb⟩
      have m4 : w''.cell? ⟨P4, 0, none⟩ = some (.slice none 0 0) := by rw [hb.cell (p := ⟨P4, 0, none⟩) (cell_lt k4)]; exact k4
      have m5 : w''.cell? ⟨P5, 0, none⟩ = some (.int .i64 0) := by rw [hb.cell (p := ⟨P5, 0, none⟩) (cell_lt k5)]; exact k5
      have hbb := bthen hbw hb
      simp [Leaves, settle, results, Tryz.results22, go_sem, m4, m5]
      rw [HP.out]
      exact ⟨hbb, none, 0, 0, rfl, rfl⟩
    | some q =>
      rw [ho] at he
      obtain ⟨_, a, c, rfl, hints⟩ := he
      have HP := Lib.hid (show ofP tpD n = (some q, 20) by unfold ofP; rw [if_neg (by rw [HEQ.out]; simp), ho])
      have HI := Lib.hid hints
      clear hints
      go_wp2_with fail
      refine leaves_cons (f := 34) (args := #[.pointer (some ⟨P4, 0, none⟩), .pointer (some ⟨P5, 0, none⟩)]) (by simp) (by simp [go_sem]) ?_
      refine (of1_catch P4 P5 a q.length c [] w3 _ _ HX3.out.1 HX3.out.2 hne').mono ?_
      rintro e u' w'' ⟨rfl, rfl, hw⟩
      obtain ⟨W9, hW9⟩ : ∃ W9, (w3.setCell ⟨P4, 0, none⟩ (.slice a q.length c)).setCell ⟨P5, 0, none⟩ (.int .i64 20) = W9 := ⟨_, rfl⟩
      have hk := two_vars HX3.out.1 HX3.out.2 hne' (.slice a q.length c) (.int .i64 20)
      rw [hW9] at hk hw
      have hba : Below W9.heap.size W9 w'' := by rw [hw]; exact (Below.refl _ _).alloc (Nat.le_refl _) _
      have m4 : w''.cell? ⟨P4, 0, none⟩ = some (.slice a q.length c) := (blk_cell ((hba.block _ (lt_blk hk.1)).trans hk.1) 0 (by simp)).1
      have m5 : w''.cell? ⟨P5, 0, none⟩ = some (.int .i64 20) := (blk_cell ((hba.block _ (lt_blk hk.2)).trans hk.2) 0 (by simp)).1
      have hbw : Below w.heap.size w W9 := by
        rw [← hW9]
        exact ((bthen HB2.out HB3.out).setCell (p := ⟨P4, 0, none⟩) HLO.out.1 _).setCell (p := ⟨P5, 0, none⟩) HLO.out.2 _
      have hbb := bthen hbw hba
      have hii : IntsIn w'' (.slice a q.length c) q := by
        obtain ⟨ao, cp, e, h1, h2, h3⟩ := HI.out.ints.ex
        injection e with e1 e2 e3
        subst e1; subst e3
        refine ⟨⟨a, c, rfl, h1, h2, fun i hi => ?_⟩, HI.out.ints.ok⟩
        obtain ⟨b, o, e, hc⟩ := h3 i hi
        refine ⟨b, o, e, ?_⟩
        have hnew := HI.out.new _ e
        have hb1 : w2.heap.size < b := by have h := hnew; simp at h; omega
        have hp4 := lt_blk HX.out.1
        have hp5 := lt_blk HX.out.2
        have hlt := cell_lt hc
        have h9 : W9.cell? ⟨b, o + i, none⟩ = some (.int .i64 q[i]) := by
          rw [← hW9, World.cell?_setCell_other _ _ _ _ (fun e => by injection e with e; omega), World.cell?_setCell_other _ _ _ _ (fun e => by injection e with e; omega)]; exact hc
        rw [hba.cell (p := ⟨b, o + i, none⟩) (cell_lt h9)]
        exact h9
      simp [Leaves, settle, results, Tryz.results22, go_sem, m4, m5]
      rw [HP.out]
      exact ⟨hbb, a, q.length, c, rfl, rfl, hii⟩
  · have hzb : (E != 0) = true := by simp [hz]
    go_wp2_with fail
    obtain ⟨W9, hW9⟩ : ∃ W9, (w2.setCell ⟨P4, 0, none⟩ (.slice none 0 0)).setCell ⟨P5, 0, none⟩ (.int .i64 E) = W9 := ⟨_, rfl⟩
    have hk := two_vars HX.out.1 HX.out.2 hne' (.slice none 0 0) (.int .i64 E)
    rw [hW9] at hk
    have k4 : W9.cell? ⟨P4, 0, none⟩ = some (.slice none 0 0) := (blk_cell hk.1 0 (by simp)).1
    have k5 : W9.cell? ⟨P5, 0, none⟩ = some (.int .i64 E) := (blk_cell hk.2 0 (by simp)).1
    have hbw : Below w.heap.size w W9 := by
      rw [← hW9]
      exact (HB2.out.setCell (p := ⟨P4, 0, none⟩) HLO.out.1 _).setCell (p := ⟨P5, 0, none⟩) HLO.out.2 _
    rw [hW9]
    have hP := Lib.hid (show ofP tpD n = (none, E) by unfold ofP; rw [if_pos (by rw [HEQ.out]; exact hz), HEQ.out])
    simp [bodyPostD, Leaves, settle, results, Tryz.results22, go_sem, k4, k5]
    rw [hP.out]
    exact ⟨hbw, none, 0, 0, rfl, rfl⟩
end Go.Proofs.YtaolnpiemeaabaaGreatDoor

/- hexaplaref15.tells of the delim syntax. -/
namespace Go.Proofs.YtaolnpiemeaabaaGreatDoor
open Go.RowKit Ev5
set_option linter.unusedSimpArgs false
set_option linter.unusedVariables false

/-- Nodes each of which stands in the one ahead of it. -/
def WayC : List Nd → Prop
  | [] => False
  | [_] => True
  | a :: b :: r => b ∈ a.kids ∧ WayC (b :: r)
theorem wayC_snoc : ∀ (way : List Nd) (n x : Nd), WayC (way ++ [n]) → x ∈ n.kids → WayC (way ++ [n] ++ [x])
  | [], n, x, _, hx => ⟨hx, trivial⟩
  | [a], n, x, h, hx => ⟨h.1, hx, trivial⟩
  | a :: b :: r, n, x, h, hx => ⟨h.1, wayC_snoc (b :: r) n x h.2 hx⟩
theorem wayC_ne {l : List Nd} (h : WayC l) : l ≠ [] := by rintro rfl; exact h
set_option maxRecDepth 100000 in
set_option maxHeartbeats 8000000 in
theorem refDelim_any (w : World) (S : Nat → Prop) (wv : Value) (way : List Nd) (hs : SlIn w S wv way) (hw : WayC way) (hl : way.length ≤ 200000) :
    Calls Tryz.prog 72 #[wv] w fun e w' => e = .returned (.bool (tpD way)) ∧ Below w.heap.size w w' := by
  have hne := wayC_ne hw
  obtain ⟨init, n, hway⟩ : ∃ l x, way = l ++ [x] := ⟨_, _, (List.dropLast_concat_getLast hne).symm⟩
  obtain ⟨wa, wc, rfl, hwc, hwm⟩ := hs.shape
  have hlen : way.length = init.length + 1 := by rw [hway, List.length_append, List.length_singleton]
  have hlast : init.length < way.length := by omega
  obtain ⟨bb, oo, ux, hao, hbw, c0, c1, c2, c3, hsx⟩ := hs.at_ init.length hlast
  subst hao
  have hget : way[init.length] = n := by simp [hway]
  rw [hget] at c0 c1 c2 hsx
  obtain ⟨ax, cx, rfl, hcx, hcm⟩ := hsx.shape
  have HS := Lib.hid hs; have HSX := Lib.hid hsx.ltC; have HW := Lib.hid hw
  obtain ⟨WK, hWK⟩ : ∃ WK, init.length = WK := ⟨_, rfl⟩
  rw [hWK] at hlen c0 c1 c2 c3
  have hw0 : (0 : Int) ≤ (WK : Int) := Int.natCast_nonneg _
  have HLEN := Lib.hid hlen
  have HB0 := Lib.hid (show Below w.heap.size w (w.alloc (.cells #[.int .i64 n.k, .string n.t, .string n.v, .slice ax n.kids.length cx] 24)) from (Below.refl _ _).alloc (Nat.le_refl _) _)
  have HX := Lib.hid (heap_alloc_new w (.cells #[.int .i64 n.k, .string n.t, .string n.v, .slice ax n.kids.length cx] 24))
  clear hs hne hsx hlast hget hw
  unfold maxLen at *
  have hwkI : ((WK + 1 : Nat) : Int) - 1 = (WK : Int) := by omega
  have hw2 : (WK : Int) < ((WK + 1 : Nat) : Int) := by omega
  rw [hlen] at hwc hl
  rw [hlen]
  by_cases h1 : WK = 0
  · subst h1
    obtain rfl : init = [] := List.eq_nil_of_length_eq_zero hWK
    obtain rfl := hway
    have HT := Lib.hid (show tpD [n] = (n.k == 5) by simp only [tpD]; rfl)
    rw [Nat.zero_mul, Nat.add_zero] at c0 c1 c2 c3
    obtain ⟨x0, x1, x2, x3, _, _, _, _, hxl⟩ := nd_cells HX.out
    go_enter Tryz.func72, Tryz.ntmps72
    go_wp2_with fail
    go_ret
    exact ⟨by rw [HT.out]; rfl, HB0.out⟩
  by_cases h2 : WK = 1
  · subst h2
    obtain ⟨r, rfl⟩ : ∃ r, init = [r] := by
      match init, hWK with
      | [r], _ => exact ⟨r, rfl⟩
    obtain rfl := hway
    simp only [Nat.reduceMul] at c0 c1 c2 c3
    obtain ⟨rb, ro, rx, hro, hrw, r0, r1, r2, r3, hrx⟩ := HS.out.at_ 0 (by simp)
    obtain ⟨ar, cr, rfl, hcr, hcrm⟩ := hrx.shape
    injection hro with hro
    injection hro with hro1 hro2 _
    subst hro1; subst hro2
    rw [Nat.zero_mul, Nat.add_zero] at r0 r1 r2 r3
    simp only [List.cons_append, List.getElem_cons_zero] at r0 r1 r2 r3 hrx hcr
    have hr0 : 0 < r.kids.length := List.length_pos_iff.2 (fun e => by have h := HW.out.1; rw [e] at h; cases h)
    obtain ⟨yb, yo, yx, hyo, hyw, y0, y1, y2, y3, hyx⟩ := hrx.at_ 0 hr0
    obtain ⟨ay, cy, rfl, hcy, hcym⟩ := hyx.shape
    subst hyo
    obtain ⟨y, hy⟩ : ∃ y, r.kids[0] = y := ⟨_, rfl⟩
    rw [hy] at y0 y1 y2 y3 hyx hcy
    rw [Nat.zero_mul, Nat.add_zero] at y0 y1 y2 y3
    have HSY := Lib.hid hyx.ltC
    have HYK := Lib.hid (show (r.kids.headD n).keys = y.keys by
      match h : r.kids, hr0 with
      | z :: q, _ =>
        simp only [h, List.getElem_cons_zero] at hy
        rw [hy]; rfl)
    clear hrx hyx hy
    have HB1 := Lib.hid (show Below w.heap.size w ((w.alloc (.cells #[.int .i64 n.k, .string n.t, .string n.v, .slice ax n.kids.length cx] 24)).alloc (.cells #[.int .i64 y.k, .string y.t, .string y.v, .slice ay y.kids.length cy] 24)) from HB0.out.alloc (by simp) _)
    have HX1 := Lib.hid (two_first w (.cells #[.int .i64 n.k, .string n.t, .string n.v, .slice ax n.kids.length cx] 24) (.cells #[.int .i64 y.k, .string y.t, .string y.v, .slice ay y.kids.length cy] 24))
    have HY1 := Lib.hid (two_last w (.cells #[.int .i64 n.k, .string n.t, .string n.v, .slice ax n.kids.length cx] 24) (.cells #[.int .i64 y.k, .string y.t, .string y.v, .slice ay y.kids.length cy] 24))
    have HTP := Lib.hid (show tpD [r, n] = (decide (n.k = 7) && decide (n.kids ≠ []) && decide (n.kids.length ≤ 8) && decide (n.keys = y.keys)) by
      show (decide (n.k = 7) && decide (n.kids ≠ []) && decide (n.kids.length ≤ 8) && decide (n.keys = (r.kids.headD n).keys)) = _
      rw [HYK.out])
    by_cases h7 : ¬ n.k = 7
    · have HT := Lib.hid (show tpD [r, n] = false by rw [HTP.out]; simp [h7])
      have hk7 : (n.k != 7) = true := by simp [h7]
      clear h7
      go_enter Tryz.func72, Tryz.ntmps72
      go_wp2_with fail
      go_ret
      exact ⟨by rw [HT.out]; rfl, HB1.out⟩
    have h7 : n.k = 7 := Decidable.not_not.1 h7
    have hk7 : (n.k != 7) = false := by simp [h7]
    by_cases h0 : n.kids = []
    · have HT := Lib.hid (show tpD [r, n] = false by rw [HTP.out]; simp [h0])
      have hk1 : ((n.kids.length : Int) == 0) = true := by simp [h0]
      clear h7 h0
      go_enter Tryz.func72, Tryz.ntmps72
      go_wp2_with fail
      go_ret
      exact ⟨by rw [HT.out]; rfl, HB1.out⟩
    have hk0 : 0 < n.kids.length := List.length_pos_iff.2 h0
    have hk1 : ((n.kids.length : Int) == 0) = false := by simp; omega
    by_cases h8 : ¬ n.kids.length ≤ 8
    · have HT := Lib.hid (show tpD [r, n] = false by rw [HTP.out]; simp [h8])
      have hk8 : decide (8 < (n.kids.length : Int)) = true := decide_eq_true (by omega)
      clear h7 h0
      go_enter Tryz.func72, Tryz.ntmps72
      go_wp2_with fail
      go_ret
      exact ⟨by rw [HT.out]; rfl, HB1.out⟩
    have h8 : n.kids.length ≤ 8 := Decidable.not_not.1 h8
    have hk8 : decide (8 < (n.kids.length : Int)) = false := decide_eq_false (by omega)
    by_cases h9 : ¬ n.kids.length = y.kids.length
    · have HT := Lib.hid (show tpD [r, n] = false by
        have h10 : ¬ n.keys = y.keys := fun e => h9 (by have := congrArg List.length e; simpa [Nd.keys] using this)
        rw [HTP.out]; simp [h10])
      have hk9 : ((n.kids.length : Int) != (y.kids.length : Int)) = true := by simp; omega
      clear h7 h0
      go_enter Tryz.func72, Tryz.ntmps72
      go_wp2_with fail
      go_ret
      exact ⟨by rw [HT.out]; rfl, HB1.out⟩
    have h9 : n.kids.length = y.kids.length := Decidable.not_not.1 h9
    have hk9 : ((n.kids.length : Int) != (y.kids.length : Int)) = false := by simp; omega
    have HT := Lib.hid (show tpD [r, n] = decide (n.keys = y.keys) by rw [HTP.out]; simp [h7, h0, h8])
    have HNL := Lib.hid (show n.keys.length = n.kids.length from List.length_map ..)
    have HYL := Lib.hid (show y.keys.length = y.kids.length from List.length_map ..)
    have H9 := Lib.hid h9
    clear h7 h0 h9
    go_enter Tryz.func72, Tryz.ntmps72
    go_wp2_with fail
    obtain ⟨W2, hW2⟩ : ∃ W2, (w.alloc (.cells #[.int .i64 n.k, .string n.t, .string n.v, .slice ax n.kids.length cx] 24)).alloc (.cells #[.int .i64 y.k, .string y.t, .string y.v, .slice ay y.kids.length cy] 24) = W2 := ⟨_, rfl⟩
    rw [hW2] at HB1 HX1 HY1
    rw [hW2]
    clear hW2
    go_loopw [5] (fun v5 wr => ∃ i : Nat, i ≤ n.kids.length ∧ v5 = .int .i64 i ∧ Hid (n.keys.take i = y.keys.take i) ∧ Hid (Below W2.heap.size W2 wr)) (fun v5 _ => n.kids.length - (intOf v5).toNat)
    case atStart => exact ⟨0, Nat.zero_le _, rfl, by show _ = _; simp, Below.refl _ _⟩
    case round =>
      obtain ⟨i, hi, rfl, HTI, HBR⟩ := hrel
      have HBW := Lib.hid (bthen HB1.out HBR.out)
      obtain ⟨x0, x1, x2, x3, _, _, _, _, hxl⟩ := nd_cells ((HBR.out.block _ (lt_blk HX1.out)).trans HX1.out)
      obtain ⟨w0, w1, w2, w3, _, _, _, _, hwl⟩ := nd_cells ((HBR.out.block _ (lt_blk HY1.out)).trans HY1.out)
      by_cases hlt : i < n.kids.length
      · have hlt2 : i < y.kids.length := by have := H9.out; omega
        have hi0 : (0 : Int) ≤ (i : Int) := Int.natCast_nonneg _
        have hi1 : (i : Int) < (n.kids.length : Int) := by omega
        have hi2 : (i : Int) < (y.kids.length : Int) := by omega
        obtain ⟨pb, po, px, hpo, hpw, p0, p1, p2, p3, hpx⟩ := HSX.out.at_ i hlt
        obtain ⟨qb, qo, qx, hqo, hqw, q0, q1, q2, q3, hqx⟩ := HSY.out.at_ i hlt2
        subst hpo; subst hqo
        have hnk : n.keys[i]'(by rw [HNL.out]; exact hlt) = n.kids[i].t := by simp [Nd.keys]
        have hyk : y.keys[i]'(by rw [HYL.out]; exact hlt2) = y.kids[i].t := by simp [Nd.keys]
        have HST := Lib.hid (fun he : n.kids[i].t = y.kids[i].t => show n.keys.take (i + 1) = y.keys.take (i + 1) by
          rw [List.take_add_one, List.take_add_one, List.getElem?_eq_getElem (by rw [HNL.out]; exact hlt), List.getElem?_eq_getElem (by rw [HYL.out]; exact hlt2), HTI.out, hnk, hyk, he])
        have HNE := Lib.hid (show n.kids[i].t ≠ y.kids[i].t → ¬ n.keys = y.keys from fun hne e => hne (by rw [← hnk, ← hyk]; congr 1))
        obtain ⟨s, hs⟩ : ∃ s, n.kids[i].t = s := ⟨_, rfl⟩
        obtain ⟨z, hz⟩ : ∃ z, y.kids[i].t = z := ⟨_, rfl⟩
        rw [hs] at p1
        rw [hz] at q1
        rw [hs, hz] at HST HNE
        have hbw := HBW.out
        have d1 : wr.cell? ⟨pb, po + i * 4 + 1, none⟩ = some (.string s) := (hbw.cell (p := ⟨pb, po + i * 4 + 1, none⟩) hpw).trans p1
        have e1 : wr.cell? ⟨qb, qo + i * 4 + 1, none⟩ = some (.string z) := (hbw.cell (p := ⟨qb, qo + i * 4 + 1, none⟩) hqw).trans q1
        have hpl : pb < wr.heap.size := Nat.lt_of_lt_of_le hpw hbw.size
        have hql : qb < wr.heap.size := Nat.lt_of_lt_of_le hqw hbw.size
        have HD := Lib.hid (show ∀ w' : World, Below wr.heap.size wr w' → (w'.cell? ⟨w.heap.size, 3, none⟩ = some (.slice (some ⟨pb, po, none⟩) n.kids.length cx) ∧ w'.cell? ⟨w.heap.size + 1, 3, none⟩ = some (.slice (some ⟨qb, qo, none⟩) y.kids.length cy)) ∧ w'.cell? ⟨pb, po + i * 4 + 1, none⟩ = some (.string s) ∧ w'.cell? ⟨qb, qo + i * 4 + 1, none⟩ = some (.string z) from fun w' hb => ⟨⟨(hb.cell (p := ⟨w.heap.size, 3, none⟩) hxl).trans x3, (hb.cell (p := ⟨w.heap.size + 1, 3, none⟩) hwl).trans w3⟩, (hb.cell (p := ⟨pb, po + i * 4 + 1, none⟩) hpl).trans d1, (hb.cell (p := ⟨qb, qo + i * 4 + 1, none⟩) hql).trans e1⟩)
        clear p0 p1 p2 p3 q0 q1 q2 q3 hpx hqx hnk hyk hs hz hbw
        by_cases hxy : s = z
        · subst hxy
          have HT2 := Lib.hid (HST.out rfl)
          go_wp2_with fail
          go_region_held3 (fun w' => (w'.cell? ⟨w.heap.size, 3, none⟩ = some (.slice (some ⟨pb, po, none⟩) n.kids.length cx) ∧ w'.cell? ⟨w.heap.size + 1, 3, none⟩ = some (.slice (some ⟨qb, qo, none⟩) y.kids.length cy)) ∧ w'.cell? ⟨pb, po + i * 4 + 1, none⟩ = some (.string s) ∧ w'.cell? ⟨qb, qo + i * 4 + 1, none⟩ = some (.string s)) (first | exact HD.out _ (Below.refl _ _).drew | go_keep) ((first | fail))
          go_wp2_with fail
          go_roundw
          case rel => exact ⟨i + 1, by omega, by go_num, HT2, Lib.hid (bthen HBR.out (Below.refl _ wr).drew)⟩
          case measure => simp [intOf]; omega
        · have HN := Lib.hid (HNE.out hxy)
          have hne : (s.toList != z.toList) = true := by rw [bne_iff_ne]; exact fun e => hxy (toL_inj e)
          have hne2 : (s.toList == z.toList) = false := by rw [beq_eq_false_iff_ne]; exact fun e => hxy (toL_inj e)
          clear hxy
          go_wp2_with fail
          go_region_held3 (fun w' => (w'.cell? ⟨w.heap.size, 3, none⟩ = some (.slice (some ⟨pb, po, none⟩) n.kids.length cx) ∧ w'.cell? ⟨w.heap.size + 1, 3, none⟩ = some (.slice (some ⟨qb, qo, none⟩) y.kids.length cy)) ∧ w'.cell? ⟨pb, po + i * 4 + 1, none⟩ = some (.string s) ∧ w'.cell? ⟨qb, qo + i * 4 + 1, none⟩ = some (.string z)) (first | exact HD.out _ (Below.refl _ _).drew | go_keep) ((first | fail))
          go_wp2_with fail
          go_ret
          exact ⟨by rw [HT.out, decide_eq_false HN.out]; rfl, bthen HBW.out (Below.refl _ wr).drew⟩
      · obtain rfl : i = n.kids.length := by omega
        have hi1 : ¬ ((n.kids.length : Nat) : Int) < (n.kids.length : Int) := by omega
        have HE := Lib.hid (show n.keys = y.keys by
          have h := HTI.out
          rw [List.take_of_length_le (by rw [HNL.out]; exact Nat.le_refl _), List.take_of_length_le (by rw [HYL.out, H9.out]; exact Nat.le_refl _)] at h
          exact h)
        go_wp2_with fail
        go_ret
        exact ⟨by rw [HT.out, decide_eq_true HE.out]; rfl, HBW.out⟩
  by_cases h4 : WK = 3
  · subst h4
    have HT := Lib.hid (show tpD way = (n.k == 4) by
      match init, hWK with
      | [a, b, c], _ => rw [hway]; simp only [tpD, List.cons_append, List.nil_append]; rfl)
    simp only [Nat.reduceMul] at c0 c1 c2 c3
    obtain ⟨x0, x1, x2, x3, _, _, _, _, hxl⟩ := nd_cells HX.out
    go_enter Tryz.func72, Tryz.ntmps72
    go_wp2_with fail
    go_ret
    exact ⟨by rw [HT.out]; rfl, HB0.out⟩
  · have HT := Lib.hid (show tpD way = true by
      rw [hway]
      match init, hWK with
      | [], h => exact absurd h.symm h1
      | [a], h => exact absurd h.symm h2
      | [a, b], h => rfl
      | [a, b, c], h => exact absurd h.symm h4
      | a :: b :: c :: d :: q, h => simp [tpD])
    have e1 : (((WK + 1 : Nat) : Int) == 1) = false := by rw [beq_eq_false_iff_ne]; omega
    have e2 : (((WK + 1 : Nat) : Int) == 2) = false := by rw [beq_eq_false_iff_ne]; omega
    have e4 : (((WK + 1 : Nat) : Int) == 4) = false := by rw [beq_eq_false_iff_ne]; omega
    obtain ⟨x0, x1, x2, x3, _, _, _, _, hxl⟩ := nd_cells HX.out
    go_enter Tryz.func72, Tryz.ntmps72
    go_wp2_with fail
    go_ret
    exact ⟨by rw [HT.out]; rfl, HB0.out⟩
set_option maxRecDepth 100000 in
set_option maxHeartbeats 4000000 in
theorem tellsDelim : TellsAt 5 tpD WayC := by
  intro w S wv way hE hs hw hl
  obtain ⟨wa, wc, rfl, hwc, hwm⟩ := hs.shape
  have HS := Lib.hid hs; have HW := Lib.hid hw
  clear hs hE hw
  go_enter Tryz.func44, Tryz.ntmps44
  go_wp2_with fail
  refine (refDelim_any w _ _ way HS.out HW.out hl).mono ?_
  rintro e w1 ⟨rfl, hb⟩
  have HB := Lib.hid hb
  clear hb
  go_wp2_with fail
  go_ret
  exact ⟨rfl, HB.out⟩
theorem refOfDelim_any (n : Nd) (w : World) (S : Nat → Prop) (v : Value) (hE : EnvU w) (hv : NdV w S v n) (hok : n.ok) (hsz : n.size ≤ 50000) :
    Calls Tryz.prog 12 #[.int .i64 5, v] w (OfPost (ofP tpD n) w) :=
  refOf_any 5 _ _ (by omega) (by omega) tellsDelim (fun way n h i hi => wayC_snoc way n _ h (List.getElem_mem hi)) n w S v hE hv hok hsz (fun _ => trivial)
end Go.Proofs.YtaolnpiemeaabaaGreatDoor
