import Derived.Test.YtmniblcooficgaaGreatDoorD39
import Derived.Test.YtmniblcooficgaaGreatDoorD36
namespace Go.Proofs.YtmniblcooficgaaGreatDoor
open Go.RowKit Ev5
set_option linter.unusedSimpArgs false
set_option linter.unusedVariables false

set_option maxRecDepth 100000 in
set_option maxHeartbeats 4000000 in
theorem refRows_any (n : Nd) (w : World) (S : Nat → Prop) (v : Value) (hv : NdV w S v n) (hk : n.kids.length ≤ 100000) :
    Calls Tryz.prog 99 #[v] w fun e w' => e = .returned (.bool (rowsS n)) ∧ Below w.heap.size w w' := by
  obtain ⟨u, rfl, hs⟩ := hv
  obtain ⟨ao, cap, rfl, hcap, hcm⟩ := hs.shape
  have HB0 := Lib.hid (show Below w.heap.size w (w.alloc (.cells #[.int .i64 n.k, .string n.t, .string n.v, .slice ao n.kids.length cap] 24)) from (Below.refl _ _).alloc (Nat.le_refl _) _)
  have HX := Lib.hid (heap_alloc_new w (.cells #[.int .i64 n.k, .string n.t, .string n.v, .slice ao n.kids.length cap] 24))
  have HS := Lib.hid hs.ltC
  clear hs
  unfold ndV
  unfold maxLen at *
  by_cases h5 : n.k = 5
  · have h5b : (n.k != 5) = false := by simp [h5]
    by_cases h0 : n.kids = []
    · have hl : ((n.kids.length : Int) == 0) = true := by rw [h0]; rfl
      have HR := Lib.hid (show rowsS n = false by unfold rowsS; simp [h0])
      clear h5 h0
      go_enter Tryz.func99, Tryz.ntmps99
      go_wp2_with fail
      go_ret
      exact ⟨by rw [HR.out]; rfl, HB0.out⟩
    · have hl : ((n.kids.length : Int) == 0) = false := by have := List.length_pos_iff.2 h0; simp; omega
      have HR := Lib.hid (show rowsS n = n.kids.all (fun x => decide (x.k = 7)) by unfold rowsS; rw [decide_eq_true h5, decide_eq_true h0]; rfl)
      clear h5 h0
      go_enter Tryz.func99, Tryz.ntmps99
      go_wp2_with fail
      go_loopw [3] (fun v3 wr => ∃ i : Nat, i ≤ n.kids.length ∧ v3 = .int .i64 i ∧ Hid ((n.kids.take i).all (fun x => decide (x.k = 7)) = true) ∧ Hid (wr.heap[w.heap.size]? = some (.cells #[.int .i64 n.k, .string n.t, .string n.v, .slice ao n.kids.length cap] 24 (0, 0))) ∧ Hid (Below w.heap.size w wr)) (fun v3 _ => n.kids.length - (intOf v3).toNat)
      case atStart => exact ⟨0, Nat.zero_le _, rfl, rfl, HX.out, HB0.out⟩
      case round =>
        obtain ⟨i, hi, rfl, HA, HXR, HBR⟩ := hrel
        obtain ⟨x0, x1, x2, x3, _, _, _, _, hxl⟩ := nd_cells HXR.out
        by_cases hlt : i < n.kids.length
        · have hi0 : (0 : Int) ≤ (i : Int) := Int.natCast_nonneg _
          have hi1 : (i : Int) < (n.kids.length : Int) := by omega
          obtain ⟨kb, ko, kx, hko, hkw, k0, k1, k2, k3, hkx⟩ := HS.out.at_ i hlt
          subst hko
          have hst := all7_step hlt
          rw [HA.out] at hst
          have HNO := Lib.hid (all7_no hlt)
          obtain ⟨yk, hy⟩ : ∃ yk, n.kids[i].k = yk := ⟨_, rfl⟩
          rw [hy] at k0 hst HNO
          have d0 : wr.cell? ⟨kb, ko + i * 4, none⟩ = some (.int .i64 yk) := (HBR.out.cell (p := ⟨kb, ko + i * 4, none⟩) hkw).trans k0
          have hkl : kb < wr.heap.size := Nat.lt_of_lt_of_le hkw HBR.out.size
          have HST := Lib.hid hst
          clear k0 k1 k2 k3 hkx hst hy
          by_cases h7 : yk = 7
          · have h7b : (yk != 7) = false := by simp [h7]
            have HST2 := Lib.hid (show (n.kids.take (i + 1)).all (fun x => decide (x.k = 7)) = true by rw [HST.out, decide_eq_true h7]; rfl)
            clear h7
            go_wp2_with fail
            go_roundw
            case rel => exact ⟨i + 1, by omega, by go_num, HST2.out, HXR.out, HBR.out⟩
            case measure => simp [intOf]; omega
          · have h7b : (yk != 7) = true := by simp [h7]
            have HN := Lib.hid (show rowsS n = false by rw [HR.out]; exact HNO.out h7)
            clear h7
            go_wp2_with fail
            go_ret
            exact ⟨by rw [HN.out]; rfl, HBR.out⟩
        · obtain rfl : i = n.kids.length := by omega
          have hi1 : ¬ ((n.kids.length : Nat) : Int) < (n.kids.length : Int) := by omega
          have HY := Lib.hid (show rowsS n = true by rw [HR.out]; have h := HA.out; rwa [List.take_length] at h)
          go_wp2_with fail
          go_ret
          exact ⟨by rw [HY.out]; rfl, HBR.out⟩
  · have h5b : (n.k != 5) = true := by simp [h5]
    have HR := Lib.hid (show rowsS n = false by unfold rowsS; simp [h5])
    clear h5
    go_enter Tryz.func99, Tryz.ntmps99
    go_wp2_with fail
    go_ret
    exact ⟨by rw [HR.out]; rfl, HB0.out⟩
theorem v0_get {f : Nd} (h : 0 < f.kids.length) : f.kids[0] = v0 f := by
  unfold v0
  match hk : f.kids, h with
  | a :: b, _ => simp [hk]
set_option maxRecDepth 100000 in
set_option maxHeartbeats 4000000 in
theorem refDeep_any (f : Nd) (w : World) (S : Nat → Prop) (v : Value) (hv : NdV w S v f) (h0 : 0 < f.kids.length) (hk : (v0 f).kids.length ≤ 100000) :
    Calls Tryz.prog 98 #[v] w fun e w' => e = .returned (.bool (deepS f)) ∧ Below w.heap.size w w' := by
  obtain ⟨u, rfl, hs⟩ := hv
  obtain ⟨ao, cap, rfl, hcap, hcm⟩ := hs.shape
  have HB0 := Lib.hid (show Below w.heap.size w (w.alloc (.cells #[.int .i64 f.k, .string f.t, .string f.v, .slice ao f.kids.length cap] 24)) from (Below.refl _ _).alloc (Nat.le_refl _) _)
  have HX := Lib.hid (heap_alloc_new w (.cells #[.int .i64 f.k, .string f.t, .string f.v, .slice ao f.kids.length cap] 24))
  obtain ⟨kb, ko, kx, hko, hkw, k0, k1, k2, k3, hkx⟩ := hs.at_ 0 h0
  obtain ⟨ay, cy, rfl, hy1, hy2⟩ := hkx.shape
  clear hy1 hy2
  subst hko
  rw [v0_get h0] at k0 k1 k2 k3 hkx
  rw [Nat.zero_mul, Nat.add_zero] at k0 k1 k2 k3
  have HD := Lib.hid (show deepS f = (rowsS (v0 f) || decide ((v0 f).k = 7)) from rfl)
  obtain ⟨x, hx⟩ : ∃ x, v0 f = x := ⟨_, rfl⟩
  rw [hx] at k0 k1 k2 k3 hkx hk HD
  have HC := Lib.hid (fun (W : World) (hb : Below w.heap.size w W) => show Calls Tryz.prog 99 #[.agg #[.int .i64 x.k, .string x.t, .string x.v, .slice ay x.kids.length cy]] W _ from refRows_any x W _ _ (.mk (hkx.ltC.below hb)) hk)
  have HKC := Lib.hid (show ∀ W : World, Below w.heap.size w W → W.cell? ⟨kb, ko, none⟩ = some (.int .i64 x.k) ∧ W.cell? ⟨kb, ko + 1, none⟩ = some (.string x.t) ∧ W.cell? ⟨kb, ko + 2, none⟩ = some (.string x.v) ∧ W.cell? ⟨kb, ko + 3, none⟩ = some (.slice ay x.kids.length cy) from fun W hb => ⟨(hb.cell (p := ⟨kb, ko, none⟩) hkw).trans k0, (hb.cell (p := ⟨kb, ko + 1, none⟩) hkw).trans k1, (hb.cell (p := ⟨kb, ko + 2, none⟩) hkw).trans k2, (hb.cell (p := ⟨kb, ko + 3, none⟩) hkw).trans k3⟩)
  obtain ⟨d0, d1, d2, d3⟩ := HKC.out _ HB0.out
  have hkl := Nat.lt_of_lt_of_le hkw HB0.out.size
  have HKW := Lib.hid hkw
  have hl1 : (0 : Int) < (f.kids.length : Int) := by omega
  clear hs k0 k1 k2 k3 hkx hx hk
  unfold ndV
  unfold maxLen at *
  go_enter Tryz.func98, Tryz.ntmps98
  go_wp2_with fail
  refine (HC.out _ HB0.out).mono ?_
  rintro e w2 ⟨rfl, hb⟩
  have HB2 := Lib.hid (bthen HB0.out hb)
  have HX2 := Lib.hid ((hb.block _ (lt_blk HX.out)).trans HX.out)
  clear hb d0 d1 d2 d3 hkl
  obtain ⟨x0, x1, x2, x3, _, _, _, _, hxl⟩ := nd_cells HX2.out
  obtain ⟨d0, d1, d2, d3⟩ := HKC.out _ HB2.out
  have hkl := Nat.lt_of_lt_of_le HKW.out HB2.out.size
  obtain ⟨RB, hRB⟩ : ∃ RB, rowsS x = RB := ⟨_, rfl⟩
  rw [hRB] at HD ⊢
  clear hRB
  cases RB with
  | true =>
    have HR := Lib.hid (show deepS f = true by rw [HD.out]; rfl)
    go_wp2_with fail
    go_ret
    exact ⟨by rw [HR.out]; rfl, HB2.out⟩
  | false =>
    by_cases h7 : x.k = 7
    · have h7b : (x.k == 7) = true := by simp [h7]
      have HR := Lib.hid (show deepS f = true by rw [HD.out, decide_eq_true h7]; rfl)
      clear h7
      go_wp2_with fail
      go_ret
      exact ⟨by rw [HR.out]; rfl, HB2.out⟩
    · have h7b : (x.k == 7) = false := by simp [h7]
      have HR := Lib.hid (show deepS f = false by rw [HD.out, decide_eq_false h7]; rfl)
      clear h7
      go_wp2_with fail
      go_ret
      exact ⟨by rw [HR.out]; rfl, HB2.out⟩
theorem boundB : ∃ pB : Nat → Nat, (∀ j, pB (j + 1) = pB j + 1048577) ∧ ∀ j, j ≤ 200000 → pB j ≤ 1048577 * 200000 := ⟨fun j => 1048577 * j, fun j => Nat.mul_succ _ _, fun j h => Nat.mul_le_mul_left _ h⟩
theorem baT_size (b : ByteArray) : b.data.toList.length = b.size := Array.length_toList
def WayT (l : List Nd) : Prop := WayK l ∧ ∀ x ∈ l, Tf RP x
theorem wayT_snoc (way : List Nd) (n x : Nd) (h : WayT (way ++ [n])) (hx : x ∈ n.kids) : WayT (way ++ [n] ++ [x]) := by
  refine ⟨wayK_snoc way n x h.1 hx, fun y hy => ?_⟩
  rcases List.mem_append.1 hy with hy | hy
  · exact h.2 y hy
  · obtain rfl := List.mem_singleton.1 hy
    exact (h.2 n (by simp)).kid hx
theorem tf_key_len {f : Nd} (h : Tf RP f) (h8 : f.k = 8) : f.kids.length = 1 := by
  cases h with
  | mk k t v ks hr ho hk ht =>
    have h8 : k = 8 := h8
    subst h8
    rcases odd_kind ho with ⟨hk, _⟩ | ⟨_, hn⟩ | hk
    · omega
    · exact hn
    · omega
theorem wayC_next : ∀ (l : List Nd), WayC l → ∀ (i : Nat) (h : i + 1 < l.length), l[i + 1] ∈ (l[i]'(by omega)).kids
  | [], h, _, hi => h.elim
  | [_], _, i, hi => by simp at hi
  | a :: b :: r, h, 0, hi => h.1
  | a :: b :: r, h, i + 1, hi => wayC_next (b :: r) h.2 i (by simpa using hi)
theorem drop_two {l : List Nd} {j : Nat} (h : j + 1 < l.length) : l.drop j = l[j]'(by omega) :: l[j + 1] :: l.drop (j + 2) := by
  rw [List.drop_eq_getElem_cons (by omega : j < l.length), List.drop_eq_getElem_cons h]
theorem tabG_round {l : List Nd} {j : Nat} {p : List UInt8} (h : j + 2 < l.length) : tabG p (l.drop j) = if rowsS (v0 (l[j + 1]'(by omega))) = true then tabG (dotE p (l[j + 1]'(by omega))) (l.drop (j + 3)) else if (v0 (l[j + 1]'(by omega))).k = 7 then tabG (dotE p (l[j + 1]'(by omega))) (l.drop (j + 2)) else none := by
  rw [drop_two (by omega : j + 1 < l.length), List.drop_eq_getElem_cons h]
  match hr : l.drop (j + 3) with
  | [] => rfl
  | r :: m => rfl
theorem tabG_stop {l : List Nd} {j : Nat} {p : List UInt8} (h : j + 2 = l.length) : tabG p (l.drop j) = none := by
  rw [drop_two (by omega : j + 1 < l.length), List.drop_of_length_le (by omega)]; rfl
theorem tabG_end {l : List Nd} {j : Nat} {p : List UInt8} (h : l.length ≤ j + 1) : tabG p (l.drop j) = if j + 1 = l.length then some p else none := by
  by_cases he : j + 1 = l.length
  · rw [if_pos he, List.drop_eq_getElem_cons (by omega : j < l.length), List.drop_of_length_le (by omega)]; rfl
  · rw [if_neg he, List.drop_of_length_le (by omega)]; rfl
theorem dotE_len (p : List UInt8) (f : Nd) (h : f.t.size ≤ 1048576) : (dotE p f).length ≤ p.length + 1048577 := by
  have h1 := word_len f.t h
  unfold dotE
  split
  · simp only [List.length_append, List.length_nil]; omega
  · simp only [List.length_append, List.length_singleton]; omega
set_option maxRecDepth 100000 in
set_option maxHeartbeats 8000000 in
theorem refTab_any (w : World) (S : Nat → Prop) (wv : Value) (way : List Nd) (hs : SlIn w S wv way) (hne : way ≠ []) (hw : WayC way) (hok : ∀ x ∈ way, x.ok ∧ x.size ≤ 50000) (hl : way.length ≤ 200000) :
    Calls Tryz.prog 97 #[wv] w fun e w' => (∃ Pth : ByteArray, Pth.size ≤ 300000000000 ∧ e = .returned (.tuple #[.string Pth, .bool (tabS way).isSome]) ∧ Hid (∀ q, tabS way = some q → Pth.data.toList = q)) ∧ Below w.heap.size w w' := by
  obtain ⟨wa, wc, rfl, hwc, hwm⟩ := hs.shape
  have hl0 : 0 < way.length := List.length_pos_iff.2 hne
  obtain ⟨bb, oo, ux, hao, hbw, c0, c1, c2, c3, hsx⟩ := hs.at_ 0 hl0
  subst hao
  rw [Nat.zero_mul, Nat.add_zero] at c0
  have HS := Lib.hid hs.ltC; have HW := Lib.hid hw; have HOK := Lib.hid hok
  have HT := Lib.hid (show tabS way = if way[0].k = 7 then tabG [] way else none by
    match way, hl0 with
    | a :: r, _ => rfl)
  obtain ⟨K0, hK0⟩ : ∃ K0, way[0].k = K0 := ⟨_, rfl⟩
  rw [hK0] at c0 HT
  have hl1 : (0 : Int) < (way.length : Int) := by omega
  clear hs hw hok c1 c2 c3 hsx hK0 hne
  unfold maxLen at *
  by_cases h7 : K0 = 7
  · have h7b : (K0 != 7) = false := by simp [h7]
    have HT2 := Lib.hid (HT.out.trans (if_pos h7))
    clear h7 HT
    go_enter Tryz.func97, Tryz.ntmps97
    go_wp2_with fail
    obtain ⟨pB, hpB, hpC⟩ := boundB
    have HPB := Lib.hid hpB; have HPC := Lib.hid hpC
    clear hpB hpC
    go_loopw [4, 5] (fun v4 v5 wr => ∃ (j : Nat) (P : ByteArray), j ≤ way.length ∧ v5 = .int .i64 j ∧ v4 = .string P ∧ Hid (tabG [] way = tabG P.data.toList (way.drop j)) ∧ Hid (P.size ≤ pB j) ∧ Hid (Below w.heap.size w wr)) (fun _ v5 _ => way.length - (intOf v5).toNat)
    case atStart => exact ⟨0, ⟨#[]⟩, Nat.zero_le _, rfl, rfl, rfl, Nat.zero_le _, Below.refl _ _⟩
    case round =>
      obtain ⟨j, P, hj, rfl, rfl, HG, HPL, HBR⟩ := hrel
      have hPs : P.size ≤ 1048577 * 200000 := by have h := HPL.out; have h2 := HPC.out j (by omega); omega
      have hj0 : (0 : Int) ≤ (j : Int) := Int.natCast_nonneg _
      by_cases h1 : j + 1 < way.length
      · have g1 : (j : Int) + 1 < (way.length : Int) := by omega
        by_cases h2 : j + 2 < way.length
        · have g2 : ¬ (way.length : Int) ≤ (j : Int) + 2 := by omega
          obtain ⟨fb, fo, fx, hfo, hfw, k0, k1, k2, k3, hkx⟩ := HS.out.at_ (j + 1) h1
          obtain ⟨af, cf, rfl, hy1, hy2⟩ := hkx.shape
          clear hy1 hy2
          injection hfo with hfo
          injection hfo with hfo1 hfo2 _
          subst hfo1; subst hfo2
          have hfmem := List.getElem_mem h1
          have hfok := HOK.out _ hfmem
          have hvk : 0 < (way[j + 1]).kids.length := List.length_pos_of_mem (wayC_next way HW.out (j + 1) h2)
          have hrd := tabG_round (p := P.data.toList) h2
          rw [← HG.out] at hrd
          obtain ⟨f, hf⟩ : ∃ f, way[j + 1] = f := ⟨_, rfl⟩
          rw [hf] at k0 k1 k2 k3 hkx hfok hvk hrd
          have hft : f.t.size ≤ 1048576 := by
            have h := hfok.1
            cases f with
            | mk a b c d => rw [ok_mk] at h; exact h.1.t
          obtain ⟨kb, ko, kx, hko, hkw, z0, z1, z2, z3, hzx⟩ := hkx.at_ 0 hvk
          obtain ⟨ay, cy, rfl, hy1, hy2⟩ := hzx.shape
          clear hy1 hy2
          subst hko
          rw [v0_get hvk] at z0 z1 z2 z3 hzx
          rw [Nat.zero_mul, Nat.add_zero] at z0 z1 z2 z3
          have hvl : (v0 f).kids.length ≤ 50000 := by
            have h1 := hfok.2
            have h2 := size_mem (x := v0 f) (l := f.kids) (by rw [← v0_get hvk]; exact List.getElem_mem hvk)
            have h3 := kids_size f
            have h4 := kids_size (v0 f)
            have h5 := sizes_len (v0 f).kids
            omega
          obtain ⟨x, hx⟩ : ∃ x, v0 f = x := ⟨_, rfl⟩
          rw [hx] at z0 z1 z2 z3 hzx hvl hrd
          have hdl := dotE_len P.data.toList f hft
          have hbr := HBR.out
          have d0 : wr.cell? ⟨bb, oo + (j + 1) * 4, none⟩ = some (.int .i64 f.k) := (hbr.cell (p := ⟨bb, oo + (j + 1) * 4, none⟩) hfw).trans k0
          have d1 : wr.cell? ⟨bb, oo + (j + 1) * 4 + 1, none⟩ = some (.string f.t) := (hbr.cell (p := ⟨bb, oo + (j + 1) * 4 + 1, none⟩) hfw).trans k1
          have d2 : wr.cell? ⟨bb, oo + (j + 1) * 4 + 2, none⟩ = some (.string f.v) := (hbr.cell (p := ⟨bb, oo + (j + 1) * 4 + 2, none⟩) hfw).trans k2
          have d3 : wr.cell? ⟨bb, oo + (j + 1) * 4 + 3, none⟩ = some (.slice (some ⟨kb, ko, none⟩) f.kids.length cf) := (hbr.cell (p := ⟨bb, oo + (j + 1) * 4 + 3, none⟩) hfw).trans k3
          have hbl : bb < wr.heap.size := Nat.lt_of_lt_of_le hfw hbr.size
          have HKC := Lib.hid (show ∀ W : World, Below w.heap.size w W → (W.cell? ⟨kb, ko, none⟩ = some (.int .i64 x.k) ∧ W.cell? ⟨kb, ko + 1, none⟩ = some (.string x.t) ∧ W.cell? ⟨kb, ko + 2, none⟩ = some (.string x.v) ∧ W.cell? ⟨kb, ko + 3, none⟩ = some (.slice ay x.kids.length cy)) ∧ kb < W.heap.size from fun W hb => ⟨⟨(hb.cell (p := ⟨kb, ko, none⟩) hkw).trans z0, (hb.cell (p := ⟨kb, ko + 1, none⟩) hkw).trans z1, (hb.cell (p := ⟨kb, ko + 2, none⟩) hkw).trans z2, (hb.cell (p := ⟨kb, ko + 3, none⟩) hkw).trans z3⟩, Nat.lt_of_lt_of_le hkw hb.size⟩)
          have HBA := Lib.hid (show Below w.heap.size w (wr.alloc (.cells #[.int .i64 f.k, .string f.t, .string f.v, .slice (some ⟨kb, ko, none⟩) f.kids.length cf] 24)) from hbr.alloc hbr.size _)
          have HFA := Lib.hid (heap_alloc_new wr (.cells #[.int .i64 f.k, .string f.t, .string f.v, .slice (some ⟨kb, ko, none⟩) f.kids.length cf] 24))
          obtain ⟨⟨z0', z1', z2', z3'⟩, hkl⟩ := HKC.out _ HBA.out
          have HRO := Lib.hid (fun (W : World) (hb : Below w.heap.size w W) => show Calls Tryz.prog 99 #[.agg #[.int .i64 x.k, .string x.t, .string x.v, .slice ay x.kids.length cy]] W _ from refRows_any x W _ _ (.mk (hzx.ltC.below hb)) (by omega))
          have HWD := Lib.hid (fun W : World => refWord_any f.t W hft)
          have hwl := word_len f.t hft
          obtain ⟨Q, hQ⟩ : ∃ Q, (wordP f.t).1 = Q := ⟨_, rfl⟩
          have hQs : Q.size ≤ 1048576 := by rw [hQ] at hwl; exact hwl
          rw [hQ] at HWD
          have HDO := Lib.hid (show dotE P.data.toList f = (if P.data.toList = [] then [] else P.data.toList ++ [46]) ++ Q.data.toList by unfold dotE; rw [hQ])
          have HRD := Lib.hid hrd
          have hl3 : (0 : Int) < (f.kids.length : Int) := by omega
          have HDL := Lib.hid hdl
          clear k0 k1 k2 k3 hkx hfok hvk hf hfmem z0 z1 z2 z3 hzx hx hrd hbr hft hwl hQ hdl
          go_wp2_with fail
          refine (HRO.out _ HBA.out).mono ?_
          rintro e w2 ⟨rfl, hb⟩
          have HB2 := Lib.hid (bthen HBA.out hb)
          have HF2 := Lib.hid ((hb.block _ (lt_blk HFA.out)).trans HFA.out)
          clear hb d0 d1 d2 d3 z0' z1' z2' z3' hkl hbl
          obtain ⟨x0, x1, x2, x3, _, _, _, _, hxl⟩ := nd_cells HF2.out
          obtain ⟨⟨z0', z1', z2', z3'⟩, hkl⟩ := HKC.out _ HB2.out
          obtain ⟨RB, hRB⟩ : ∃ RB, rowsS x = RB := ⟨_, rfl⟩
          rw [hRB]
          have HRB := Lib.hid hRB
          clear hRB
          by_cases hpe : P.data.toList = []
          · have he : P.toList.isEmpty = true := by rw [isE_nil hpe]; rfl
            have HPE := Lib.hid hpe
            clear hpe
            have HDE := Lib.hid (show (P ++ Q).data.toList = dotE P.data.toList f by
              rw [HDO.out, if_pos HPE.out, List.nil_append, ByteArray.data_append, Array.toList_append, HPE.out, List.nil_append])
            have hps : (P ++ Q).size ≤ pB (j + 1) := by
              have h1 := HDL.out
              rw [← HDE.out, baT_size, baT_size] at h1
              have h2 := HPL.out
              rw [HPB.out]
              omega
            have HPS2 := Lib.hid (show (P ++ Q).size ≤ pB (j + 2) by rw [HPB.out]; omega)
            have HPS3 := Lib.hid (show (P ++ Q).size ≤ pB (j + 3) by rw [HPB.out, HPB.out]; omega)
            clear hps
            have hz9 : ¬ (9223372036854775807 < P.size + Q.size) := by omega
            go_wp2_with fail
            refine (HWD.out _).mono ?_
            rintro e w3 ⟨rfl, hb⟩
            have HB3 := Lib.hid (bthen HB2.out hb)
            have HF3 := Lib.hid ((hb.block _ (lt_blk HF2.out)).trans HF2.out)
            clear hb x0 x1 x2 x3 hxl z0' z1' z2' z3' hkl
            obtain ⟨x0, x1, x2, x3, _, _, _, _, hxl⟩ := nd_cells HF3.out
            obtain ⟨⟨z0', z1', z2', z3'⟩, hkl⟩ := HKC.out _ HB3.out
            cases RB with
            | true =>
              have HG2 := Lib.hid (show tabG [] way = tabG (P ++ Q).data.toList (way.drop (j + 3)) by rw [HDE.out, HRD.out, if_pos HRB.out])
              go_wp2_with fail
              go_roundw
              case rel => exact ⟨j + 3, P ++ Q, by omega, by go_num, rfl, HG2.out, HPS3.out, HB3.out⟩
              case measure => simp [intOf]; omega
            | false =>
              by_cases h7 : x.k = 7
              · have h7x : (x.k == 7) = true := by simp [h7]
                have HG2 := Lib.hid (show tabG [] way = tabG (P ++ Q).data.toList (way.drop (j + 2)) by rw [HDE.out, HRD.out, if_neg (by rw [HRB.out]; simp), if_pos h7])
                clear h7
                go_wp2_with fail
                go_roundw
                case rel => exact ⟨j + 2, P ++ Q, by omega, by go_num, rfl, HG2.out, HPS2.out, HB3.out⟩
                case measure => simp [intOf]; omega
              · have h7x : (x.k == 7) = false := by simp [h7]
                have HN := Lib.hid (show tabS way = none by rw [HT2.out, HRD.out, if_neg (by rw [HRB.out]; simp), if_neg h7])
                clear h7
                go_wp2_with fail
                refine bodyPost_ret (v := .tuple #[.string ⟨#[]⟩, .bool false]) (by simp [results, Tryz.results97, go_sem]) rfl ?_
                exact ⟨⟨⟨#[]⟩, Nat.zero_le _, by rw [HN.out]; rfl, fun q h => by rw [HN.out] at h; cases h⟩, HB3.out⟩
          · have he : P.toList.isEmpty = false := by
              rw [isE_nil rfl]
              cases h : P.data.toList with
              | nil => exact absurd h hpe
              | cons a b => rfl
            have HPE := Lib.hid hpe
            clear hpe
            have HDE := Lib.hid (show ((P ++ (⟨#[46]⟩ : ByteArray)) ++ Q).data.toList = dotE P.data.toList f by
              rw [HDO.out, if_neg HPE.out, ByteArray.data_append, ByteArray.data_append, Array.toList_append, Array.toList_append])
            have hps : ((P ++ (⟨#[46]⟩ : ByteArray)) ++ Q).size ≤ pB (j + 1) := by
              have h1 := HDL.out
              rw [← HDE.out, baT_size, baT_size] at h1
              have h2 := HPL.out
              rw [HPB.out]
              omega
            have HPS2 := Lib.hid (show ((P ++ (⟨#[46]⟩ : ByteArray)) ++ Q).size ≤ pB (j + 2) by rw [HPB.out]; omega)
            have HPS3 := Lib.hid (show ((P ++ (⟨#[46]⟩ : ByteArray)) ++ Q).size ≤ pB (j + 3) by rw [HPB.out, HPB.out]; omega)
            clear hps
            have hz8 : ¬ (9223372036854775807 < P.size + 1) := by omega
            have hz9 : ¬ (9223372036854775807 < P.size + 1 + Q.size) := by omega
            go_wp2_with fail
            refine (HWD.out _).mono ?_
            rintro e w3 ⟨rfl, hb⟩
            have HB3 := Lib.hid (bthen HB2.out hb)
            have HF3 := Lib.hid ((hb.block _ (lt_blk HF2.out)).trans HF2.out)
            clear hb x0 x1 x2 x3 hxl z0' z1' z2' z3' hkl
            obtain ⟨x0, x1, x2, x3, _, _, _, _, hxl⟩ := nd_cells HF3.out
            obtain ⟨⟨z0', z1', z2', z3'⟩, hkl⟩ := HKC.out _ HB3.out
            cases RB with
            | true =>
              have HG2 := Lib.hid (show tabG [] way = tabG ((P ++ (⟨#[46]⟩ : ByteArray)) ++ Q).data.toList (way.drop (j + 3)) by rw [HDE.out, HRD.out, if_pos HRB.out])
              go_wp2_with fail
              go_roundw
              case rel => exact ⟨j + 3, (P ++ (⟨#[46]⟩ : ByteArray)) ++ Q, by omega, by go_num, rfl, HG2.out, HPS3.out, HB3.out⟩
              case measure => simp [intOf]; omega
            | false =>
              by_cases h7 : x.k = 7
              · have h7x : (x.k == 7) = true := by simp [h7]
                have HG2 := Lib.hid (show tabG [] way = tabG ((P ++ (⟨#[46]⟩ : ByteArray)) ++ Q).data.toList (way.drop (j + 2)) by rw [HDE.out, HRD.out, if_neg (by rw [HRB.out]; simp), if_pos h7])
                clear h7
                go_wp2_with fail
                go_roundw
                case rel => exact ⟨j + 2, (P ++ (⟨#[46]⟩ : ByteArray)) ++ Q, by omega, by go_num, rfl, HG2.out, HPS2.out, HB3.out⟩
                case measure => simp [intOf]; omega
              · have h7x : (x.k == 7) = false := by simp [h7]
                have HN := Lib.hid (show tabS way = none by rw [HT2.out, HRD.out, if_neg (by rw [HRB.out]; simp), if_neg h7])
                clear h7
                go_wp2_with fail
                refine bodyPost_ret (v := .tuple #[.string ⟨#[]⟩, .bool false]) (by simp [results, Tryz.results97, go_sem]) rfl ?_
                exact ⟨⟨⟨#[]⟩, Nat.zero_le _, by rw [HN.out]; rfl, fun q h => by rw [HN.out] at h; cases h⟩, HB3.out⟩
        · have g2 : (way.length : Int) ≤ (j : Int) + 2 := by omega
          have HN := Lib.hid (show tabS way = none by rw [HT2.out, HG.out, tabG_stop (by omega)])
          go_wp2_with fail
          refine bodyPost_ret (v := .tuple #[.string ⟨#[]⟩, .bool false]) (by simp [results, Tryz.results97, go_sem]) rfl ?_
          exact ⟨⟨⟨#[]⟩, Nat.zero_le _, by rw [HN.out]; rfl, fun q h => by rw [HN.out] at h; cases h⟩, HBR.out⟩
      · have g1 : ¬ (j : Int) + 1 < (way.length : Int) := by omega
        have hte := tabG_end (l := way) (j := j) (p := P.data.toList) (by omega)
        by_cases hje : j + 1 = way.length
        · have g3 : ((j : Int) + 1 == (way.length : Int)) = true := by simp; omega
          have HN := Lib.hid (show tabS way = some P.data.toList by rw [HT2.out, HG.out, hte, if_pos hje])
          clear hte hje
          go_wp2_with fail
          refine bodyPost_ret (v := .tuple #[.string P, .bool true]) (by simp [results, Tryz.results97, go_sem]) rfl ?_
          exact ⟨⟨P, by omega, by rw [HN.out]; rfl, fun q h => by rw [HN.out] at h; injection h⟩, HBR.out⟩
        · have g3 : ((j : Int) + 1 == (way.length : Int)) = false := by simp; omega
          have HN := Lib.hid (show tabS way = none by rw [HT2.out, HG.out, hte, if_neg hje])
          clear hte hje
          go_wp2_with fail
          refine bodyPost_ret (v := .tuple #[.string P, .bool false]) (by simp [results, Tryz.results97, go_sem]) rfl ?_
          exact ⟨⟨P, by omega, by rw [HN.out]; rfl, fun q h => by rw [HN.out] at h; cases h⟩, HBR.out⟩
  · have h7b : (K0 != 7) = true := by simp [h7]
    have HT2 := Lib.hid (HT.out.trans (if_neg h7))
    clear h7 HT
    go_enter Tryz.func97, Tryz.ntmps97
    go_wp2_with fail
    refine bodyPost_ret (v := .tuple #[.string ⟨#[]⟩, .bool false]) (by simp [results, Tryz.results97, go_sem]) rfl ?_
    exact ⟨⟨⟨#[]⟩, Nat.zero_le _, by rw [HT2.out]; rfl, fun q h => by rw [HT2.out] at h; cases h⟩, Below.refl _ _⟩
end Go.Proofs.YtmniblcooficgaaGreatDoor
