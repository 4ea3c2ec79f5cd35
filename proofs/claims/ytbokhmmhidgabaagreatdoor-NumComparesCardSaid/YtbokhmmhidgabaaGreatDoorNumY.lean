/- The walks of the reference's at, sized and Compare. -/
import Derived.Test.YtbokhmmhidgabaaGreatDoorNumU
import Derived.Test.YtbokhmmhidgabaaGreatDoorNumS
import Derived.Test.YtbokhmmhidgabaaGreatDoorNumT
import Derived.Test.YtbokhmmhidgabaaGreatDoorNumX
namespace Go.Proofs.YtbokhmmhidgabaaGreatDoor
open Go.RowKit Num2
set_option linter.unusedSimpArgs false
set_option linter.unusedVariables false
set_option linter.unnecessarySimpa false

theorem vAt_out (sg : Bool) (l : List UInt8) (p : Int) (j : Nat) (h : (l.length : Int) - 1 - ((j : Int) - 1100 - p) < 0) : vAt (sg, l, p) j = 0 := by
  unfold vAt digAt
  simp only []
  rw [if_neg (by omega)]
theorem vAt_far (sg : Bool) (l : List UInt8) (p : Int) (j : Nat) (h : (l.length : Int) ≤ (l.length : Int) - 1 - ((j : Int) - 1100 - p)) : vAt (sg, l, p) j = 0 := by
  unfold vAt digAt
  simp only []
  split
  · rw [List.getElem?_eq_none (by omega)]
  · rfl
theorem vAt_in (sg : Bool) (l : List UInt8) (p : Int) (j k : Nat) (hk : (l.length : Int) - 1 - ((j : Int) - 1100 - p) = k) (hkl : k < l.length) : vAt (sg, l, p) j = l[k].toNat - 48 := by
  unfold vAt digAt
  simp only []
  rw [if_pos (by omega), show ((l.length : Int) + p + 1100).toNat - 1 - j = k by omega, List.getElem?_eq_getElem hkl]

set_option maxHeartbeats 1000000 in
set_option maxRecDepth 100000 in
theorem refAt_any (sg : Bool) (sv : Value) (l : List UInt8) (p : Int) (j : Nat) (q : Int) (w : World) (hq : q = (j : Int) - 1100) (hj : j ≤ 2200) (hl : l.length ≤ 30) (hcel : Cells w 0 sv (dgI l)) (hd : digs l) (h0 : -999 ≤ p) (h1 : p ≤ 999) :
    Calls Tryz.prog 23 #[.agg #[.bool sg, sv, .int .i64 p], .int .i64 q] w fun e w' => e = .returned (.int .i64 (vAt (sg, l, p) j)) ∧ Below w.heap.size w w' := by
  have hB := (Below.refl w.heap.size w).alloc (Nat.le_refl _) (.cells #[.bool sg, sv, .int .i64 p] 37)
  have HC := Lib.hid (hcel.below ((Below.refl w.heap.size w).alloc (Nat.le_refl _) (.cells #[.bool sg, sv, .int .i64 p] 37)))
  have HV := Lib.hid (three_new w (.bool sg) sv (.int .i64 p) 37)
  obtain ⟨A, c, rfl, hc1, hc2, _⟩ := hcel
  rw [dgI_len] at hc1
  have HB := Lib.hid hB; clear hB
  simp only [dgI_len] at HB HC HV ⊢
  have HQ := Lib.hid hq
  have hq0 : -1100 ≤ q := by omega
  have hq1 : q ≤ 1100 := by omega
  clear hq
  go_enter Tryz.func23, Tryz.ntmps23
  go_upto_region 1 with (fail)
  generalize w.alloc (.cells #[.bool sg, .slice A l.length c, .int .i64 p] 37) = w1 at *
  obtain ⟨rc0, rc1, rc2, rf0, rf1, rf2, rlt⟩ := HV.out
  by_cases c0 : (l.length : Int) - 1 - (q - p) < 0
  · have hr := Lib.hid (vAt_out sg l p j (by rw [← HQ.out]; exact c0))
    go_wp2_with fail
    go_ret
    exact ⟨by rw [hr.out]; rfl, HB.out⟩
  · by_cases c1 : (l.length : Int) ≤ (l.length : Int) - 1 - (q - p)
    · have hr := Lib.hid (vAt_far sg l p j (by rw [← HQ.out]; exact c1))
      go_wp2_with fail
      go_ret
      exact ⟨by rw [hr.out]; rfl, HB.out⟩
    · obtain ⟨k, hk⟩ : ∃ k : Nat, (l.length : Int) - 1 - (q - p) = k := ⟨((l.length : Int) - 1 - (q - p)).toNat, by omega⟩
      have hkl : k < l.length := by omega
      have hr := vAt_in sg l p j k (by rw [← HQ.out]; exact hk) hkl
      have hne2 : dgI l ≠ [] := fun e => by have := congrArg List.length e; rw [dgI_len] at this; simp at this; rw [this] at hkl; simp at hkl
      obtain ⟨A', c', heq, _, _, hcells⟩ := HC.out
      obtain ⟨b, off, eA, hb0, hb1, hcell⟩ := hcells hne2
      subst eA
      injection heq with heq1 heq2 heq3
      subst heq1 heq3
      have hz1 := hcell k (by rw [dgI_len]; exact hkl)
      clear hcells hcell
      have hdg : (dgI l)[k]'(by rw [dgI_len]; exact hkl) = ((l[k].toNat - 48 : Nat) : Int) := by
        have hdk : dig l[k] = true := hd _ (List.getElem_mem hkl)
        simp [dig] at hdk
        simp [dgI, dg1]; omega
      rw [hdg, ← hr] at hz1
      have hp' : (l.length : Int) - 1 - (q - p) < l.length := by omega
      clear hdg hr heq2
      have hk0 : (0 : Int) ≤ (k : Int) := by omega
      have hk1 : (k : Int) < (l.length : Int) := by omega
      obtain ⟨v, hv⟩ : ∃ v, v = vAt (sg, l, p) j := ⟨_, rfl⟩
      rw [← hv] at hz1
      have HVV := Lib.hid hv; clear hv
      go_wp2_with fail
      go_ret
      exact ⟨by rw [← HVV.out]; rfl, HB.out⟩

theorem clamp_swap {x y : Val} (hx : Fine x) (hy : Fine y) : clamp (sizedP y x) = -clamp (sizedP x y) := by
  have ebig : x.2 = y.2 → big x = big y := fun e => by unfold big; rw [e]
  rcases sized_big x y hx hy with ⟨a, b⟩ | ⟨a, b⟩ | ⟨a, b⟩ <;> rcases sized_big y x hy hx with ⟨a', b'⟩ | ⟨a', b'⟩ | ⟨a', b'⟩
  · omega
  · have := ebig b'.symm; omega
  · rw [clamp_neg a, clamp_pos a']; rfl
  · have := ebig b; omega
  · rw [a, a', clamp_zero]; rfl
  · have := ebig b; omega
  · rw [clamp_pos a, clamp_neg a']
  · have := ebig b'.symm; omega
  · omega

set_option maxHeartbeats 2000000 in
set_option maxRecDepth 100000 in
theorem refSized_any (sg : Bool) (sv : Value) (l : List UInt8) (p : Int) (sg' : Bool) (sv' : Value) (l' : List UInt8) (p' : Int) (w : World) (hx : Fine (sg, l, p)) (hy : Fine (sg', l', p'))
    (hcel : Cells w 0 sv (dgI l)) (hcel' : Cells w 0 sv' (dgI l')) (hd : digs l) (hd' : digs l') :
    Calls Tryz.prog 16 #[.agg #[.bool sg, sv, .int .i64 p], .agg #[.bool sg', sv', .int .i64 p']] w fun e w' => e = .returned (.int .i64 (clamp (sizedP (sg, l, p) (sg', l', p')))) ∧ Below w.heap.size w w' := by
  have hb1 := (Below.refl w.heap.size w).alloc (Nat.le_refl _) (.cells #[.bool sg, sv, .int .i64 p] 37)
  have HB := Lib.hid (hb1.alloc hb1.size (.cells #[.bool sg', sv', .int .i64 p'] 37))
  have HC := Lib.hid (hcel.below HB.out)
  have HC' := Lib.hid (hcel'.below HB.out)
  have HV := Lib.hid ((three_new w (.bool sg) sv (.int .i64 p) 37).alloc (.cells #[.bool sg', sv', .int .i64 p'] 37))
  have HV' := Lib.hid (three_new (w.alloc (.cells #[.bool sg, sv, .int .i64 p] 37)) (.bool sg') sv' (.int .i64 p') 37)
  have HX := Lib.hid hx; have HY := Lib.hid hy
  have HD := Lib.hid hd; have HD' := Lib.hid hd'
  obtain ⟨A, c, rfl, _, _, _⟩ := hcel
  obtain ⟨A', c', rfl, _, _, _⟩ := hcel'
  clear hb1 hx hy hd hd'
  go_enter Tryz.func16, Tryz.ntmps16
  go_upto_region 1 with (fail)
  rw [show (w.alloc (.cells #[.bool sg, .slice A (dgI l).length c, .int .i64 p] 37)).heap.size = w.heap.size + 1 by simp] at HV'
  generalize (w.alloc (.cells #[.bool sg, .slice A (dgI l).length c, .int .i64 p] 37)).alloc (.cells #[.bool sg', .slice A' (dgI l').length c', .int .i64 p'] 37) = w2 at *
  go_wp2_with fail
  go_loopg [5] 2201 (fun g v5 wq => ∃ q : Int, v5 = .int .i64 q ∧ Hid (q = (g : Int) - 1101) ∧ -1101 ≤ q ∧ q ≤ 1100 ∧ Hid (big (sg, l, p) / 10 ^ g = big (sg', l', p') / 10 ^ g) ∧ Hid (Below w2.heap.size w2 wq))
  case atStart => exact ⟨1100, rfl, rfl, by omega, by omega, (big_lt _ HX.out 2201 (Nat.le_refl _)).trans (big_lt _ HY.out 2201 (Nat.le_refl _)).symm, Below.refl _ _⟩
  case round =>
    obtain ⟨q, rfl, hg, hq0, hq1, hE, hBq⟩ := hrel
    cases gk with
    | zero =>
      have hq : q = -1101 := by have := hg.out; omega
      subst hq
      have hr := Lib.hid (big_same HX.out HY.out hE.out)
      go_wp2_with fail
      go_ret
      exact ⟨by rw [hr.out]; rfl, below_then HB.out hBq.out⟩
    | succ j =>
      have hqj : q = (j : Int) - 1100 := by have := hg.out; omega
      have HQJ := Lib.hid hqj
      have hj : j ≤ 2200 := by omega
      have hq2 : -1100 ≤ q := by omega
      obtain ⟨s1, s2, s3⟩ := big_step HX.out HY.out hE.out
      have b1 := vAt_le _ HX.out j
      have b2 := vAt_le _ HY.out j
      have S1 := Lib.hid s1; have S2 := Lib.hid s2; have S3 := Lib.hid s3
      clear hqj s1 s2 s3 hq0
      have hxl := HX.out.len; have hx0 := HX.out.lo; have hx1 := HX.out.hi
      have hyl := HY.out.len; have hy0 := HY.out.lo; have hy1 := HY.out.hi
      simp only [] at hxl hx0 hx1 hyl hy0 hy1
      obtain ⟨rc0, rc1, rc2, rf0, rf1, rf2, rlt⟩ := HV.out.below hBq.out
      go_wp2_with fail
      refine (refAt_any sg _ l p j q _ HQJ.out hj hxl (HC.out.below hBq.out) HD.out hx0 hx1).mono ?_
      rintro e w3 ⟨rfl, hb3⟩
      have HB3 := Lib.hid (below_then hBq.out hb3); clear hb3
      clear rc0 rc1 rc2 rf0 rf1 rf2 rlt
      obtain ⟨rc0, rc1, rc2, rf0, rf1, rf2, rlt⟩ := HV'.out.below HB3.out
      go_wp2_with fail
      refine (refAt_any sg' _ l' p' j q _ HQJ.out hj hyl (HC'.out.below HB3.out) HD'.out hy0 hy1).mono ?_
      rintro e w4 ⟨rfl, hb4⟩
      have HB4 := Lib.hid (below_then HB3.out hb4); clear hb4
      clear rc0 rc1 rc2 rf0 rf1 rf2 rlt
      generalize vAt (sg, l, p) j = dx at *
      generalize vAt (sg', l', p') j = dy at *
      by_cases t1 : dx < dy
      · have t1' : (dx : Int) < dy := by omega
        go_wp2_with fail
        go_ret
        exact ⟨by rw [S1.out t1]; rfl, below_then HB.out HB4.out⟩
      · have t1' : ¬ (dx : Int) < dy := by omega
        by_cases t2 : dy < dx
        · have t2' : (dy : Int) < dx := by omega
          go_wp2_with fail
          go_ret
          exact ⟨by rw [S2.out t2]; rfl, below_then HB.out HB4.out⟩
        · have t2' : ¬ (dy : Int) < dx := by omega
          go_wp2_with fail
          go_roundg j
          case measure => omega
          case rel => exact ⟨q - 1, rfl, by show _ = _; have := hg.out; omega, by omega, by omega, S3.out (by omega), HB4⟩
end Go.Proofs.YtbokhmmhidgabaaGreatDoor
