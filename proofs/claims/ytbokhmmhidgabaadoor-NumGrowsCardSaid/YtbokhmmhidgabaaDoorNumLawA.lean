/- The walks of the laws NumMay, NumGrows, NumStays, NumOrder. -/
import Derived.Test.YtbokhmmhidgabaaDoorNumT
import Derived.Test.YtbokhmmhidgabaaDoorNumR
namespace Go.Proofs.YtbokhmmhidgabaaDoor
open Go.RowKit Num2
set_option linter.unusedSimpArgs false
set_option linter.unusedVariables false

set_option maxHeartbeats 1000000 in
theorem numMay_walk (s : ByteArray) (w : World) (hE : Env w) (hs : s.size ≤ 140737488351232) :
    Calls Tryd.prog 3 #[.string s] w fun e w' => e = .returned (.bool true) ∧ Below w.heap.size w w' := by
  have HE := Lib.hid hE; clear hE
  go_enter Tryd.func3, Tryd.ntmps3
  go_wp2_with fail
  refine (may_any s _ hs).mono ?_
  rintro e w1 ⟨rfl, hb⟩
  have HB1 := Lib.hid hb; clear hb
  go_wp2_with fail
  refine (refMay_any s _ hs).mono ?_
  rintro e w2 ⟨rfl, n, rfl⟩
  have HB2 := Lib.hid (below_then HB1.out (below_drewN w1 n))
  generalize (may s.data.toList).1 = a
  generalize (may s.data.toList).2 = b
  have ha : (a == a) = true := by simp
  have hb : (b == b) = true := by simp
  go_wp2_with fail
  refine (lives_any _ (HE.out.below HB2.out)).mono ?_
  rintro e w3 ⟨rfl, hb3⟩
  have HB3 := Lib.hid (below_then HB2.out hb3); clear hb3
  go_wp2_with fail
  go_ret
  exact ⟨rfl, HB3.out⟩

theorem wf_bounds {n : Int} (h : (Lit.int .i64 n).wf = true) : -9223372036854775808 ≤ n ∧ n ≤ 9223372036854775807 := by
  have e1 : IntKind.i64.min = -9223372036854775808 := rfl
  have e2 : IntKind.i64.max = 9223372036854775807 := rfl
  simp [Lit.wf, e1, e2] at h
  omega

theorem mod_nat (x : Int) (n : Nat) (h : 0 ≤ x) : ∃ m : Nat, x % ((n : Int) + 1) = m ∧ m ≤ n := by
  have h1 := Int.emod_nonneg x (b := (n : Int) + 1) (by omega)
  have h2 := Int.emod_lt_of_pos x (b := (n : Int) + 1) (by omega)
  exact ⟨(x % ((n : Int) + 1)).toNat, by omega, by omega⟩
theorem ext_take (s : ByteArray) (m : Nat) : (s.extract 0 m).data.toList = s.data.toList.take m := by
  rw [ext_list]; simp

set_option maxHeartbeats 2000000 in
theorem numGrows_walk (s : ByteArray) (cut : Int) (w : World) (hE : Env w) (hs : s.size ≤ 140737488351232) (hc : (Lit.int .i64 cut).wf = true) :
    Calls Tryd.prog 4 #[.string s, .int .i64 cut] w fun e w' => e = .returned (.bool true) ∧ Below w.heap.size w w' := by
  have HE := Lib.hid hE; clear hE
  obtain ⟨hc0, hc1⟩ := wf_bounds hc
  clear hc
  by_cases h : cut < 0
  · obtain ⟨m, hm, hms⟩ := mod_nat (-(cut + 1)) s.size (by omega)
    rw [← Int.tmod_eq_emod_of_nonneg (by omega), Int.neg_tmod] at hm
    have HM := Lib.hid hm; clear hm
    go_enter Tryd.func4, Tryd.ntmps4
    go_wp2_with fail
    refine (may_any s _ hs).mono ?_
    rintro e w1 ⟨rfl, hb⟩
    have HB1 := Lib.hid hb; clear hb
    rw [HM.out]
    go_wp2_with fail
    have hsz2 : (s.extract 0 m).size ≤ 140737488351232 := by rw [ByteArray.size_extract]; omega
    refine (may_any (s.extract 0 m) _ hsz2).mono ?_
    rintro e w2 ⟨rfl, hb⟩
    have HB2 := Lib.hid (below_then HB1.out hb); clear hb hsz2
    rw [ext_take]
    have g1 := may_cut s.data.toList m
    have g2 := may_is s.data.toList
    generalize (may s.data.toList).1 = a at *
    generalize (may s.data.toList).2 = b at *
    generalize (may (s.data.toList.take m)).1 = c at *
    generalize (may (s.data.toList.take m)).2 = d at *
    cases a
    · cases b
      · clear g1 g2
        go_wp2_with fail
        refine (lives_any _ (HE.out.below HB2.out)).mono ?_
        rintro e w3 ⟨rfl, hb3⟩
        have HB3 := Lib.hid (below_then HB2.out hb3); clear hb3
        go_wp2_with fail
        go_ret
        exact ⟨rfl, HB3.out⟩
      · exact absurd (g2 rfl) (by simp)
    · obtain rfl := g1 rfl
      clear g1 g2
      cases b
      · go_wp2_with fail
        refine (lives_any _ (HE.out.below HB2.out)).mono ?_
        rintro e w3 ⟨rfl, hb3⟩
        have HB3 := Lib.hid (below_then HB2.out hb3); clear hb3
        go_wp2_with fail
        go_ret
        exact ⟨rfl, HB3.out⟩
      · go_wp2_with fail
        refine (lives_any _ (HE.out.below HB2.out)).mono ?_
        rintro e w3 ⟨rfl, hb3⟩
        have HB3 := Lib.hid (below_then HB2.out hb3); clear hb3
        go_wp2_with fail
        go_ret
        exact ⟨rfl, HB3.out⟩
  · obtain ⟨m, hm, hms⟩ := mod_nat cut s.size (by omega)
    have HM := Lib.hid hm; clear hm
    go_enter Tryd.func4, Tryd.ntmps4
    go_wp2_with fail
    refine (may_any s _ hs).mono ?_
    rintro e w1 ⟨rfl, hb⟩
    have HB1 := Lib.hid hb; clear hb
    rw [HM.out]
    go_wp2_with fail
    have hsz2 : (s.extract 0 m).size ≤ 140737488351232 := by rw [ByteArray.size_extract]; omega
    refine (may_any (s.extract 0 m) _ hsz2).mono ?_
    rintro e w2 ⟨rfl, hb⟩
    have HB2 := Lib.hid (below_then HB1.out hb); clear hb hsz2
    rw [ext_take]
    have g1 := may_cut s.data.toList m
    have g2 := may_is s.data.toList
    generalize (may s.data.toList).1 = a at *
    generalize (may s.data.toList).2 = b at *
    generalize (may (s.data.toList.take m)).1 = c at *
    generalize (may (s.data.toList.take m)).2 = d at *
    cases a
    · cases b
      · clear g1 g2
        go_wp2_with fail
        refine (lives_any _ (HE.out.below HB2.out)).mono ?_
        rintro e w3 ⟨rfl, hb3⟩
        have HB3 := Lib.hid (below_then HB2.out hb3); clear hb3
        go_wp2_with fail
        go_ret
        exact ⟨rfl, HB3.out⟩
      · exact absurd (g2 rfl) (by simp)
    · obtain rfl := g1 rfl
      clear g1 g2
      cases b
      · go_wp2_with fail
        refine (lives_any _ (HE.out.below HB2.out)).mono ?_
        rintro e w3 ⟨rfl, hb3⟩
        have HB3 := Lib.hid (below_then HB2.out hb3); clear hb3
        go_wp2_with fail
        go_ret
        exact ⟨rfl, HB3.out⟩
      · go_wp2_with fail
        refine (lives_any _ (HE.out.below HB2.out)).mono ?_
        rintro e w3 ⟨rfl, hb3⟩
        have HB3 := Lib.hid (below_then HB2.out hb3); clear hb3
        go_wp2_with fail
        go_ret
        exact ⟨rfl, HB3.out⟩
end Go.Proofs.YtbokhmmhidgabaaDoor
