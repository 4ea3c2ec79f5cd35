/- The walks of the reference's Compare and of the law NumCompares. -/
import Derived.Test.YtbokhmmhidgabaaGreatDoorNumY
namespace Go.Proofs.YtbokhmmhidgabaaGreatDoor
open Go.RowKit Num2
set_option linter.unusedSimpArgs false
set_option linter.unusedVariables false
set_option linter.unnecessarySimpa false

theorem clamp_bd (n : Int) : -1 ≤ clamp n ∧ clamp n ≤ 1 := by unfold clamp; omega
set_option maxHeartbeats 2000000 in
set_option maxRecDepth 100000 in
theorem refCompare_any (s t : ByteArray) (w : World) (hs : s.size ≤ 140737488351232) (ht : t.size ≤ 140737488351232) :
    Calls Tryz.prog 9 #[.string s, .string t] w fun e w' => e = .returned (.tuple #[.int .i64 (compareP s.data.toList t.data.toList).1, .int .i64 (compareP s.data.toList t.data.toList).2]) ∧ Below w.heap.size w w' := by
  go_enter Tryz.func9, Tryz.ntmps9
  go_wp2_with fail
  refine (refRead_ex s _ hs).mono ?_
  rintro e w1 ⟨sg, sv, p, d, ok, rfl, hm, hc, hd, hdg, hp0, hp1, hb⟩
  have HM := Lib.hid hm; clear hm
  have hbel : Below w.heap.size w (w1.alloc (.cells #[.bool sg, sv, .int .i64 p] 37)) := hb.alloc hb.size _
  have HB1 := Lib.hid hbel; clear hbel
  have HC := Lib.hid ((Cells.mono hc (Nat.zero_le _)).below ((Below.refl _ _).alloc (Nat.le_refl _) (.cells #[.bool sg, sv, .int .i64 p] 37)))
  have HV := Lib.hid (three_new w1 (.bool sg) sv (.int .i64 p) 37)
  obtain ⟨A, c, rfl, _, _, _⟩ := hc
  have HDG := Lib.hid hdg; clear hdg hb
  go_wp2_with fail
  refine (refRead_ex t _ ht).mono ?_
  rintro e w2 ⟨sg', sv', p', d', ok', rfl, hm, hc, hd', hdg, hp0', hp1', hb⟩
  have HM' := Lib.hid hm; clear hm
  have hbel : Below w.heap.size w (w2.alloc (.cells #[.bool sg', sv', .int .i64 p'] 37)) := (below_then HB1.out hb).alloc (below_then HB1.out hb).size _
  have HB2 := Lib.hid hbel; clear hbel
  have hal := (Below.refl w2.heap.size w2).alloc (Nat.le_refl _) (.cells #[.bool sg', sv', .int .i64 p'] 37)
  have HC' := Lib.hid ((Cells.mono hc (Nat.zero_le _)).below hal)
  have HC2 := Lib.hid ((HC.out.below hb).below hal)
  have HV2 := Lib.hid ((HV.out.below hb).below hal)
  have HV' := Lib.hid (three_new w2 (.bool sg') sv' (.int .i64 p') 37)
  obtain ⟨A', c', rfl, _, _, _⟩ := hc
  have HDG' := Lib.hid hdg; clear hdg hb hal HC HV
  cases ok with
  | false =>
    have HR := Lib.hid (show compareP s.data.toList t.data.toList = (0, 8) by unfold compareP; rw [if_neg (fun h => by rw [HM.out] at h; exact absurd h.1 (by simp))])
    go_wp2_with fail
    go_ret2
    exact ⟨by rw [HR.out]; rfl, HB2.out⟩
  | true =>
    cases ok' with
    | false =>
      have HR := Lib.hid (show compareP s.data.toList t.data.toList = (0, 8) by unfold compareP; rw [if_neg (fun h => by rw [HM'.out] at h; exact absurd h.2 (by simp))])
      go_wp2_with fail
      go_ret2
      exact ⟨by rw [HR.out]; rfl, HB2.out⟩
    | true =>
      have HR := Lib.hid (show compareP s.data.toList t.data.toList = (compareV (sg, d, p) (sg', d', p'), 0) by unfold compareP; rw [HM.out, HM'.out]; rfl)
      have hf : Fine (sg, d, p) := by have := fine_of (l := s.data.toList) (by rw [HM.out]; rfl); rw [HM.out] at this; exact this
      have hf' : Fine (sg', d', p') := by have := fine_of (l := t.data.toList) (by rw [HM'.out]; rfl); rw [HM'.out] at this; exact this
      have HF := Lib.hid hf; have HF' := Lib.hid hf'
      clear hf hf'
      obtain ⟨rc0, rc1, rc2, rf0, rf1, rf2, rlt⟩ := HV2.out
      go_wp2_with fail
      refine (refSized_any sg _ d p sg' _ d' p' _ HF.out HF'.out HC2.out HC'.out HDG.out HDG'.out).mono ?_
      rintro e w3 ⟨rfl, hb⟩
      have HV3 := Lib.hid (HV2.out.below hb)
      have HV3' := Lib.hid (HV'.out.below hb)
      have HB3 := Lib.hid (below_then HB2.out hb); clear hb
      clear rc0 rc1 rc2 rf0 rf1 rf2 rlt
      obtain ⟨rc0, rc1, rc2, rf0, rf1, rf2, rlt⟩ := HV3.out
      obtain ⟨vc0, vc1, vc2, vf0, vf1, vf2, vlt⟩ := HV3'.out
      obtain ⟨n0, n1⟩ := clamp_bd (sizedP (sg, d, p) (sg', d', p'))
      have hsw := clamp_swap HF.out HF'.out
      have HV : compareV (sg, d, p) (sg', d', p') = (if sg = true ∧ sg' = true then -clamp (sizedP (sg, d, p) (sg', d', p')) else if sg = true then -1 else if sg' = true then 1 else clamp (sizedP (sg, d, p) (sg', d', p'))) := by
        unfold compareV
        rw [← hsw]
        cases sg <;> cases sg' <;> rfl
      rw [HV] at HR
      clear HV hsw
      generalize clamp (sizedP (sg, d, p) (sg', d', p')) = n at *
      have hnn : -1 ≤ -n := by omega
      have hnn2 : -n ≤ 1 := by omega
      cases sg <;> cases sg'
      · go_wp2_with fail
        go_ret2
        exact ⟨by rw [HR.out]; rfl, HB3.out⟩
      · go_wp2_with fail
        go_ret2
        exact ⟨by rw [HR.out]; rfl, HB3.out⟩
      · go_wp2_with fail
        go_ret2
        exact ⟨by rw [HR.out]; rfl, HB3.out⟩
      · go_wp2_with fail
        go_ret2
        exact ⟨by rw [HR.out]; rfl, HB3.out⟩

theorem compareP_bd (a b : List UInt8) : -1 ≤ (compareP a b).1 ∧ (compareP a b).1 ≤ 1 ∧ 0 ≤ (compareP a b).2 ∧ (compareP a b).2 ≤ 8 := by
  unfold compareP
  split
  · have := clamp_bd (if ((mayP a).1).1 = true ∧ ((mayP b).1).1 = true then sizedP (mayP b).1 (mayP a).1 else if ((mayP a).1).1 = true then -1 else if ((mayP b).1).1 = true then 1 else sizedP (mayP a).1 (mayP b).1)
    exact ⟨this.1, this.2, Int.le_refl 0, show (0 : Int) ≤ 8 by decide⟩
  · decide

set_option maxHeartbeats 2000000 in
theorem numCompares_walk (s t : ByteArray) (w : World) (hE : Env w) (hs : s.size ≤ 140737488351232) (ht : t.size ≤ 140737488351232) :
    Calls Tryz.prog 4 #[.string s, .string t] w fun e w' => e = .returned (.bool true) ∧ Below w.heap.size w w' := by
  have HE := Lib.hid hE; clear hE
  go_enter Tryz.func4, Tryz.ntmps4
  go_wp2_with fail
  refine (compare_any s t _ HE.out hs ht).mono ?_
  rintro e w1 ⟨rfl, hb⟩
  have HB1 := Lib.hid hb; clear hb
  go_wp2_with fail
  refine (refCompare_any s t _ hs ht).mono ?_
  rintro e w2 ⟨rfl, hb⟩
  have HB2 := Lib.hid (below_then HB1.out hb); clear hb
  obtain ⟨a0, a1, a2, a3⟩ := compareP_bd s.data.toList t.data.toList
  generalize (compareP s.data.toList t.data.toList).1 = x at *
  generalize (compareP s.data.toList t.data.toList).2 = en at *
  go_wp2_with fail
  refine (lives_any _ (HE.out.below HB2.out)).mono ?_
  rintro e w4 ⟨rfl, hb⟩
  have HB4 := Lib.hid (below_then HB2.out hb); clear hb
  go_wp2_with fail
  go_ret
  exact ⟨rfl, HB4.out⟩
end Go.Proofs.YtbokhmmhidgabaaGreatDoor
