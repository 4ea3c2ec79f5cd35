/- The walks of num's may, Read, sized and Compare. -/
import Derived.Test.YtaolnpiemeaabaaGreatDoorNumQ
namespace Go.Proofs.YtaolnpiemeaabaaGreatDoor
open Go.RowKit Num2
set_option linter.unusedSimpArgs false
set_option linter.unusedVariables false

theorem readP_bd (l : List UInt8) : (readP l).1.2.1.length ≤ 30 ∧ -9223372036854775808 ≤ (readP l).1.2.2 ∧ (readP l).1.2.2 ≤ 9223372036854775807 := by
  unfold readP
  split
  · rename_i h
    split
    · simp [zeroV]
    · refine ⟨?_, ?_, ?_⟩
      · have h1 := wp_len l h.1
        have h2 : (Lib.trimRightB (Lib.trimLeftB ((parts l).1 ++ (parts l).2.1) 48) 48).length ≤ ((parts l).1 ++ (parts l).2.1).length := by
          unfold Lib.trimRightB Lib.trimLeftB
          rw [List.length_reverse]
          refine Nat.le_trans (List.dropWhile_sublist _).length_le ?_
          rw [List.length_reverse]
          exact (List.dropWhile_sublist _).length_le
        rw [List.length_append] at h2
        simp only []
        omega
      · simp only []; unfold wrap64; omega
      · simp only []; unfold wrap64; omega
  · simp [zeroV]

def ReadV (l : List UInt8) (w : World) (e : Ending) (w' : World) : Prop :=
  ∃ (b : Bool) (d : ByteArray) (p : Int) (ok : Bool), e = .returned (.tuple #[.agg #[.bool b, .string d, .int .i64 p], .bool ok]) ∧ readP l = ((b, d.data.toList, p), ok) ∧ d.size ≤ 30 ∧ -9223372036854775808 ≤ p ∧ p ≤ 9223372036854775807 ∧ Below w.heap.size w w'
theorem read_ex (s : ByteArray) (w : World) (hE : Env w) (hs : s.size ≤ 140737488351232) :
    Calls Tryz.prog 170 #[.string s] w (ReadV s.data.toList w) := by
  refine (read_any s w hE hs).mono ?_
  rintro e w' ⟨rfl, hb⟩
  obtain ⟨h1, h2, h3⟩ := readP_bd s.data.toList
  exact ⟨_, _, _, _, rfl, by simp, by simpa [ByteArray.size] using h1, h2, h3, hb⟩

theorem mayP_err (l : List UInt8) (h : ¬ (mayP l).2 = 0) : (mayP l).2 = 8 := by
  unfold mayP at h ⊢
  split
  · rename_i h2; rw [if_pos h2] at h; exact absurd rfl h
  · rfl
def MayV (l : List UInt8) (w : World) (e : Ending) (w' : World) : Prop :=
  ∃ (b : Bool) (d : ByteArray) (p : Int) (en : Int), e = .returned (.tuple #[.agg #[.bool b, .string d, .int .i64 p], .int .i64 en]) ∧ mayP l = ((b, d.data.toList, p), en) ∧ d.size ≤ 30 ∧ -999 ≤ p ∧ p ≤ 999 ∧ Below w.heap.size w w'

set_option maxHeartbeats 2000000 in
theorem mayn_any (s : ByteArray) (w : World) (hE : Env w) (hs : s.size ≤ 140737488351232) :
    Calls Tryz.prog 163 #[.string s] w (MayV s.data.toList w) := by
  have HE := Lib.hid hE; clear hE
  go_enter Tryz.func163, Tryz.ntmps163
  go_wp2_with fail
  refine (read_ex s _ (HE.out.below ((Below.refl _ _).alloc (Nat.le_refl _) _)) hs).mono ?_
  rintro e w1 ⟨b, d, p, ok, rfl, hr, hd, hp0, hp1, hb⟩
  have R1 := Lib.hid ((three_new w (.bool false) (.string ⟨#[]⟩) (.int .i64 0) 144).below hb)
  have HB1 := Lib.hid (below_after hb); clear hb
  obtain ⟨rc0, rc1, rc2, rf0, rf1, rf2, rlt⟩ := R1.out
  have HR := Lib.hid hr; clear hr
  have HE1 := Lib.hid ((HE.out.below HB1.out).below ((Below.refl _ _).alloc (Nat.le_refl _) (.cells #[.bool b, .string d, .int .i64 p] 144)))
  have hbel : Below w.heap.size w (w1.alloc (.cells #[.bool b, .string d, .int .i64 p] 144)) := HB1.out.alloc HB1.out.size _
  have HBA := Lib.hid hbel; clear hbel
  cases ok with
  | false =>
    have HM := Lib.hid (show mayP s.data.toList = ((false, [], 0), 8) by unfold mayP; rw [HR.out, if_neg (by simp)]; rfl)
    go_wp2_with fail
    refine bodyPost_ret (v := .tuple #[.agg #[.bool false, .string ⟨#[]⟩, .int .i64 0], .int .i64 8]) ?_ rfl ?_
    · simp [results, Tryz.results163, go_sem, rc0, rc1, rc2, rf0, rf1, rf2, rlt, Nat.ne_of_lt rlt, Nat.ne_of_gt rlt]
    · exact ⟨false, ⟨#[]⟩, 0, 8, rfl, HM.out, by decide, by omega, by omega, by repeat (first | exact HB1.out | refine Below.setCell ?_ (by exact Nat.le_refl _) _ | refine Below.alloc ?_ (by (try simp); omega) _)⟩
  | true =>
  by_cases hp2 : p ≤ 999
  · by_cases hp3 : -999 ≤ p
    · go_wp2_with fail
      refine (form_any b d p _ HE1.out (by omega) (by omega) (by omega)).mono ?_
      rintro e w2 ⟨rfl, hb2⟩
      obtain ⟨fm, hfm, hfms⟩ := named (formP (b, d.data.toList, p))
      rw [← hfm]
      have HFs := Lib.hid hfms; clear hfm hfms
      have R2 := Lib.hid ((R1.out.alloc _).below hb2)
      have V2 := Lib.hid ((three_new w1 _ _ _ 144).below hb2)
      have HB2 := Lib.hid (below_then HBA.out hb2)
      have hne : w.heap.size < w1.heap.size := rlt
      clear rc0 rc1 rc2 rf0 rf1 rf2 rlt hb2
      obtain ⟨rc0, rc1, rc2, rf0, rf1, rf2, rlt⟩ := R2.out
      obtain ⟨vc0, vc1, vc2, vf0, vf1, vf2, vlt⟩ := V2.out
      have ne1 : ¬ w.heap.size = w1.heap.size := by omega
      have ne2 : ¬ w1.heap.size = w.heap.size := by omega
      by_cases hf : fm.size ≤ 30
      · have HM := Lib.hid (show mayP s.data.toList = ((b, d.data.toList, p), 0) by unfold mayP; rw [HR.out, if_pos ⟨rfl, hp2, hp3, by rw [← HFs.out]; exact hf⟩])
        go_wp2_with fail
        refine bodyPost_ret (v := .tuple #[.agg #[.bool b, .string d, .int .i64 p], .int .i64 0]) ?_ rfl ?_
        · simp [results, Tryz.results163, go_sem, rc0, rc1, rc2, rf0, rf1, rf2, vc0, vc1, vc2, vf0, vf1, vf2, ne1, ne2]
        · exact ⟨b, d, p, 0, rfl, HM.out, by omega, hp3, hp2, by repeat (first | exact HB2.out | refine Below.setCell ?_ (by exact Nat.le_refl _) _)⟩
      · have HM := Lib.hid (show mayP s.data.toList = ((false, [], 0), 8) by unfold mayP; rw [HR.out, if_neg (by rw [← HFs.out]; exact fun h => hf h.2.2.2)]; rfl)
        have hf2 : 30 < fm.size := by omega
        go_wp2_with fail
        refine bodyPost_ret (v := .tuple #[.agg #[.bool false, .string ⟨#[]⟩, .int .i64 0], .int .i64 8]) ?_ rfl ?_
        · simp [results, Tryz.results163, go_sem, rc0, rc1, rc2, rf0, rf1, rf2, vc0, vc1, vc2, vf0, vf1, vf2, ne1, ne2]
        · exact ⟨false, ⟨#[]⟩, 0, 8, rfl, HM.out, by decide, by omega, by omega, by repeat (first | exact HB2.out | refine Below.setCell ?_ (by exact Nat.le_refl _) _)⟩
    · have HM := Lib.hid (show mayP s.data.toList = ((false, [], 0), 8) by unfold mayP; rw [HR.out, if_neg (fun h => hp3 h.2.2.1)]; rfl)
      go_wp2_with fail
      refine bodyPost_ret (v := .tuple #[.agg #[.bool false, .string ⟨#[]⟩, .int .i64 0], .int .i64 8]) ?_ rfl ?_
      · simp [results, Tryz.results163, go_sem, rc0, rc1, rc2, rf0, rf1, rf2, rlt, Nat.ne_of_lt rlt, Nat.ne_of_gt rlt]
      · exact ⟨false, ⟨#[]⟩, 0, 8, rfl, HM.out, by decide, by omega, by omega, by repeat (first | exact HB1.out | refine Below.setCell ?_ (by exact Nat.le_refl _) _ | refine Below.alloc ?_ (by (try simp); omega) _)⟩
  · have HM := Lib.hid (show mayP s.data.toList = ((false, [], 0), 8) by unfold mayP; rw [HR.out, if_neg (fun h => hp2 h.2.1)]; rfl)
    go_wp2_with fail
    refine bodyPost_ret (v := .tuple #[.agg #[.bool false, .string ⟨#[]⟩, .int .i64 0], .int .i64 8]) ?_ rfl ?_
    · simp [results, Tryz.results163, go_sem, rc0, rc1, rc2, rf0, rf1, rf2, rlt, Nat.ne_of_lt rlt, Nat.ne_of_gt rlt]
    · exact ⟨false, ⟨#[]⟩, 0, 8, rfl, HM.out, by decide, by omega, by omega, by repeat (first | exact HB1.out | refine Below.setCell ?_ (by exact Nat.le_refl _) _ | refine Below.alloc ?_ (by (try simp); omega) _)⟩

set_option maxHeartbeats 1000000 in
theorem read2_any (s : ByteArray) (w : World) (hE : Env w) (hs : s.size ≤ 140737488351232) :
    Calls Tryz.prog 144 #[.string s] w fun e w' => e = .returned (.tuple #[.string ⟨(normP s.data.toList).1.toArray⟩, .int .i64 (normP s.data.toList).2]) ∧ Below w.heap.size w w' := by
  have HE := Lib.hid hE; clear hE
  go_enter Tryz.func144, Tryz.ntmps144
  go_wp2_with fail
  refine (mayn_any s _ HE.out hs).mono ?_
  rintro e w1 ⟨b, d, p, en, rfl, hm, hd, hp0, hp1, hb⟩
  have HB1 := Lib.hid hb; clear hb
  have HE1 := Lib.hid ((HE.out.below HB1.out).below ((Below.refl _ _).alloc (Nat.le_refl _) (.cells #[.bool b, .string d, .int .i64 p] 144)))
  have hbel : Below w.heap.size w (w1.alloc (.cells #[.bool b, .string d, .int .i64 p] 144)) := HB1.out.alloc HB1.out.size _
  have HBA := Lib.hid hbel; clear hbel
  have HM := Lib.hid hm; clear hm
  by_cases he : en = 0
  · subst he
    have HN := Lib.hid (show normP s.data.toList = (formP (b, d.data.toList, p), 0) by unfold normP; rw [HM.out, if_pos rfl])
    go_wp2_with fail
    refine (form_any b d p _ HE1.out (by omega) (by omega) (by omega)).mono ?_
    rintro e w2 ⟨rfl, hb2⟩
    have HB2 := Lib.hid (below_then HBA.out hb2); clear hb2
    go_wp2_with fail
    go_ret2
    exact ⟨by rw [HN.out]; rfl, HB2.out⟩
  · have HN := Lib.hid (show normP s.data.toList = ([], 8) by unfold normP; rw [HM.out, if_neg he])
    have hen := Lib.hid (mayP_err s.data.toList (by rw [HM.out]; exact he))
    have he8 : (en != 0) = true := by simp [he]
    clear he
    go_wp2_with fail
    go_ret2
    exact ⟨by rw [HN.out]; have := hen.out; rw [HM.out] at this; subst this; rfl, HBA.out⟩
end Go.Proofs.YtaolnpiemeaabaaGreatDoor
