/- The walk of the reference's Local (layer 4). -/
import Derived.Test.YtaolnpiemeaabaaGreatDoorEvX
namespace Go.Proofs.YtaolnpiemeaabaaGreatDoor
open Go.RowKit Ev5
set_option linter.unusedSimpArgs false
set_option linter.unusedVariables false

set_option maxRecDepth 1000000 in
set_option maxHeartbeats 8000000 in
theorem refLocal_any (s : ByteArray) (w : World) (hs : s.size ≤ 1048576) :
    Calls Tryz.prog 80 #[.string s] w fun e w' => e = .returned (.bool (localP s.data.toList)) ∧ w' = w := by
  have hlen : s.data.toList.length = s.size := by rw [Array.length_toList]; rfl
  have hlp : localP s.data.toList = (decide (1 ≤ s.size ∧ s.size ≤ 16) && okFrom 0 s.data.toList) := by unfold localP; rw [hlen]
  have HL := Lib.hid hlp; clear hlp
  by_cases h0 : s.size = 0
  · have HR := Lib.hid (HL.out.trans (show _ = false by simp [h0])); clear HL hlen
    go_enter Tryz.func80, Tryz.ntmps80
    go_wp2_with fail
    go_ret
    exact ⟨by rw [HR.out]; rfl, rfl⟩
  by_cases h16 : (16 : Int) < (s.size : Int)
  · have HR := Lib.hid (HL.out.trans (show _ = false by rw [decide_eq_false (by omega)]; simp)); clear HL hlen
    have hb1 : decide ((s.size : Int) < 1) = false := decide_eq_false (by omega)
    clear h0
    go_enter Tryz.func80, Tryz.ntmps80
    go_wp2_with fail
    go_ret
    exact ⟨by rw [HR.out]; rfl, rfl⟩
  have HR := Lib.hid (HL.out.trans (show _ = okFrom 0 s.data.toList by rw [decide_eq_true (by omega)]; simp)); clear HL
  have HN := Lib.hid hlen; clear hlen
  have hb1 : decide ((s.size : Int) < 1) = false := decide_eq_false (by omega)
  clear h0
  go_enter Tryz.func80, Tryz.ntmps80
  go_wp2
  go_loop [3] (fun vi => ∃ k : Nat, k ≤ s.size ∧ vi = .int .i64 k ∧ Hid (okFrom 0 s.data.toList = okFrom k (s.data.toList.drop k))) (fun vi => s.size - (intOf vi).toNat)
  case atStart => exact ⟨0, Nat.zero_le _, rfl, by show _ = _; rw [List.drop_zero]⟩
  case round =>
    obtain ⟨k, hk, rfl, hf⟩ := hrel
    by_cases hkn : k < s.size
    · have hstep := okFrom_step s.data.toList k (by rw [HN.out]; exact hkn)
      rw [show s.data.toList[k]'(by rw [HN.out]; exact hkn) = s[k] from rfl] at hstep
      have HST := Lib.hid (hf.out.trans hstep)
      clear hstep hf
      have hlt := s[k].toNat_lt
      have hcls : (97 ≤ s[k].toNat ∧ s[k].toNat ≤ 122) ∨ (65 ≤ s[k].toNat ∧ s[k].toNat ≤ 90) ∨ (s[k].toNat = 95) ∨ (48 ≤ s[k].toNat ∧ s[k].toNat ≤ 57) ∨ (s[k].toNat = 45) ∨ (s[k].toNat = 46) ∨ (s[k].toNat < 48 ∧ s[k].toNat ≠ 45 ∧ s[k].toNat ≠ 46) ∨ (58 ≤ s[k].toNat ∧ s[k].toNat ≤ 64) ∨ (91 ≤ s[k].toNat ∧ s[k].toNat ≤ 96 ∧ s[k].toNat ≠ 95) ∨ (123 ≤ s[k].toNat) := by omega
      by_cases hk0 : k = 0
      · subst hk0
        rcases hcls with c | c | c | c | c | c | c | c | c | c
        · have fa : decide ((97 : Int) ≤ (s[0].toNat : Int)) = true := decide_eq_true (by omega)
          have fb : decide ((s[0].toNat : Int) ≤ 122) = true := decide_eq_true (by omega)
          have fe : decide ((48 : Int) ≤ (s[0].toNat : Int)) = true := decide_eq_true (by omega)
          have ff : decide ((s[0].toNat : Int) ≤ 57) = false := decide_eq_false (by omega)
          have b95 : ((s[0].toNat : Int) == 95) = false := by simp; omega
          have b45 : ((s[0].toNat : Int) == 45) = false := by simp; omega
          have b46 : ((s[0].toNat : Int) == 46) = false := by simp; omega
          have HO := Lib.hid (HST.out.trans (by rw [okB_letter (show letterB s[0] = true by simp [letterB]; omega), Bool.true_and]))
          clear HST c hlt
          go_wp2
          go_round
          case rel => exact ⟨0 + 1, by omega, by go_num, HO⟩
          case measure => simp [intOf]; omega
        · have fa : decide ((97 : Int) ≤ (s[0].toNat : Int)) = false := decide_eq_false (by omega)
          have fc : decide ((65 : Int) ≤ (s[0].toNat : Int)) = true := decide_eq_true (by omega)
          have fd : decide ((s[0].toNat : Int) ≤ 90) = true := decide_eq_true (by omega)
          have fe : decide ((48 : Int) ≤ (s[0].toNat : Int)) = true := decide_eq_true (by omega)
          have ff : decide ((s[0].toNat : Int) ≤ 57) = false := decide_eq_false (by omega)
          have b95 : ((s[0].toNat : Int) == 95) = false := by simp; omega
          have b45 : ((s[0].toNat : Int) == 45) = false := by simp; omega
          have b46 : ((s[0].toNat : Int) == 46) = false := by simp; omega
          have HO := Lib.hid (HST.out.trans (by rw [okB_letter (show letterB s[0] = true by simp [letterB]; omega), Bool.true_and]))
          clear HST c hlt
          go_wp2
          go_round
          case rel => exact ⟨0 + 1, by omega, by go_num, HO⟩
          case measure => simp [intOf]; omega
        · have fa : decide ((97 : Int) ≤ (s[0].toNat : Int)) = false := decide_eq_false (by omega)
          have fc : decide ((65 : Int) ≤ (s[0].toNat : Int)) = true := decide_eq_true (by omega)
          have fd : decide ((s[0].toNat : Int) ≤ 90) = false := decide_eq_false (by omega)
          have fe : decide ((48 : Int) ≤ (s[0].toNat : Int)) = true := decide_eq_true (by omega)
          have ff : decide ((s[0].toNat : Int) ≤ 57) = false := decide_eq_false (by omega)
          have b95 : ((s[0].toNat : Int) == 95) = true := by simp; omega
          have b45 : ((s[0].toNat : Int) == 45) = false := by simp; omega
          have b46 : ((s[0].toNat : Int) == 46) = false := by simp; omega
          have HO := Lib.hid (HST.out.trans (by rw [okB_letter (show letterB s[0] = true by simp [letterB]; omega), Bool.true_and]))
          clear HST c hlt
          go_wp2
          go_round
          case rel => exact ⟨0 + 1, by omega, by go_num, HO⟩
          case measure => simp [intOf]; omega
        · have fa : decide ((97 : Int) ≤ (s[0].toNat : Int)) = false := decide_eq_false (by omega)
          have fc : decide ((65 : Int) ≤ (s[0].toNat : Int)) = false := decide_eq_false (by omega)
          have fe : decide ((48 : Int) ≤ (s[0].toNat : Int)) = true := decide_eq_true (by omega)
          have ff : decide ((s[0].toNat : Int) ≤ 57) = true := decide_eq_true (by omega)
          have b95 : ((s[0].toNat : Int) == 95) = false := by simp; omega
          have b45 : ((s[0].toNat : Int) == 45) = false := by simp; omega
          have b46 : ((s[0].toNat : Int) == 46) = false := by simp; omega
          have HO := Lib.hid (HST.out.trans (by rw [okB_more (show letterB s[0] = false by simp [letterB]; omega) (show moreB s[0] = true by simp [moreB]; omega), decide_eq_false (by omega), Bool.false_and]))
          clear HST c hlt
          go_wp2
          go_ret
          exact ⟨by rw [HR.out, HO.out]; rfl, rfl⟩
        · have fa : decide ((97 : Int) ≤ (s[0].toNat : Int)) = false := decide_eq_false (by omega)
          have fc : decide ((65 : Int) ≤ (s[0].toNat : Int)) = false := decide_eq_false (by omega)
          have fe : decide ((48 : Int) ≤ (s[0].toNat : Int)) = false := decide_eq_false (by omega)
          have b95 : ((s[0].toNat : Int) == 95) = false := by simp; omega
          have b45 : ((s[0].toNat : Int) == 45) = true := by simp; omega
          have b46 : ((s[0].toNat : Int) == 46) = false := by simp; omega
          have HO := Lib.hid (HST.out.trans (by rw [okB_more (show letterB s[0] = false by simp [letterB]; omega) (show moreB s[0] = true by simp [moreB]; omega), decide_eq_false (by omega), Bool.false_and]))
          clear HST c hlt
          go_wp2
          go_ret
          exact ⟨by rw [HR.out, HO.out]; rfl, rfl⟩
        · have fa : decide ((97 : Int) ≤ (s[0].toNat : Int)) = false := decide_eq_false (by omega)
          have fc : decide ((65 : Int) ≤ (s[0].toNat : Int)) = false := decide_eq_false (by omega)
          have fe : decide ((48 : Int) ≤ (s[0].toNat : Int)) = false := decide_eq_false (by omega)
          have b95 : ((s[0].toNat : Int) == 95) = false := by simp; omega
          have b45 : ((s[0].toNat : Int) == 45) = false := by simp; omega
          have b46 : ((s[0].toNat : Int) == 46) = true := by simp; omega
          have HO := Lib.hid (HST.out.trans (by rw [okB_more (show letterB s[0] = false by simp [letterB]; omega) (show moreB s[0] = true by simp [moreB]; omega), decide_eq_false (by omega), Bool.false_and]))
          clear HST c hlt
          go_wp2
          go_ret
          exact ⟨by rw [HR.out, HO.out]; rfl, rfl⟩
        · have fa : decide ((97 : Int) ≤ (s[0].toNat : Int)) = false := decide_eq_false (by omega)
          have fc : decide ((65 : Int) ≤ (s[0].toNat : Int)) = false := decide_eq_false (by omega)
          have fe : decide ((48 : Int) ≤ (s[0].toNat : Int)) = false := decide_eq_false (by omega)
          have b95 : ((s[0].toNat : Int) == 95) = false := by simp; omega
          have b45 : ((s[0].toNat : Int) == 45) = false := by simp; omega
          have b46 : ((s[0].toNat : Int) == 46) = false := by simp; omega
          have HO := Lib.hid (HST.out.trans (by rw [okB_none (show letterB s[0] = false by simp [letterB]; omega) (show moreB s[0] = false by simp [moreB]; omega), Bool.false_and]))
          clear HST c hlt
          go_wp2
          go_ret
          exact ⟨by rw [HR.out, HO.out]; rfl, rfl⟩
        · have fa : decide ((97 : Int) ≤ (s[0].toNat : Int)) = false := decide_eq_false (by omega)
          have fc : decide ((65 : Int) ≤ (s[0].toNat : Int)) = false := decide_eq_false (by omega)
          have fe : decide ((48 : Int) ≤ (s[0].toNat : Int)) = true := decide_eq_true (by omega)
          have ff : decide ((s[0].toNat : Int) ≤ 57) = false := decide_eq_false (by omega)
          have b95 : ((s[0].toNat : Int) == 95) = false := by simp; omega
          have b45 : ((s[0].toNat : Int) == 45) = false := by simp; omega
          have b46 : ((s[0].toNat : Int) == 46) = false := by simp; omega
          have HO := Lib.hid (HST.out.trans (by rw [okB_none (show letterB s[0] = false by simp [letterB]; omega) (show moreB s[0] = false by simp [moreB]; omega), Bool.false_and]))
          clear HST c hlt
          go_wp2
          go_ret
          exact ⟨by rw [HR.out, HO.out]; rfl, rfl⟩
        · have fa : decide ((97 : Int) ≤ (s[0].toNat : Int)) = false := decide_eq_false (by omega)
          have fc : decide ((65 : Int) ≤ (s[0].toNat : Int)) = true := decide_eq_true (by omega)
          have fd : decide ((s[0].toNat : Int) ≤ 90) = false := decide_eq_false (by omega)
          have fe : decide ((48 : Int) ≤ (s[0].toNat : Int)) = true := decide_eq_true (by omega)
          have ff : decide ((s[0].toNat : Int) ≤ 57) = false := decide_eq_false (by omega)
          have b95 : ((s[0].toNat : Int) == 95) = false := by simp; omega
          have b45 : ((s[0].toNat : Int) == 45) = false := by simp; omega
          have b46 : ((s[0].toNat : Int) == 46) = false := by simp; omega
          have HO := Lib.hid (HST.out.trans (by rw [okB_none (show letterB s[0] = false by simp [letterB]; omega) (show moreB s[0] = false by simp [moreB]; omega), Bool.false_and]))
          clear HST c hlt
          go_wp2
          go_ret
          exact ⟨by rw [HR.out, HO.out]; rfl, rfl⟩
        · have fa : decide ((97 : Int) ≤ (s[0].toNat : Int)) = true := decide_eq_true (by omega)
          have fb : decide ((s[0].toNat : Int) ≤ 122) = false := decide_eq_false (by omega)
          have fc : decide ((65 : Int) ≤ (s[0].toNat : Int)) = true := decide_eq_true (by omega)
          have fd : decide ((s[0].toNat : Int) ≤ 90) = false := decide_eq_false (by omega)
          have fe : decide ((48 : Int) ≤ (s[0].toNat : Int)) = true := decide_eq_true (by omega)
          have ff : decide ((s[0].toNat : Int) ≤ 57) = false := decide_eq_false (by omega)
          have b95 : ((s[0].toNat : Int) == 95) = false := by simp; omega
          have b45 : ((s[0].toNat : Int) == 45) = false := by simp; omega
          have b46 : ((s[0].toNat : Int) == 46) = false := by simp; omega
          have HO := Lib.hid (HST.out.trans (by rw [okB_none (show letterB s[0] = false by simp [letterB]; omega) (show moreB s[0] = false by simp [moreB]; omega), Bool.false_and]))
          clear HST c hlt
          go_wp2
          go_ret
          exact ⟨by rw [HR.out, HO.out]; rfl, rfl⟩
      · have hkb : (0 : Int) < (k : Int) := by omega
        have hkb2 : 0 < k := by omega
        rcases hcls with c | c | c | c | c | c | c | c | c | c
        · have fa : decide ((97 : Int) ≤ (s[k].toNat : Int)) = true := decide_eq_true (by omega)
          have fb : decide ((s[k].toNat : Int) ≤ 122) = true := decide_eq_true (by omega)
          have fe : decide ((48 : Int) ≤ (s[k].toNat : Int)) = true := decide_eq_true (by omega)
          have ff : decide ((s[k].toNat : Int) ≤ 57) = false := decide_eq_false (by omega)
          have b95 : ((s[k].toNat : Int) == 95) = false := by simp; omega
          have b45 : ((s[k].toNat : Int) == 45) = false := by simp; omega
          have b46 : ((s[k].toNat : Int) == 46) = false := by simp; omega
          have HO := Lib.hid (HST.out.trans (by rw [okB_letter (show letterB s[k] = true by simp [letterB]; omega), Bool.true_and]))
          clear HST c hlt
          go_wp2
          go_round
          case rel => exact ⟨k + 1, by omega, by go_num, HO⟩
          case measure => simp [intOf]; omega
        · have fa : decide ((97 : Int) ≤ (s[k].toNat : Int)) = false := decide_eq_false (by omega)
          have fc : decide ((65 : Int) ≤ (s[k].toNat : Int)) = true := decide_eq_true (by omega)
          have fd : decide ((s[k].toNat : Int) ≤ 90) = true := decide_eq_true (by omega)
          have fe : decide ((48 : Int) ≤ (s[k].toNat : Int)) = true := decide_eq_true (by omega)
          have ff : decide ((s[k].toNat : Int) ≤ 57) = false := decide_eq_false (by omega)
          have b95 : ((s[k].toNat : Int) == 95) = false := by simp; omega
          have b45 : ((s[k].toNat : Int) == 45) = false := by simp; omega
          have b46 : ((s[k].toNat : Int) == 46) = false := by simp; omega
          have HO := Lib.hid (HST.out.trans (by rw [okB_letter (show letterB s[k] = true by simp [letterB]; omega), Bool.true_and]))
          clear HST c hlt
          go_wp2
          go_round
          case rel => exact ⟨k + 1, by omega, by go_num, HO⟩
          case measure => simp [intOf]; omega
        · have fa : decide ((97 : Int) ≤ (s[k].toNat : Int)) = false := decide_eq_false (by omega)
          have fc : decide ((65 : Int) ≤ (s[k].toNat : Int)) = true := decide_eq_true (by omega)
          have fd : decide ((s[k].toNat : Int) ≤ 90) = false := decide_eq_false (by omega)
          have fe : decide ((48 : Int) ≤ (s[k].toNat : Int)) = true := decide_eq_true (by omega)
          have ff : decide ((s[k].toNat : Int) ≤ 57) = false := decide_eq_false (by omega)
          have b95 : ((s[k].toNat : Int) == 95) = true := by simp; omega
          have b45 : ((s[k].toNat : Int) == 45) = false := by simp; omega
          have b46 : ((s[k].toNat : Int) == 46) = false := by simp; omega
          have HO := Lib.hid (HST.out.trans (by rw [okB_letter (show letterB s[k] = true by simp [letterB]; omega), Bool.true_and]))
          clear HST c hlt
          go_wp2
          go_round
          case rel => exact ⟨k + 1, by omega, by go_num, HO⟩
          case measure => simp [intOf]; omega
        · have fa : decide ((97 : Int) ≤ (s[k].toNat : Int)) = false := decide_eq_false (by omega)
          have fc : decide ((65 : Int) ≤ (s[k].toNat : Int)) = false := decide_eq_false (by omega)
          have fe : decide ((48 : Int) ≤ (s[k].toNat : Int)) = true := decide_eq_true (by omega)
          have ff : decide ((s[k].toNat : Int) ≤ 57) = true := decide_eq_true (by omega)
          have b95 : ((s[k].toNat : Int) == 95) = false := by simp; omega
          have b45 : ((s[k].toNat : Int) == 45) = false := by simp; omega
          have b46 : ((s[k].toNat : Int) == 46) = false := by simp; omega
          have HO := Lib.hid (HST.out.trans (by rw [okB_more (show letterB s[k] = false by simp [letterB]; omega) (show moreB s[k] = true by simp [moreB]; omega), decide_eq_true (by omega), Bool.true_and]))
          clear HST c hlt
          go_wp2
          go_round
          case rel => exact ⟨k + 1, by omega, by go_num, HO⟩
          case measure => simp [intOf]; omega
        · have fa : decide ((97 : Int) ≤ (s[k].toNat : Int)) = false := decide_eq_false (by omega)
          have fc : decide ((65 : Int) ≤ (s[k].toNat : Int)) = false := decide_eq_false (by omega)
          have fe : decide ((48 : Int) ≤ (s[k].toNat : Int)) = false := decide_eq_false (by omega)
          have b95 : ((s[k].toNat : Int) == 95) = false := by simp; omega
          have b45 : ((s[k].toNat : Int) == 45) = true := by simp; omega
          have b46 : ((s[k].toNat : Int) == 46) = false := by simp; omega
          have HO := Lib.hid (HST.out.trans (by rw [okB_more (show letterB s[k] = false by simp [letterB]; omega) (show moreB s[k] = true by simp [moreB]; omega), decide_eq_true (by omega), Bool.true_and]))
          clear HST c hlt
          go_wp2
          go_round
          case rel => exact ⟨k + 1, by omega, by go_num, HO⟩
          case measure => simp [intOf]; omega
        · have fa : decide ((97 : Int) ≤ (s[k].toNat : Int)) = false := decide_eq_false (by omega)
          have fc : decide ((65 : Int) ≤ (s[k].toNat : Int)) = false := decide_eq_false (by omega)
          have fe : decide ((48 : Int) ≤ (s[k].toNat : Int)) = false := decide_eq_false (by omega)
          have b95 : ((s[k].toNat : Int) == 95) = false := by simp; omega
          have b45 : ((s[k].toNat : Int) == 45) = false := by simp; omega
          have b46 : ((s[k].toNat : Int) == 46) = true := by simp; omega
          have HO := Lib.hid (HST.out.trans (by rw [okB_more (show letterB s[k] = false by simp [letterB]; omega) (show moreB s[k] = true by simp [moreB]; omega), decide_eq_true (by omega), Bool.true_and]))
          clear HST c hlt
          go_wp2
          go_round
          case rel => exact ⟨k + 1, by omega, by go_num, HO⟩
          case measure => simp [intOf]; omega
        · have fa : decide ((97 : Int) ≤ (s[k].toNat : Int)) = false := decide_eq_false (by omega)
          have fc : decide ((65 : Int) ≤ (s[k].toNat : Int)) = false := decide_eq_false (by omega)
          have fe : decide ((48 : Int) ≤ (s[k].toNat : Int)) = false := decide_eq_false (by omega)
          have b95 : ((s[k].toNat : Int) == 95) = false := by simp; omega
          have b45 : ((s[k].toNat : Int) == 45) = false := by simp; omega
          have b46 : ((s[k].toNat : Int) == 46) = false := by simp; omega
          have HO := Lib.hid (HST.out.trans (by rw [okB_none (show letterB s[k] = false by simp [letterB]; omega) (show moreB s[k] = false by simp [moreB]; omega), Bool.false_and]))
          clear HST c hlt
          go_wp2
          go_ret
          exact ⟨by rw [HR.out, HO.out]; rfl, rfl⟩
        · have fa : decide ((97 : Int) ≤ (s[k].toNat : Int)) = false := decide_eq_false (by omega)
          have fc : decide ((65 : Int) ≤ (s[k].toNat : Int)) = false := decide_eq_false (by omega)
          have fe : decide ((48 : Int) ≤ (s[k].toNat : Int)) = true := decide_eq_true (by omega)
          have ff : decide ((s[k].toNat : Int) ≤ 57) = false := decide_eq_false (by omega)
          have b95 : ((s[k].toNat : Int) == 95) = false := by simp; omega
          have b45 : ((s[k].toNat : Int) == 45) = false := by simp; omega
          have b46 : ((s[k].toNat : Int) == 46) = false := by simp; omega
          have HO := Lib.hid (HST.out.trans (by rw [okB_none (show letterB s[k] = false by simp [letterB]; omega) (show moreB s[k] = false by simp [moreB]; omega), Bool.false_and]))
          clear HST c hlt
          go_wp2
          go_ret
          exact ⟨by rw [HR.out, HO.out]; rfl, rfl⟩
        · have fa : decide ((97 : Int) ≤ (s[k].toNat : Int)) = false := decide_eq_false (by omega)
          have fc : decide ((65 : Int) ≤ (s[k].toNat : Int)) = true := decide_eq_true (by omega)
          have fd : decide ((s[k].toNat : Int) ≤ 90) = false := decide_eq_false (by omega)
          have fe : decide ((48 : Int) ≤ (s[k].toNat : Int)) = true := decide_eq_true (by omega)
          have ff : decide ((s[k].toNat : Int) ≤ 57) = false := decide_eq_false (by omega)
          have b95 : ((s[k].toNat : Int) == 95) = false := by simp; omega
          have b45 : ((s[k].toNat : Int) == 45) = false := by simp; omega
          have b46 : ((s[k].toNat : Int) == 46) = false := by simp; omega
          have HO := Lib.hid (HST.out.trans (by rw [okB_none (show letterB s[k] = false by simp [letterB]; omega) (show moreB s[k] = false by simp [moreB]; omega), Bool.false_and]))
          clear HST c hlt
          go_wp2
          go_ret
          exact ⟨by rw [HR.out, HO.out]; rfl, rfl⟩
        · have fa : decide ((97 : Int) ≤ (s[k].toNat : Int)) = true := decide_eq_true (by omega)
          have fb : decide ((s[k].toNat : Int) ≤ 122) = false := decide_eq_false (by omega)
          have fc : decide ((65 : Int) ≤ (s[k].toNat : Int)) = true := decide_eq_true (by omega)
          have fd : decide ((s[k].toNat : Int) ≤ 90) = false := decide_eq_false (by omega)
          have fe : decide ((48 : Int) ≤ (s[k].toNat : Int)) = true := decide_eq_true (by omega)
          have ff : decide ((s[k].toNat : Int) ≤ 57) = false := decide_eq_false (by omega)
          have b95 : ((s[k].toNat : Int) == 95) = false := by simp; omega
          have b45 : ((s[k].toNat : Int) == 45) = false := by simp; omega
          have b46 : ((s[k].toNat : Int) == 46) = false := by simp; omega
          have HO := Lib.hid (HST.out.trans (by rw [okB_none (show letterB s[k] = false by simp [letterB]; omega) (show moreB s[k] = false by simp [moreB]; omega), Bool.false_and]))
          clear HST c hlt
          go_wp2
          go_ret
          exact ⟨by rw [HR.out, HO.out]; rfl, rfl⟩
    · have HO := Lib.hid (hf.out.trans (okFrom_end s.data.toList k (by rw [HN.out]; omega)))
      clear hf
      go_wp2
      go_ret
      exact ⟨by rw [HR.out, HO.out]; rfl, rfl⟩

end Go.Proofs.YtaolnpiemeaabaaGreatDoor
