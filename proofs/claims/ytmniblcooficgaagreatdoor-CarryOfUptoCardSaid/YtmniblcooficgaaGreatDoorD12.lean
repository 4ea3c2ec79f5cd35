import Derived.LoopN
import Derived.Test.YtmniblcooficgaaGreatDoorD09
import Derived.Test.YtmniblcooficgaaGreatDoorD10
import Derived.Test.YtmniblcooficgaaGreatDoorD11
import Derived.Test.YtmniblcooficgaaGreatDoorD06
import Derived.Deep.AppendLies
namespace Go.Proofs.YtmniblcooficgaaGreatDoor
open Go.RowKit Ev5
set_option linter.unusedSimpArgs false
set_option linter.unusedVariables false

set_option maxRecDepth 100000 in
set_option maxHeartbeats 16000000 in
theorem one_any (s : ByteArray) (w : World) (hs : s.size ≤ 1048576) :
    Calls Tryz.prog 146 #[.string s] w fun e w' => (∃ a : Int, 0 ≤ a ∧ a ≤ 1114111 ∧ e = .returned (.tuple #[.int .i64 a, .int .i64 (oneW s.data.toList : Int)])) ∧ w' = w := by
  by_cases h0 : s.size = 0
  · have HW := Lib.hid (show oneW s.data.toList = 0 by
      unfold oneW; rw [if_pos]; exact List.eq_nil_of_length_eq_zero (by rw [Array.length_toList]; exact h0))
    go_enter Tryz.func146, Tryz.ntmps146
    go_wp2_with fail
    go_ret2
    exact ⟨⟨0, by omega, by omega, by rw [HW.out]; rfl⟩, rfl⟩
  have hpos : 0 < s.size := by omega
  have hw := oneW_size s hpos
  rw [at_getD s 0 hpos] at hw
  have HW := Lib.hid hw; clear hw h0
  have hb0 : s[0].toNat < 256 := UInt8.toNat_lt _
  by_cases c1 : (s[0].toNat : Int) < 128
  · have HR := Lib.hid (HW.out.trans (wN_1 _ _ _ _ _ (by omega))); clear HW
    go_enter Tryz.func146, Tryz.ntmps146
    go_wp2_with fail
    go_ret2
    exact ⟨⟨s[0].toNat, by omega, by omega, by rw [HR.out]; rfl⟩, rfl⟩
  by_cases c2 : (s[0].toNat : Int) < 192
  · have HR := Lib.hid (HW.out.trans (wN_0 _ _ _ _ _ (by omega))); clear HW
    have b1 : decide ((192 : Int) ≤ s[0].toNat) = false := decide_eq_false (by omega)
    have b2 : decide ((224 : Int) ≤ s[0].toNat) = false := decide_eq_false (by omega)
    have b3 : decide ((240 : Int) ≤ s[0].toNat) = false := decide_eq_false (by omega)
    go_enter Tryz.func146, Tryz.ntmps146
    go_wp2_with fail
    go_ret2
    exact ⟨⟨0, by omega, by omega, by rw [HR.out]; rfl⟩, rfl⟩
  by_cases c3 : (s[0].toNat : Int) < 224
  · exact one_2 s w hs hpos (by omega) c3
  by_cases c4 : (s[0].toNat : Int) < 240
  · exact one_3 s w hs hpos (by omega) c4
  by_cases c5 : (s[0].toNat : Int) < 248
  · exact one_4 s w hs hpos (by omega) c5
  · have HR := Lib.hid (HW.out.trans (wN_0 _ _ _ _ _ (by omega))); clear HW
    have b1 : decide ((s[0].toNat : Int) < 224) = false := decide_eq_false (by omega)
    have b2 : decide ((s[0].toNat : Int) < 240) = false := decide_eq_false (by omega)
    have b3 : decide ((s[0].toNat : Int) < 248) = false := decide_eq_false (by omega)
    go_enter Tryz.func146, Tryz.ntmps146
    go_wp2_with fail
    go_ret2
    exact ⟨⟨0, by omega, by omega, by rw [HR.out]; rfl⟩, rfl⟩
end Go.Proofs.YtmniblcooficgaaGreatDoor
namespace Go.Proofs.YtmniblcooficgaaGreatDoor
open Go.RowKit Ev5
set_option linter.unusedSimpArgs false
set_option linter.unusedVariables false

set_option maxRecDepth 1000000 in
set_option maxHeartbeats 8000000 in
theorem refLocal_any (s : ByteArray) (w : World) (hs : s.size ≤ 1048576) :
    Calls Tryz.prog 123 #[.string s] w fun e w' => e = .returned (.bool (localP s.data.toList)) ∧ w' = w := by
  have hlen : s.data.toList.length = s.size := by rw [Array.length_toList]; rfl
  have hlp : localP s.data.toList = (decide (1 ≤ s.size ∧ s.size ≤ 16) && okFrom 0 s.data.toList) := by unfold localP; rw [hlen]
  have HL := Lib.hid hlp; clear hlp
  by_cases h0 : s.size = 0
  · have HR := Lib.hid (HL.out.trans (show _ = false by simp [h0])); clear HL hlen
    go_enter Tryz.func123, Tryz.ntmps123
    go_wp2_with fail
    go_ret
    exact ⟨by rw [HR.out]; rfl, rfl⟩
  by_cases h16 : (16 : Int) < (s.size : Int)
  · have HR := Lib.hid (HL.out.trans (show _ = false by rw [decide_eq_false (by omega)]; simp)); clear HL hlen
    have hb1 : decide ((s.size : Int) < 1) = false := decide_eq_false (by omega)
    clear h0
    go_enter Tryz.func123, Tryz.ntmps123
    go_wp2_with fail
    go_ret
    exact ⟨by rw [HR.out]; rfl, rfl⟩
  have HR := Lib.hid (HL.out.trans (show _ = okFrom 0 s.data.toList by rw [decide_eq_true (by omega)]; simp)); clear HL
  have HN := Lib.hid hlen; clear hlen
  have hb1 : decide ((s.size : Int) < 1) = false := decide_eq_false (by omega)
  clear h0
  go_enter Tryz.func123, Tryz.ntmps123
  go_wp2
  go_loop [3] (fun vi => ∃ k : Nat, k ≤ s.size ∧ vi = .int .i64 k ∧ Hid (okFrom 0 s.data.toList = okFrom k (s.data.toList.drop k))) (fun vi => s.size - (intOf vi).toNat)
  case atStart => exact ⟨0, Nat.zero_le _, rfl, by show _ = _; rw [List.drop_zero]⟩
  case round =>
    obtain ⟨k, hk, rfl, hf⟩ := hrel
    by_cases hkn : k < s.size
    · have hstep := okFrom_step s.data.toList k (by rw [HN.out]; exact hkn)
      rw [show s.data.toList[k]'(by rw [HN.out]; exact hkn) = s[k] from rfl] at hstep
      have HST := Lib.hid (hf.out.trans hstep)
      clear hstep hf
      have hlt := s[k].toNat_lt
      have hcls : (97 ≤ s[k].toNat ∧ s[k].toNat ≤ 122) ∨ (65 ≤ s[k].toNat ∧ s[k].toNat ≤ 90) ∨ (s[k].toNat = 95) ∨ (48 ≤ s[k].toNat ∧ s[k].toNat ≤ 57) ∨ (s[k].toNat = 45) ∨ (s[k].toNat = 46) ∨ (s[k].toNat < 48 ∧ s[k].toNat ≠ 45 ∧ s[k].toNat ≠ 46) ∨ (58 ≤ s[k].toNat ∧ s[k].toNat ≤ 64) ∨ (91 ≤ s[k].toNat ∧ s[k].toNat ≤ 96 ∧ s[k].toNat ≠ 95) ∨ (123 ≤ s[k].toNat) := by omega
      by_cases hk0 : k = 0
      · subst hk0
        rcases hcls with c | c | c | c | c | c | c | c | c | c
        · have fa : decide ((97 : Int) ≤ (s[0].toNat : Int)) = true := decide_eq_true (by omega)
          have fb : decide ((s[0].toNat : Int) ≤ 122) = true := decide_eq_true (by omega)
          have fe : decide ((48 : Int) ≤ (s[0].toNat : Int)) = true := decide_eq_true (by omega)
          have ff : decide ((s[0].toNat : Int) ≤ 57) = false := decide_eq_false (by omega)
          have b95 : ((s[0].toNat : Int) == 95) = false := by simp; omega
          have b45 : ((s[0].toNat : Int) == 45) = false := by simp; omega
          have b46 : ((s[0].toNat : Int) == 46) = false := by simp; omega
          have HO := Lib.hid (HST.out.trans (by rw [okB_letter (show letterB s[0] = true by simp [letterB]; omega), Bool.true_and]))
          clear HST c hlt
          go_wp2
          go_round
          case rel => exact ⟨0 + 1, by omega, by go_num, HO⟩
          case measure => simp [intOf]; omega
        · have fa : decide ((97 : Int) ≤ (s[0].toNat : Int)) = false := decide_eq_false (by omega)
          have fc : decide ((65 : Int) ≤ (s[0].toNat : Int)) = true := decide_eq_true (by omega)
          have fd : decide ((s[0].toNat : Int) ≤ 90) = true := decide_eq_true (by omega)
          have fe : decide ((48 : Int) ≤ (s[0].toNat : Int)) = true := decide_eq_true (by omega)
          have ff : decide ((s[0].toNat : Int) ≤ 57) = false := decide_eq_false (by omega)
          have b95 : ((s[0].toNat : Int) == 95) = false := by simp; omega
          have b45 : ((s[0].toNat : Int) == 45) = false := by simp; omega
          have b46 : ((s[0].toNat : Int) == 46) = false := by simp; omega
          have HO := Lib.hid (HST.out.trans (by rw [okB_letter (show letterB s[0] = true by simp [letterB]; omega), Bool.true_and]))
          clear HST c hlt
          go_wp2
          go_round
          case rel => exact ⟨0 + 1, by omega, by go_num, HO⟩
          case measure => simp [intOf]; omega
        · have fa : decide ((97 : Int) ≤ (s[0].toNat : Int)) = false := decide_eq_false (by omega)
          have fc : decide ((65 : Int) ≤ (s[0].toNat : Int)) = true := decide_eq_true (by omega)
          have fd : decide ((s[0].toNat : Int) ≤ 90) = false := decide_eq_false (by omega)
          have fe : decide ((48 : Int) ≤ (s[0].toNat : Int)) = true := decide_eq_true (by omega)
          have ff : decide ((s[0].toNat : Int) ≤ 57) = false := decide_eq_false (by omega)
          have b95 : ((s[0].toNat : Int) == 95) = true := by simp; omega
          have b45 : ((s[0].toNat : Int) == 45) = false := by simp; omega
          have b46 : ((s[0].toNat : Int) == 46) = false := by simp; omega
          have HO := Lib.hid (HST.out.trans (by rw [okB_letter (show letterB s[0] = true by simp [letterB]; omega), Bool.true_and]))
          clear HST c hlt
          go_wp2
          go_round
          case rel => exact ⟨0 + 1, by omega, by go_num, HO⟩
          case measure => simp [intOf]; omega
        · have fa : decide ((97 : Int) ≤ (s[0].toNat : Int)) = false := decide_eq_false (by omega)
          have fc : decide ((65 : Int) ≤ (s[0].toNat : Int)) = false := decide_eq_false (by omega)
          have fe : decide ((48 : Int) ≤ (s[0].toNat : Int)) = true := decide_eq_true (by omega)
          have ff : decide ((s[0].toNat : Int) ≤ 57) = true := decide_eq_true (by omega)
          have b95 : ((s[0].toNat : Int) == 95) = false := by simp; omega
          have b45 : ((s[0].toNat : Int) == 45) = false := by simp; omega
          have b46 : ((s[0].toNat : Int) == 46) = false := by simp; omega
          have HO := Lib.hid (HST.out.trans (by rw [okB_more (show letterB s[0] = false by simp [letterB]; omega) (show moreB s[0] = true by simp [moreB]; omega), decide_eq_false (by omega), Bool.false_and]))
          clear HST c hlt
          go_wp2
          go_ret
          exact ⟨by rw [HR.out, HO.out]; rfl, rfl⟩
        · have fa : decide ((97 : Int) ≤ (s[0].toNat : Int)) = false := decide_eq_false (by omega)
          have fc : decide ((65 : Int) ≤ (s[0].toNat : Int)) = false := decide_eq_false (by omega)
          have fe : decide ((48 : Int) ≤ (s[0].toNat : Int)) = false := decide_eq_false (by omega)
          have b95 : ((s[0].toNat : Int) == 95) = false := by simp; omega
          have b45 : ((s[0].toNat : Int) == 45) = true := by simp; omega
          have b46 : ((s[0].toNat : Int) == 46) = false := by simp; omega
          have HO := Lib.hid (HST.out.trans (by rw [okB_more (show letterB s[0] = false by simp [letterB]; omega) (show moreB s[0] = true by simp [moreB]; omega), decide_eq_false (by omega), Bool.false_and]))
          clear HST c hlt
          go_wp2
          go_ret
          exact ⟨by rw [HR.out, HO.out]; rfl, rfl⟩
        · have fa : decide ((97 : Int) ≤ (s[0].toNat : Int)) = false := decide_eq_false (by omega)
          have fc : decide ((65 : Int) ≤ (s[0].toNat : Int)) = false := decide_eq_false (by omega)
          have fe : decide ((48 : Int) ≤ (s[0].toNat : Int)) = false := decide_eq_false (by omega)
          have b95 : ((s[0].toNat : Int) == 95) = false := by simp; omega
          have b45 : ((s[0].toNat : Int) == 45) = false := by simp; omega
          have b46 : ((s[0].toNat : Int) == 46) = true := by simp; omega
          have HO := Lib.hid (HST.out.trans (by rw [okB_more (show letterB s[0] = false by simp [letterB]; omega) (show moreB s[0] = true by simp [moreB]; omega), decide_eq_false (by omega), Bool.false_and]))
          clear HST c hlt
          go_wp2
          go_ret
          exact ⟨by rw [HR.out, HO.out]; rfl, rfl⟩
        · have fa : decide ((97 : Int) ≤ (s[0].toNat : Int)) = false := decide_eq_false (by omega)
          have fc : decide ((65 : Int) ≤ (s[0].toNat : Int)) = false := decide_eq_false (by omega)
          have fe : decide ((48 : Int) ≤ (s[0].toNat : Int)) = false := decide_eq_false (by omega)
          have b95 : ((s[0].toNat : Int) == 95) = false := by simp; omega
          have b45 : ((s[0].toNat : Int) == 45) = false := by simp; omega
          have b46 : ((s[0].toNat : Int) == 46) = false := by simp; omega
          have HO := Lib.hid (HST.out.trans (by rw [okB_none (show letterB s[0] = false by simp [letterB]; omega) (show moreB s[0] = false by simp [moreB]; omega), Bool.false_and]))
          clear HST c hlt
          go_wp2
          go_ret
          exact ⟨by rw [HR.out, HO.out]; rfl, rfl⟩
        · have fa : decide ((97 : Int) ≤ (s[0].toNat : Int)) = false := decide_eq_false (by omega)
          have fc : decide ((65 : Int) ≤ (s[0].toNat : Int)) = false := decide_eq_false (by omega)
          have fe : decide ((48 : Int) ≤ (s[0].toNat : Int)) = true := decide_eq_true (by omega)
          have ff : decide ((s[0].toNat : Int) ≤ 57) = false := decide_eq_false (by omega)
          have b95 : ((s[0].toNat : Int) == 95) = false := by simp; omega
          have b45 : ((s[0].toNat : Int) == 45) = false := by simp; omega
          have b46 : ((s[0].toNat : Int) == 46) = false := by simp; omega
          have HO := Lib.hid (HST.out.trans (by rw [okB_none (show letterB s[0] = false by simp [letterB]; omega) (show moreB s[0] = false by simp [moreB]; omega), Bool.false_and]))
          clear HST c hlt
          go_wp2
          go_ret
          exact ⟨by rw [HR.out, HO.out]; rfl, rfl⟩
        · have fa : decide ((97 : Int) ≤ (s[0].toNat : Int)) = false := decide_eq_false (by omega)
          have fc : decide ((65 : Int) ≤ (s[0].toNat : Int)) = true := decide_eq_true (by omega)
          have fd : decide ((s[0].toNat : Int) ≤ 90) = false := decide_eq_false (by omega)
          have fe : decide ((48 : Int) ≤ (s[0].toNat : Int)) = true := decide_eq_true (by omega)
          have ff : decide ((s[0].toNat : Int) ≤ 57) = false := decide_eq_false (by omega)
          have b95 : ((s[0].toNat : Int) == 95) = false := by simp; omega
          have b45 : ((s[0].toNat : Int) == 45) = false := by simp; omega
          have b46 : ((s[0].toNat : Int) == 46) = false := by simp; omega
          have HO := Lib.hid (HST.out.trans (by rw [okB_none (show letterB s[0] = false by simp [letterB]; omega) (show moreB s[0] = false by simp [moreB]; omega), Bool.false_and]))
          clear HST c hlt
          go_wp2
          go_ret
          exact ⟨by rw [HR.out, HO.out]; rfl, rfl⟩
        · have fa : decide ((97 : Int) ≤ (s[0].toNat : Int)) = true := decide_eq_true (by omega)
          have fb : decide ((s[0].toNat : Int) ≤ 122) = false := decide_eq_false (by omega)
          have fc : decide ((65 : Int) ≤ (s[0].toNat : Int)) = true := decide_eq_true (by omega)
          have fd : decide ((s[0].toNat : Int) ≤ 90) = false := decide_eq_false (by omega)
          have fe : decide ((48 : Int) ≤ (s[0].toNat : Int)) = true := decide_eq_true (by omega)
          have ff : decide ((s[0].toNat : Int) ≤ 57) = false := decide_eq_false (by omega)
          have b95 : ((s[0].toNat : Int) == 95) = false := by simp; omega
          have b45 : ((s[0].toNat : Int) == 45) = false := by simp; omega
          have b46 : ((s[0].toNat : Int) == 46) = false := by simp; omega
          have HO := Lib.hid (HST.out.trans (by rw [okB_none (show letterB s[0] = false by simp [letterB]; omega) (show moreB s[0] = false by simp [moreB]; omega), Bool.false_and]))
          clear HST c hlt
          go_wp2
          go_ret
          exact ⟨by rw [HR.out, HO.out]; rfl, rfl⟩
      · have hkb : (0 : Int) < (k : Int) := by omega
        have hkb2 : 0 < k := by omega
        rcases hcls with c | c | c | c | c | c | c | c | c | c
        · have fa : decide ((97 : Int) ≤ (s[k].toNat : Int)) = true := decide_eq_true (by omega)
          have fb : decide ((s[k].toNat : Int) ≤ 122) = true := decide_eq_true (by omega)
          have fe : decide ((48 : Int) ≤ (s[k].toNat : Int)) = true := decide_eq_true (by omega)
          have ff : decide ((s[k].toNat : Int) ≤ 57) = false := decide_eq_false (by omega)
          have b95 : ((s[k].toNat : Int) == 95) = false := by simp; omega
          have b45 : ((s[k].toNat : Int) == 45) = false := by simp; omega
          have b46 : ((s[k].toNat : Int) == 46) = false := by simp; omega
          have HO := Lib.hid (HST.out.trans (by rw [okB_letter (show letterB s[k] = true by simp [letterB]; omega), Bool.true_and]))
          clear HST c hlt
          go_wp2
          go_round
          case rel => exact ⟨k + 1, by omega, by go_num, HO⟩
          case measure => simp [intOf]; omega
        · have fa : decide ((97 : Int) ≤ (s[k].toNat : Int)) = false := decide_eq_false (by omega)
          have fc : decide ((65 : Int) ≤ (s[k].toNat : Int)) = true := decide_eq_true (by omega)
          have fd : decide ((s[k].toNat : Int) ≤ 90) = true := decide_eq_true (by omega)
          have fe : decide ((48 : Int) ≤ (s[k].toNat : Int)) = true := decide_eq_true (by omega)
          have ff : decide ((s[k].toNat : Int) ≤ 57) = false := decide_eq_false (by omega)
          have b95 : ((s[k].toNat : Int) == 95) = false := by simp; omega
          have b45 : ((s[k].toNat : Int) == 45) = false := by simp; omega
          have b46 : ((s[k].toNat : Int) == 46) = false := by simp; omega
          have HO := Lib.hid (HST.out.trans (by rw [okB_letter (show letterB s[k] = true by simp [letterB]; omega), Bool.true_and]))
          clear HST c hlt
          go_wp2
          go_round
          case rel => exact ⟨k + 1, by omega, by go_num, HO⟩
          case measure => simp [intOf]; omega
        · have fa : decide ((97 : Int) ≤ (s[k].toNat : Int)) = false := decide_eq_false (by omega)
          have fc : decide ((65 : Int) ≤ (s[k].toNat : Int)) = true := decide_eq_true (by omega)
          have fd : decide ((s[k].toNat : Int) ≤ 90) = false := decide_eq_false (by omega)
          have fe : decide ((48 : Int) ≤ (s[k].toNat : Int)) = true := decide_eq_true (by omega)
          have ff : decide ((s[k].toNat : Int) ≤ 57) = false := decide_eq_false (by omega)
          have b95 : ((s[k].toNat : Int) == 95) = true := by simp; omega
          have b45 : ((s[k].toNat : Int) == 45) = false := by simp; omega
          have b46 : ((s[k].toNat : Int) == 46) = false := by simp; omega
          have HO := Lib.hid (HST.out.trans (by rw [okB_letter (show letterB s[k] = true by simp [letterB]; omega), Bool.true_and]))
          clear HST c hlt
          go_wp2
          go_round
          case rel => exact ⟨k + 1, by omega, by go_num, HO⟩
          case measure => simp [intOf]; omega
        · have fa : decide ((97 : Int) ≤ (s[k].toNat : Int)) = false := decide_eq_false (by omega)
          have fc : decide ((65 : Int) ≤ (s[k].toNat : Int)) = false := decide_eq_false (by omega)
          have fe : decide ((48 : Int) ≤ (s[k].toNat : Int)) = true := decide_eq_true (by omega)
          have ff : decide ((s[k].toNat : Int) ≤ 57) = true := decide_eq_true (by omega)
          have b95 : ((s[k].toNat : Int) == 95) = false := by simp; omega
          have b45 : ((s[k].toNat : Int) == 45) = false := by simp; omega
          have b46 : ((s[k].toNat : Int) == 46) = false := by simp; omega
          have HO := Lib.hid (HST.out.trans (by rw [okB_more (show letterB s[k] = false by simp [letterB]; omega) (show moreB s[k] = true by simp [moreB]; omega), decide_eq_true (by omega), Bool.true_and]))
          clear HST c hlt
          go_wp2
          go_round
          case rel => exact ⟨k + 1, by omega, by go_num, HO⟩
          case measure => simp [intOf]; omega
        · have fa : decide ((97 : Int) ≤ (s[k].toNat : Int)) = false := decide_eq_false (by omega)
          have fc : decide ((65 : Int) ≤ (s[k].toNat : Int)) = false := decide_eq_false (by omega)
          have fe : decide ((48 : Int) ≤ (s[k].toNat : Int)) = false := decide_eq_false (by omega)
          have b95 : ((s[k].toNat : Int) == 95) = false := by simp; omega
          have b45 : ((s[k].toNat : Int) == 45) = true := by simp; omega
          have b46 : ((s[k].toNat : Int) == 46) = false := by simp; omega
          have HO := Lib.hid (HST.out.trans (by rw [okB_more (show letterB s[k] = false by simp [letterB]; omega) (show moreB s[k] = true by simp [moreB]; omega), decide_eq_true (by omega), Bool.true_and]))
          clear HST c hlt
          go_wp2
          go_round
          case rel => exact ⟨k + 1, by omega, by go_num, HO⟩
          case measure => simp [intOf]; omega
        · have fa : decide ((97 : Int) ≤ (s[k].toNat : Int)) = false := decide_eq_false (by omega)
          have fc : decide ((65 : Int) ≤ (s[k].toNat : Int)) = false := decide_eq_false (by omega)
          have fe : decide ((48 : Int) ≤ (s[k].toNat : Int)) = false := decide_eq_false (by omega)
          have b95 : ((s[k].toNat : Int) == 95) = false := by simp; omega
          have b45 : ((s[k].toNat : Int) == 45) = false := by simp; omega
          have b46 : ((s[k].toNat : Int) == 46) = true := by simp; omega
          have HO := Lib.hid (HST.out.trans (by rw [okB_more (show letterB s[k] = false by simp [letterB]; omega) (show moreB s[k] = true by simp [moreB]; omega), decide_eq_true (by omega), Bool.true_and]))
          clear HST c hlt
          go_wp2
          go_round
          case rel => exact ⟨k + 1, by omega, by go_num, HO⟩
          case measure => simp [intOf]; omega
        · have fa : decide ((97 : Int) ≤ (s[k].toNat : Int)) = false := decide_eq_false (by omega)
          have fc : decide ((65 : Int) ≤ (s[k].toNat : Int)) = false := decide_eq_false (by omega)
          have fe : decide ((48 : Int) ≤ (s[k].toNat : Int)) = false := decide_eq_false (by omega)
          have b95 : ((s[k].toNat : Int) == 95) = false := by simp; omega
          have b45 : ((s[k].toNat : Int) == 45) = false := by simp; omega
          have b46 : ((s[k].toNat : Int) == 46) = false := by simp; omega
          have HO := Lib.hid (HST.out.trans (by rw [okB_none (show letterB s[k] = false by simp [letterB]; omega) (show moreB s[k] = false by simp [moreB]; omega), Bool.false_and]))
          clear HST c hlt
          go_wp2
          go_ret
          exact ⟨by rw [HR.out, HO.out]; rfl, rfl⟩
        · have fa : decide ((97 : Int) ≤ (s[k].toNat : Int)) = false := decide_eq_false (by omega)
          have fc : decide ((65 : Int) ≤ (s[k].toNat : Int)) = false := decide_eq_false (by omega)
          have fe : decide ((48 : Int) ≤ (s[k].toNat : Int)) = true := decide_eq_true (by omega)
          have ff : decide ((s[k].toNat : Int) ≤ 57) = false := decide_eq_false (by omega)
          have b95 : ((s[k].toNat : Int) == 95) = false := by simp; omega
          have b45 : ((s[k].toNat : Int) == 45) = false := by simp; omega
          have b46 : ((s[k].toNat : Int) == 46) = false := by simp; omega
          have HO := Lib.hid (HST.out.trans (by rw [okB_none (show letterB s[k] = false by simp [letterB]; omega) (show moreB s[k] = false by simp [moreB]; omega), Bool.false_and]))
          clear HST c hlt
          go_wp2
          go_ret
          exact ⟨by rw [HR.out, HO.out]; rfl, rfl⟩
        · have fa : decide ((97 : Int) ≤ (s[k].toNat : Int)) = false := decide_eq_false (by omega)
          have fc : decide ((65 : Int) ≤ (s[k].toNat : Int)) = true := decide_eq_true (by omega)
          have fd : decide ((s[k].toNat : Int) ≤ 90) = false := decide_eq_false (by omega)
          have fe : decide ((48 : Int) ≤ (s[k].toNat : Int)) = true := decide_eq_true (by omega)
          have ff : decide ((s[k].toNat : Int) ≤ 57) = false := decide_eq_false (by omega)
          have b95 : ((s[k].toNat : Int) == 95) = false := by simp; omega
          have b45 : ((s[k].toNat : Int) == 45) = false := by simp; omega
          have b46 : ((s[k].toNat : Int) == 46) = false := by simp; omega
          have HO := Lib.hid (HST.out.trans (by rw [okB_none (show letterB s[k] = false by simp [letterB]; omega) (show moreB s[k] = false by simp [moreB]; omega), Bool.false_and]))
          clear HST c hlt
          go_wp2
          go_ret
          exact ⟨by rw [HR.out, HO.out]; rfl, rfl⟩
        · have fa : decide ((97 : Int) ≤ (s[k].toNat : Int)) = true := decide_eq_true (by omega)
          have fb : decide ((s[k].toNat : Int) ≤ 122) = false := decide_eq_false (by omega)
          have fc : decide ((65 : Int) ≤ (s[k].toNat : Int)) = true := decide_eq_true (by omega)
          have fd : decide ((s[k].toNat : Int) ≤ 90) = false := decide_eq_false (by omega)
          have fe : decide ((48 : Int) ≤ (s[k].toNat : Int)) = true := decide_eq_true (by omega)
          have ff : decide ((s[k].toNat : Int) ≤ 57) = false := decide_eq_false (by omega)
          have b95 : ((s[k].toNat : Int) == 95) = false := by simp; omega
          have b45 : ((s[k].toNat : Int) == 45) = false := by simp; omega
          have b46 : ((s[k].toNat : Int) == 46) = false := by simp; omega
          have HO := Lib.hid (HST.out.trans (by rw [okB_none (show letterB s[k] = false by simp [letterB]; omega) (show moreB s[k] = false by simp [moreB]; omega), Bool.false_and]))
          clear HST c hlt
          go_wp2
          go_ret
          exact ⟨by rw [HR.out, HO.out]; rfl, rfl⟩
    · have HO := Lib.hid (hf.out.trans (okFrom_end s.data.toList k (by rw [HN.out]; omega)))
      clear hf
      go_wp2
      go_ret
      exact ⟨by rw [HR.out, HO.out]; rfl, rfl⟩

end Go.Proofs.YtmniblcooficgaaGreatDoor
namespace Go.Proofs.YtmniblcooficgaaGreatDoor
open Go.RowKit Ev5
set_option linter.unusedSimpArgs false
set_option linter.unusedVariables false

theorem oneW_valid (l : List UInt8) (hne : l ≠ []) : (oneW l = 0 → Lib.validD l = false) ∧ (oneW l ≠ 0 → Lib.validD l = Lib.validD (l.drop (oneW l)) ∧ 1 ≤ oneW l ∧ oneW l ≤ l.length) := by
  have hv := Lib.validD_step l hne
  have hN := Lib.decodeL_N l
  have hw := Lib.decodeL_width l
  have hct := Lib.decodeN_conts l.length (l.getD 0 0).toNat (l.getD 1 0).toNat (l.getD 2 0).toNat (l.getD 3 0).toNat
  have ho : oneW l = if (Lib.decodeL l).1 = 65533 ∧ (Lib.decodeL l).2 = 1 then 0 else (Lib.decodeL l).2 := by
    unfold oneW; rw [if_neg hne]; unfold wN; rw [← hN]
  rw [← hN] at hct
  have hl0 : 0 < l.length := List.length_pos_iff.2 hne
  by_cases hb : (Lib.decodeL l).1 = 65533 ∧ (Lib.decodeL l).2 = 1
  · rw [if_pos hb] at hv ho
    exact ⟨fun _ => hv, fun h => absurd ho h⟩
  · rw [if_neg hb] at hv ho
    refine ⟨fun h => by omega, fun _ => ⟨by rw [ho]; exact hv, by omega, ?_⟩⟩
    rw [ho]
    rcases Nat.lt_or_ge l.length (Lib.decodeL l).2 with h1 | h1
    · have h2 := hct.2.2.2
      have : l.length = 1 ∨ l.length = 2 ∨ l.length = 3 := by omega
      rcases this with e | e | e
      · have := hct.1 (by omega); omega
      · have := hct.2.1 (by omega); omega
      · have := hct.2.2.1 (by omega); omega
    · exact h1
theorem ext_drop (t : ByteArray) (n : Nat) : (t.extract n t.size).data.toList = t.data.toList.drop n := by
  rw [ByteArray.data_extract, Array.toList_extract, List.extract_eq_take_drop]
  rw [List.take_of_length_le]
  rw [List.length_drop, Array.length_toList]; exact Nat.le_refl _

set_option maxRecDepth 100000 in
set_option maxHeartbeats 4000000 in
theorem refRunes_any (s : ByteArray) (w : World) (hs : s.size ≤ 1048576) :
    Calls Tryz.prog 137 #[.string s] w fun e w' => (∃ v, e = .returned (.tuple #[v, .bool (Lib.validD s.data.toList)])) ∧ Below w.heap.size w w' := by
  obtain ⟨i0, hi, hz0, hz1, hz2⟩ := info_parts infoI
  have HI := Lib.hid hi; clear hi
  go_enter Tryz.func137, Tryz.ntmps137
  go_wp2_with fail
  go_loopg [0, 4] s.size (fun gf u0 u4 wx => ∃ (t : ByteArray) (n : Nat) (xs : List Value), u0 = .string t ∧ t.size ≤ gf ∧ n + t.size ≤ s.size ∧ Hid (Lib.validD t.data.toList = Lib.validD s.data.toList) ∧ Hid (wx.ownsRow w.heap.size 3 1 u4 n xs) ∧ Hid (Below w.heap.size w wx))
  case atStart => exact ⟨s, 0, [], rfl, Nat.le_refl _, by omega, rfl, World.ownsRow_nil _ _ _ _, Below.refl _ _⟩
  case round =>
    obtain ⟨t, n, xs, rfl, hgt, hnt, HV, HO, HB⟩ := hrel
    by_cases ht0 : t.size = 0
    · have hv := HV.out
      rw [List.eq_nil_of_length_eq_zero (show t.data.toList.length = 0 by rw [Array.length_toList]; exact ht0)] at hv
      have HR := Lib.hid (hv.symm.trans Lib.validD_nil)
      clear hv hgt hnt HV
      go_wp2_with fail
      go_ret2
      exact ⟨⟨_, by rw [HR.out]; rfl⟩, HB.out⟩
    · have htp : (0 : Int) < (t.size : Int) := by omega
      have hne : t.data.toList ≠ [] := by intro e; have h3 : t.data.toList.length = 0 := by { rw [e]; rfl }; rw [Array.length_toList] at h3; have h2 : t.data.size = t.size := rfl; omega
      obtain ⟨o1, o2⟩ := oneW_valid _ hne
      have HO1 := Lib.hid o1; have HO2 := Lib.hid o2
      clear hne o1 o2
      obtain ⟨g', rfl⟩ : ∃ g', gk = g' + 1 := ⟨gk - 1, by omega⟩
      go_wp2_with fail
      refine (one_any t _ (by omega)).mono ?_
      rintro e w2 ⟨⟨a, ha0, ha1, rfl⟩, rfl⟩
      obtain ⟨W, hW⟩ : ∃ W, oneW t.data.toList = W := ⟨_, rfl⟩
      rw [hW] at HO1 HO2
      rw [hW]
      clear hW
      by_cases hW0 : W = 0
      · subst hW0
        have HR := Lib.hid (HV.out.symm.trans (HO1.out rfl))
        clear HO1 HO2
        go_wp2_with fail
        go_ret2
        exact ⟨⟨_, by rw [HR.out]; rfl⟩, HB.out⟩
      · have hWb : ((W : Int) == 0) = false := by simp; omega
        obtain ⟨q1, q2, q3⟩ := HO2.out hW0
        rw [show t.data.toList.length = t.size by rw [Array.length_toList]; rfl] at q3
        have Q1 := Lib.hid (q1.symm.trans HV.out)
        have hW1 : (0 : Int) ≤ (W : Int) := Int.natCast_nonneg _
        have hW2 : (W : Int) ≤ (t.size : Int) := by omega
        clear q1 HO1 HO2 hW0 HV
        go_wp2_with (first
          | (at_builtin; refine wpList_append_own _ (by rfl) _ _ _ (by rfl) w.heap.size 3 i0 _ 1 8 Tryz.underlying27 HI.out hz0 hz1 hz2 rfl (by omega) _ n xs (by rfl) (HO.out.alloc _) ⟨w2.heap.size, 0, none⟩ 1 1 [.int .i64 a] (by rfl) (by rfl) (World.news_of_block (cs := #[.int .i64 a]) (t := 3) (fr := (0, 0)) (heap_alloc_new w2 _)) (by simp [Value.oneCell']) (by unfold maxLen; omega) (by omega) (by have := HB.out.size; simp; omega) ?_)
          | fail)
        intro v3 w3 hown3 hgrow3 _
        have hb3 : Below w.heap.size w w3 := (HB.out.alloc HB.out.size _).grown hgrow3 (by have := HB.out.size; simp; omega) (fun q hq => by have := (HO.out.lt q hq).1; omega)
        have H3 := Lib.hid hown3; have HB3 := Lib.hid hb3
        clear hown3 hgrow3 hb3
        have hes : (t.extract W t.size).size + W = t.size := by rw [ByteArray.size_extract]; omega
        have HED := Lib.hid (ext_drop t W)
        have HES := Lib.hid hes; clear hes
        go_wp2_with fail
        go_roundg g'
        case measure => omega
        case rel => exact ⟨t.extract W t.size, n + 1, _, rfl, by have := HES.out; omega, by have := HES.out; omega, by show _ = _; rw [HED.out]; exact Q1.out, H3.out, HB3.out⟩
set_option maxRecDepth 100000 in
theorem refValid_any (s : ByteArray) (w : World) (hs : s.size ≤ 1048576) :
    Calls Tryz.prog 132 #[.string s] w fun e w' => e = .returned (.bool (Lib.validD s.data.toList)) ∧ Below w.heap.size w w' := by
  have HV := Lib.hid (refRunes_any s w hs)
  generalize Lib.validD s.data.toList = V at *
  go_enter Tryz.func132, Tryz.ntmps132
  go_wp2_with fail
  refine HV.out.mono ?_
  rintro e w1 ⟨⟨v, rfl⟩, hb⟩
  go_wp2_with fail
  go_ret
  exact ⟨rfl, hb⟩

theorem any_step (l : List UInt8) (p : UInt8 → Bool) (i : Nat) (h : i < l.length) : (l.drop i).any p = (p l[i] || (l.drop (i + 1)).any p) := by
  rw [List.drop_eq_getElem_cons h]; rfl
theorem any_end (l : List UInt8) (p : UInt8 → Bool) (i : Nat) (h : l.length ≤ i) : (l.drop i).any p = false := by
  rw [List.drop_eq_nil_of_le h]; rfl
theorem oddB_odd (b : UInt8) (h : b.toNat < 33 ∨ b.toNat = 123 ∨ b.toNat = 125 ∨ b.toNat = 34 ∨ b.toNat = 60 ∨ b.toNat = 62 ∨ b.toNat = 38 ∨ b.toNat = 92) : oddB b = true := by
  unfold oddB oddR; simp; omega
theorem oddB_not (b : UInt8) (h : 33 ≤ b.toNat ∧ b.toNat ≠ 123 ∧ b.toNat ≠ 125 ∧ b.toNat ≠ 34 ∧ b.toNat ≠ 60 ∧ b.toNat ≠ 62 ∧ b.toNat ≠ 38 ∧ b.toNat ≠ 92) : oddB b = false := by
  unfold oddB oddR; simp; omega
set_option maxRecDepth 1000000 in
set_option maxHeartbeats 8000000 in
theorem refSpace_any (s : ByteArray) (w : World) (hs : s.size ≤ 1048576) :
    Calls Tryz.prog 134 #[.string s] w fun e w' => e = .returned (.bool (spaceP s.data.toList)) ∧ Below w.heap.size w w' := by
  have hlen : s.data.toList.length = s.size := by rw [Array.length_toList]; rfl
  have hlp : spaceP s.data.toList = (Lib.validD s.data.toList && decide (1 ≤ s.size ∧ s.size ≤ 48) && !s.data.toList.any oddB) := by unfold spaceP; rw [hlen]
  have HL := Lib.hid hlp; have HN := Lib.hid hlen; clear hlp hlen
  have HV := Lib.hid (refValid_any s w hs)
  cases hv : Lib.validD s.data.toList
  · rw [hv] at HV HL; clear hv
    have HR := Lib.hid (HL.out.trans (show _ = false by simp)); clear HL
    go_enter Tryz.func134, Tryz.ntmps134
    go_wp2_with fail
    refine HV.out.mono ?_
    rintro e w1 ⟨rfl, hb⟩
    go_wp2_with fail
    go_ret
    exact ⟨by rw [HR.out]; rfl, hb⟩
  rw [hv] at HV HL; clear hv
  by_cases h0 : (s.size : Int) < 1
  · have HR := Lib.hid (HL.out.trans (show _ = false by rw [decide_eq_false (by omega)]; simp)); clear HL
    go_enter Tryz.func134, Tryz.ntmps134
    go_wp2_with fail
    refine HV.out.mono ?_
    rintro e w1 ⟨rfl, hb⟩
    go_wp2_with fail
    go_ret
    exact ⟨by rw [HR.out]; rfl, hb⟩
  have hb0 : decide ((s.size : Int) < 1) = false := decide_eq_false h0
  by_cases h48 : (48 : Int) < (s.size : Int)
  · have HR := Lib.hid (HL.out.trans (show _ = false by rw [decide_eq_false (by omega)]; simp)); clear HL h0
    go_enter Tryz.func134, Tryz.ntmps134
    go_wp2_with fail
    refine HV.out.mono ?_
    rintro e w1 ⟨rfl, hb⟩
    go_wp2_with fail
    go_ret
    exact ⟨by rw [HR.out]; rfl, hb⟩
  have HR := Lib.hid (HL.out.trans (show _ = !s.data.toList.any oddB by rw [decide_eq_true (by omega)]; simp)); clear HL h0
  go_enter Tryz.func134, Tryz.ntmps134
  go_wp2_with fail
  refine HV.out.mono ?_
  rintro e w1 ⟨rfl, hb⟩
  have HB := Lib.hid hb; clear hb HV
  go_wp2_with fail
  go_loop [4] (fun vi => ∃ k : Nat, k ≤ s.size ∧ vi = .int .i64 k ∧ Hid (s.data.toList.any oddB = (s.data.toList.drop k).any oddB)) (fun vi => s.size - (intOf vi).toNat)
  case atStart => exact ⟨0, Nat.zero_le _, rfl, by show _ = _; rw [List.drop_zero]⟩
  case round =>
    obtain ⟨k, hk, rfl, hf⟩ := hrel
    by_cases hkn : k < s.size
    · have hstep := any_step s.data.toList oddB k (by rw [HN.out]; exact hkn)
      rw [show s.data.toList[k]'(by rw [HN.out]; exact hkn) = s[k] from rfl] at hstep
      have HST := Lib.hid (hf.out.trans hstep)
      clear hstep hf
      have hlt := s[k].toNat_lt
      have hcls : s[k].toNat < 33 ∨ s[k].toNat = 123 ∨ s[k].toNat = 125 ∨ s[k].toNat = 34 ∨ s[k].toNat = 60 ∨ s[k].toNat = 62 ∨ s[k].toNat = 38 ∨ s[k].toNat = 92 ∨ (33 ≤ s[k].toNat ∧ s[k].toNat ≠ 123 ∧ s[k].toNat ≠ 125 ∧ s[k].toNat ≠ 34 ∧ s[k].toNat ≠ 60 ∧ s[k].toNat ≠ 62 ∧ s[k].toNat ≠ 38 ∧ s[k].toNat ≠ 92) := by omega
      rcases hcls with c | c | c | c | c | c | c | c | c
      · have HO := Lib.hid (HST.out.trans (by rw [oddB_odd s[k] (by omega), Bool.true_or]))
        have l33 : decide ((s[k].toNat : Int) < 33) = true := decide_eq_true (by omega)
        have b123 : ((s[k].toNat : Int) == 123) = false := by simp; omega
        have b125 : ((s[k].toNat : Int) == 125) = false := by simp; omega
        have b34 : ((s[k].toNat : Int) == 34) = false := by simp; omega
        have b60 : ((s[k].toNat : Int) == 60) = false := by simp; omega
        have b62 : ((s[k].toNat : Int) == 62) = false := by simp; omega
        have b38 : ((s[k].toNat : Int) == 38) = false := by simp; omega
        have b92 : ((s[k].toNat : Int) == 92) = false := by simp; omega
        clear HST c hlt
        go_wp2_with fail
        go_ret
        exact ⟨by rw [HR.out, HO.out]; rfl, HB.out⟩
      · have HO := Lib.hid (HST.out.trans (by rw [oddB_odd s[k] (by omega), Bool.true_or]))
        have l33 : decide ((s[k].toNat : Int) < 33) = false := decide_eq_false (by omega)
        have b123 : ((s[k].toNat : Int) == 123) = true := by simp; omega
        clear HST c hlt
        go_wp2_with fail
        go_ret
        exact ⟨by rw [HR.out, HO.out]; rfl, HB.out⟩
      · have HO := Lib.hid (HST.out.trans (by rw [oddB_odd s[k] (by omega), Bool.true_or]))
        have l33 : decide ((s[k].toNat : Int) < 33) = false := decide_eq_false (by omega)
        have b123 : ((s[k].toNat : Int) == 123) = false := by simp; omega
        have b125 : ((s[k].toNat : Int) == 125) = true := by simp; omega
        clear HST c hlt
        go_wp2_with fail
        go_ret
        exact ⟨by rw [HR.out, HO.out]; rfl, HB.out⟩
      · have HO := Lib.hid (HST.out.trans (by rw [oddB_odd s[k] (by omega), Bool.true_or]))
        have l33 : decide ((s[k].toNat : Int) < 33) = false := decide_eq_false (by omega)
        have b123 : ((s[k].toNat : Int) == 123) = false := by simp; omega
        have b125 : ((s[k].toNat : Int) == 125) = false := by simp; omega
        have b34 : ((s[k].toNat : Int) == 34) = true := by simp; omega
        clear HST c hlt
        go_wp2_with fail
        go_ret
        exact ⟨by rw [HR.out, HO.out]; rfl, HB.out⟩
      · have HO := Lib.hid (HST.out.trans (by rw [oddB_odd s[k] (by omega), Bool.true_or]))
        have l33 : decide ((s[k].toNat : Int) < 33) = false := decide_eq_false (by omega)
        have b123 : ((s[k].toNat : Int) == 123) = false := by simp; omega
        have b125 : ((s[k].toNat : Int) == 125) = false := by simp; omega
        have b34 : ((s[k].toNat : Int) == 34) = false := by simp; omega
        have b60 : ((s[k].toNat : Int) == 60) = true := by simp; omega
        clear HST c hlt
        go_wp2_with fail
        go_ret
        exact ⟨by rw [HR.out, HO.out]; rfl, HB.out⟩
      · have HO := Lib.hid (HST.out.trans (by rw [oddB_odd s[k] (by omega), Bool.true_or]))
        have l33 : decide ((s[k].toNat : Int) < 33) = false := decide_eq_false (by omega)
        have b123 : ((s[k].toNat : Int) == 123) = false := by simp; omega
        have b125 : ((s[k].toNat : Int) == 125) = false := by simp; omega
        have b34 : ((s[k].toNat : Int) == 34) = false := by simp; omega
        have b60 : ((s[k].toNat : Int) == 60) = false := by simp; omega
        have b62 : ((s[k].toNat : Int) == 62) = true := by simp; omega
        clear HST c hlt
        go_wp2_with fail
        go_ret
        exact ⟨by rw [HR.out, HO.out]; rfl, HB.out⟩
      · have HO := Lib.hid (HST.out.trans (by rw [oddB_odd s[k] (by omega), Bool.true_or]))
        have l33 : decide ((s[k].toNat : Int) < 33) = false := decide_eq_false (by omega)
        have b123 : ((s[k].toNat : Int) == 123) = false := by simp; omega
        have b125 : ((s[k].toNat : Int) == 125) = false := by simp; omega
        have b34 : ((s[k].toNat : Int) == 34) = false := by simp; omega
        have b60 : ((s[k].toNat : Int) == 60) = false := by simp; omega
        have b62 : ((s[k].toNat : Int) == 62) = false := by simp; omega
        have b38 : ((s[k].toNat : Int) == 38) = true := by simp; omega
        clear HST c hlt
        go_wp2_with fail
        go_ret
        exact ⟨by rw [HR.out, HO.out]; rfl, HB.out⟩
      · have HO := Lib.hid (HST.out.trans (by rw [oddB_odd s[k] (by omega), Bool.true_or]))
        have l33 : decide ((s[k].toNat : Int) < 33) = false := decide_eq_false (by omega)
        have b123 : ((s[k].toNat : Int) == 123) = false := by simp; omega
        have b125 : ((s[k].toNat : Int) == 125) = false := by simp; omega
        have b34 : ((s[k].toNat : Int) == 34) = false := by simp; omega
        have b60 : ((s[k].toNat : Int) == 60) = false := by simp; omega
        have b62 : ((s[k].toNat : Int) == 62) = false := by simp; omega
        have b38 : ((s[k].toNat : Int) == 38) = false := by simp; omega
        have b92 : ((s[k].toNat : Int) == 92) = true := by simp; omega
        clear HST c hlt
        go_wp2_with fail
        go_ret
        exact ⟨by rw [HR.out, HO.out]; rfl, HB.out⟩
      · have HO := Lib.hid (HST.out.trans (by rw [oddB_not s[k] c, Bool.false_or]))
        have l33 : decide ((s[k].toNat : Int) < 33) = false := decide_eq_false (by omega)
        have b123 : ((s[k].toNat : Int) == 123) = false := by simp; omega
        have b125 : ((s[k].toNat : Int) == 125) = false := by simp; omega
        have b34 : ((s[k].toNat : Int) == 34) = false := by simp; omega
        have b60 : ((s[k].toNat : Int) == 60) = false := by simp; omega
        have b62 : ((s[k].toNat : Int) == 62) = false := by simp; omega
        have b38 : ((s[k].toNat : Int) == 38) = false := by simp; omega
        have b92 : ((s[k].toNat : Int) == 92) = false := by simp; omega
        clear HST c hlt
        go_wp2_with fail
        go_round
        case rel => exact ⟨k + 1, by omega, by go_num, HO⟩
        case measure => simp [intOf]; omega
    · have HO := Lib.hid (hf.out.trans (any_end s.data.toList oddB k (by rw [HN.out]; omega)))
      clear hf
      go_wp2_with fail
      go_ret
      exact ⟨by rw [HR.out, HO.out]; rfl, HB.out⟩

theorem idx_step (l : List UInt8) (c : UInt8) (i : Nat) (h : i < l.length) : Lib.indexByte (l.drop i) c = if l[i] = c then 0 else if Lib.indexByte (l.drop (i + 1)) c = -1 then -1 else Lib.indexByte (l.drop (i + 1)) c + 1 := by
  rw [List.drop_eq_getElem_cons h]
  show (if (l[i] == c) = true then (0 : Int) else if (Lib.indexByte (l.drop (i + 1)) c == -1) = true then -1 else Lib.indexByte (l.drop (i + 1)) c + 1) = _
  by_cases e : l[i] = c
  · simp [e]
  · simp [e]
theorem head_eq (s : ByteArray) (h : 0 < s.size) : s.data.toList = s[0] :: s.data.toList.drop 1 := by
  have := List.drop_eq_getElem_cons (l := s.data.toList) (i := 0) (by rw [Array.length_toList]; exact h)
  rw [List.drop_zero] at this
  exact this
def Seek (T : List UInt8) (j : Nat) : Prop := Lib.indexByte T 125 = if Lib.indexByte (T.drop j) 125 = -1 then -1 else (j : Int) + Lib.indexByte (T.drop j) 125
theorem seek_0 (T : List UInt8) : Seek T 0 := by unfold Seek; rw [List.drop_zero]; split <;> omega
theorem seek_hit (T : List UInt8) (j : Nat) (hj : j < T.length) (h : Seek T j) (hc : T[j] = 125) : Lib.indexByte T 125 = j := by
  unfold Seek at h
  rw [idx_step T 125 j hj, if_pos hc] at h
  rw [h]; simp
theorem seek_next (T : List UInt8) (j : Nat) (hj : j < T.length) (h : Seek T j) (hc : T[j] ≠ 125) : Seek T (j + 1) := by
  unfold Seek at h ⊢
  rw [idx_step T 125 j hj, if_neg hc] at h
  have := Lib.indexByte_ge (T.drop (j + 1)) 125
  rw [h]
  split <;> (try split) <;> (try split) <;> omega
theorem seek_end (T : List UInt8) (j : Nat) (hj : T.length ≤ j) (h : Seek T j) : Lib.indexByte T 125 = -1 := by
  unfold Seek at h
  rw [List.drop_eq_nil_of_le hj] at h
  rw [h]; rfl
theorem ext_mid (t : ByteArray) (a b : Nat) : (t.extract a b).data.toList = (t.data.toList.drop a).take (b - a) := by
  rw [ByteArray.data_extract, Array.toList_extract, List.extract_eq_take_drop]

set_option maxRecDepth 1000000 in
set_option maxHeartbeats 8000000 in
theorem refCut_any (s : ByteArray) (w : World) (hs : s.size ≤ 1048576) :
    Calls Tryz.prog 122 #[.string s] w fun e w' => (∃ A B, e = .returned (.tuple #[A, B, .bool (fullP s.data.toList)])) ∧ Below w.heap.size w w' := by
  have hlen : s.data.toList.length = s.size := by rw [Array.length_toList]; rfl
  have HN := Lib.hid hlen; clear hlen
  by_cases h48 : (48 : Int) < (s.size : Int)
  · have HR := Lib.hid (show fullP s.data.toList = false by
      unfold fullP cutP
      rw [HN.out]
      split
      · rw [if_neg (by omega)]
      · rw [if_neg (by omega)])
    go_enter Tryz.func122, Tryz.ntmps122
    go_wp2_with fail
    go_ret3
    exact ⟨⟨_, _, by rw [HR.out]; rfl⟩, Below.refl _ _⟩
  by_cases hp : s.data.toList.head? = some 123
  · obtain ⟨_, _, p3⟩ := pre_yes _ hp
    have P3 := Lib.hid p3; clear p3
    have hpos : 0 < s.size := by
      rcases Nat.eq_zero_or_pos s.size with h | h
      · rw [List.eq_nil_of_length_eq_zero (show s.data.toList.length = 0 by rw [HN.out]; exact h)] at hp; cases hp
      · exact h
    have h123 : (s[0].toNat : Int) = 123 := by
      have e := head_eq s hpos
      rw [e] at hp
      simp at hp
      rw [hp]; rfl
    have hz0 : ((s.size : Int) == 0) = false := beq_eq_false_iff_ne.2 (by omega)
    have hb123 : ((s[0].toNat : Int) != 123) = false := by simp [h123]
    clear h123 hp
    obtain ⟨T, hT⟩ : ∃ T, T = s.data.toList.tail := ⟨_, rfl⟩
    rw [← hT] at P3
    have hTl : T.length + 1 = s.size := by rw [hT, List.length_tail, HN.out]; omega
    have HT := Lib.hid hT; clear hT
    go_enter Tryz.func122, Tryz.ntmps122
    go_wp2_with fail
    go_loop [6] (fun vi => ∃ k : Nat, k + 1 ≤ s.size ∧ vi = .int .i64 ((k : Int) + 1) ∧ Hid (Seek T k)) (fun vi => s.size - (intOf vi).toNat)
    case atStart => exact ⟨0, by omega, rfl, seek_0 T⟩
    case round =>
      obtain ⟨k, hk, rfl, hf⟩ := hrel
      by_cases hkn : k + 1 < s.size
      · have hki : (k : Int) + 1 < (s.size : Int) := by omega
        have hkT : k < T.length := by omega
        have hTk : T[k] = s[k + 1] := by
          rw [List.getElem_of_eq HT.out hkT, List.getElem_tail]; rfl
        have HTK := Lib.hid hTk; clear hTk
        by_cases hc : s[k + 1] = 125
        · have hI := seek_hit T k hkT hf.out (HTK.out.trans hc)
          have hcb : ((s[k + 1].toNat : Int) == 125) = true := by rw [hc]; rfl
          rw [hI] at P3
          have P4 := Lib.hid (show fullP s.data.toList = (spaceP (T.take k) && localP (T.drop (k + 1))) by
            unfold fullP; rw [P3.out, HN.out, Int.toNat_natCast]
            cases spaceP (T.take k)
            · rw [if_neg (by simp)]; rfl
            · cases localP (T.drop (k + 1))
              · rw [if_neg (by simp)]; rfl
              · rw [if_pos ⟨by omega, rfl, rfl, by omega⟩]; rfl)
          have hA : (s.extract 1 (k + 1)).data.toList = T.take k := by rw [ext_mid, HT.out, List.drop_one]; rfl
          have hB : (s.extract (k + 1 + 1) s.size).data.toList = T.drop (k + 1) := by rw [ext_drop, HT.out, ← List.drop_one, List.drop_drop, show 1 + (k + 1) = k + 1 + 1 by omega]
          have HA := Lib.hid (refSpace_any (s.extract 1 (k + 1)) w (by rw [ByteArray.size_extract]; omega))
          have HBB := Lib.hid (show ∀ W, Calls _ _ _ W _ from fun W => refLocal_any (s.extract (k + 1 + 1) s.size) W (by rw [ByteArray.size_extract]; omega))
          rw [hA] at HA
          rw [hB] at HBB
          clear hI hA hB hf P3 hc
          have hk1 : (0 : Int) ≤ (k : Int) := Int.natCast_nonneg _
          have hk3 : (k : Int) + 1 + 1 ≤ (s.size : Int) := by omega
          go_wp2_with fail
          refine HA.out.mono ?_
          rintro e w2 ⟨rfl, hb⟩
          have HB2 := Lib.hid hb; clear hb
          go_wp2_with fail
          refine (HBB.out _).mono ?_
          rintro e w3 ⟨rfl, hw⟩
          subst hw
          cases hsa : spaceP (T.take k)
          · rw [hsa] at P4
            have P5 := Lib.hid (P4.out.trans (Bool.false_and _))
            go_wp2_with fail
            go_ret3
            exact ⟨⟨_, _, by rw [P5.out]; rfl⟩, HB2.out⟩
          · rw [hsa] at P4
            cases hsb : localP (T.drop (k + 1))
            · rw [hsb] at P4
              have P5 := Lib.hid (P4.out.trans (Bool.and_false _))
              go_wp2_with fail
              go_ret3
              exact ⟨⟨_, _, by rw [P5.out]; rfl⟩, HB2.out⟩
            · rw [hsb] at P4
              have P5 := Lib.hid (P4.out.trans (Bool.and_true _))
              go_wp2_with fail
              go_region
              all_goals
                go_wp2_with fail
                go_ret3
                exact ⟨⟨_, _, by rw [P5.out]; rfl⟩, HB2.out.drew⟩
        · have hcb : ((s[k + 1].toNat : Int) == 125) = false := beq_eq_false_iff_ne.2 (fun h => hc (UInt8.toNat_inj.1 (by show s[k + 1].toNat = 125; omega)))
          have HF := Lib.hid (seek_next T k hkT hf.out (fun h => hc (HTK.out.symm.trans h)))
          clear hc hf
          go_wp2_with fail
          go_round
          case rel => exact ⟨k + 1, by omega, by go_num, HF⟩
          case measure => simp [intOf]; omega
      · have HI := Lib.hid (seek_end T k (by omega) hf.out)
        have HR := Lib.hid (show fullP s.data.toList = false by unfold fullP; rw [P3.out, if_neg (by rw [HI.out]; omega)])
        have hki : ¬ (k : Int) + 1 < (s.size : Int) := by omega
        clear hf HI P3
        go_wp2_with fail
        go_ret3
        exact ⟨⟨_, _, by rw [HR.out]; rfl⟩, Below.refl _ _⟩
  · obtain ⟨_, _, p3⟩ := pre_no _ hp
    have P3 := Lib.hid p3; clear p3
    have HLo := Lib.hid (refLocal_any s w hs)
    have hfull : fullP s.data.toList = localP s.data.toList := by
      unfold fullP; rw [P3.out, HN.out]
      cases localP s.data.toList
      · rw [if_neg (by simp)]
      · rw [if_pos ⟨rfl, by omega⟩]
    have HF := Lib.hid hfull; clear hfull P3
    by_cases h0 : s.size = 0
    · clear hp
      cases hl : localP s.data.toList
      · rw [hl] at HLo HF; clear hl
        go_enter Tryz.func122, Tryz.ntmps122
        go_wp2_with fail
        refine HLo.out.mono ?_
        rintro e w1 ⟨rfl, hw⟩
        subst hw
        go_wp2_with fail
        go_ret3
        exact ⟨⟨_, _, by rw [HF.out]; rfl⟩, Below.refl _ _⟩
      · rw [hl] at HLo HF; clear hl
        go_enter Tryz.func122, Tryz.ntmps122
        go_wp2_with fail
        refine HLo.out.mono ?_
        rintro e w1 ⟨rfl, hw⟩
        subst hw
        go_wp2_with fail
        go_ret3
        exact ⟨⟨_, _, by rw [HF.out]; rfl⟩, Below.refl _ _⟩
    · have hpos : 0 < s.size := by omega
      have hz0 : ((s.size : Int) == 0) = false := beq_eq_false_iff_ne.2 (by omega)
      have hb123 : ((s[0].toNat : Int) != 123) = true := by
        simp
        intro h
        apply hp
        have e := head_eq s hpos
        rw [e]
        simp
        exact UInt8.toNat_inj.1 (by have : s[0].toNat = 123 := by omega
                                    rw [this]; rfl)
      clear hp h0
      cases hl : localP s.data.toList
      · rw [hl] at HLo HF; clear hl
        go_enter Tryz.func122, Tryz.ntmps122
        go_wp2_with fail
        refine HLo.out.mono ?_
        rintro e w1 ⟨rfl, hw⟩
        subst hw
        go_wp2_with fail
        go_ret3
        exact ⟨⟨_, _, by rw [HF.out]; rfl⟩, Below.refl _ _⟩
      · rw [hl] at HLo HF; clear hl
        go_enter Tryz.func122, Tryz.ntmps122
        go_wp2_with fail
        refine HLo.out.mono ?_
        rintro e w1 ⟨rfl, hw⟩
        subst hw
        go_wp2_with fail
        go_ret3
        exact ⟨⟨_, _, by rw [HF.out]; rfl⟩, Below.refl _ _⟩
end Go.Proofs.YtmniblcooficgaaGreatDoor
