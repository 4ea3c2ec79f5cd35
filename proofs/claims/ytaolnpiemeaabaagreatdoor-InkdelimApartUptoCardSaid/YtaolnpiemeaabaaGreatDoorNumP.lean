/- The walks of num's step and May. -/
import Derived.Test.YtaolnpiemeaabaaGreatDoorProg
import Derived.Test.YtaolnpiemeaabaaGreatDoorNumA
import Derived.Test.YtaolnpiemeaabaaGreatDoorNumM
import Derived.WalkKit
import Derived.Lib.Hide
import Derived.WalkSpells
import Derived.BigQuiet
import Derived.Deep.QuietTactic
import Derived.Deep.DeepCutAuto
import Derived.Deep.CutBlock
import Derived.Lib.ConvBytes
namespace Go.Proofs.YtaolnpiemeaabaaGreatDoor
open Go.RowKit Num2
set_option linter.unusedSimpArgs false
set_option linter.unusedVariables false

theorem ret_i {a b : Int} (h : a = b) : Ending.returned (.int .i64 a) = .returned (.int .i64 b) := by rw [h]

set_option maxHeartbeats 1000000 in
theorem step_any0 (b : UInt8) (w : World) :
    Calls Tryz.prog 181 #[.int .i64 0, .int .u8 b.toNat] w fun e w' => e = .returned (.int .i64 (Num2.step 0 b : Nat)) ∧ w' = w := by
  go_enter Tryz.func181, Tryz.ntmps181
  go_wp2
  all_goals (go_ret; refine ⟨ret_i ?_, rfl⟩; (try simp only [beq_iff_eq, beq_eq_false_iff_ne, ne_eq] at *); simp only [Num2.step, dig, isE, isSign, decide_eq_true_eq]; first | (simp; done) | (simp; (repeat' split) <;> omega))
set_option maxHeartbeats 1000000 in
theorem step_any1 (b : UInt8) (w : World) :
    Calls Tryz.prog 181 #[.int .i64 1, .int .u8 b.toNat] w fun e w' => e = .returned (.int .i64 (Num2.step 1 b : Nat)) ∧ w' = w := by
  go_enter Tryz.func181, Tryz.ntmps181
  go_wp2
  all_goals (go_ret; refine ⟨ret_i ?_, rfl⟩; (try simp only [beq_iff_eq, beq_eq_false_iff_ne, ne_eq] at *); simp only [Num2.step, dig, isE, isSign, decide_eq_true_eq]; first | (simp; done) | (simp; (repeat' split) <;> omega))
set_option maxHeartbeats 1000000 in
theorem step_any2 (b : UInt8) (w : World) :
    Calls Tryz.prog 181 #[.int .i64 2, .int .u8 b.toNat] w fun e w' => e = .returned (.int .i64 (Num2.step 2 b : Nat)) ∧ w' = w := by
  go_enter Tryz.func181, Tryz.ntmps181
  go_wp2
  all_goals (go_ret; refine ⟨ret_i ?_, rfl⟩; (try simp only [beq_iff_eq, beq_eq_false_iff_ne, ne_eq] at *); simp only [Num2.step, dig, isE, isSign, decide_eq_true_eq]; first | (simp; done) | (simp; (repeat' split) <;> omega))
set_option maxHeartbeats 1000000 in
theorem step_any3 (b : UInt8) (w : World) :
    Calls Tryz.prog 181 #[.int .i64 3, .int .u8 b.toNat] w fun e w' => e = .returned (.int .i64 (Num2.step 3 b : Nat)) ∧ w' = w := by
  go_enter Tryz.func181, Tryz.ntmps181
  go_wp2
  all_goals (go_ret; refine ⟨ret_i ?_, rfl⟩; (try simp only [beq_iff_eq, beq_eq_false_iff_ne, ne_eq] at *); simp only [Num2.step, dig, isE, isSign, decide_eq_true_eq]; first | (simp; done) | (simp; (repeat' split) <;> omega))
set_option maxHeartbeats 1000000 in
theorem step_any4 (b : UInt8) (w : World) :
    Calls Tryz.prog 181 #[.int .i64 4, .int .u8 b.toNat] w fun e w' => e = .returned (.int .i64 (Num2.step 4 b : Nat)) ∧ w' = w := by
  go_enter Tryz.func181, Tryz.ntmps181
  go_wp2
  all_goals (go_ret; refine ⟨ret_i ?_, rfl⟩; (try simp only [beq_iff_eq, beq_eq_false_iff_ne, ne_eq] at *); simp only [Num2.step, dig, isE, isSign, decide_eq_true_eq]; first | (simp; done) | (simp; (repeat' split) <;> omega))
set_option maxHeartbeats 1000000 in
theorem step_any5 (b : UInt8) (w : World) :
    Calls Tryz.prog 181 #[.int .i64 5, .int .u8 b.toNat] w fun e w' => e = .returned (.int .i64 (Num2.step 5 b : Nat)) ∧ w' = w := by
  go_enter Tryz.func181, Tryz.ntmps181
  go_wp2
  all_goals (go_ret; refine ⟨ret_i ?_, rfl⟩; (try simp only [beq_iff_eq, beq_eq_false_iff_ne, ne_eq] at *); simp only [Num2.step, dig, isE, isSign, decide_eq_true_eq]; first | (simp; done) | (simp; (repeat' split) <;> omega))
set_option maxHeartbeats 1000000 in
theorem step_any6 (b : UInt8) (w : World) :
    Calls Tryz.prog 181 #[.int .i64 6, .int .u8 b.toNat] w fun e w' => e = .returned (.int .i64 (Num2.step 6 b : Nat)) ∧ w' = w := by
  go_enter Tryz.func181, Tryz.ntmps181
  go_wp2
  all_goals (go_ret; refine ⟨ret_i ?_, rfl⟩; (try simp only [beq_iff_eq, beq_eq_false_iff_ne, ne_eq] at *); simp only [Num2.step, dig, isE, isSign, decide_eq_true_eq]; first | (simp; done) | (simp; (repeat' split) <;> omega))
set_option maxHeartbeats 1000000 in
theorem step_any7 (b : UInt8) (w : World) :
    Calls Tryz.prog 181 #[.int .i64 7, .int .u8 b.toNat] w fun e w' => e = .returned (.int .i64 (Num2.step 7 b : Nat)) ∧ w' = w := by
  go_enter Tryz.func181, Tryz.ntmps181
  go_wp2
  all_goals (go_ret; refine ⟨ret_i ?_, rfl⟩; (try simp only [beq_iff_eq, beq_eq_false_iff_ne, ne_eq] at *); simp only [Num2.step, dig, isE, isSign, decide_eq_true_eq]; first | (simp; done) | (simp; (repeat' split) <;> omega))
set_option maxHeartbeats 1000000 in
theorem step_any8 (b : UInt8) (w : World) :
    Calls Tryz.prog 181 #[.int .i64 8, .int .u8 b.toNat] w fun e w' => e = .returned (.int .i64 (Num2.step 8 b : Nat)) ∧ w' = w := by
  go_enter Tryz.func181, Tryz.ntmps181
  go_wp2
  all_goals (go_ret; refine ⟨ret_i ?_, rfl⟩; (try simp only [beq_iff_eq, beq_eq_false_iff_ne, ne_eq] at *); simp only [Num2.step, dig, isE, isSign, decide_eq_true_eq]; first | (simp; done) | (simp; (repeat' split) <;> omega))
set_option maxHeartbeats 1000000 in
theorem step_any9 (b : UInt8) (w : World) :
    Calls Tryz.prog 181 #[.int .i64 9, .int .u8 b.toNat] w fun e w' => e = .returned (.int .i64 (Num2.step 9 b : Nat)) ∧ w' = w := by
  go_enter Tryz.func181, Tryz.ntmps181
  go_wp2
  all_goals (go_ret; refine ⟨ret_i ?_, rfl⟩; (try simp only [beq_iff_eq, beq_eq_false_iff_ne, ne_eq] at *); simp only [Num2.step, dig, isE, isSign, decide_eq_true_eq]; first | (simp; done) | (simp; (repeat' split) <;> omega))
theorem step_any (s : Nat) (hs : s ≤ 9) (b : UInt8) (w : World) :
    Calls Tryz.prog 181 #[.int .i64 s, .int .u8 b.toNat] w fun e w' => e = .returned (.int .i64 (Num2.step s b : Nat)) ∧ w' = w := by
  have h : s = 0 ∨ s = 1 ∨ s = 2 ∨ s = 3 ∨ s = 4 ∨ s = 5 ∨ s = 6 ∨ s = 7 ∨ s = 8 ∨ s = 9 := by omega
  rcases h with rfl | rfl | rfl | rfl | rfl | rfl | rfl | rfl | rfl | rfl
  · exact step_any0 b w
  · exact step_any1 b w
  · exact step_any2 b w
  · exact step_any3 b w
  · exact step_any4 b w
  · exact step_any5 b w
  · exact step_any6 b w
  · exact step_any7 b w
  · exact step_any8 b w
  · exact step_any9 b w

set_option maxHeartbeats 1000000 in
theorem may_any (s : ByteArray) (w : World) (hs : s.size ≤ 140737488351232) :
    Calls Tryz.prog 174 #[.string s] w fun e w' => e = .returned (.tuple #[.bool (may s.data.toList).1, .bool (may s.data.toList).2]) ∧ Below w.heap.size w w' := by
  have hcv := Lib.run_convert_string_bytes (P := Tryz.prog) w 9 44 5 s (u := .string) Tryz.underlying9 Tryz.underlying44 Tryz.underlying5
  have hB : ∀ j, j < s.size → (Lib.bytesWorld w 5 s).cell? ⟨w.heap.size, j, none⟩ = some (.int .u8 (s.data.toList.getD j 0).toNat) := fun j hj => Lib.bytesWorld_cell w 5 s j hj
  have hbel := below_bytesWorld w 5 s
  obtain ⟨W1, hW1⟩ : ∃ W1, W1 = Lib.bytesWorld w 5 s := ⟨_, rfl⟩
  rw [← hW1] at hcv hB hbel
  have HB := Lib.hid hB
  have HW := Lib.hid hbel
  clear hW1 hB hbel
  go_enter Tryz.func174, Tryz.ntmps174
  go_wp2
  go_loop [4, 10] (fun vs vi => ∃ (k st : Nat), k ≤ s.size ∧ st ≤ 9 ∧ vi = .int .i64 k ∧ vs = .int .i64 st ∧ Hid ((s.data.toList.take k).foldl Num2.step 0 = st)) (fun _ vi => s.size - (intOf vi).toNat)
  case atStart => exact ⟨0, 0, Nat.zero_le _, by omega, rfl, rfl, rfl⟩
  case round =>
    obtain ⟨k, st, hk, hst, rfl, rfl, hf⟩ := hrel
    by_cases hkn : k < s.size
    · obtain ⟨x, hx⟩ : ∃ x, x = s.data.toList.getD k 0 := ⟨_, rfl⟩
      have hxk : s.data.toList[k]? = some x := by
        rw [hx, List.getD, List.getElem?_eq_getElem (by rw [Array.length_toList]; exact hkn)]
        rfl
      have hc1 : W1.cell? ⟨w.heap.size, k, none⟩ = some (.int .u8 x.toNat) := by rw [hx]; exact HB.out k hkn
      have hnext : (s.data.toList.take (k + 1)).foldl Num2.step 0 = Num2.step st x := by
        rw [List.take_add_one, hxk, List.foldl_append, hf.out]; rfl
      have HN := Lib.hid hnext
      have hst2 := step_le st x
      clear hx hxk hnext hf
      go_wp2_with fail
      refine (step_any st hst x _).mono ?_; rintro e w' ⟨rfl, rfl⟩
      go_wp2
      go_round
      case rel => exact ⟨k + 1, Num2.step st x, by omega, hst2, by go_num, rfl, HN⟩
      case measure => simp [intOf]; omega
    · have hm : may s.data.toList = ends st := by
        unfold may; rw [← hf.out, List.take_of_length_le (by rw [Array.length_toList]; show s.size ≤ k; omega)]
      have HM := Lib.hid hm
      clear hm hf
      have h : st = 0 ∨ st = 1 ∨ st = 2 ∨ st = 3 ∨ st = 4 ∨ st = 5 ∨ st = 6 ∨ st = 7 ∨ st = 8 ∨ st = 9 := by omega
      rcases h with rfl | rfl | rfl | rfl | rfl | rfl | rfl | rfl | rfl | rfl
      all_goals
        go_wp2
        go_ret2
        exact ⟨by rw [HM.out]; rfl, HW.out⟩
end Go.Proofs.YtaolnpiemeaabaaGreatDoor
