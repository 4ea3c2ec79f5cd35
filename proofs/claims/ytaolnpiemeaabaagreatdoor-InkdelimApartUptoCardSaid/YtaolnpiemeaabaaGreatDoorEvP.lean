/- The walks of the reference's May, Long, One, Runes, Valid (layer 1). -/
import Derived.Test.YtaolnpiemeaabaaGreatDoorEvW
import Derived.LoopN
namespace Go.Proofs.YtaolnpiemeaabaaGreatDoor
open Go.RowKit Ev5
set_option linter.unusedSimpArgs false
set_option linter.unusedVariables false

def mayR (x : Int) : Bool := decide (0 ≤ x ∧ x ≤ 1114111 ∧ (x < 55296 ∨ 57343 < x))
def longR (x : Int) : Int := if x < 128 then 1 else if x < 2048 then 2 else if x < 65536 then 3 else 4
set_option maxHeartbeats 1000000 in
theorem refMay1_any (x : Int) (w : World) :
    Calls Tryz.prog 161 #[.int .i64 x] w fun e w' => e = .returned (.bool (mayR x)) ∧ w' = w := by
  by_cases h0 : 0 ≤ x
  · by_cases h1 : x ≤ 1114111
    · by_cases h2 : x < 55296
      · have HM := Lib.hid (show mayR x = true by simp [mayR]; omega)
        go_enter Tryz.func161, Tryz.ntmps161
        go_wp2
        go_ret
        exact ⟨by rw [HM.out]; rfl, rfl⟩
      · by_cases h3 : 57343 < x
        · have HM := Lib.hid (show mayR x = true by simp [mayR]; omega)
          go_enter Tryz.func161, Tryz.ntmps161
          go_wp2
          go_ret
          exact ⟨by rw [HM.out]; rfl, rfl⟩
        · have HM := Lib.hid (show mayR x = false by simp [mayR]; omega)
          have b3 : decide (57343 < x) = false := decide_eq_false h3
          go_enter Tryz.func161, Tryz.ntmps161
          go_wp2
          go_ret
          exact ⟨by rw [HM.out]; rfl, rfl⟩
    · have HM := Lib.hid (show mayR x = false by simp [mayR]; omega)
      have b3 : decide (x ≤ 1114111) = false := decide_eq_false h1
      go_enter Tryz.func161, Tryz.ntmps161
      go_wp2
      go_ret
      exact ⟨by rw [HM.out]; rfl, rfl⟩
  · have HM := Lib.hid (show mayR x = false by simp [mayR]; omega)
    have b3 : decide (0 ≤ x) = false := decide_eq_false h0
    go_enter Tryz.func161, Tryz.ntmps161
    go_wp2
    go_ret
    exact ⟨by rw [HM.out]; rfl, rfl⟩
theorem refLong_any (x : Int) (w : World) :
    Calls Tryz.prog 162 #[.int .i64 x] w fun e w' => e = .returned (.int .i64 (longR x)) ∧ w' = w := by
  by_cases h1 : x < 128
  · have HM := Lib.hid (show longR x = 1 by simp [longR]; omega)
    go_enter Tryz.func162, Tryz.ntmps162
    go_wp2
    go_ret
    exact ⟨by rw [HM.out]; rfl, rfl⟩
  by_cases h2 : x < 2048
  · have HM := Lib.hid (show longR x = 2 by simp [longR]; omega)
    go_enter Tryz.func162, Tryz.ntmps162
    go_wp2
    go_ret
    exact ⟨by rw [HM.out]; rfl, rfl⟩
  by_cases h3 : x < 65536
  · have HM := Lib.hid (show longR x = 3 by simp [longR]; omega)
    go_enter Tryz.func162, Tryz.ntmps162
    go_wp2
    go_ret
    exact ⟨by rw [HM.out]; rfl, rfl⟩
  · have HM := Lib.hid (show longR x = 4 by simp [longR]; omega)
    go_enter Tryz.func162, Tryz.ntmps162
    go_wp2
    go_ret
    exact ⟨by rw [HM.out]; rfl, rfl⟩

/-- How many bytes the character at the head has; 0: none is whole there. -/
def wN (n b0 b1 b2 b3 : Nat) : Nat := if (Lib.decodeN n b0 b1 b2 b3).1 = 65533 ∧ (Lib.decodeN n b0 b1 b2 b3).2 = 1 then 0 else (Lib.decodeN n b0 b1 b2 b3).2
def oneW (l : List UInt8) : Nat := if l = [] then 0 else wN l.length (l.getD 0 0).toNat (l.getD 1 0).toNat (l.getD 2 0).toNat (l.getD 3 0).toNat
theorem wN_1 (n b0 b1 b2 b3 : Nat) (h : b0 < 128) : wN n b0 b1 b2 b3 = 1 := by
  unfold wN; rw [Lib.decodeN_ascii _ _ _ _ _ h]; simp; omega
theorem wN_0 (n b0 b1 b2 b3 : Nat) (h : (128 ≤ b0 ∧ b0 < 192) ∨ (248 ≤ b0 ∧ b0 < 256)) : wN n b0 b1 b2 b3 = 0 := by
  unfold wN; rw [Lib.decodeN_bad _ _ _ _ _ (by omega)]; simp
theorem wN_2 (n b0 b1 b2 b3 : Nat) (h : 192 ≤ b0 ∧ b0 < 224) : wN n b0 b1 b2 b3 = if 1 < n ∧ b1 / 64 = 2 ∧ 128 ≤ b0 % 32 * 64 + b1 % 64 then 2 else 0 := by
  have hd : Lib.decodeN n b0 b1 b2 b3 = if 1 < n ∧ b1 / 64 = 2 ∧ 128 ≤ b0 % 32 * 64 + b1 % 64 then (b0 % 32 * 64 + b1 % 64, 2) else (65533, 1) := by
    unfold Lib.decodeN
    repeat' split
    all_goals first | (exfalso; omega) | rfl
  unfold wN; rw [hd]; split <;> simp
theorem wN_3 (n b0 b1 b2 b3 : Nat) (h : 224 ≤ b0 ∧ b0 < 240) : wN n b0 b1 b2 b3 = if 2 < n ∧ b1 / 64 = 2 ∧ b2 / 64 = 2 ∧ 2048 ≤ b0 % 16 * 4096 + b1 % 64 * 64 + b2 % 64 ∧ (b0 % 16 * 4096 + b1 % 64 * 64 + b2 % 64 < 55296 ∨ 57344 ≤ b0 % 16 * 4096 + b1 % 64 * 64 + b2 % 64) then 3 else 0 := by
  have hd : Lib.decodeN n b0 b1 b2 b3 = if 2 < n ∧ b1 / 64 = 2 ∧ b2 / 64 = 2 ∧ 2048 ≤ b0 % 16 * 4096 + b1 % 64 * 64 + b2 % 64 ∧ (b0 % 16 * 4096 + b1 % 64 * 64 + b2 % 64 < 55296 ∨ 57344 ≤ b0 % 16 * 4096 + b1 % 64 * 64 + b2 % 64) then (b0 % 16 * 4096 + b1 % 64 * 64 + b2 % 64, 3) else (65533, 1) := by
    unfold Lib.decodeN
    repeat' split
    all_goals first | (exfalso; omega) | rfl
  unfold wN; rw [hd]; split <;> simp
theorem wN_4 (n b0 b1 b2 b3 : Nat) (h : 240 ≤ b0 ∧ b0 < 248) : wN n b0 b1 b2 b3 = if 3 < n ∧ b1 / 64 = 2 ∧ b2 / 64 = 2 ∧ b3 / 64 = 2 ∧ 65536 ≤ b0 % 8 * 262144 + b1 % 64 * 4096 + b2 % 64 * 64 + b3 % 64 ∧ b0 % 8 * 262144 + b1 % 64 * 4096 + b2 % 64 * 64 + b3 % 64 ≤ 1114111 then 4 else 0 := by
  have hd : Lib.decodeN n b0 b1 b2 b3 = if 3 < n ∧ b1 / 64 = 2 ∧ b2 / 64 = 2 ∧ b3 / 64 = 2 ∧ 65536 ≤ b0 % 8 * 262144 + b1 % 64 * 4096 + b2 % 64 * 64 + b3 % 64 ∧ b0 % 8 * 262144 + b1 % 64 * 4096 + b2 % 64 * 64 + b3 % 64 ≤ 1114111 then (b0 % 8 * 262144 + b1 % 64 * 4096 + b2 % 64 * 64 + b3 % 64, 4) else (65533, 1) := by
    unfold Lib.decodeN
    repeat' split
    all_goals first | (exfalso; omega) | rfl
  unfold wN; rw [hd]; split <;> simp

theorem at_getD (s : ByteArray) (j : Nat) (h : j < s.size) : (s.data.toList.getD j 0) = s[j] := by
  rw [List.getD_eq_getElem?_getD, List.getElem?_eq_getElem (by rw [Array.length_toList]; exact h)]; rfl
theorem oneW_size (s : ByteArray) (h : 0 < s.size) : oneW s.data.toList = wN s.size (s.data.toList.getD 0 0).toNat (s.data.toList.getD 1 0).toNat (s.data.toList.getD 2 0).toNat (s.data.toList.getD 3 0).toNat := by
  unfold oneW
  rw [if_neg (by intro e; have h3 : s.data.toList.length = 0 := by { rw [e]; rfl }; rw [Array.length_toList] at h3; have h2 : s.data.size = s.size := rfl; omega)]
  rw [show s.data.toList.length = s.size by rw [Array.length_toList]; rfl]

theorem longR_cases (x : Int) : (x < 128 ∧ longR x = 1) ∨ (128 ≤ x ∧ x < 2048 ∧ longR x = 2) ∨ (2048 ≤ x ∧ x < 65536 ∧ longR x = 3) ∨ (65536 ≤ x ∧ longR x = 4) := by
  unfold longR
  by_cases h1 : x < 128
  · rw [if_pos h1]; exact .inl ⟨h1, rfl⟩
  by_cases h2 : x < 2048
  · rw [if_neg h1, if_pos h2]; exact .inr (.inl ⟨by omega, h2, rfl⟩)
  by_cases h3 : x < 65536
  · rw [if_neg h1, if_neg h2, if_pos h3]; exact .inr (.inr (.inl ⟨by omega, h3, rfl⟩))
  · rw [if_neg h1, if_neg h2, if_neg h3]; exact .inr (.inr (.inr ⟨by omega, rfl⟩))
end Go.Proofs.YtaolnpiemeaabaaGreatDoor
