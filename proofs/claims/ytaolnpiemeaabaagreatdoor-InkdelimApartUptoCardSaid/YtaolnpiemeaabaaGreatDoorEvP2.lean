/- The walk of the reference's One (layer 1). -/
import Derived.Test.YtaolnpiemeaabaaGreatDoorEvP2a
import Derived.Test.YtaolnpiemeaabaaGreatDoorEvP2b
import Derived.Test.YtaolnpiemeaabaaGreatDoorEvP2c
import Derived.LoopN
namespace Go.Proofs.YtaolnpiemeaabaaGreatDoor
open Go.RowKit Ev5
set_option linter.unusedSimpArgs false
set_option linter.unusedVariables false

set_option maxRecDepth 100000 in
set_option maxHeartbeats 16000000 in
theorem one_any (s : ByteArray) (w : World) (hs : s.size ≤ 1048576) :
    Calls Tryz.prog 140 #[.string s] w fun e w' => (∃ a : Int, 0 ≤ a ∧ a ≤ 1114111 ∧ e = .returned (.tuple #[.int .i64 a, .int .i64 (oneW s.data.toList : Int)])) ∧ w' = w := by
  by_cases h0 : s.size = 0
  · have HW := Lib.hid (show oneW s.data.toList = 0 by
      unfold oneW; rw [if_pos]; exact List.eq_nil_of_length_eq_zero (by rw [Array.length_toList]; exact h0))
    go_enter Tryz.func140, Tryz.ntmps140
    go_wp2_with fail
    go_ret2
    exact ⟨⟨0, by omega, by omega, by rw [HW.out]; rfl⟩, rfl⟩
  have hpos : 0 < s.size := by omega
  have hw := oneW_size s hpos
  rw [at_getD s 0 hpos] at hw
  have HW := Lib.hid hw; clear hw h0
  have hb0 : s[0].toNat < 256 := UInt8.toNat_lt _
  by_cases c1 : (s[0].toNat : Int) < 128
  · have HR := Lib.hid (HW.out.trans (wN_1 _ _ _ _ _ (by omega))); clear HW
    go_enter Tryz.func140, Tryz.ntmps140
    go_wp2_with fail
    go_ret2
    exact ⟨⟨s[0].toNat, by omega, by omega, by rw [HR.out]; rfl⟩, rfl⟩
  by_cases c2 : (s[0].toNat : Int) < 192
  · have HR := Lib.hid (HW.out.trans (wN_0 _ _ _ _ _ (by omega))); clear HW
    have b1 : decide ((192 : Int) ≤ s[0].toNat) = false := decide_eq_false (by omega)
    have b2 : decide ((224 : Int) ≤ s[0].toNat) = false := decide_eq_false (by omega)
    have b3 : decide ((240 : Int) ≤ s[0].toNat) = false := decide_eq_false (by omega)
    go_enter Tryz.func140, Tryz.ntmps140
    go_wp2_with fail
    go_ret2
    exact ⟨⟨0, by omega, by omega, by rw [HR.out]; rfl⟩, rfl⟩
  by_cases c3 : (s[0].toNat : Int) < 224
  · exact one_2 s w hs hpos (by omega) c3
  by_cases c4 : (s[0].toNat : Int) < 240
  · exact one_3 s w hs hpos (by omega) c4
  by_cases c5 : (s[0].toNat : Int) < 248
  · exact one_4 s w hs hpos (by omega) c5
  · have HR := Lib.hid (HW.out.trans (wN_0 _ _ _ _ _ (by omega))); clear HW
    have b1 : decide ((s[0].toNat : Int) < 224) = false := decide_eq_false (by omega)
    have b2 : decide ((s[0].toNat : Int) < 240) = false := decide_eq_false (by omega)
    have b3 : decide ((s[0].toNat : Int) < 248) = false := decide_eq_false (by omega)
    go_enter Tryz.func140, Tryz.ntmps140
    go_wp2_with fail
    go_ret2
    exact ⟨⟨0, by omega, by omega, by rw [HR.out]; rfl⟩, rfl⟩
end Go.Proofs.YtaolnpiemeaabaaGreatDoor
