import Derived.LoopN
import Derived.Test.YtmniblcooficgaaGreatDoorD08
namespace Go.Proofs.YtmniblcooficgaaGreatDoor
open Go.RowKit Ev5
set_option linter.unusedSimpArgs false
set_option linter.unusedVariables false

set_option maxRecDepth 100000 in
set_option maxHeartbeats 16000000 in
theorem one_3 (s : ByteArray) (w : World) (hs : s.size ≤ 1048576) (hpos : 0 < s.size) (c3' : ¬ (s[0].toNat : Int) < 224) (c4 : (s[0].toNat : Int) < 240) :
    Calls Tryz.prog 146 #[.string s] w fun e w' => (∃ a : Int, 0 ≤ a ∧ a ≤ 1114111 ∧ e = .returned (.tuple #[.int .i64 a, .int .i64 (oneW s.data.toList : Int)])) ∧ w' = w := by
  have hw := oneW_size s hpos
  rw [at_getD s 0 hpos] at hw
  have HW := Lib.hid hw; clear hw
  have hb0 : s[0].toNat < 256 := UInt8.toNat_lt _
  have g192 : (192 : Int) ≤ s[0].toNat := by omega
  have g224 : (224 : Int) ≤ s[0].toNat := by omega
  have l224 : decide ((s[0].toNat : Int) < 224) = false := decide_eq_false (by omega)
  have g240 : decide ((240 : Int) ≤ s[0].toNat) = false := decide_eq_false (by omega)
  have HV := Lib.hid (HW.out.trans (wN_3 _ _ _ _ _ (by omega))); clear HW
  by_cases z : (s.size : Int) < 3
  · have HR := Lib.hid (HV.out.trans (if_neg (by omega))); clear HV
    go_enter Tryz.func146, Tryz.ntmps146
    go_wp2_with fail
    go_ret2
    exact ⟨⟨0, by omega, by omega, by rw [HR.out]; rfl⟩, rfl⟩
  have z1 : 1 < s.size := by omega
  have z2 : 2 < s.size := by omega
  have HG := HV.out
  rw [at_getD s 1 z1, at_getD s 2 z2] at HG
  have HH := Lib.hid HG; clear HG HV
  have hb1 : s[1].toNat < 256 := UInt8.toNat_lt _
  have hb2 : s[2].toNat < 256 := UInt8.toNat_lt _
  by_cases d1 : (s[1].toNat : Int) < 128
  · have HR := Lib.hid (HH.out.trans (if_neg (by omega))); clear HH
    go_enter Tryz.func146, Tryz.ntmps146
    go_wp2_with fail
    refine wp_loop_rounds 3 ?_
    rw [rounds_succ]
    go_wp2_with fail
    go_ret2
    exact ⟨⟨0, by omega, by omega, by rw [HR.out]; rfl⟩, rfl⟩
  by_cases f1 : (192 : Int) ≤ s[1].toNat
  · have HR := Lib.hid (HH.out.trans (if_neg (by omega))); clear HH
    go_enter Tryz.func146, Tryz.ntmps146
    go_wp2_with fail
    refine wp_loop_rounds 3 ?_
    rw [rounds_succ]
    go_wp2_with fail
    go_ret2
    exact ⟨⟨0, by omega, by omega, by rw [HR.out]; rfl⟩, rfl⟩
  by_cases d2 : (s[2].toNat : Int) < 128
  · have HR := Lib.hid (HH.out.trans (if_neg (by omega))); clear HH
    go_enter Tryz.func146, Tryz.ntmps146
    go_wp2_with fail
    refine wp_loop_rounds 3 ?_
    rw [rounds_succ]
    go_wp2_with fail
    rw [rounds_succ]
    go_wp2_with fail
    go_ret2
    exact ⟨⟨0, by omega, by omega, by rw [HR.out]; rfl⟩, rfl⟩
  by_cases f2 : (192 : Int) ≤ s[2].toNat
  · have HR := Lib.hid (HH.out.trans (if_neg (by omega))); clear HH
    go_enter Tryz.func146, Tryz.ntmps146
    go_wp2_with fail
    refine wp_loop_rounds 3 ?_
    rw [rounds_succ]
    go_wp2_with fail
    rw [rounds_succ]
    go_wp2_with fail
    go_ret2
    exact ⟨⟨0, by omega, by omega, by rw [HR.out]; rfl⟩, rfl⟩
  go_enter Tryz.func146, Tryz.ntmps146
  go_wp2_with fail
  refine wp_loop_rounds 3 ?_
  rw [rounds_succ]
  go_wp2_with fail
  rw [rounds_succ]
  go_wp2_with fail
  rw [rounds_succ]
  go_wp2_with fail
  obtain ⟨V, hV⟩ : ∃ V : Int, V = (64 : Int) * ((64 : Int) * (((s[0].toNat : Nat) : Int) - (224 : Int)) + ((s[1].toNat : Nat) : Int) - (128 : Int)) + ((s[2].toNat : Nat) : Int) - (128 : Int) := ⟨_, rfl⟩
  rw [← hV]
  have HVV := Lib.hid hV; clear hV
  refine (refMay1_any V _).mono ?_
  rintro e w1 ⟨rfl, rfl⟩
  have HLC := Lib.hid (longR_cases V)
  cases hm : mayR V
  · have HR := Lib.hid (HH.out.trans (if_neg (by have := HVV.out; simp [mayR] at hm; omega)))
    clear hm HH
    go_wp2_with fail
    go_ret2
    exact ⟨⟨0, by omega, by omega, by rw [HR.out]; rfl⟩, rfl⟩
  · have HMR := Lib.hid (show 0 ≤ V ∧ V ≤ 1114111 ∧ (V < 55296 ∨ 57343 < V) by simpa [mayR] using hm)
    clear hm
    go_wp2_with fail
    refine (refLong_any V _).mono ?_
    rintro e w2 ⟨rfl, rfl⟩
    obtain ⟨L, hL⟩ : ∃ L, longR V = L := ⟨_, rfl⟩
    rw [hL] at HLC
    rw [hL]
    clear hL
    by_cases hLn : L = 3
    · subst hLn
      have HR := Lib.hid (HH.out.trans (if_pos (by have := HVV.out; have := HMR.out; have := HLC.out; omega)))
      have hVb := HMR.out
      clear HH
      go_wp2_with fail
      go_ret2
      exact ⟨⟨V, by omega, by omega, by rw [HR.out]; rfl⟩, rfl⟩
    · have HR := Lib.hid (HH.out.trans (if_neg (by have := HVV.out; have := HMR.out; have := HLC.out; omega)))
      have hLb : (L != 3) = true := by simp [hLn]
      clear HH hLn
      go_wp2_with fail
      go_ret2
      exact ⟨⟨0, by omega, by omega, by rw [HR.out]; rfl⟩, rfl⟩
end Go.Proofs.YtmniblcooficgaaGreatDoor
