/- The walks of names.Local, names.Cut, events.may, events.right. -/
import Derived.Test.YtaolnpiemeaabaaGreatDoorEvW
import Derived.Test.YtaolnpiemeaabaaGreatDoorEvM
namespace Go.Proofs.YtaolnpiemeaabaaGreatDoor
open Go.RowKit Ev5
set_option linter.unusedSimpArgs false
set_option linter.unusedVariables false

def clsP (n : Nat) : Prop :=
  (97 ≤ bits .or .u8 (n : Int) 32 ∧ bits .or .u8 (n : Int) 32 ≤ 122 ∧ 57 < n ∧ n ≠ 95 ∧ letterB (UInt8.ofNat n) = true) ∨
  (97 ≤ bits .or .u8 (n : Int) 32 ∧ 122 < bits .or .u8 (n : Int) 32 ∧ n = 95 ∧ letterB (UInt8.ofNat n) = true) ∨
  (bits .or .u8 (n : Int) 32 < 97 ∧ 48 ≤ n ∧ n ≤ 57 ∧ letterB (UInt8.ofNat n) = false ∧ moreB (UInt8.ofNat n) = true) ∨
  (bits .or .u8 (n : Int) 32 < 97 ∧ n = 45 ∧ letterB (UInt8.ofNat n) = false ∧ moreB (UInt8.ofNat n) = true) ∨
  (bits .or .u8 (n : Int) 32 < 97 ∧ n = 46 ∧ letterB (UInt8.ofNat n) = false ∧ moreB (UInt8.ofNat n) = true) ∨
  (bits .or .u8 (n : Int) 32 < 97 ∧ n < 48 ∧ n ≠ 45 ∧ n ≠ 46 ∧ letterB (UInt8.ofNat n) = false ∧ moreB (UInt8.ofNat n) = false) ∨
  (bits .or .u8 (n : Int) 32 < 97 ∧ 57 < n ∧ n ≠ 95 ∧ letterB (UInt8.ofNat n) = false ∧ moreB (UInt8.ofNat n) = false) ∨
  (97 ≤ bits .or .u8 (n : Int) 32 ∧ 122 < bits .or .u8 (n : Int) 32 ∧ 57 < n ∧ n ≠ 95 ∧ letterB (UInt8.ofNat n) = false ∧ moreB (UInt8.ofNat n) = false)
instance (n : Nat) : Decidable (clsP n) := by unfold clsP; infer_instance
theorem cls_all : ∀ n : Fin 256, clsP n.val := by decide +kernel
theorem cls (b : UInt8) : clsP b.toNat := cls_all ⟨b.toNat, b.toNat_lt⟩
theorem ofNat_b (b : UInt8) : UInt8.ofNat b.toNat = b := by simp

theorem okB_letter {k : Nat} {b : UInt8} (h : letterB b = true) : okB k b = true := by simp [okB, h]
theorem okB_more {k : Nat} {b : UInt8} (h : letterB b = false) (h2 : moreB b = true) : okB k b = decide (0 < k) := by simp [okB, h, h2]
theorem okB_none {k : Nat} {b : UInt8} (h : letterB b = false) (h2 : moreB b = false) : okB k b = false := by simp [okB, h, h2]

set_option maxRecDepth 1000000 in
set_option maxHeartbeats 4000000 in
theorem local_any (s : ByteArray) (w : World) (hs : s.size ≤ 140737488351232) :
    Calls Tryz.prog 75 #[.string s] w fun e w' => e = .returned (.bool (localP s.data.toList)) ∧ Below w.heap.size w w' := by
  have hlen : s.data.toList.length = s.size := by rw [Array.length_toList]; rfl
  have hlp : localP s.data.toList = (decide (1 ≤ s.size ∧ s.size ≤ 16) && okFrom 0 s.data.toList) := by unfold localP; rw [hlen]
  have HL := Lib.hid hlp; clear hlp
  by_cases h0 : s.size = 0
  · have he : s.toList.isEmpty = true := by rw [ByteArray.toList_eq]; cases h : s.data.toList with | nil => rfl | cons x y => rw [h] at hlen; simp at hlen; omega
    have HR := Lib.hid (HL.out.trans (show _ = false by simp [h0])); clear HL h0 hlen
    go_enter Tryz.func75, Tryz.ntmps75
    go_wp2_with fail
    go_ret
    exact ⟨by rw [HR.out]; rfl, Below.refl _ _⟩
  have he : s.toList.isEmpty = false := by rw [ByteArray.toList_eq]; cases h : s.data.toList with | nil => rw [h] at hlen; simp at hlen; omega | cons x y => rfl
  by_cases h16 : (16 : Int) < (s.size : Int)
  · have HR := Lib.hid (HL.out.trans (show _ = false by rw [decide_eq_false (by omega)]; simp)); clear HL h0 hlen
    go_enter Tryz.func75, Tryz.ntmps75
    go_wp2_with fail
    go_ret
    exact ⟨by rw [HR.out]; rfl, Below.refl _ _⟩
  have HR := Lib.hid (HL.out.trans (show _ = okFrom 0 s.data.toList by rw [decide_eq_true (by omega)]; simp)); clear HL h0
  have HN := Lib.hid hlen; clear hlen
  have hcv := Lib.run_convert_string_bytes (P := Tryz.prog) w 9 44 5 s (u := .string) Tryz.underlying9 Tryz.underlying44 Tryz.underlying5
  have hB : ∀ j, j < s.size → (Lib.bytesWorld w 5 s).cell? ⟨w.heap.size, j, none⟩ = some (.int .u8 (s.data.toList.getD j 0).toNat) := fun j hj => Lib.bytesWorld_cell w 5 s j hj
  have hbel := below_bytesWorld w 5 s
  obtain ⟨W1, hW1⟩ : ∃ W1, W1 = Lib.bytesWorld w 5 s := ⟨_, rfl⟩
  rw [← hW1] at hcv hB hbel
  have HB := Lib.hid hB
  have HW := Lib.hid hbel
  clear hW1 hB hbel
  go_enter Tryz.func75, Tryz.ntmps75
  go_wp2
  go_loop [17] (fun vi => ∃ k : Nat, k ≤ s.size ∧ vi = .int .i64 k ∧ Hid (okFrom 0 s.data.toList = okFrom k (s.data.toList.drop k))) (fun vi => s.size - (intOf vi).toNat)
  case atStart => exact ⟨0, Nat.zero_le _, rfl, by show _ = _; rw [List.drop_zero]⟩
  case round =>
    obtain ⟨k, hk, rfl, hf⟩ := hrel
    by_cases hkn : k < s.size
    · obtain ⟨x, hx⟩ : ∃ x, x = s.data.toList.getD k 0 := ⟨_, rfl⟩
      have hkl : k < s.data.toList.length := by rw [HN.out]; exact hkn
      have hxk : s.data.toList[k] = x := by rw [hx, List.getD, List.getElem?_eq_getElem hkl]; rfl
      have hc1 : W1.cell? ⟨w.heap.size, k, none⟩ = some (.int .u8 x.toNat) := by rw [hx]; exact HB.out k hkn
      have hstep := okFrom_step s.data.toList k hkl
      rw [hxk] at hstep
      have HST := Lib.hid (hf.out.trans hstep)
      clear hx hxk hstep hf hkl
      have hcls := cls x
      unfold clsP at hcls
      rw [ofNat_b] at hcls
      by_cases hk0 : k = 0
      · subst hk0
        rcases hcls with ⟨c1, c2, c3, c4, c5⟩ | ⟨c1, c2, c3, c5⟩ | ⟨c1, c2, c3, c4, c5⟩ | ⟨c1, c2, c4, c5⟩ | ⟨c1, c2, c4, c5⟩ | ⟨c1, c2, c3, c6, c4, c5⟩ | ⟨c1, c2, c6, c4, c5⟩ | ⟨c1, c2, c3, c6, c4, c5⟩
        · have b95 : ((x.toNat : Int) == 95) = false := by simp; omega
          have b45 : ((x.toNat : Int) == 45) = false := by simp; omega
          have b46 : ((x.toNat : Int) == 46) = false := by simp; omega
          have b48 : (48 : Int) ≤ (x.toNat : Int) := by omega
          have b57 : ¬ (x.toNat : Int) ≤ 57 := by omega
          have HO := Lib.hid (HST.out.trans (by rw [okB_letter c5, Bool.true_and]))
          clear HST c5 c3 c4
          go_wp2
          go_round
          case rel => exact ⟨0 + 1, by omega, by go_num, HO⟩
          case measure => simp [intOf]; omega
        · have b95 : ((x.toNat : Int) == 95) = true := by simp; omega
          have b45 : ((x.toNat : Int) == 45) = false := by simp; omega
          have b46 : ((x.toNat : Int) == 46) = false := by simp; omega
          have b48 : (48 : Int) ≤ (x.toNat : Int) := by omega
          have b57 : ¬ (x.toNat : Int) ≤ 57 := by omega
          have HO := Lib.hid (HST.out.trans (by rw [okB_letter c5, Bool.true_and]))
          clear HST c5 c3
          go_wp2
          go_round
          case rel => exact ⟨0 + 1, by omega, by go_num, HO⟩
          case measure => simp [intOf]; omega
        · have b95 : ((x.toNat : Int) == 95) = false := by simp; omega
          have b45 : ((x.toNat : Int) == 45) = false := by simp; omega
          have b46 : ((x.toNat : Int) == 46) = false := by simp; omega
          have b48 : (48 : Int) ≤ (x.toNat : Int) := by omega
          have b57 : (x.toNat : Int) ≤ 57 := by omega
          have HO := Lib.hid (HST.out.trans (by rw [okB_more c4 c5, decide_eq_false (by omega), Bool.false_and]))
          clear HST c5 c2 c3 c4
          go_wp2
          go_ret
          exact ⟨by rw [HR.out, HO.out]; rfl, HW.out⟩
        · have b95 : ((x.toNat : Int) == 95) = false := by simp; omega
          have b45 : ((x.toNat : Int) == 45) = true := by simp; omega
          have b46 : ((x.toNat : Int) == 46) = false := by simp; omega
          have b48 : ¬ (48 : Int) ≤ (x.toNat : Int) := by omega
          have HO := Lib.hid (HST.out.trans (by rw [okB_more c4 c5, decide_eq_false (by omega), Bool.false_and]))
          clear HST c5 c2 c4
          go_wp2
          go_ret
          exact ⟨by rw [HR.out, HO.out]; rfl, HW.out⟩
        · have b95 : ((x.toNat : Int) == 95) = false := by simp; omega
          have b45 : ((x.toNat : Int) == 45) = false := by simp; omega
          have b46 : ((x.toNat : Int) == 46) = true := by simp; omega
          have b48 : ¬ (48 : Int) ≤ (x.toNat : Int) := by omega
          have HO := Lib.hid (HST.out.trans (by rw [okB_more c4 c5, decide_eq_false (by omega), Bool.false_and]))
          clear HST c5 c2 c4
          go_wp2
          go_ret
          exact ⟨by rw [HR.out, HO.out]; rfl, HW.out⟩
        · have b95 : ((x.toNat : Int) == 95) = false := by simp; omega
          have b45 : ((x.toNat : Int) == 45) = false := by simp; omega
          have b46 : ((x.toNat : Int) == 46) = false := by simp; omega
          have b48 : ¬ (48 : Int) ≤ (x.toNat : Int) := by omega
          have HO := Lib.hid (HST.out.trans (by rw [okB_none c4 c5, Bool.false_and]))
          clear HST c5 c4
          go_wp2
          go_ret
          exact ⟨by rw [HR.out, HO.out]; rfl, HW.out⟩
        · have b95 : ((x.toNat : Int) == 95) = false := by simp; omega
          have b45 : ((x.toNat : Int) == 45) = false := by simp; omega
          have b46 : ((x.toNat : Int) == 46) = false := by simp; omega
          have b48 : (48 : Int) ≤ (x.toNat : Int) := by omega
          have b57 : ¬ (x.toNat : Int) ≤ 57 := by omega
          have HO := Lib.hid (HST.out.trans (by rw [okB_none c4 c5, Bool.false_and]))
          clear HST c5 c4
          go_wp2
          go_ret
          exact ⟨by rw [HR.out, HO.out]; rfl, HW.out⟩
        · have b95 : ((x.toNat : Int) == 95) = false := by simp; omega
          have b45 : ((x.toNat : Int) == 45) = false := by simp; omega
          have b46 : ((x.toNat : Int) == 46) = false := by simp; omega
          have b48 : (48 : Int) ≤ (x.toNat : Int) := by omega
          have b57 : ¬ (x.toNat : Int) ≤ 57 := by omega
          have c22 : decide (bits .or .u8 (x.toNat : Int) 32 ≤ 122) = false := decide_eq_false (by omega)
          have HO := Lib.hid (HST.out.trans (by rw [okB_none c4 c5, Bool.false_and]))
          clear HST c5 c4
          go_wp2
          go_ret
          exact ⟨by rw [HR.out, HO.out]; rfl, HW.out⟩
      · have hkb : ((k : Int) == 0) = false := by simp; omega
        have hk0' : 0 < k := by omega
        rcases hcls with ⟨c1, c2, c3, c4, c5⟩ | ⟨c1, c2, c3, c5⟩ | ⟨c1, c2, c3, c4, c5⟩ | ⟨c1, c2, c4, c5⟩ | ⟨c1, c2, c4, c5⟩ | ⟨c1, c2, c3, c6, c4, c5⟩ | ⟨c1, c2, c6, c4, c5⟩ | ⟨c1, c2, c3, c6, c4, c5⟩
        · have b95 : ((x.toNat : Int) == 95) = false := by simp; omega
          have b45 : ((x.toNat : Int) == 45) = false := by simp; omega
          have b46 : ((x.toNat : Int) == 46) = false := by simp; omega
          have b48 : (48 : Int) ≤ (x.toNat : Int) := by omega
          have b57 : ¬ (x.toNat : Int) ≤ 57 := by omega
          have HO := Lib.hid (HST.out.trans (by rw [okB_letter c5, Bool.true_and]))
          clear HST c5 c3 c4
          go_wp2
          go_round
          case rel => exact ⟨k + 1, by omega, by go_num, HO⟩
          case measure => simp [intOf]; omega
        · have b95 : ((x.toNat : Int) == 95) = true := by simp; omega
          have b45 : ((x.toNat : Int) == 45) = false := by simp; omega
          have b46 : ((x.toNat : Int) == 46) = false := by simp; omega
          have b48 : (48 : Int) ≤ (x.toNat : Int) := by omega
          have b57 : ¬ (x.toNat : Int) ≤ 57 := by omega
          have HO := Lib.hid (HST.out.trans (by rw [okB_letter c5, Bool.true_and]))
          clear HST c5 c3
          go_wp2
          go_round
          case rel => exact ⟨k + 1, by omega, by go_num, HO⟩
          case measure => simp [intOf]; omega
        · have b95 : ((x.toNat : Int) == 95) = false := by simp; omega
          have b45 : ((x.toNat : Int) == 45) = false := by simp; omega
          have b46 : ((x.toNat : Int) == 46) = false := by simp; omega
          have b48 : (48 : Int) ≤ (x.toNat : Int) := by omega
          have b57 : (x.toNat : Int) ≤ 57 := by omega
          have HO := Lib.hid (HST.out.trans (by rw [okB_more c4 c5, decide_eq_true (by omega), Bool.true_and]))
          clear HST c5 c2 c3 c4
          go_wp2
          go_round
          case rel => exact ⟨k + 1, by omega, by go_num, HO⟩
          case measure => simp [intOf]; omega
        · have b95 : ((x.toNat : Int) == 95) = false := by simp; omega
          have b45 : ((x.toNat : Int) == 45) = true := by simp; omega
          have b46 : ((x.toNat : Int) == 46) = false := by simp; omega
          have b48 : ¬ (48 : Int) ≤ (x.toNat : Int) := by omega
          have HO := Lib.hid (HST.out.trans (by rw [okB_more c4 c5, decide_eq_true (by omega), Bool.true_and]))
          clear HST c5 c2 c4
          go_wp2
          go_round
          case rel => exact ⟨k + 1, by omega, by go_num, HO⟩
          case measure => simp [intOf]; omega
        · have b95 : ((x.toNat : Int) == 95) = false := by simp; omega
          have b45 : ((x.toNat : Int) == 45) = false := by simp; omega
          have b46 : ((x.toNat : Int) == 46) = true := by simp; omega
          have b48 : ¬ (48 : Int) ≤ (x.toNat : Int) := by omega
          have HO := Lib.hid (HST.out.trans (by rw [okB_more c4 c5, decide_eq_true (by omega), Bool.true_and]))
          clear HST c5 c2 c4
          go_wp2
          go_round
          case rel => exact ⟨k + 1, by omega, by go_num, HO⟩
          case measure => simp [intOf]; omega
        · have b95 : ((x.toNat : Int) == 95) = false := by simp; omega
          have b45 : ((x.toNat : Int) == 45) = false := by simp; omega
          have b46 : ((x.toNat : Int) == 46) = false := by simp; omega
          have b48 : ¬ (48 : Int) ≤ (x.toNat : Int) := by omega
          have HO := Lib.hid (HST.out.trans (by rw [okB_none c4 c5, Bool.false_and]))
          clear HST c5 c4
          go_wp2
          go_ret
          exact ⟨by rw [HR.out, HO.out]; rfl, HW.out⟩
        · have b95 : ((x.toNat : Int) == 95) = false := by simp; omega
          have b45 : ((x.toNat : Int) == 45) = false := by simp; omega
          have b46 : ((x.toNat : Int) == 46) = false := by simp; omega
          have b48 : (48 : Int) ≤ (x.toNat : Int) := by omega
          have b57 : ¬ (x.toNat : Int) ≤ 57 := by omega
          have HO := Lib.hid (HST.out.trans (by rw [okB_none c4 c5, Bool.false_and]))
          clear HST c5 c4
          go_wp2
          go_ret
          exact ⟨by rw [HR.out, HO.out]; rfl, HW.out⟩
        · have b95 : ((x.toNat : Int) == 95) = false := by simp; omega
          have b45 : ((x.toNat : Int) == 45) = false := by simp; omega
          have b46 : ((x.toNat : Int) == 46) = false := by simp; omega
          have b48 : (48 : Int) ≤ (x.toNat : Int) := by omega
          have b57 : ¬ (x.toNat : Int) ≤ 57 := by omega
          have c22 : decide (bits .or .u8 (x.toNat : Int) 32 ≤ 122) = false := decide_eq_false (by omega)
          have HO := Lib.hid (HST.out.trans (by rw [okB_none c4 c5, Bool.false_and]))
          clear HST c5 c4
          go_wp2
          go_ret
          exact ⟨by rw [HR.out, HO.out]; rfl, HW.out⟩
    · have HO := Lib.hid (hf.out.trans (okFrom_end s.data.toList k (by rw [HN.out]; omega)))
      clear hf
      go_wp2
      go_ret
      exact ⟨by rw [HR.out, HO.out]; rfl, HW.out⟩

theorem pre_no (l : List UInt8) (h : ¬ l.head? = some 123) : Lib.hasPrefix l [123] = false ∧ Lib.trimPrefix l [123] = l ∧ cutP l = if localP l = true ∧ l.length ≤ 48 then ([], l, true) else ([], [], false) := by
  have h1 : Lib.hasPrefix l [123] = false := by
    cases l with
    | nil => rfl
    | cons a r =>
      have hne : ((123 : UInt8) == a) = false := by rw [beq_eq_false_iff_ne]; intro e; exact h (by rw [← e]; rfl)
      show ((123 : UInt8) == a && _) = false
      rw [hne]; rfl
  refine ⟨h1, by unfold Lib.trimPrefix; rw [h1]; rfl, ?_⟩
  unfold cutP; rw [if_neg h]
theorem pre_yes (l : List UInt8) (h : l.head? = some 123) : Lib.hasPrefix l [123] = true ∧ Lib.trimPrefix l [123] = l.tail ∧ cutP l = if 0 ≤ Lib.indexByte l.tail 125 ∧ spaceP (l.tail.take (Lib.indexByte l.tail 125).toNat) = true ∧ localP (l.tail.drop ((Lib.indexByte l.tail 125).toNat + 1)) = true ∧ l.length ≤ 48 then (l.tail.take (Lib.indexByte l.tail 125).toNat, l.tail.drop ((Lib.indexByte l.tail 125).toNat + 1), true) else ([], [], false) := by
  have h1 : Lib.hasPrefix l [123] = true := by
    cases l with
    | nil => cases h
    | cons a r => simp at h; simp [Lib.hasPrefix, h]
  refine ⟨h1, ?_, ?_⟩
  · unfold Lib.trimPrefix; rw [h1]
    cases l with
    | nil => cases h
    | cons a r => rfl
  · unfold cutP; rw [if_pos h]
theorem cut_yes (l : List UInt8) (h : 0 ≤ Lib.indexByte l 125) : Lib.cut l [125] = (l.take (Lib.indexByte l 125).toNat, l.drop ((Lib.indexByte l 125).toNat + 1), true) := by
  unfold Lib.cut; rw [Lib.index_one, if_pos h]; rfl
theorem cut_no (l : List UInt8) (h : ¬ 0 ≤ Lib.indexByte l 125) : Lib.cut l [125] = (l, [], false) := by
  unfold Lib.cut; rw [Lib.index_one, if_neg h]

/-- What names.Cut hands back. -/
def cutV (l : List UInt8) : Value := .tuple #[str (cutP l).1, str (cutP l).2.1, .bool (cutP l).2.2]
set_option maxRecDepth 1000000 in
set_option maxHeartbeats 4000000 in
theorem cut_any (s : ByteArray) (w : World) (hE : EnvU w) (hs : s.size ≤ 1048576) :
    Calls Tryz.prog 86 #[.string s] w fun e w' => e = .returned (cutV s.data.toList) ∧ Below w.heap.size w w' := by
  have HE := Lib.hid hE; clear hE
  have hlen : s.data.toList.length = s.size := by rw [Array.length_toList]; rfl
  have HN := Lib.hid hlen; clear hlen
  by_cases hp : s.data.toList.head? = some 123
  · obtain ⟨p1, p2, p3⟩ := pre_yes _ hp
    have P1 := Lib.hid p1; have P2 := Lib.hid p2; have P3 := Lib.hid p3
    clear p1 p2 p3
    have htl : s.data.toList.tail.length ≤ 1048576 := by rw [List.length_tail, HN.out]; omega
    obtain ⟨R, hR, hRs⟩ := named s.data.toList.tail
    have HTl := Lib.hid htl; clear htl hp
    have hRl : R.data.toList = s.data.toList.tail := by rw [hR]
    have HRl := Lib.hid hRl; have HRs := Lib.hid hRs; clear hRl hRs
    rw [← HRl.out] at P3
    generalize hI : Lib.indexByte R.data.toList 125 = I at *
    go_enter Tryz.func86, Tryz.ntmps86
    go_wp2_with fail
    refine (Tryz.strings_CutPrefix s ⟨#[123]⟩ _).mono ?_
    rintro e w1 ⟨rfl, rfl⟩
    rw [show (⟨#[123]⟩ : ByteArray).data.toList = [123] from rfl, P1.out, P2.out, ← hR]
    clear hR
    obtain ⟨m, hmx⟩ := HE.out.env.mx
    go_wp2_with fail
    refine (Tryz.strings_Cut R ⟨#[125]⟩ m _ (by have := HRs.out; have := HTl.out; omega) hmx).mono ?_
    rintro e w1b ⟨rfl, n1, rfl⟩
    rw [show (⟨#[125]⟩ : ByteArray).data.toList = [125] from rfl]
    have HB1 := Lib.hid (below_drewN w1 n1)
    by_cases hI0 : 0 ≤ I
    · have hcy := cut_yes R.data.toList (by rw [hI]; exact hI0)
      rw [hI] at hcy
      rw [hcy]
      clear hcy
      obtain ⟨A, hA, hAs⟩ := named (R.data.toList.take I.toNat)
      obtain ⟨B, hB, hBs⟩ := named (R.data.toList.drop (I.toNat + 1))
      simp only [← hA, ← hB]
      have hAl : A.data.toList = R.data.toList.take I.toNat := by rw [hA]
      have hBl : B.data.toList = R.data.toList.drop (I.toNat + 1) := by rw [hB]
      rw [← hAl, ← hBl] at P3
      have hAsz : A.size ≤ 1048576 := by rw [hAs, List.length_take, HRl.out]; have := HTl.out; omega
      have hBsz : B.size ≤ 1048576 := by rw [hBs, List.length_drop, HRl.out]; have := HTl.out; omega
      clear hA hB hAs hBs hAl hBl hmx
      go_wp2_with fail
      refine (space_any A _ (HE.out.below HB1.out) hAsz).mono ?_
      rintro e w2 ⟨rfl, hb⟩
      have HB2 := Lib.hid (below_then HB1.out hb); clear hb
      cases hsp : spaceP A.data.toList
      · rw [hsp] at P3
        have P4 := Lib.hid (P3.out.trans (if_neg (by simp))); clear hsp P3
        go_wp2_with fail
        go_ret3
        exact ⟨by unfold cutV str; rw [P4.out]; rfl, HB2.out⟩
      · rw [hsp] at P3; clear hsp
        go_wp2_with fail
        refine (local_any B _ (by omega)).mono ?_
        rintro e w3 ⟨rfl, hb⟩
        have HB3 := Lib.hid (below_then HB2.out hb); clear hb
        cases hlp : localP B.data.toList
        · rw [hlp] at P3
          have P4 := Lib.hid (P3.out.trans (if_neg (by simp))); clear hlp P3
          go_wp2_with fail
          go_ret3
          exact ⟨by unfold cutV str; rw [P4.out]; rfl, HB3.out⟩
        · rw [hlp] at P3; clear hlp
          by_cases h48 : (48 : Int) < (s.size : Int)
          · have P4 := Lib.hid (P3.out.trans (if_neg (by rw [HN.out]; omega))); clear P3
            go_wp2_with fail
            go_ret3
            exact ⟨by unfold cutV str; rw [P4.out]; rfl, HB3.out⟩
          · have P4 := Lib.hid (P3.out.trans (if_pos (by refine ⟨hI0, ?_, ?_, ?_⟩ <;> first | trivial | (rw [HN.out]; omega)))); clear P3
            go_wp2_with fail
            go_ret3
            exact ⟨by unfold cutV str; rw [P4.out]; rfl, HB3.out⟩
    · have hcy := cut_no R.data.toList (by rw [hI]; exact hI0)
      rw [hcy]
      have P4 := Lib.hid (P3.out.trans (if_neg (fun h => hI0 h.1))); clear hcy P3
      go_wp2_with fail
      go_ret3
      exact ⟨by unfold cutV str; rw [P4.out]; rfl, HB1.out⟩
  · obtain ⟨p1, p2, p3⟩ := pre_no _ hp
    have P1 := Lib.hid p1; have P2 := Lib.hid p2; have P3 := Lib.hid p3
    clear p1 p2 p3 hp
    go_enter Tryz.func86, Tryz.ntmps86
    go_wp2_with fail
    refine (Tryz.strings_CutPrefix s ⟨#[123]⟩ _).mono ?_
    rintro e w1 ⟨rfl, rfl⟩
    rw [show (⟨#[123]⟩ : ByteArray).data.toList = [123] from rfl, P1.out, P2.out]
    go_wp2_with fail
    refine (local_any s _ (by omega)).mono ?_
    rintro e w3 ⟨rfl, hb⟩
    have HB3 := Lib.hid hb; clear hb
    cases hlp : localP s.data.toList
    · rw [hlp] at P3
      have P4 := Lib.hid (P3.out.trans (if_neg (by simp))); clear hlp P3
      go_wp2_with fail
      go_ret3
      exact ⟨by unfold cutV str; rw [P4.out]; rfl, HB3.out⟩
    · rw [hlp] at P3; clear hlp
      by_cases h48 : (48 : Int) < (s.size : Int)
      · have P4 := Lib.hid (P3.out.trans (if_neg (by rw [HN.out]; omega))); clear P3
        go_wp2_with fail
        go_ret3
        exact ⟨by unfold cutV str; rw [P4.out]; rfl, HB3.out⟩
      · have P4 := Lib.hid (P3.out.trans (if_pos (by refine ⟨?_, ?_⟩ <;> first | trivial | (rw [HN.out]; omega)))); clear P3
        go_wp2_with fail
        go_ret3
        exact ⟨by unfold cutV str; rw [P4.out]; rfl, HB3.out⟩
end Go.Proofs.YtaolnpiemeaabaaGreatDoor
