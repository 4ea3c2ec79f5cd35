/- The walks of the reference's digits and Form. -/
import Derived.Test.YtaolnpiemeaabaaGreatDoorNumK
import Derived.Test.YtaolnpiemeaabaaGreatDoorNumQ
import Derived.Test.YtaolnpiemeaabaaGreatDoorNumB
import Derived.Test.YtaolnpiemeaabaaGreatDoorNumM
import Derived.StillTailTactics
import Derived.Deep.RegionLaw
import Derived.IntWalk
import Derived.Lib.ItoaLen
import Derived.Lib.ItoaMem
namespace Go.Proofs.YtaolnpiemeaabaaGreatDoor
open Go.RowKit Num2
set_option linter.unusedSimpArgs false
set_option linter.unusedVariables false

def headD (m : Nat) : List UInt8 := if m = 0 then [] else Lib.decDigits m
theorem dec_step (m : Nat) : Lib.decDigits m = headD (m / 10) ++ [UInt8.ofNat (48 + m % 10)] := by
  unfold headD
  by_cases h : m < 10
  · rw [if_pos (by omega), Lib.decDigits, dif_pos h, Nat.mod_eq_of_lt h]; rfl
  · rw [if_neg (by omega), Lib.decDigits, dif_neg h]
theorem head_step {m : Nat} (h : 0 < m) : headD m = headD (m / 10) ++ [UInt8.ofNat (48 + m % 10)] := by
  rw [← dec_step, headD, if_neg (by omega)]

def DigI (n m : Nat) (D : ByteArray) : Prop := if D.size = 0 then m = n else Lib.decDigits n = headD m ++ D.data.toList
theorem DigI.step {n m : Nat} {D : ByteArray} (h : DigI n m D) (hc : 0 < m ∨ D.size = 0) {c : UInt8} (hcc : c = UInt8.ofNat (48 + m % 10)) : DigI n (m / 10) (⟨#[c]⟩ ++ D) := by
  subst hcc
  unfold DigI at h ⊢
  have e : (⟨#[UInt8.ofNat (48 + m % 10)]⟩ ++ D : ByteArray).data.toList = UInt8.ofNat (48 + m % 10) :: D.data.toList := by rw [ByteArray.data_append, Array.toList_append]; rfl
  rw [if_neg (by rw [ByteArray.size_append, show (⟨#[UInt8.ofNat (48 + m % 10)]⟩ : ByteArray).size = 1 from rfl]; omega), e]
  by_cases h0 : D.size = 0
  · rw [if_pos h0] at h
    subst h
    have : D.data.toList = [] := List.eq_nil_of_length_eq_zero (by rw [Array.length_toList]; exact h0)
    rw [this]; exact dec_step m
  · rw [if_neg h0] at h
    rw [h, head_step (by omega)]; simp
theorem DigI.le {n m : Nat} {D : ByteArray} (h : DigI n m D) (hn : n ≤ 99999) : D.size ≤ 21 := by
  unfold DigI at h
  by_cases h0 : D.size = 0
  · omega
  · rw [if_neg h0] at h
    have h1 := congrArg List.length h
    have h2 := Lib.itoa_length_le n (by omega) (by omega)
    rw [Lib.itoa_nonneg] at h2
    rw [List.length_append] at h1
    have : D.data.toList.length = D.size := Array.length_toList
    omega

theorem conv_one (w : World) (x : Int) (t : TypeId) : (convert 44 9 (.slice (some ⟨w.heap.size, 0, none⟩) 1 1)).run Tryz.prog (w.alloc (.cells #[.int .u8 x] t)) = .ok (.string (strOfNums [x])) (w.alloc (.cells #[.int .u8 x] t)) := by
  refine run_convert_bytes_arg _ 44 5 Tryz.underlying44 Tryz.underlying5 w.heap.size 0 1 1 [x] rfl ?_ 9 Tryz.underlying9
  intro i hi
  obtain rfl : i = 0 := by omega
  simp

set_option maxHeartbeats 1000000 in
set_option maxRecDepth 100000 in
theorem refDigits_any (n : Nat) (w : World) (hn : n ≤ 99999) :
    Calls Tryz.prog 173 #[.int .i64 n] w fun e w' => e = .returned (.string ⟨(Lib.itoa n).toArray⟩) ∧ Below w.heap.size w w' := by
  go_enter Tryz.func173, Tryz.ntmps173
  go_wp2_with fail
  go_loopg [0, 3] (n + 1) (fun g v0 v3 wq => ∃ (m : Nat) (D : ByteArray), v0 = .int .i64 m ∧ v3 = .string D ∧ m ≤ 99999 ∧ Hid (m + (if D.size = 0 then 1 else 0) = g) ∧ Hid (DigI n m D) ∧ Hid (Below w.heap.size w wq))
  case atStart => exact ⟨n, ⟨#[]⟩, rfl, rfl, hn, rfl, rfl, Below.refl _ _⟩
  case round =>
    obtain ⟨m, D, rfl, rfl, hm, hg, hD, hB⟩ := hrel
    have hDl := hD.out.le hn
    have q1 : Int.tmod (m : Int) 10 = ((m % 10 : Nat) : Int) := by rw [Int.tmod_eq_emod_of_nonneg (by omega)]; rfl
    have q2 : Int.tdiv (m : Int) 10 = ((m / 10 : Nat) : Int) := by rw [Int.tdiv_eq_ediv_of_nonneg (by omega)]; rfl
    have q3 : ((m % 10 : Nat) : Int) < 10 := by omega
    have q4 : 0 ≤ ((m % 10 : Nat) : Int) := by omega
    have q5 : ((m / 10 : Nat) : Int) ≤ 99999 := by omega
    have q6 : 0 ≤ ((m / 10 : Nat) : Int) := by omega
    by_cases h0 : 0 < m
    · have h0' : (0 : Int) < (m : Int) := by omega
      have hcv := conv_one wr (48 + (m : Int) % 10)
      obtain ⟨C, hC⟩ : ∃ C, C = strOfNums [48 + (m : Int) % 10] := ⟨_, rfl⟩
      have hCs : C.size = 1 := by rw [hC]; rfl
      rw [← hC] at hcv
      have hc1 : C = ⟨#[UInt8.ofNat (48 + m % 10)]⟩ := by rw [hC, show (48 + (m : Int) % 10) = ((48 + m % 10 : Nat) : Int) by omega]; rfl
      have HST := Lib.hid (hD.out.step (.inl h0) (c := UInt8.ofNat (48 + m % 10)) rfl)
      rw [← hc1] at HST
      have hne : ¬ (C ++ D).size = 0 := by rw [ByteArray.size_append]; omega
      have HNE := Lib.hid hne
      clear hne hC hc1
      go_wp2_with fail
      go_roundg (m / 10)
      case measure => have := hg.out; split at this <;> omega
      case rel => exact ⟨m / 10, C ++ D, rfl, rfl, by omega, by rw [if_neg HNE.out]; rfl, HST, hB.out.alloc hB.out.size _⟩
    · obtain rfl : m = 0 := by omega
      by_cases h1 : D.size = 0
      · have h1' : D.toList.isEmpty = true := by rw [ByteArray.toList_eq, List.isEmpty_iff_length_eq_zero, Array.length_toList]; exact h1
        have hcv := conv_one wr 48
        rw [show strOfNums [48] = ⟨#[48]⟩ from rfl] at hcv
        obtain ⟨C, hC⟩ : ∃ C : ByteArray, C = ⟨#[48]⟩ := ⟨_, rfl⟩
        have hCs : C.size = 1 := by rw [hC]; rfl
        rw [← hC] at hcv
        have HST := Lib.hid (hD.out.step (.inr h1) (c := 48) rfl)
        rw [← hC] at HST
        have hne : ¬ (C ++ D).size = 0 := by rw [ByteArray.size_append]; omega
        have HNE := Lib.hid hne
        clear hne hC
        go_wp2_with fail
        go_roundg 0
        case measure => have := hg.out; split at this <;> omega
        case rel => exact ⟨0, C ++ D, rfl, rfl, by omega, by rw [if_neg HNE.out]; rfl, HST, hB.out.alloc hB.out.size _⟩
      · have h1' : D.toList.isEmpty = false := by
          rw [ByteArray.toList_eq, Bool.eq_false_iff]; intro h2; rw [List.isEmpty_iff_length_eq_zero, Array.length_toList] at h2; exact h1 h2
        have hres : D = ⟨(Lib.itoa n).toArray⟩ := by
          have h2 := hD.out
          unfold DigI at h2
          rw [if_neg h1, headD, if_pos rfl, List.nil_append] at h2
          rw [Lib.itoa_nonneg, h2]
        have HRES := Lib.hid hres; clear hres
        go_wp2_with fail
        go_ret
        exact ⟨by rw [← HRES.out]; rfl, hB.out⟩

theorem itoa_dig {c : UInt8} (h : dig c = true) : Lib.itoa ((c.toNat : Int) - 48) = [c] := by
  simp [dig] at h
  rw [show ((c.toNat : Int) - 48) = ((c.toNat - 48 : Nat) : Int) by omega, Lib.itoa_nonneg, Lib.decDigits_one (by omega)]
  congr 1
  apply UInt8.toNat_inj.1
  rw [show 48 + (c.toNat - 48) = c.toNat by omega]
  simp
def sgnR (sg : Bool) : List UInt8 := if sg = true then [45] else []
theorem bytes_eq {B : ByteArray} {l : List UInt8} (h : B.data.toList = l) : B = ⟨l.toArray⟩ := by subst h; rfl
theorem formR (sg : Bool) (l : List UInt8) (p : Int) (h : ¬ l = []) : formP (sg, l, p) = sgnR sg ++ l ++ (if p = 0 then [] else 101 :: Lib.itoa p) := by
  unfold formP
  rw [if_neg h]; rfl
theorem dgI_len (l : List UInt8) : (dgI l).length = l.length := by simp [dgI]

set_option maxHeartbeats 4000000 in
set_option maxRecDepth 100000 in
theorem refForm_any (sg : Bool) (sv : Value) (l : List UInt8) (p : Int) (w : World) (hl : l.length ≤ 200) (hd : digs l) (hcel : Cells w 0 sv (dgI l)) (h0 : -999 ≤ p) (h1 : p ≤ 999) :
    Calls Tryz.prog 167 #[.agg #[.bool sg, sv, .int .i64 p]] w fun e w' => e = .returned (.string ⟨(formP (sg, l, p)).toArray⟩) ∧ Below w.heap.size w w' := by
  have hB := (Below.refl w.heap.size w).alloc (Nat.le_refl _) (.cells #[.bool sg, sv, .int .i64 p] 148)
  have HC := Lib.hid (hcel.below ((Below.refl w.heap.size w).alloc (Nat.le_refl _) (.cells #[.bool sg, sv, .int .i64 p] 148)))
  have HV := Lib.hid (three_new w (.bool sg) sv (.int .i64 p) 148)
  obtain ⟨A, c, rfl, hc1, hc2, _⟩ := hcel
  rw [dgI_len] at hc1
  have HB := Lib.hid hB; clear hB
  have HD := Lib.hid hd; clear hd
  go_enter Tryz.func167, Tryz.ntmps167
  go_upto_region 1 with (fail)
  generalize w.alloc (.cells #[.bool sg, .slice A (dgI l).length c, .int .i64 p] 148) = w1 at *
  rw [dgI_len] at HC HV
  obtain ⟨rc0, rc1, rc2, rf0, rf1, rf2, rlt⟩ := HV.out
  by_cases hne : l = []
  · subst hne
    go_wp2_with fail
    go_ret
    exact ⟨rfl, HB.out⟩
  · have hl0 : 0 < l.length := List.length_pos_iff.2 hne
    have hz : ((l.length : Int) == 0) = false := beq_eq_false_iff_ne.2 (by omega)
    go_upto_if 10 with (fail)
    go_cut [3] (fun v3 wc => v3 = .string ⟨(sgnR sg).toArray⟩ ∧ w1 = wc)
    case first =>
      cases sg
      · go_wp2
        go_meet
        case rel => exact ⟨rfl, rfl⟩
      · go_wp2
        go_meet
        case rel => exact ⟨rfl, rfl⟩
    case rest =>
    obtain ⟨rfl, rfl⟩ := hcut
    clear rc0 rc1 rc2 rf0 rf1 rf2
    go_wp2_with fail
    go_loopw [3, 4] (fun v3 v4 wq => ∃ (k : Nat) (O : ByteArray), v4 = .int .i64 k ∧ v3 = .string O ∧ k ≤ l.length ∧ Hid (O.data.toList = sgnR sg ++ l.take k) ∧ Hid (Below w1.heap.size w1 wq)) (fun _ v4 _ => l.length - (intOf v4).toNat)
    case atStart => exact ⟨0, _, rfl, rfl, Nat.zero_le _, by show _ = _; simp, Below.refl _ _⟩
    case round =>
      obtain ⟨k, O, rfl, rfl, hk, hO, hBq⟩ := hrel
      have hOs : O.size ≤ 201 := by
        have h2 := congrArg List.length hO.out
        have h3 : O.data.toList.length = O.size := Array.length_toList
        have h4 : (sgnR sg).length ≤ 1 := by unfold sgnR; split <;> simp
        rw [List.length_append, List.length_take] at h2
        omega
      have HVq := HV.out.below hBq.out
      have HCq := HC.out.below hBq.out
      obtain ⟨rc0, rc1, rc2, rf0, rf1, rf2, rlt'⟩ := HVq
      by_cases hlt : k < l.length
      · obtain ⟨A', c', heq, _, _, hcells⟩ := HCq
        have hxk : l[k]? = some l[k] := List.getElem?_eq_getElem hlt
        have hne2 : dgI l ≠ [] := fun e => by have := congrArg List.length e; rw [dgI_len] at this; simp at this; exact hne this
        obtain ⟨b, off, eA, hb0, hb1, hcell⟩ := hcells hne2
        subst eA
        injection heq with heq1 heq2 heq3
        subst heq1 heq3
        have hz1 := hcell k (by rw [dgI_len]; exact hlt)
        clear hcells hcell
        have hdg : (dgI l)[k]'(by rw [dgI_len]; exact hlt) = (l[k].toNat : Int) - 48 := by simp [dgI, dg1]
        rw [hdg] at hz1
        have hdk : dig l[k] = true := HD.out _ (List.getElem_mem hlt)
        have hx0 : 48 ≤ l[k].toNat := by simp [dig] at hdk; omega
        have hx1 : l[k].toNat ≤ 57 := by simp [dig] at hdk; omega
        have hn : ((l[k].toNat : Int) - 48) = ((l[k].toNat - 48 : Nat) : Int) := by omega
        have HI := Lib.hid (hn ▸ itoa_dig hdk)
        have HT := Lib.hid (show l.take (k + 1) = l.take k ++ [l[k]] by rw [List.take_add_one, hxk]; rfl)
        clear hdg hdk hxk
        go_wp2_with fail
        refine (refDigits_any _ _ (by omega)).mono ?_
        rintro e w2 ⟨rfl, hb2⟩
        rw [HI.out]
        have HB2 := Lib.hid (below_then hBq.out hb2); clear hb2
        clear rc0 rc1 rc2 rf0 rf1 rf2
        obtain ⟨C, hC⟩ : ∃ C : ByteArray, C = ⟨[l[k]].toArray⟩ := ⟨_, rfl⟩
        rw [← hC]
        have hCs : C.size = 1 := by rw [hC]; rfl
        have HO := Lib.hid (show (O ++ C).data.toList = sgnR sg ++ l.take (k + 1) by rw [HT.out, ByteArray.data_append, Array.toList_append, hO.out, hC]; simp)
        clear hC
        go_wp2_with fail
        go_roundw
        case rel => exact ⟨k + 1, O ++ C, by go_num, rfl, by omega, HO, HB2⟩
        case measure => simp [intOf]; omega
      · obtain rfl : k = l.length := by omega
        have HF := Lib.hid (show O.data.toList = sgnR sg ++ l by rw [hO.out, List.take_length])
        clear hO
        have HE := HF.out
        by_cases hp0 : 0 < p
        · obtain ⟨pn, rfl⟩ : ∃ n : Nat, p = n := ⟨p.toNat, by omega⟩
          have hR := formR sg l pn hne
          rw [if_neg (by omega), ← HE] at hR
          have HR := Lib.hid hR
          have hIl := Lib.itoa_length_le pn (by omega) (by omega)
          clear hR HE
          go_wp2_with fail
          refine (refDigits_any _ _ (by omega)).mono ?_
          rintro e w2 ⟨rfl, hb2⟩
          have HB2 := Lib.hid (below_then hBq.out hb2)
          have HV2 := (HV.out.below HB2.out)
          obtain ⟨C, hC⟩ : ∃ C : ByteArray, C = ⟨(Lib.itoa pn).toArray⟩ := ⟨_, rfl⟩
          have hCs : C.size ≤ 21 := by rw [hC]; simpa [ByteArray.size] using hIl
          rw [← hC]
          have HC2 := Lib.hid hC
          clear hC hIl hb2
          clear rc0 rc1 rc2 rf0 rf1 rf2
          obtain ⟨rc0, rc1, rc2, rf0, rf1, rf2, rlt'⟩ := HV2
          go_wp2_with fail
          go_ret
          refine ⟨?_, below_then HB.out HB2.out⟩
          rw [HR.out]
          show Ending.returned (Value.string (O ++ ⟨#[101]⟩ ++ C)) = _
          rw [bytes_eq (B := O ++ ⟨#[101]⟩ ++ C) (l := O.data.toList ++ 101 :: Lib.itoa pn) (by rw [HC2.out, ByteArray.data_append, ByteArray.data_append, Array.toList_append, Array.toList_append]; simp)]
        · by_cases hp1 : p < 0
          · obtain ⟨pn, rfl⟩ : ∃ n : Nat, p = -(n : Int) := ⟨p.natAbs, by omega⟩
            have hR := formR sg l (-(pn : Int)) hne
            rw [if_neg (by omega), ← HE, Lib.itoa_neg _ (by omega)] at hR
            have HR := Lib.hid hR
            have hIl := Lib.itoa_length_le pn (by omega) (by omega)
            clear hR HE
            go_wp2_with fail
            refine (refDigits_any _ _ (by omega)).mono ?_
            rintro e w2 ⟨rfl, hb2⟩
            have HB2 := Lib.hid (below_then hBq.out hb2)
            obtain ⟨C, hC⟩ : ∃ C : ByteArray, C = ⟨(Lib.itoa pn).toArray⟩ := ⟨_, rfl⟩
            have hCs : C.size ≤ 21 := by rw [hC]; simpa [ByteArray.size] using hIl
            rw [← hC]
            have HC2 := Lib.hid hC
            clear hC hIl hb2
            clear rc0 rc1 rc2 rf0 rf1 rf2
            go_wp2_with fail
            go_ret
            refine ⟨?_, below_then HB.out HB2.out⟩
            rw [HR.out]
            show Ending.returned (Value.string (O ++ ⟨#[101, 45]⟩ ++ C)) = _
            rw [bytes_eq (B := O ++ ⟨#[101, 45]⟩ ++ C) (l := O.data.toList ++ 101 :: 45 :: Lib.decDigits pn) (by rw [HC2.out, Lib.itoa_nonneg, ByteArray.data_append, ByteArray.data_append, Array.toList_append, Array.toList_append]; simp)]
          · obtain rfl : p = 0 := by omega
            have hR := formR sg l 0 hne
            rw [if_pos rfl, List.append_nil, ← HE] at hR
            have HR := Lib.hid hR
            clear hR HE
            go_wp2_with fail
            go_ret
            refine ⟨?_, below_then HB.out hBq.out⟩
            rw [HR.out]
            rfl
end Go.Proofs.YtaolnpiemeaabaaGreatDoor
