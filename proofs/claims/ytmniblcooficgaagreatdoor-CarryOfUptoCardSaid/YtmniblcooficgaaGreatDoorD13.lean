import Derived.Test.YtmniblcooficgaaGreatDoorProg
import Derived.WalkKit
import Derived.Lib.Hide
import Derived.WalkSpells
import Derived.BigQuiet
import Derived.Deep.QuietTactic
import Derived.Deep.DeepCutAuto
import Derived.Deep.CutBlock
import Derived.Test.YtmniblcooficgaaGreatDoorD04
namespace Go.Proofs.YtmniblcooficgaaGreatDoor
open Go.RowKit Num2
set_option linter.unusedSimpArgs false
set_option linter.unusedVariables false

theorem dig_iff (b : UInt8) : dig b = true ↔ 48 ≤ b.toNat ∧ b.toNat ≤ 57 := by simp [dig]
def runLen (l : List UInt8) : Nat := (l.takeWhile dig).length
theorem runLen_le (l : List UInt8) : runLen l ≤ l.length := (List.takeWhile_sublist _).length_le
theorem run_step (s : ByteArray) (a k : Nat) (h : a + k < s.size) (hk : k ≤ runLen (s.data.toList.drop a)) :
    (dig s[a + k] = true → k + 1 ≤ runLen (s.data.toList.drop a)) ∧ (dig s[a + k] = false → k = runLen (s.data.toList.drop a)) := by
  have hl : k < (s.data.toList.drop a).length := by rw [List.length_drop, Array.length_toList]; show k < s.size - a; omega
  have hg : (s.data.toList.drop a)[k]'hl = s[a + k] := by rw [List.getElem_drop]; rfl
  rw [← hg]
  generalize s.data.toList.drop a = l at *
  clear hg
  unfold runLen at *
  induction l generalizing k with
  | nil => simp at hl
  | cons c r ih =>
    by_cases hc : dig c = true
    · rw [List.takeWhile_cons_of_pos hc] at hk ⊢
      cases k with
      | zero => exact ⟨fun _ => by simp, fun h => by simp [hc] at h⟩
      | succ k =>
        have := ih k (by simp at hl; omega) (by simpa using hk) (by simpa using hl)
        simpa using this
    · rw [List.takeWhile_cons_of_neg hc] at hk ⊢
      have hk0 : k = 0 := by simpa using hk
      subst hk0
      simp at hc
      simp [hc]

set_option maxHeartbeats 1000000 in
theorem run_any (s : ByteArray) (a : Nat) (w : World) (ha : a ≤ s.size) (hs : s.size ≤ 140737488351232) :
    Calls Tryz.prog 164 #[.string s, .int .i64 a] w fun e w' => e = .returned (.int .i64 (runLen (s.data.toList.drop a))) ∧ w' = w := by
  go_enter Tryz.func164, Tryz.ntmps164
  go_wp2
  go_loop [5] (fun i => ∃ k : Nat, i = .int .i64 k ∧ a + k ≤ s.size ∧ k ≤ runLen (s.data.toList.drop a)) (fun i => s.size - (intOf i).toNat)
  case atStart => exact ⟨0, rfl, by omega, Nat.zero_le _⟩
  case round =>
    obtain ⟨k, rfl, hk, hr⟩ := hrel
    have hll := runLen_le (s.data.toList.drop a)
    have hlen : (s.data.toList.drop a).length = s.size - a := by rw [List.length_drop, Array.length_toList]; rfl
    by_cases hlt : a + k < s.size
    · have hst := run_step s a k hlt hr
      clear hlen hll
      by_cases h1 : 48 ≤ (s[a + k].toNat : Int)
      · by_cases h2 : (s[a + k].toNat : Int) ≤ 57
        · have hd : dig s[a + k] = true := by rw [dig_iff]; omega
          have h3 := hst.1 hd
          clear hst
          go_wp2
          go_round
          case rel => exact ⟨k + 1, by go_num, by omega, by omega⟩
          case measure => simp [intOf]; omega
        · have hd : dig s[a + k] = false := by simp [dig]; omega
          have h3 := Lib.hid (hst.2 hd)
          clear hst
          go_wp2
          go_ret
          exact ⟨by rw [← h3.out]; rfl, rfl⟩
      · have hd : dig s[a + k] = false := by simp [dig]; omega
        have h3 := Lib.hid (hst.2 hd)
        clear hst
        go_wp2
        go_ret
        exact ⟨by rw [← h3.out]; rfl, rfl⟩
    · have h3 := Lib.hid (show k = runLen (s.data.toList.drop a) by omega)
      clear hlen hll
      go_wp2
      go_ret
      exact ⟨by rw [← h3.out]; rfl, rfl⟩

def PartsEnd (l : List UInt8) (w : World) (e : Ending) (w' : World) : Prop :=
  ∃ W P T : ByteArray, e = .returned (.tuple #[.string W, .string P, .string T, .bool (parts l).2.2.2.1, .bool (parts l).2.2.2.2]) ∧
    W.data.toList = (parts l).1 ∧ P.data.toList = (parts l).2.1 ∧ T.data.toList = (parts l).2.2.1 ∧ ∃ n, w' = w.drewN n

theorem at_head (s : ByteArray) (a : Nat) (h : a < s.size) : s.data.toList.drop a = s[a] :: s.data.toList.drop (a + 1) := by
  have hl : a < s.data.toList.length := by simpa using h
  rw [List.drop_eq_getElem_cons hl]; rfl

theorem unsign_drop (s : ByteArray) : s.data.toList.drop (if h : 0 < s.size then (if (s[0].toNat : Int) = 45 then 1 else 0) else 0) = unsign s.data.toList := by
  by_cases h : 0 < s.size
  · have := at_head s 0 h
    rw [List.drop_zero] at this
    rw [dif_pos h, this, unsign]
    by_cases h2 : (s[0].toNat : Int) = 45
    · rw [if_pos h2, if_pos (by omega)]; rfl
    · rw [if_neg h2, if_neg (by omega)]; rfl
  · rw [dif_neg h]
    have : s.data.toList = [] := by
      apply List.eq_nil_of_length_eq_zero
      rw [Array.length_toList]; show s.size = 0; omega
    rw [this]; rfl

theorem ext_list (s : ByteArray) (a b : Nat) : (s.extract a b).data.toList = (s.data.toList.drop a).take (b - a) := by
  rw [ByteArray.data_extract, Array.toList_extract, List.extract_eq_take_drop]
theorem ext_nil (s : ByteArray) (a b : Nat) (hb : b ≤ s.size) : (s.extract a b).data.toList = [] ↔ b ≤ a := by
  rw [ext_list]
  have : s.data.toList.length = s.size := by rw [Array.length_toList]; rfl
  constructor
  · intro h
    have := congrArg List.length h
    simp at this
    omega
  · intro h
    rw [Nat.sub_eq_zero_of_le h, List.take_zero]
theorem take_run (s : ByteArray) (a n : Nat) (h : runLen (s.data.toList.drop a) = n) : (s.data.toList.drop a).takeWhile dig = (s.extract a (a + n)).data.toList := by
  rw [ext_list, Nat.add_sub_cancel_left, ← h]
  exact (List.prefix_iff_eq_take.1 (List.takeWhile_prefix dig))
theorem drop_run (s : ByteArray) (a n : Nat) (h : runLen (s.data.toList.drop a) = n) : (s.data.toList.drop a).dropWhile dig = s.data.toList.drop (a + n) := by
  have e := List.takeWhile_append_dropWhile (p := dig) (l := s.data.toList.drop a)
  have : s.data.toList.drop (a + n) = (s.data.toList.drop a).drop n := by rw [List.drop_drop]
  rw [this, ← h, runLen]
  generalize s.data.toList.drop a = l at *
  conv => rhs; arg 2; rw [← e]
  rw [List.drop_left]

def point (w q : List UInt8) : R :=
  if q.dropWhile dig = [] then (w, q.takeWhile dig, [], true, !(q.takeWhile dig).isEmpty)
  else if q.takeWhile dig = [] then no
  else expo w (q.takeWhile dig) (q.dropWhile dig)
def rest3 (w : List UInt8) : List UInt8 → R
  | [] => (w, [], [], true, !w.isEmpty)
  | c :: q => if c.toNat = 46 then point w q else expo w [] (c :: q)
theorem body_eq (l : List UInt8) (h : ¬ (l.takeWhile dig = [] ∧ l.dropWhile dig ≠ [])) :
    body l = if 1 < (l.takeWhile dig).length ∧ (l.takeWhile dig).head? = some 48 then no else rest3 (l.takeWhile dig) (l.dropWhile dig) := by
  unfold body
  simp only []
  rw [if_neg h]
  split
  · rfl
  · cases l.dropWhile dig <;> rfl

theorem run_int (s : ByteArray) (z : Int) (a : Nat) (w : World) (hz : z = a) (ha : a ≤ s.size) (hs : s.size ≤ 140737488351232) :
    Calls Tryz.prog 164 #[.string s, .int .i64 z] w fun e w' => e = .returned (.int .i64 (runLen (s.data.toList.drop a))) ∧ w' = w := by
  subst hz
  exact run_any s a w ha hs
theorem pos_of_len {l : List UInt8} {n : Nat} (h : l.length = n) : (!l.isEmpty) = decide (0 < (n : Int)) := by
  subst h
  cases l <;> simp

def sgn : List UInt8 → Bool
  | [] => false
  | c :: _ => isSign c
def unsgn (r : List UInt8) : List UInt8 := if sgn r = true then r.tail else r
theorem expo_cons (w p : List UInt8) (c : UInt8) (r : List UInt8) : expo w p (c :: r) =
    if isE c = true then (if (unsgn r).dropWhile dig = [] then (w, p, r, true, !((unsgn r).takeWhile dig).isEmpty) else no) else no := by
  cases r <;> rfl

theorem ext_end (s : ByteArray) (a : Nat) : (s.extract a s.size).data.toList = s.data.toList.drop a := by
  rw [ext_list]
  apply List.take_of_length_le
  rw [List.length_drop, Array.length_toList]
  exact Nat.le_refl _

theorem run_le2 (s : ByteArray) (a : Nat) (ha : a ≤ s.size) : a + runLen (s.data.toList.drop a) ≤ s.size := by
  have := runLen_le (s.data.toList.drop a)
  rw [List.length_drop, Array.length_toList] at this
  have : s.data.size = s.size := rfl
  omega

set_option maxHeartbeats 1000000 in
set_option maxRecDepth 100000 in
theorem parts_any (s : ByteArray) (w : World) (hs : s.size ≤ 140737488351232) :
    Calls Tryz.prog 147 #[.string s] w (PartsEnd s.data.toList w) := by
  have hu := Lib.hid (unsign_drop s)
  go_enter Tryz.func147, Tryz.ntmps147
  go_upto_region 2 with (fail)
  go_cut [21] (fun v wc => ∃ b : Bool, v = .bool b ∧ Hid (b = true → 0 < s.size ∧ s.data.toList.drop 1 = unsign s.data.toList) ∧ Hid (b = false → s.data.toList.drop 0 = unsign s.data.toList) ∧ w = wc)
  case first =>
    by_cases h : 0 < s.size
    · by_cases h2 : (s[0].toNat : Int) = 45
      · go_wp2
        go_meet
        case rel => exact ⟨true, rfl, fun _ => ⟨h, by have := hu.out; rw [dif_pos h, if_pos h2] at this; exact this⟩, (fun h => by cases h), rfl⟩
      · have hb2 : ((s[0].toNat : Int) == 45) = false := beq_eq_false_iff_ne.2 h2
        go_wp2
        go_meet
        case rel => exact ⟨false, rfl, (fun h => by cases h), fun _ => by have := hu.out; rw [dif_pos h, if_neg h2] at this; exact this, rfl⟩
    · go_wp2
      go_meet
      case rel => exact ⟨false, rfl, (fun h => by cases h), fun _ => by have := hu.out; rw [dif_neg h] at this; exact this, rfl⟩
  case rest =>
  obtain ⟨b, rfl, hb1, hb0, rfl⟩ := hcut
  clear hu
  go_upto_if 21 with (fail)
  go_cut [7] (fun v7 wc => ∃ a : Nat, v7 = .int .i64 a ∧ a ≤ s.size ∧ a ≤ 1 ∧ Hid (s.data.toList.drop a = unsign s.data.toList) ∧ w = wc)
  case first =>
    cases b with
    | true =>
      have h := (hb1.out rfl).1
      have h2 := Lib.hid (hb1.out rfl).2
      clear hb1 hb0
      go_wp2
      go_meet
      case rel => exact ⟨1, rfl, by omega, by omega, h2, rfl⟩
    | false =>
      have h2 := Lib.hid (hb0.out rfl)
      clear hb1 hb0
      go_wp2
      go_meet
      case rel => exact ⟨0, rfl, by omega, by omega, h2, rfl⟩
  case rest =>
  clear hb1 hb0
  obtain ⟨a, rfl, ha, ha1, hda, rfl⟩ := hcut
  have hn := run_le2 s a ha
  go_wp2_with fail
  refine (run_any s a _ ha hs).mono ?_; rintro e w' ⟨rfl, rfl⟩
  generalize hng : runLen (s.data.toList.drop a) = n at *
  have Hn := Lib.hid hng; clear hng
  have hsz : s.data.toList.length = s.size := by rw [Array.length_toList]; rfl
  have HL := Lib.hid hsz; clear hsz
  have hall : parts s.data.toList = body (s.data.toList.drop a) := by unfold parts; rw [hda.out]
  have HB := Lib.hid hall; clear hall
  have htw : (s.data.toList.drop a).takeWhile dig = (s.extract a (a + n)).data.toList := by
    exact take_run s a n Hn.out
  have HW := Lib.hid htw; clear htw
  have hdw : (s.data.toList.drop a).dropWhile dig = s.data.toList.drop (a + n) := drop_run s a n Hn.out
  have HD := Lib.hid hdw; clear hdw
  by_cases p1 : a + n < s.size ∧ n = 0
  · obtain ⟨p1a, rfl⟩ := p1
    have e : parts s.data.toList = no := by
      rw [HB.out, body, HW.out, HD.out, if_pos]
      refine ⟨by rw [ext_nil _ _ _ (by omega)]; omega, ?_⟩
      intro h; have := congrArg List.length h; rw [List.length_drop, HL.out] at this; simp at this; omega
    have He := Lib.hid e; clear e
    go_wp2_with fail
    exact bodyPost_ret (v := .tuple #[.string ⟨#[]⟩, .string ⟨#[]⟩, .string ⟨#[]⟩, .bool false, .bool false]) (by simp [results, Tryz.results147, go_sem]) rfl ⟨⟨#[]⟩, ⟨#[]⟩, ⟨#[]⟩, by rw [He.out]; rfl, by rw [He.out]; rfl, by rw [He.out]; rfl, by rw [He.out]; rfl, 0, rfl⟩
  have hq1 : ¬ ((s.data.toList.drop a).takeWhile dig = [] ∧ (s.data.toList.drop a).dropWhile dig ≠ []) := by
    rw [HW.out, HD.out]
    rintro ⟨h1, h2⟩
    rw [ext_nil _ _ _ hn] at h1
    apply p1
    refine ⟨?_, by omega⟩
    rcases Nat.lt_or_ge (a + n) s.size with h | h
    · exact h
    · exact absurd (List.drop_eq_nil_of_le (by rw [HL.out]; exact h)) h2
  have HQ1 := Lib.hid hq1; clear hq1
  have hb := body_eq (s.data.toList.drop a) HQ1.out
  rw [HW.out, HD.out] at hb
  have HB2 := Lib.hid (HB.out.trans hb); clear hb HB
  have hnn : (s.extract a (a + n)).data.toList.length = n := by rw [ext_list, List.length_take, List.length_drop, HL.out]; omega
  have HN := Lib.hid hnn; clear hnn
  by_cases p2 : 1 < n ∧ (s.extract a (a + n)).data.toList.head? = some 48
  · obtain ⟨p2a, p2b⟩ := p2
    have e : parts s.data.toList = no := by rw [HB2.out, if_pos ⟨by rw [HN.out]; exact p2a, p2b⟩]
    have He := Lib.hid e; clear e
    have h48 : (s[a].toNat : Int) = 48 := by
      rw [ext_list, at_head s a (by omega), List.head?_take, if_neg (by omega)] at p2b
      simp at p2b; rw [p2b]; rfl
    have p1' : ¬ (n : Int) = 0 := by omega
    have b1 : ((n : Int) == 0) = false := beq_eq_false_iff_ne.2 p1'
    have b2 : ((s[a].toNat : Int) == 48) = true := beq_iff_eq.2 h48
    clear p1 p2b h48
    by_cases p3 : a + n < s.size
    · go_wp2_with fail
      exact bodyPost_ret (v := .tuple #[.string ⟨#[]⟩, .string ⟨#[]⟩, .string ⟨#[]⟩, .bool false, .bool false]) (by simp [results, Tryz.results147, go_sem]) rfl ⟨⟨#[]⟩, ⟨#[]⟩, ⟨#[]⟩, by rw [He.out]; rfl, by rw [He.out]; rfl, by rw [He.out]; rfl, by rw [He.out]; rfl, 0, rfl⟩
    · go_wp2_with fail
      exact bodyPost_ret (v := .tuple #[.string ⟨#[]⟩, .string ⟨#[]⟩, .string ⟨#[]⟩, .bool false, .bool false]) (by simp [results, Tryz.results147, go_sem]) rfl ⟨⟨#[]⟩, ⟨#[]⟩, ⟨#[]⟩, by rw [He.out]; rfl, by rw [He.out]; rfl, by rw [He.out]; rfl, by rw [He.out]; rfl, 0, rfl⟩
  have HB3 := Lib.hid (HB2.out.trans (if_neg (by rw [HN.out]; exact p2))); clear HB2
  have b1 : a + n < s.size → ((n : Int) == 0) = false := fun h => beq_eq_false_iff_ne.2 (by omega)
  have b2 : (h : 1 < n) → ((s[a].toNat : Int) == 48) = false := fun h => beq_eq_false_iff_ne.2 (fun h48 => p2 ⟨h, by
      rw [ext_list, at_head s a (by omega), List.head?_take, if_neg (by omega)]
      simp; exact UInt8.toNat_inj.1 (by show _ = 48; omega)⟩)
  have B2 := Lib.hid b2
  have B1 := Lib.hid b1
  clear b1 b2 p1 p2 HQ1 HW HD
  go_upto_region 5 with (fail)
  go_cut [36] (fun v wc => v = .bool false ∧ w' = wc)
  case first =>
    by_cases p3 : a + n < s.size
    · have b1 := B1.out p3
      go_wp2
      go_meet
      case rel => exact ⟨rfl, rfl⟩
    · go_wp2
      go_meet
      case rel => exact ⟨rfl, rfl⟩
  case rest =>
  obtain ⟨rfl, rfl⟩ := hcut
  go_upto_region 7 with (fail)
  go_cut [44] (fun v wc => v = .bool false ∧ w' = wc)
  case first =>
    by_cases p3 : 1 < n
    · have b1 := B2.out p3
      go_wp2
      go_meet
      case rel => exact ⟨rfl, rfl⟩
    · go_wp2
      go_meet
      case rel => exact ⟨rfl, rfl⟩
  case rest =>
  obtain ⟨rfl, rfl⟩ := hcut
  clear B2
  by_cases p3 : a + n = s.size
  · have hnil : s.data.toList.drop (a + n) = [] := List.drop_eq_nil_of_le (by rw [HL.out]; omega)
    have e : parts s.data.toList = ((s.extract a (a + n)).data.toList, [], [], true, decide (0 < (n : Int))) := by
      rw [HB3.out, hnil, rest3]
      congr 4
      rw [Bool.eq_iff_iff]
      cases hx : (s.extract a (a + n)).data.toList with
      | nil => have := HN.out; rw [hx] at this; simp at this; simp [← this]
      | cons x y => have := HN.out; rw [hx] at this; simp at this; simp; omega
    have He := Lib.hid e; clear e hnil HB3 HN B1
    have b3 : ((a : Int) + (n : Int) == (s.size : Int)) = true := beq_iff_eq.2 (by omega)
    go_wp2_with fail
    exact bodyPost_ret (v := .tuple #[.string (s.extract a (a + n)), .string ⟨#[]⟩, .string ⟨#[]⟩, .bool true, .bool (decide (0 < (n : Int)))]) (by simp [results, Tryz.results147, go_sem]) rfl ⟨s.extract a (a + n), ⟨#[]⟩, ⟨#[]⟩, by rw [He.out], by rw [He.out], by rw [He.out], by rw [He.out], 0, rfl⟩
  have p4 : a + n < s.size := by omega
  clear B1
  have b3 : ((a : Int) + (n : Int) == (s.size : Int)) = false := beq_eq_false_iff_ne.2 (by omega)
  have hh := at_head s (a + n) p4
  have hb := HB3.out
  rw [hh, rest3, ← hh] at hb
  have HB4 := Lib.hid hb; clear hb hh HB3
  go_upto_if 64 with (fail)
  go_cut [7, 8, 10] (fun v7 v8 v10 wc => ∃ (x m : Nat) (P : ByteArray), v7 = .int .i64 x ∧ v8 = .int .i64 m ∧ v10 = .string P ∧ x < s.size ∧ Hid (parts s.data.toList = expo (s.extract a (a + n)).data.toList P.data.toList (s.data.toList.drop x)) ∧ w' = wc)
  case first =>
    by_cases hc : (s[a + n].toNat : Int) = 46
    · have bc : ((s[a + n].toNat : Int) == 46) = true := beq_iff_eq.2 hc
      have hb := HB4.out
      rw [if_pos (by omega)] at hb
      have HB5 := Lib.hid hb; clear hb HB4 hc
      go_wp2_with fail
      refine (run_int s _ (a + n + 1) _ (by omega) (by omega) hs).mono ?_; rintro e w' ⟨rfl, rfl⟩
      have hm := run_le2 s (a + n + 1) (by omega)
      generalize hmg : runLen (s.data.toList.drop (a + n + 1)) = m at *
      have htw := take_run s (a + n + 1) m hmg
      have hdw := drop_run s (a + n + 1) m hmg
      have hml : (s.extract (a + n + 1) (a + n + 1 + m)).data.toList.length = m := by rw [ext_list, List.length_take, List.length_drop, HL.out]; omega
      have hb := HB5.out
      rw [point, htw, hdw] at hb
      have HB6 := Lib.hid hb
      have HM := Lib.hid hml
      clear hmg htw hdw hml hb HB5
      by_cases p5 : a + n + 1 + m = s.size
      · have hnil : s.data.toList.drop (a + n + 1 + m) = [] := List.drop_eq_nil_of_le (by rw [HL.out]; omega)
        have e : parts s.data.toList = ((s.extract a (a + n)).data.toList, (s.extract (a + n + 1) (a + n + 1 + m)).data.toList, [], true, decide (0 < (m : Int))) := by
          rw [HB6.out, if_pos hnil, pos_of_len HM.out]
        have He := Lib.hid e; clear e hnil HB6 HM
        have b3 : ((a : Int) + (n : Int) + 1 + (m : Int) == (s.size : Int)) = true := beq_iff_eq.2 (by omega)
        go_wp2_with fail
        exact bodyPost_ret (v := .tuple #[.string (s.extract a (a + n)), .string (s.extract (a + n + 1) (a + n + 1 + m)), .string ⟨#[]⟩, .bool true, .bool (decide (0 < (m : Int)))]) (by simp [results, Tryz.results147, go_sem]) rfl ⟨s.extract a (a + n), s.extract (a + n + 1) (a + n + 1 + m), ⟨#[]⟩, by rw [He.out], by rw [He.out], by rw [He.out], by rw [He.out], 0, rfl⟩
      · have b3 : ((a : Int) + (n : Int) + 1 + (m : Int) == (s.size : Int)) = false := beq_eq_false_iff_ne.2 (by omega)
        have hnn : ¬ s.data.toList.drop (a + n + 1 + m) = [] := fun h => by have := congrArg List.length h; rw [List.length_drop, HL.out] at this; simp at this; omega
        have hb := HB6.out
        rw [if_neg hnn] at hb
        by_cases p6 : m = 0
        · rw [if_pos (List.eq_nil_of_length_eq_zero (by rw [HM.out]; exact p6))] at hb
          have He := Lib.hid hb; clear hb HB6 hnn HM
          have b4 : ((m : Int) == 0) = true := beq_iff_eq.2 (by omega)
          go_wp2_with fail
          exact bodyPost_ret (v := .tuple #[.string ⟨#[]⟩, .string ⟨#[]⟩, .string ⟨#[]⟩, .bool false, .bool false]) (by simp [results, Tryz.results147, go_sem]) rfl ⟨⟨#[]⟩, ⟨#[]⟩, ⟨#[]⟩, by rw [He.out]; rfl, by rw [He.out]; rfl, by rw [He.out]; rfl, by rw [He.out]; rfl, 0, rfl⟩
        · rw [if_neg (fun h => p6 (by rw [← HM.out, h]; rfl))] at hb
          have He := Lib.hid hb; clear hb HB6 hnn HM
          have b4 : ((m : Int) == 0) = false := beq_eq_false_iff_ne.2 (by omega)
          go_wp2
          go_meet
          case rel => exact ⟨a + n + 1 + m, m, s.extract (a + n + 1) (a + n + 1 + m), by go_num, rfl, rfl, by omega, He, rfl⟩
    · have bc : ((s[a + n].toNat : Int) == 46) = false := beq_eq_false_iff_ne.2 hc
      have hb := HB4.out
      rw [if_neg (by omega)] at hb
      have HB5 := Lib.hid hb; clear hb HB4 hc
      go_wp2
      go_meet
      case rel => exact ⟨a + n, n, ⟨#[]⟩, by go_num, rfl, rfl, by omega, HB5, rfl⟩
  case rest =>
  obtain ⟨x, m, P, rfl, rfl, rfl, p5, HX, rfl⟩ := hcut
  clear HB4 HN Hn b3 p3
  generalize s.extract a (a + n) = W at *
  clear hn ha hda ha1 p4
  by_cases hE : isE s[x] = true
  · go_upto_region 23 with (fail)
    go_cut [98] (fun v wc => v = .bool false ∧ w' = wc)
    case first =>
      by_cases hE1 : (s[x].toNat : Int) = 101
      · have be : ((s[x].toNat : Int) != 101) = false := by simp [hE1]
        clear hE hE1
        go_wp2
        go_meet
        case rel => exact ⟨rfl, rfl⟩
      · have be : ((s[x].toNat : Int) != 101) = true := by simp [hE1]
        have be2 : ((s[x].toNat : Int) != 69) = false := by simp [isE] at hE; simp; omega
        clear hE hE1
        go_wp2
        go_meet
        case rel => exact ⟨rfl, rfl⟩
    case rest =>
    obtain ⟨rfl, rfl⟩ := hcut
    go_upto_region 27 with (fail)
    go_cut [7, 11, 117] (fun v7 v11 v117 wc => v7 = .int .i64 (x + 1 : Nat) ∧ v11 = .int .i64 (x + 1 : Nat) ∧ ∃ b : Bool, v117 = .bool b ∧ Hid (sgn (s.data.toList.drop (x + 1)) = b) ∧ w' = wc)
    case first =>
      by_cases hy : x + 1 < s.size
      · have hh := Lib.hid (at_head s (x + 1) hy)
        by_cases h43 : (s[x + 1].toNat : Int) = 43
        · have b1 : ((s[x + 1].toNat : Int) == 43) = true := beq_iff_eq.2 h43
          have hs : sgn (s.data.toList.drop (x + 1)) = true := by rw [hh.out]; simp [sgn, isSign]; omega
          have HS := Lib.hid hs; clear hs h43
          go_wp2
          go_meet
          case rel => exact ⟨by go_num, by go_num, true, rfl, HS, rfl⟩
        · have b1 : ((s[x + 1].toNat : Int) == 43) = false := beq_eq_false_iff_ne.2 h43
          have hs : sgn (s.data.toList.drop (x + 1)) = ((s[x + 1].toNat : Int) == 45) := by rw [hh.out, Bool.eq_iff_iff]; simp [sgn, isSign]; omega
          have HS := Lib.hid hs; clear hs h43
          go_wp2
          go_meet
          case rel => exact ⟨by go_num, by go_num, _, rfl, HS, rfl⟩
      · have hs : sgn (s.data.toList.drop (x + 1)) = false := by rw [List.drop_eq_nil_of_le (by rw [HL.out]; omega)]; rfl
        have HS := Lib.hid hs; clear hs
        go_wp2
        go_meet
        case rel => exact ⟨by go_num, by go_num, false, rfl, HS, rfl⟩
    case rest =>
    obtain ⟨rfl, rfl, b, rfl, HS, rfl⟩ := hcut
    go_upto_if 117 with (fail)
    go_cut [7] (fun v7 wc => ∃ z : Nat, v7 = .int .i64 z ∧ z ≤ s.size ∧ Hid (s.data.toList.drop z = unsgn (s.data.toList.drop (x + 1))) ∧ w' = wc)
    case first =>
      cases b with
      | true =>
        have hl : x + 2 ≤ s.size := by
          have h := HS.out
          rcases Nat.lt_or_ge (x + 1) s.size with h1 | h1
          · omega
          · rw [List.drop_eq_nil_of_le (by rw [HL.out]; omega)] at h; cases h
        have hd : s.data.toList.drop (x + 2) = unsgn (s.data.toList.drop (x + 1)) := by
          rw [unsgn, if_pos HS.out, List.tail_drop]
        have HD := Lib.hid hd; clear hd
        go_wp2
        go_meet
        case rel => exact ⟨x + 2, by go_num, hl, HD, rfl⟩
      | false =>
        have hd : s.data.toList.drop (x + 1) = unsgn (s.data.toList.drop (x + 1)) := by
          rw [unsgn, if_neg (by rw [HS.out]; simp)]
        have HD := Lib.hid hd; clear hd
        go_wp2
        go_meet
        case rel => exact ⟨x + 1, by go_num, by omega, HD, rfl⟩
    case rest =>
    obtain ⟨z, rfl, hz, HZ, rfl⟩ := hcut
    clear HS
    have hxo := HX.out
    rw [at_head s x p5, expo_cons, if_pos hE, ← HZ.out] at hxo
    have HX2 := Lib.hid hxo; clear hxo HX HZ hE
    go_wp2_with fail
    refine (run_any s z _ hz hs).mono ?_; rintro e w' ⟨rfl, rfl⟩
    have hq := run_le2 s z hz
    generalize hqg : runLen (s.data.toList.drop z) = q at *
    have htw := take_run s z q hqg
    have hdw := drop_run s z q hqg
    have hml : (s.extract z (z + q)).data.toList.length = q := by rw [ext_list, List.length_take, List.length_drop, HL.out]; omega
    have hb := HX2.out
    rw [htw, hdw, pos_of_len hml] at hb
    have HB := Lib.hid hb; clear hqg htw hdw hml hb HX2
    by_cases p6 : z + q < s.size
    · have hb := HB.out
      rw [if_neg (fun h => by have := congrArg List.length h; rw [List.length_drop, HL.out] at this; simp at this; omega)] at hb
      have He := Lib.hid hb; clear hb HB
      go_wp2_with fail
      exact bodyPost_ret (v := .tuple #[.string ⟨#[]⟩, .string ⟨#[]⟩, .string ⟨#[]⟩, .bool false, .bool false]) (by simp [results, Tryz.results147, go_sem]) rfl ⟨⟨#[]⟩, ⟨#[]⟩, ⟨#[]⟩, by rw [He.out]; rfl, by rw [He.out]; rfl, by rw [He.out]; rfl, by rw [He.out]; rfl, 0, rfl⟩
    · have hb := HB.out
      rw [if_pos (List.drop_eq_nil_of_le (by rw [HL.out]; omega))] at hb
      have He := Lib.hid hb; clear hb HB
      have hx1 : x + 1 ≤ s.size := by omega
      go_wp2_with fail
      go_quiet (fail)
      go_wp2_with fail
      exact bodyPost_ret (v := .tuple #[.string W, .string P, .string (s.extract (x + 1) s.size), .bool true, .bool (decide (0 < (q : Int)))]) (by simp [results, Tryz.results147, go_sem]) rfl ⟨W, P, s.extract (x + 1) s.size, by rw [He.out], by rw [He.out], by rw [He.out], by rw [He.out, ext_end], _, rfl⟩
  · have b1 : ((s[x].toNat : Int) != 101) = true := by simp [isE] at hE; simp; omega
    have b2 : ((s[x].toNat : Int) != 69) = true := by simp [isE] at hE; simp; omega
    have e : parts s.data.toList = no := by
      rw [HX.out, at_head s x p5, expo_cons, if_neg hE]
    have He := Lib.hid e; clear e HX hE
    go_wp2_with fail
    exact bodyPost_ret (v := .tuple #[.string ⟨#[]⟩, .string ⟨#[]⟩, .string ⟨#[]⟩, .bool false, .bool false]) (by simp [results, Tryz.results147, go_sem]) rfl ⟨⟨#[]⟩, ⟨#[]⟩, ⟨#[]⟩, by rw [He.out]; rfl, by rw [He.out]; rfl, by rw [He.out]; rfl, by rw [He.out]; rfl, 0, rfl⟩

end Go.Proofs.YtmniblcooficgaaGreatDoor
