/- What the library's tables hold; the walks of num's read, form, may, Read, sized and Compare. -/
import Derived.Test.YtaolnpiemeaabaaGreatDoorNumP
import Derived.Test.YtaolnpiemeaabaaGreatDoorNumM
import Derived.Test.YtaolnpiemeaabaaGreatDoorNumB
import Derived.Test.YtaolnpiemeaabaaGreatDoorShelf
import Derived.Lib.AppendIntMem
namespace Go.Proofs.YtaolnpiemeaabaaGreatDoor
open Go.RowKit Num2
set_option linter.unusedSimpArgs false
set_option linter.unusedVariables false

theorem cell_lt {w : World} {a : Addr} {v : Value} (h : w.cell? a = some v) : a.block < w.heap.size := by
  unfold World.cell? at h
  rcases Nat.lt_or_ge a.block w.heap.size with h1 | h1
  · exact h1
  · rw [Array.getElem?_eq_none h1] at h; simp at h

/-- What the walks need to know of the library's variables. -/
structure Env (w : World) : Prop where
  tab : Lib.TabIs Tryz.prog w "internal/strconv.uint64pow10" .u64 Lib.pow10Tab
  mx : ∃ m, w.cell? ⟨0, 0, none⟩ = some (.int .i64 m)
  er : ∃ ev, w.cell? ⟨5, 0, none⟩ = some ev ∧ (ev = .nilIface ∨ ∃ te pe, ev = .iface te pe)
theorem Env.below {w w' : World} (h : Env w) (hb : Below w.heap.size w w') : Env w' := by
  refine ⟨Lib.tabBelow_of_tabIs h.tab w' hb, ?_, ?_⟩
  · obtain ⟨m, hm⟩ := h.mx
    exact ⟨m, by rw [hb.cell (cell_lt hm)]; exact hm⟩
  · obtain ⟨ev, h1, h2⟩ := h.er
    exact ⟨ev, by rw [hb.cell (cell_lt h1)]; exact h1, h2⟩

def str (l : List UInt8) : Value := .string ⟨l.toArray⟩
theorem mk_list (l : List UInt8) : (⟨l.toArray⟩ : ByteArray).data.toList = l := by simp
theorem mk_of (s : ByteArray) : (⟨s.data.toList.toArray⟩ : ByteArray) = s := by cases s; simp

theorem ret_s {a : ByteArray} {l : List UInt8} (h : a.data.toList = l) : Ending.returned (.string a) = .returned (.string ⟨l.toArray⟩) := by
  rw [← h, mk_of]
theorem below_grow (w : World) (k : Nat) (os : Array Obj) : Below w.heap.size w (Sort.grow (w.drewN k) os) := by
  refine (below_drewN w k).trans ⟨rfl, rfl, rfl, by simp [Sort.grow], fun i hi => ?_⟩
  have : (w.drewN k).heap.size ≥ w.heap.size := (below_drewN w k).size
  simp only [Sort.grow]
  rw [Array.getElem?_append_left (by omega)]
theorem decDigits_len : ∀ (k u : Nat), u < 10 ^ (k + 1) → (Lib.decDigits u).length ≤ k + 1
  | 0, u, h => by rw [Lib.decDigits, dif_pos (by simpa using h)]; simp
  | k + 1, u, h => by
    rw [Lib.decDigits]
    split
    · simp
    · rw [List.length_append]
      have := decDigits_len k (u / 10) (by rw [Nat.pow_succ] at h; omega)
      simp; omega
theorem itoa_len (p : Int) (h0 : -9223372036854775808 ≤ p) (h1 : p ≤ 9223372036854775807) : (Lib.itoa p).length ≤ 20 := by
  unfold Lib.itoa
  split
  · have := decDigits_len 18 p.natAbs (by omega)
    simp; omega
  · have := decDigits_len 18 p.toNat (by omega)
    omega

set_option maxHeartbeats 400000 in
theorem form_any (b : Bool) (d : ByteArray) (p : Int) (w : World) (hE : Env w) (h0 : -9223372036854775808 ≤ p) (h1 : p ≤ 9223372036854775807) (hd : d.size ≤ 1000) :
    Calls Tryz.prog 164 #[.agg #[.bool b, .string d, .int .i64 p]] w fun e w' => e = .returned (.string ⟨(formP (b, d.data.toList, p)).toArray⟩) ∧ Below w.heap.size w w' := by
  by_cases hz : d.data.toList = []
  · have hz2 : d = ⟨#[]⟩ := by rw [← mk_of d, hz]
    subst hz2
    go_enter Tryz.func164, Tryz.ntmps164
    go_wp2
    go_ret
    exact ⟨rfl, (Below.refl _ _).alloc (Nat.le_refl _) _⟩
  · have he : d.toList.isEmpty = false := by rw [ByteArray.toList_eq]; cases h : d.data.toList with | nil => exact absurd h hz | cons x y => rfl
    clear hz
    have hzz : ¬ d.data.toList = [] := by rw [ByteArray.toList_eq] at he; intro h; rw [h] at he; cases he
    have HZ := Lib.hid hzz; clear hzz
    have HE2 := Lib.hid hE
    clear hE
    by_cases hp : p = 0
    · subst hp
      have HF := Lib.hid (show formP (b, d.data.toList, 0) = (if b = true then [45] else []) ++ d.data.toList by simp [formP, HZ.out])
      cases b
      · go_enter Tryz.func164, Tryz.ntmps164
        go_wp2
        go_ret
        exact ⟨ret_s (by rw [HF.out]; simp), (Below.refl _ _).alloc (Nat.le_refl _) _⟩
      · go_enter Tryz.func164, Tryz.ntmps164
        go_wp2
        go_ret
        exact ⟨ret_s (by rw [HF.out]; simp), (Below.refl _ _).alloc (Nat.le_refl _) _⟩
    · have hpb : (p != 0) = true := by simp [hp]
      have HF := Lib.hid (show formP (b, d.data.toList, p) = (if b = true then [45] else []) ++ d.data.toList ++ 101 :: Lib.itoa p by simp [formP, HZ.out, hp])
      have hil := itoa_len p h0 h1
      clear hp
      cases b
      · go_enter Tryz.func164, Tryz.ntmps164
        go_wp2_with fail
        refine (Tryz.strconv_Itoa p h0 h1 _ (HE2.out.below ((Below.refl _ _).alloc (Nat.le_refl _) _)).tab).mono ?_
        rintro e w' ⟨rfl, k, os, rfl⟩
        go_wp2
        go_ret
        exact ⟨ret_s (by rw [HF.out]; simp), ((Below.refl _ _).alloc (Nat.le_refl _) _).trans ((below_grow _ _ _).mono (by simp))⟩
      · go_enter Tryz.func164, Tryz.ntmps164
        go_wp2_with fail
        refine (Tryz.strconv_Itoa p h0 h1 _ (HE2.out.below ((Below.refl _ _).alloc (Nat.le_refl _) _)).tab).mono ?_
        rintro e w' ⟨rfl, k, os, rfl⟩
        go_wp2
        go_ret
        exact ⟨ret_s (by rw [HF.out]; simp), ((Below.refl _ _).alloc (Nat.le_refl _) _).trans ((below_grow _ _ _).mono (by simp))⟩

/-- A value as Go has it. -/
def valV (v : Val) : Value := .agg #[.bool v.1, str v.2.1, .int .i64 v.2.2]

theorem may_ascii (l : List UInt8) (h : (may l).2 = true) : ∀ b ∈ unsign l, b.toNat < 128 := by
  obtain ⟨hw, hp, ht, D, E, e, hD, hE⟩ := parts_made l h
  have dl : ∀ (m : List UInt8), digs m → ∀ b ∈ m, b.toNat < 128 := fun m hm b hb => by have := hm b hb; simp [dig] at this; omega
  rw [e]
  intro b hb
  rcases List.mem_append.1 hb with hb | hb
  · rcases List.mem_append.1 hb with hb | hb
    · exact dl _ hw b hb
    · rcases hD with ⟨rfl, _⟩ | rfl
      · simp at hb
      · rcases List.mem_cons.1 hb with rfl | hb
        · decide
        · exact dl _ hp b hb
  · rcases hE with ⟨rfl, _⟩ | ⟨x, hx, rfl⟩
    · simp at hb
    · rcases List.mem_cons.1 hb with rfl | hb
      · simp [isE] at hx; omega
      · rcases ht with h0 | ⟨h1, _⟩
        · rw [h0] at hb; simp at hb
        · cases hp2 : (parts l).2.2.1 with
          | nil => rw [hp2] at hb; simp at hb
          | cons x y =>
            rw [hp2] at hb h1
            by_cases hs : isSign x = true
            · have : unsgn2 (x :: y) = y := by simp [unsgn2, hs]
              rw [this] at h1
              rcases List.mem_cons.1 hb with rfl | hb
              · simp [isSign] at hs; omega
              · exact dl _ h1 b hb
            · have : unsgn2 (x :: y) = x :: y := by simp [unsgn2, hs]
              rw [this] at h1
              exact dl _ h1 b hb
theorem wp_len (l : List UInt8) (h : (may l).2 = true) : (parts l).1.length + (parts l).2.1.length + (parts l).2.2.1.length ≤ l.length := by
  obtain ⟨hw, hp, ht, D, E, e, hD, hE⟩ := parts_made l h
  have h1 : (unsign l).length ≤ l.length := by
    cases l with
    | nil => exact Nat.le_refl _
    | cons c r => simp only [unsign]; split <;> simp
  have h2 := congrArg List.length e
  simp only [List.length_append] at h2
  have h3 : (parts l).2.1.length ≤ D.length := by rcases hD with ⟨rfl, h⟩ | rfl <;> simp [*]
  have h4 : (parts l).2.2.1.length ≤ E.length := by rcases hE with ⟨rfl, h⟩ | ⟨x, _, rfl⟩ <;> simp [*]
  omega
theorem unsign_len (l : List UInt8) : (unsign l).length ≤ l.length := by
  cases l with
  | nil => exact Nat.le_refl _
  | cons c r => simp only [unsign]; split <;> simp
theorem named (l : List UInt8) : ∃ u : ByteArray, u = ⟨l.toArray⟩ ∧ u.size = l.length := ⟨_, rfl, by simp [ByteArray.size]⟩
theorem cut_len (l c : List UInt8) : (Lib.cut l c).1.length ≤ l.length := by
  unfold Lib.cut
  split
  · rw [List.length_take]; omega
  · exact Nat.le_refl _
theorem trim_unsign (l : List UInt8) : Lib.trimPrefix l [45] = unsign l ∧ Lib.hasPrefix l [45] = decide (l.head? = some 45) := by
  cases l with
  | nil => exact ⟨rfl, rfl⟩
  | cons c r =>
    by_cases hc : c = 45
    · subst hc; exact ⟨by simp [Lib.trimPrefix, Lib.hasPrefix, unsign, List.isPrefixOf], by simp [Lib.hasPrefix, List.isPrefixOf]⟩
    · have h2 : ¬ c.toNat = 45 := fun h => hc (UInt8.toNat_inj.1 (by simpa using h))
      have h3 : ¬ (45 : UInt8) = c := fun h => hc h.symm
      exact ⟨by simp [Lib.trimPrefix, Lib.hasPrefix, unsign, List.isPrefixOf, h2, h3], by simp [Lib.hasPrefix, List.isPrefixOf, h3, hc]⟩
def faulty {α : Type} : Lib.NumEnd α → Bool
  | .ok _ => false
  | .range => false
  | _ => true
/-- A tail of digits, with a sign or without, is never faulty. -/
theorem parse_digs : ∀ (l : List UInt8) (acc : Nat), digs l → faulty (Lib.parseUint10 acc l) = false
  | [], acc, _ => by simp [Lib.parseUint10, faulty]
  | c :: r, acc, h => by
    have hc := h c (by simp)
    simp [dig] at hc
    simp only [Lib.parseUint10]
    rw [if_pos hc]
    split
    · rfl
    · split
      · rfl
      · exact parse_digs r _ (fun b hb => h b (by simp [hb]))
theorem atoi_digs (t : List UInt8) (h1 : digs (unsgn2 t)) (h2 : unsgn2 t ≠ []) : faulty (Lib.atoiAll t) = false := by
  cases t with
  | nil => exact absurd rfl h2
  | cons c r =>
    simp only [Lib.atoiAll]
    have e : (if c.toNat = 43 ∨ c.toNat = 45 then r else c :: r) = unsgn2 (c :: r) := by simp [unsgn2, isSign]
    rw [e]
    have hm : faulty (Lib.parseMag (unsgn2 (c :: r))) = false := by
      unfold Lib.parseMag; rw [if_neg h2]; exact parse_digs _ _ h1
    rcases hx : Lib.parseMag (unsgn2 (c :: r)) with u | _ | _
    · simp only []; split <;> (try split) <;> rfl
    · rw [hx] at hm; cases hm
    · rfl

/-- Half way through num's read: the result's block, the value's block. -/
def ReadMid (w w1 wc : World) (sg : Bool) (x : Int) : Prop :=
  Three wc w.heap.size (.bool false) (.string ⟨#[]⟩) (.int .i64 0) ∧ Three wc w1.heap.size (.bool sg) (.string ⟨#[]⟩) (.int .i64 x) ∧ Below w.heap.size w wc
theorem below_then {w w1 w2 : World} (h : Below w.heap.size w w1) (h2 : Below w1.heap.size w1 w2) : Below w.heap.size w w2 := h.trans (h2.mono h.size)
theorem atoi_below {w w' : World} {e : TypeId} (h : w' = w ∨ ∃ t, w' = Lib.bytesWorld w e t) : Below w.heap.size w w' := by
  rcases h with rfl | ⟨t, rfl⟩
  · exact Below.refl _ _
  · exact below_bytesWorld w e t
theorem head45 (T : ByteArray) (h : 0 < T.size) : (T[0].toNat : Int) = 45 ↔ T.data.toList.head? = some 45 := by
  have hl : 0 < T.data.toList.length := by rw [Array.length_toList]; exact h
  rw [List.head?_eq_getElem?, List.getElem?_eq_getElem hl]
  have : T.data.toList[0]'hl = T[0] := rfl
  rw [this]
  constructor
  · intro h; congr 1; exact UInt8.toNat_inj.1 (by show _ = 45; omega)
  · intro h; injection h with h; rw [h]; rfl
def ReadLate (w w1 wc : World) (v : Val) : Prop :=
  Three wc w.heap.size (.bool false) (.string ⟨#[]⟩) (.int .i64 0) ∧ Three wc w1.heap.size (.bool v.1) (.string ⟨v.2.1.toArray⟩) (.int .i64 v.2.2) ∧ Below w.heap.size w wc
def ReadEnd (l : List UInt8) (w : World) (e : Ending) (w' : World) : Prop :=
  e = .returned (.tuple #[valV (readP l).1, .bool (readP l).2]) ∧ Below w.heap.size w w'
set_option maxHeartbeats 6000000 in
set_option maxRecDepth 100000 in
theorem read_any (s : ByteArray) (w : World) (hE : Env w) (hs : s.size ≤ 140737488351232) :
    Calls Tryz.prog 170 #[.string s] w (ReadEnd s.data.toList w) := by
  have HE := Lib.hid hE; clear hE
  have hl : s.data.toList.length = s.size := by rw [Array.length_toList]; rfl
  by_cases hm : (may s.data.toList).2 = true
  · by_cases h30 : s.size ≤ 30
    · have hr := Lib.hid (show readP s.data.toList = _ by unfold readP; rw [if_pos ⟨hm, by rw [hl]; exact h30⟩])
      have hasc := Lib.hid (may_ascii s.data.toList hm)
      obtain ⟨c1, c2, c3⟩ := made_cut (parts_made s.data.toList hm)
      have hmade := parts_made s.data.toList hm
      obtain ⟨t1, t2⟩ := trim_unsign s.data.toList
      have hwp := wp_len s.data.toList hm
      rw [hl] at hwp
      have HMd := Lib.hid hmade
      have C1 := Lib.hid c1; have C2 := Lib.hid c2; have C3 := Lib.hid c3; have T1 := Lib.hid t1; have T2 := Lib.hid t2
      have HM := Lib.hid hm; clear hm hl hmade c1 c2 c3 t1 t2
      go_enter Tryz.func170, Tryz.ntmps170
      go_wp2_with fail
      refine (may_any s _ hs).mono ?_
      rintro e w1 ⟨rfl, hb⟩
      rw [HM.out]
      obtain ⟨hc, hf⟩ := bcell hb
      have hz : w.heap.size < w1.heap.size := by have := hb.size; simp at this; omega
      have R1 := Lib.hid ((three_new w (.bool false) (.string ⟨#[]⟩) (.int .i64 0) 144).below hb)
      have HB1 := Lib.hid (below_after hb); clear hb
      go_wp2_with fail
      refine (Tryz.strings_CutPrefix s ⟨#[45]⟩ _).mono ?_
      rintro e w' ⟨rfl, rfl⟩
      go_wp2_with fail
      rw [T1.out, T2.out]
      obtain ⟨u, hu, hus⟩ := named (unsign s.data.toList)
      rw [← hu]
      have hul := unsign_len s.data.toList
      have hu2 : u.data.toList = unsign s.data.toList := by rw [hu]
      have HU := Lib.hid hu2; clear hu hu2
      have hsl : s.data.toList.length = s.size := by rw [Array.length_toList]; rfl
      refine (Tryz.strings_ToLower_ascii u _ (by omega) (fun j b hb => by rw [HU.out] at hb; exact hasc.out b (List.mem_of_getElem? hb))).mono ?_
      rintro e w2 ⟨rfl, hb⟩
      rw [HU.out]
      obtain ⟨lo, hlo, hlos⟩ := named (Lib.toLowerA (unsign s.data.toList))
      rw [← hlo]
      have hlo2 : lo.data.toList = Lib.toLowerA (unsign s.data.toList) := by rw [hlo]
      have HLo := Lib.hid hlo2; clear hlo hlo2
      have hlo30 : lo.size ≤ 30 := by rw [hlos, Lib.toLowerA, List.length_map]; omega
      have HSL := Lib.hid hsl
      clear hlos hus hul hsl
      obtain ⟨hc2, hf2⟩ := bcell hb
      have hz2 : w1.heap.size < w2.heap.size := by have := hb.size; simp at this; omega
      have V2 := Lib.hid ((three_new w1 _ _ _ 144).below hb)
      have R2 := Lib.hid ((R1.out.alloc _).below hb)
      have HB2 := Lib.hid (below_after hb); clear hb hc hf hc2 hf2 R1
      obtain ⟨vc0, vc1, vc2, vf0, vf1, vf2, vlt⟩ := V2.out
      have HE2 := Lib.hid ((HE.out.below HB1.out).below HB2.out)
      go_wp2_with fail
      obtain ⟨m, hmx⟩ := HE2.out.mx
      refine (Tryz.strings_Cut lo ⟨#[101]⟩ m _ (by omega) hmx).mono ?_
      rintro e w' ⟨rfl, n1, rfl⟩
      rw [HLo.out, C1.out]
      obtain ⟨hd, hhd, hhds⟩ := named (Lib.cut (Lib.toLowerA (unsign s.data.toList)) [101]).1
      rw [← hhd]
      have hhd2 : hd.data.toList = (Lib.cut (Lib.toLowerA (unsign s.data.toList)) [101]).1 := by rw [hhd]
      have HHd := Lib.hid hhd2; clear hhd hhd2
      have hhd30 : hd.size ≤ 30 := by
        rw [hhds]
        have := cut_len (Lib.toLowerA (unsign s.data.toList)) [101]
        rw [← HLo.out] at this ⊢
        have e : lo.data.toList.length = lo.size := by rw [Array.length_toList]; rfl
        omega
      clear hhds
      go_wp2_with fail
      have hmx' : (w2.drewN n1).cell? ⟨0, 0, none⟩ = some (.int .i64 m) := by simp [hmx]
      refine (Tryz.strings_Cut hd ⟨#[46]⟩ m _ (by omega) hmx').mono ?_
      rintro e w' ⟨rfl, n2, rfl⟩
      rw [HHd.out, C2.out, C3.out]
      obtain ⟨W, hW, hWs⟩ := named (parts s.data.toList).1
      obtain ⟨P, hP, hPs⟩ := named (parts s.data.toList).2.1
      obtain ⟨T, hT, hTs⟩ := named (parts s.data.toList).2.2.1
      rw [← hW, ← hP, ← hT]
      have hW2 : W.data.toList = (parts s.data.toList).1 := by rw [hW]
      have hP2 : P.data.toList = (parts s.data.toList).2.1 := by rw [hP]
      have hT2 : T.data.toList = (parts s.data.toList).2.2.1 := by rw [hT]
      have HW := Lib.hid hW2; have HP := Lib.hid hP2; have HT := Lib.hid hT2
      rw [← hWs, ← hPs, ← hTs] at hwp
      have HPs := Lib.hid hPs
      clear hW2 hP2 hT2 hW hP hT hWs hPs hTs hmx hmx'
      have HE3 := Lib.hid ((HE2.out.below (below_drewN w2 n1)).below (below_drewN _ n2))
      go_upto_if 49 with (fail)
      go_cut [7] (fun v7 wc => v7 = .string hd ∧ ReadMid w w1 wc (decide (s.data.toList.head? = some 45)) (expOf (parts s.data.toList).2.2.1))
      case first =>
        by_cases ht : (parts s.data.toList).2.2.1 = []
        · have hte : (!T.toList.isEmpty) = false := by rw [ByteArray.toList_eq, HT.out, ht]; rfl
          have hx := Lib.hid (show expOf (parts s.data.toList).2.2.1 = 0 by rw [ht]; rfl)
          clear ht
          rw [hte]
          go_wp2
          go_meet
          case rel =>
            rw [hx.out]
            exact ⟨rfl, R2.out.drewN _, V2.out.drewN _, below_then (below_then HB1.out HB2.out) (below_drewN _ _)⟩
        · have hte : (!T.toList.isEmpty) = true := by
            rw [ByteArray.toList_eq, HT.out]
            cases h : (parts s.data.toList).2.2.1 with | nil => exact absurd h ht | cons x y => rfl
          have htd := (HMd.out.ht).resolve_left ht
          have hsyn := atoi_digs _ htd.1 htd.2
          clear htd
          rcases hat : Lib.atoiAll (parts s.data.toList).2.2.1 with v | _ | _
          · have hx := Lib.hid (show expOf (parts s.data.toList).2.2.1 = v by simp [expOf, ht, hat])
            have HA := Lib.hid (show Lib.atoiAll T.data.toList = .ok v by rw [HT.out]; exact hat)
            clear hsyn hat ht
            rw [hte]
            go_wp2_with fail
            refine (Tryz.strconv_Atoi_ok T (by omega) v HA.out _).mono ?_
            rintro e w3 ⟨rfl, hw3⟩
            have hb3 := Lib.hid (atoi_below hw3)
            clear hw3
            have V3 := Lib.hid ((V2.out.drewN (n1 + n2)).below hb3.out)
            have R3 := Lib.hid ((R2.out.drewN (n1 + n2)).below hb3.out)
            clear vc0 vc1 vc2 vf0 vf1 vf2
            obtain ⟨vc0, vc1, vc2, vf0, vf1, vf2, vlt3⟩ := V3.out
            go_wp2
            go_meet
            case rel =>
              rw [hx.out]
              have hbb := below_then (below_then (below_then HB1.out HB2.out) (below_drewN _ _)) hb3.out
              exact ⟨rfl, R3.out.far (Nat.ne_of_gt hz) _, V3.out.set2 _, hbb.setCell (Nat.le_of_lt hz) _⟩
          · rw [hat] at hsyn; cases hsyn
          · have hx := Lib.hid (show expOf (parts s.data.toList).2.2.1 = (if (parts s.data.toList).2.2.1.head? = some 45 then -1099511627776 else 1099511627776) by simp [expOf, ht, hat])
            have HA := Lib.hid (show Lib.atoiAll T.data.toList = .range by rw [HT.out]; exact hat)
            clear hsyn hat
            obtain ⟨ev, hev, hev2⟩ := HE3.out.er
            rw [hte]
            go_wp2_with fail
            refine (Tryz.strconv_Atoi_range T (by omega) HA.out ev _ (by simpa using hev) hev2).mono ?_
            rintro e w3 ⟨N, rfl, hN, hNc, hb⟩
            have hb3 := Lib.hid hb; clear hb hN hNc hev hev2
            have V3 := Lib.hid ((V2.out.drewN (n1 + n2)).below hb3.out)
            have R3 := Lib.hid ((R2.out.drewN (n1 + n2)).below hb3.out)
            clear vc0 vc1 vc2 vf0 vf1 vf2
            obtain ⟨vc0, vc1, vc2, vf0, vf1, vf2, vlt3⟩ := V3.out
            have hT0 : 0 < T.size := by
              rcases Nat.eq_zero_or_pos T.size with h | h
              · exfalso; apply ht; rw [← HT.out]; apply List.eq_nil_of_length_eq_zero; rw [Array.length_toList]; exact h
              · exact h
            have hh : (T[0].toNat : Int) = 45 ↔ (parts s.data.toList).2.2.1.head? = some 45 := by
              rw [← HT.out]; exact head45 T hT0
            clear ht
            by_cases h45 : (T[0].toNat : Int) = 45
            · have hx2 := Lib.hid (hx.out.trans (if_pos (hh.1 h45)))
              have b1 : ((T[0].toNat : Int) == 45) = true := beq_iff_eq.2 h45
              clear hh hx h45
              go_wp2
              go_meet
              case rel =>
                rw [hx2.out]
                have hbb := below_then (below_then (below_then HB1.out HB2.out) (below_drewN _ _)) hb3.out
                exact ⟨rfl, R3.out.far (Nat.ne_of_gt hz) _, V3.out.set2 _, hbb.setCell (Nat.le_of_lt hz) _⟩
            · have hx2 := Lib.hid (hx.out.trans (if_neg (fun h => h45 (hh.2 h))))
              have b1 : ((T[0].toNat : Int) == 45) = false := beq_eq_false_iff_ne.2 h45
              clear hh hx h45
              go_wp2
              go_meet
              case rel =>
                rw [hx2.out]
                have hbb := below_then (below_then (below_then HB1.out HB2.out) (below_drewN _ _)) hb3.out
                exact ⟨rfl, R3.out.far (Nat.ne_of_gt hz) _, V3.out.set2 _, hbb.setCell (Nat.le_of_lt hz) _⟩
      case rest =>
      obtain ⟨rfl, hR, hV, hB⟩ := hcut
      generalize expOf (parts s.data.toList).2.2.1 = x at *
      have R4 := Lib.hid hR; have V4 := Lib.hid hV; have B4 := Lib.hid hB
      clear vc0 vc1 vc2 vf0 vf1 vf2 vlt HE3 R2 V2 HB2 HB1 HE2 HHd HLo HU C1 C2 C3 T1 T2 hasc HMd HM hlo30 hhd30 hR hV hB HT hz2
      have hwpl : (W ++ P).data.toList = (parts s.data.toList).1 ++ (parts s.data.toList).2.1 := by rw [ByteArray.data_append, Array.toList_append, HW.out, HP.out]
      have HWP := Lib.hid hwpl; clear hwpl
      go_wp2_with fail
      refine (Tryz.strings_TrimLeft_one (W ++ P) 48 (by decide) _).mono ?_
      rintro e w' ⟨rfl, rfl⟩
      rw [HWP.out]
      obtain ⟨al, hal, hals⟩ := named (Lib.trimLeftB ((parts s.data.toList).1 ++ (parts s.data.toList).2.1) 48)
      rw [← hal]
      have hal2 : al.data.toList = Lib.trimLeftB ((parts s.data.toList).1 ++ (parts s.data.toList).2.1) 48 := by rw [hal]
      have hal30 : al.size ≤ 30 := by
        have h1 : (Lib.trimLeftB ((parts s.data.toList).1 ++ (parts s.data.toList).2.1) 48).length ≤ (W ++ P).data.toList.length := by rw [HWP.out]; exact (List.dropWhile_sublist _).length_le
        have h2 : (W ++ P).data.toList.length = W.size + P.size := by rw [Array.length_toList]; exact ByteArray.size_append
        omega
      have HAl := Lib.hid hal2; have HAs := Lib.hid hals; clear hal2 hal hals
      go_wp2_with fail
      refine (Tryz.strings_TrimRight_one al 48 (by decide) _ (by omega)).mono ?_
      rintro e w' ⟨rfl, rfl⟩
      rw [HAl.out]
      obtain ⟨dg, hdg, hdgs⟩ := named (Lib.trimRightB (Lib.trimLeftB ((parts s.data.toList).1 ++ (parts s.data.toList).2.1) 48) 48)
      rw [← hdg]
      have hdg2 : dg.data.toList = Lib.trimRightB (Lib.trimLeftB ((parts s.data.toList).1 ++ (parts s.data.toList).2.1) 48) 48 := by rw [hdg]
      have hdg30 : dg.size ≤ al.size := by
        rw [hdgs, HAs.out]
        unfold Lib.trimRightB
        rw [List.length_reverse]
        refine Nat.le_trans (List.dropWhile_sublist _).length_le ?_
        rw [List.length_reverse]; exact Nat.le_refl _
      have HDg := Lib.hid hdg2; have HDs := Lib.hid hdgs; clear hdg2 hdg hdgs
      have V5 := Lib.hid (V4.out.set1 (.string dg))
      obtain ⟨vc0, vc1, vc2, vf0, vf1, vf2, vlt⟩ := V4.out
      have hPz : P.size ≤ 30 := by omega
      have hr2 := hr.out
      rw [← HDg.out, ← HAl.out] at hr2
      have e1 : (al.data.toList.length : Int) = al.size := by rw [Array.length_toList]; rfl
      have e2 : (dg.data.toList.length : Int) = dg.size := by rw [Array.length_toList]; rfl
      have e3 : ((parts s.data.toList).2.1.length : Int) = P.size := by rw [HPs.out]
      rw [e1, e2, e3] at hr2
      have HR := Lib.hid hr2; clear hr2 hr e1 e2 e3
      go_upto_if 86 with (fail)
      go_cut [7] (fun v7 wc => v7 = .string hd ∧ ReadLate w w1 wc (readP s.data.toList).1 ∧ Hid ((readP s.data.toList).2 = true))
      case first =>
        by_cases hd0 : dg.data.toList = []
        · have HR2 := Lib.hid (HR.out.trans (if_pos hd0)); clear HR HDg HDs hwp
          have hdb : dg.toList.isEmpty = true := by rw [ByteArray.toList_eq, hd0]; rfl
          clear HAl HAs HWP HW HP HPs hd0
          rw [hdb]
          go_wp2
          go_meet
          case rel =>
            rw [HR2.out]
            refine ⟨rfl, ⟨?_, ?_, ?_⟩, rfl⟩
            · exact (((((R4.out.far (Nat.ne_of_gt hz) _).far (Nat.ne_of_gt hz) _).far (Nat.ne_of_gt hz) _).far (Nat.ne_of_gt hz) _).far (Nat.ne_of_gt hz) _)
            · exact ((((V5.out.set2 _).set0 _).set1 _).set2 _)
            · exact by repeat (first | exact B4.out | refine Below.setCell ?_ (by first | exact Nat.le_refl _ | exact Nat.le_of_lt hz) _)
        · have hdb : dg.toList.isEmpty = false := by rw [ByteArray.toList_eq]; cases h : dg.data.toList with | nil => exact absurd h hd0 | cons x y => rfl
          have HR2 := Lib.hid (HR.out.trans (if_neg hd0)); clear HR hd0 HDg HDs hwp
          clear HAl HAs HWP HW HP HPs
          rw [hdb]
          go_wp2
          go_meet
          case rel =>
            rw [HR2.out]
            refine ⟨rfl, ⟨?_, ?_, ?_⟩, rfl⟩
            · exact ((R4.out.far (Nat.ne_of_gt hz) _).far (Nat.ne_of_gt hz) _)
            · have h := V5.out.set2 (.int .i64 (wrap64 (x + ((al.size : Int) - dg.size - P.size))))
              simpa [mk_of] using h
            · exact by repeat (first | exact B4.out | refine Below.setCell ?_ (by first | exact Nat.le_refl _ | exact Nat.le_of_lt hz) _)
      case rest =>
      obtain ⟨rfl, ⟨hR, hV, hB⟩, HK⟩ := hcut
      clear vc0 vc1 vc2 vf0 vf1 vf2 vlt V5 V4 R4 B4 HR HDg HDs
      obtain ⟨rc0, rc1, rc2, rf0, rf1, rf2, rlt⟩ := hR
      obtain ⟨vc0, vc1, vc2, vf0, vf1, vf2, vlt⟩ := hV
      have B4 := Lib.hid hB; clear hB
      have ne1 : ¬ w.heap.size = w1.heap.size := by omega
      have ne2 : ¬ w1.heap.size = w.heap.size := by omega
      go_wp2_with fail
      refine bodyPost_ret (v := .tuple #[valV (readP s.data.toList).1, .bool true]) ?_ rfl ?_
      · simp [results, Tryz.results170, go_sem, rc0, rc1, rc2, ne1, ne2, rf0, rf1, rf2, vf0, vf1, vf2, vc0, vc1, vc2, valV, str]
      · refine ⟨by rw [HK.out], ?_⟩
        exact by repeat (first | exact B4.out | refine Below.setCell ?_ (by first | exact Nat.le_refl _ | exact Nat.le_of_lt hz) _)
    · have hr := Lib.hid (show readP s.data.toList = (zeroV, false) by unfold readP; rw [if_neg]; rw [hl]; exact fun h => h30 h.2)
      have h30' : 30 < s.size := by omega
      have HM := Lib.hid hm; clear hm hl h30
      go_enter Tryz.func170, Tryz.ntmps170
      go_wp2_with fail
      refine (may_any s _ hs).mono ?_
      rintro e w' ⟨rfl, hb⟩
      rw [HM.out]
      obtain ⟨hc, hf⟩ := bcell hb
      have hz : w.heap.size < w'.heap.size := by have := hb.size; simp at this; omega
      have HB := Lib.hid hb; clear hb
      go_wp2
      refine bodyPost_ret (v := .tuple #[valV zeroV, .bool false]) (by simp [results, Tryz.results170, go_sem, valV, zeroV, str, hc, hz]) rfl ⟨by rw [hr.out], ?_⟩
      exact (((below_after HB.out).setCell (Nat.le_refl _) _).setCell (Nat.le_refl _) _).setCell (Nat.le_refl _) _
  · have hr := Lib.hid (show readP s.data.toList = (zeroV, false) by unfold readP; rw [if_neg]; exact fun h => hm h.1)
    have hmf : (may s.data.toList).2 = false := by simpa using hm
    have HM := Lib.hid hmf; clear hm hl hmf
    go_enter Tryz.func170, Tryz.ntmps170
    go_wp2_with fail
    refine (may_any s _ hs).mono ?_
    rintro e w' ⟨rfl, hb⟩
    rw [HM.out]
    obtain ⟨hc, hf⟩ := bcell hb
    have hz : w.heap.size < w'.heap.size := by have := hb.size; simp at this; omega
    have HB := Lib.hid hb; clear hb
    go_wp2
    refine bodyPost_ret (v := .tuple #[valV zeroV, .bool false]) (by simp [results, Tryz.results170, go_sem, valV, zeroV, str, hc, hz]) rfl ⟨by rw [hr.out], ?_⟩
    exact (((below_after HB.out).setCell (Nat.le_refl _) _).setCell (Nat.le_refl _) _).setCell (Nat.le_refl _) _
end Go.Proofs.YtaolnpiemeaabaaGreatDoor
