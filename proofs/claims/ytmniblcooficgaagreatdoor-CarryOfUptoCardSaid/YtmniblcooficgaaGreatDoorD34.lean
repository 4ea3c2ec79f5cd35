import Derived.Test.YtmniblcooficgaaGreatDoorD26
import Derived.Test.YtmniblcooficgaaGreatDoorD00
import Derived.Test.YtmniblcooficgaaGreatDoorD12
import Derived.Test.YtmniblcooficgaaGreatDoorD06
import Derived.Test.YtmniblcooficgaaGreatDoorD33
namespace Go.Proofs.YtmniblcooficgaaGreatDoor
open Ev5
set_option linter.unusedSimpArgs false
set_option linter.unusedVariables false

theorem idx_gen (R : Nat → Bool) (hbigR : ∀ x, 128 ≤ x → R x = false) (s : ByteArray) : ∀ (f pos : Nat), s.size ≤ pos + f → Lib.validD (s.data.toList.drop pos) = true → (decide (0 ≤ Lib.idxFuncFrom R true s f pos)) = (s.data.toList.drop pos).any (fun b => R b.toNat) := by
  intro f
  induction f with
  | zero =>
    intro pos h _
    rw [List.drop_eq_nil_of_le (by rw [Array.length_toList]; show s.size ≤ pos; omega)]
    rfl
  | succ f ih =>
    intro pos h hv
    by_cases hp : pos < s.size
    · have hl : pos < s.data.toList.length := by rw [Array.length_toList]; exact hp
      have hd := List.drop_eq_getElem_cons hl
      have hne : s.data.toList.drop pos ≠ [] := by rw [hd]; simp
      rw [Lib.validD_step _ hne] at hv
      split at hv
      · cases hv
      rename_i hbad
      unfold Lib.idxFuncFrom
      rw [if_pos hp, ← Lib.decodeL_drop]
      have hN := Lib.decodeL_N (s.data.toList.drop pos)
      have hw := Lib.decodeL_width (s.data.toList.drop pos)
      rw [List.drop_drop] at hv
      have ih := ih (pos + (Lib.decodeL (s.data.toList.drop pos)).2) (by omega) hv
      generalize hl' : s.data.toList.drop pos = l at *
      have hhead : (l.getD 0 0) = s.data.toList[pos] := by rw [hd]; rfl
      have hdd : ∀ k, s.data.toList.drop (pos + k) = l.drop k := by intro k; rw [← hl', List.drop_drop]
      rw [hdd] at ih
      have hcs := Lib.decodeN_cases l.length (l.getD 0 0).toNat (l.getD 1 0).toNat (l.getD 2 0).toNat (l.getD 3 0).toNat
      have hct := Lib.decodeN_conts l.length (l.getD 0 0).toNat (l.getD 1 0).toNat (l.getD 2 0).toNat (l.getD 3 0).toNat
      rw [← hN] at hcs hct
      by_cases ha : (l.getD 0 0).toNat < 128
      · have e : Lib.decodeL l = ((l.getD 0 0).toNat, 1) := by rw [hN]; exact Lib.decodeN_ascii _ _ _ _ _ ha
        rw [e] at ih ⊢
        simp only [] at ih ⊢
        have el : l = l.getD 0 0 :: l.drop 1 := by
          cases l with
          | nil => exact absurd rfl hne
          | cons a b => rfl
        rw [show l.any (fun b => R b.toNat) = (R (l.getD 0 0).toNat || (l.drop 1).any (fun b => R b.toNat)) by conv => { lhs; rw [el] } ; rfl]
        by_cases ho : R (l.getD 0 0).toNat = true
        · rw [if_pos ho]; simp only [ho, Bool.true_or]; exact decide_eq_true (by omega)
        · rw [if_neg ho]; simp only [ho, Bool.false_or]; exact ih
      · have hwl : (Lib.decodeL l).2 ≤ l.length := by
          rcases Nat.lt_or_ge l.length (Lib.decodeL l).2 with h1 | h1
          · have h2 := hct.2.2.2
            have : l.length = 0 ∨ l.length = 1 ∨ l.length = 2 ∨ l.length = 3 := by omega
            have hl0 : 0 < l.length := List.length_pos_iff.2 hne
            rcases this with e | e | e | e
            · omega
            · have := hct.1 (by omega); omega
            · have := hct.2.1 (by omega); omega
            · have := hct.2.2.1 (by omega); omega
          · exact h1
        have hbig : 128 ≤ (Lib.decodeL l).1 := by
          rcases hcs with ⟨h1, _⟩ | ⟨_, _, _, h1, e⟩ | ⟨_, _, _, _, h1, e⟩ | ⟨h1, _⟩ | e
          · omega
          · rw [e]; exact h1
          · rw [e]; simp only []; omega
          · omega
          · rw [e]; decide
        rw [if_neg (by rw [hbigR _ hbig]; simp)]
        rw [ih]
        have hsplit : l = l.take (Lib.decodeL l).2 ++ l.drop (Lib.decodeL l).2 := (List.take_append_drop _ _).symm
        have hfront : (l.take (Lib.decodeL l).2).any (fun b => R b.toNat) = false := by
          rw [List.any_eq_false]
          intro b hb
          rw [List.mem_take_iff_getElem] at hb
          obtain ⟨j, hj, rfl⟩ := hb
          have hj2 : j < l.length := by omega
          have hg : l[j]'(by omega) = l.getD j 0 := by rw [List.getD_eq_getElem?_getD, List.getElem?_eq_getElem hj2]; rfl
          have : 128 ≤ (l.getD j 0).toNat := by
            have hj4 : j < (Lib.decodeL l).2 := by omega
            have h4 := hct.2.2.2
            have : j = 0 ∨ j = 1 ∨ j = 2 ∨ j = 3 := by omega
            rcases this with rfl | rfl | rfl | rfl
            · omega
            · have := hct.1 (by omega); omega
            · have := hct.2.1 (by omega); omega
            · have := hct.2.2.1 (by omega); omega
          have e := hg ▸ (hbigR (l.getD j 0).toNat this)
          rw [hg, hbigR _ this]; simp
        conv => rhs; rw [hsplit]
        rw [List.any_append, hfront, Bool.false_or]
    · unfold Lib.idxFuncFrom
      rw [if_neg hp, List.drop_eq_nil_of_le (by rw [Array.length_toList]; show s.size ≤ pos; omega)]
      rfl

theorem idx_gen0 (R : Nat → Bool) (hbigR : ∀ x, 128 ≤ x → R x = false) (s : ByteArray) (hv : Lib.validD s.data.toList = true) : decide (0 ≤ Lib.idxFunc R true s) = s.data.toList.any (fun b => R b.toNat) := by
  have h := idx_gen R hbigR s s.size 0 (by omega) (by rw [List.drop_zero]; exact hv)
  rw [List.drop_zero] at h
  exact h
end Go.Proofs.YtmniblcooficgaaGreatDoor
namespace Go.Proofs.YtmniblcooficgaaGreatDoor
open Go.Maps Go.MapKept Go.ChangeMaps
set_option linter.unusedSimpArgs false
set_option linter.unusedVariables false

def insU (ks : List (List UInt8)) (s : List UInt8) : List (List UInt8) := if ks.contains s = true then ks else ks ++ [s]
theorem insU_len (ks : List (List UInt8)) (s : List UInt8) : (insU ks s).length ≤ ks.length + 1 := by
  unfold insU
  split
  · omega
  · rw [List.length_append, List.length_singleton]; omega
def SetS (w : World) (P : Program) (k : TypeId) (b n : Nat) (ks : List (List UInt8)) : Prop :=
  ∃ D : DataW Unit, w.ownsMap P k (fun _ => some (.lit (.bool true), [])) b n D ∧ Maps.Tidy D ∧ Maps.size D = ks.length ∧ (∀ s, Maps.has D (.string s) = ks.contains s)
theorem setS_new (w : World) (P : Program) (k : TypeId) : SetS (w.alloc (.map #[] 0)) P k w.heap.size 0 [] :=
  ⟨.map [], World.ownsMap_made _ _ _ _, Maps.tidy_empty, rfl, fun s => rfl⟩
theorem SetS.kept {w w' : World} {P : Program} {k : TypeId} {b n : Nat} {ks : List (List UInt8)} {row : Option Nat} (h : SetS w P k b n ks) (hg : w.grownBy w' row) (hne : some b ≠ row) : SetS w' P k b n ks := by
  obtain ⟨D, h1, h2⟩ := h
  exact ⟨D, h1.kept hg hne, h2⟩
theorem SetS.lt {w : World} {P : Program} {k : TypeId} {b n : Nat} {ks : List (List UInt8)} (h : SetS w P k b n ks) : b < w.heap.size := by
  obtain ⟨D, h1, _⟩ := h
  exact h1.lt
theorem SetS.put {w : World} {P : Program} {k e t : TypeId} {b n : Nat} {ks : List (List UInt8)} (h : SetS w P k b n ks) (K : Keyed P k) (ht : P.underlying t = some (.map k e))
    (hn : n < maxLen) {key val : Value} {s : List UInt8} (hkey : keyOf P k key = some (.string s)) :
    ∃ w', (Instr.mapUpdate t (.map (some b)) key val).run P w = .ok () w' ∧ SetS w' P k b (n + 1) (insU ks s) ∧ w.grownBy w' (some b) := by
  obtain ⟨D, h1, h2, h3, h4⟩ := h
  obtain ⟨w', hrun, hown, hg⟩ := h1.update (val := val) (d := .lit (.bool true)) (ps := []) K ht hn hkey rfl
  refine ⟨w', hrun, ⟨_, hown, h2.put (show WideAt.IsKeyLit (.string s) from trivial) _, ?_, ?_⟩, hg⟩
  · rw [Maps.size_put h2, h4, h3]
    unfold insU
    split
    · rfl
    · rw [List.length_append, List.length_singleton]
  · intro s'
    by_cases e1 : s' = s
    · subst e1
      rw [Maps.has_put_same h2.isMap (show WideAt.IsKeyLit (.string s') from trivial)]
      unfold insU
      split
      · rename_i h; rw [h]
      · simp
    · rw [Maps.has_put_other (fun e2 => e1 (by injection e2)), h4]
      unfold insU
      split
      · rfl
      · simp [e1]
variable {P : Program} {w : World} {ops : Array Oper} {rest : List Oper} {o : Oper} {a : Act} {Q : Exit → Act → World → Prop}
theorem wpList_setS_len (hg : o.guard = none) (m : Operand) (t : TypeId) (hop : o.op = Op.call { callee := Callee.builtin Builtin.len, args := #[m], argTypes := #[t] }) (k e : TypeId) (ht : P.underlying t = some (.map k e))
    (b n : Nat) (ks : List (List UInt8)) (hm : a.eval m = .map (some b)) (hN : SetS w P k b n ks) (hK : wpList P ops Q rest (a.put o.dst (.int .i64 ks.length)) w) : wpList P ops Q (o :: rest) a w := by
  refine wpList_plain hg fun K' hK' => ?_
  obtain ⟨D, h1, h2, h3, h4⟩ := hN
  unfold Oper.wp
  simp [execOp, hop, resolve, invoke, builtin, hm, h1.len ht o.type, h3, Result.andThen]
  exact hK' _ _ hK
end Go.Proofs.YtmniblcooficgaaGreatDoor
namespace Go.Proofs.YtmniblcooficgaaGreatDoor
open Go.RowKit Ev5
set_option linter.unusedSimpArgs false
set_option linter.unusedVariables false

theorem str_of {B : ByteArray} {l : List UInt8} (h : B.data.toList = l) : Value.string B = str l := by subst h; rfl
set_option maxRecDepth 1000000 in
set_option maxHeartbeats 8000000 in
theorem refCutV_any (s : ByteArray) (w : World) (hs : s.size ≤ 1048576) :
    Calls Tryz.prog 122 #[.string s] w fun e w' => e = .returned (cutV s.data.toList) ∧ Below w.heap.size w w' := by
  have hlen : s.data.toList.length = s.size := by rw [Array.length_toList]; rfl
  have HN := Lib.hid hlen; clear hlen
  by_cases h48 : (48 : Int) < (s.size : Int)
  · have HR := Lib.hid (show cutP s.data.toList = ([], [], false) by
      unfold cutP
      rw [HN.out]
      split
      · rw [if_neg (by omega)]
      · rw [if_neg (by omega)])
    go_enter Tryz.func122, Tryz.ntmps122
    go_wp2_with fail
    go_ret3
    exact ⟨by unfold cutV; rw [HR.out]; rfl, Below.refl _ _⟩
  by_cases hp : s.data.toList.head? = some 123
  · obtain ⟨_, _, p3⟩ := pre_yes _ hp
    have P3 := Lib.hid p3; clear p3
    have hpos : 0 < s.size := by
      rcases Nat.eq_zero_or_pos s.size with h | h
      · rw [List.eq_nil_of_length_eq_zero (show s.data.toList.length = 0 by rw [HN.out]; exact h)] at hp; cases hp
      · exact h
    have h123 : (s[0].toNat : Int) = 123 := by
      have e := head_eq s hpos
      rw [e] at hp
      simp at hp
      rw [hp]; rfl
    have hz0 : ((s.size : Int) == 0) = false := beq_eq_false_iff_ne.2 (by omega)
    have hb123 : ((s[0].toNat : Int) != 123) = false := by simp [h123]
    clear h123 hp
    obtain ⟨T, hT⟩ : ∃ T, T = s.data.toList.tail := ⟨_, rfl⟩
    rw [← hT] at P3
    have hTl : T.length + 1 = s.size := by rw [hT, List.length_tail, HN.out]; omega
    have HT := Lib.hid hT; clear hT
    go_enter Tryz.func122, Tryz.ntmps122
    go_wp2_with fail
    go_loop [6] (fun vi => ∃ k : Nat, k + 1 ≤ s.size ∧ vi = .int .i64 ((k : Int) + 1) ∧ Hid (Seek T k)) (fun vi => s.size - (intOf vi).toNat)
    case atStart => exact ⟨0, by omega, rfl, seek_0 T⟩
    case round =>
      obtain ⟨k, hk, rfl, hf⟩ := hrel
      by_cases hkn : k + 1 < s.size
      · have hki : (k : Int) + 1 < (s.size : Int) := by omega
        have hkT : k < T.length := by omega
        have hTk : T[k] = s[k + 1] := by
          rw [List.getElem_of_eq HT.out hkT, List.getElem_tail]; rfl
        have HTK := Lib.hid hTk; clear hTk
        by_cases hc : s[k + 1] = 125
        · have hI := seek_hit T k hkT hf.out (HTK.out.trans hc)
          have hcb : ((s[k + 1].toNat : Int) == 125) = true := by rw [hc]; rfl
          rw [hI] at P3
          have P4 := Lib.hid (show cutP s.data.toList = if (spaceP (T.take k) && localP (T.drop (k + 1))) = true then (T.take k, T.drop (k + 1), true) else ([], [], false) by
            rw [P3.out, HN.out, Int.toNat_natCast]
            cases spaceP (T.take k)
            · rw [if_neg (by simp)]; rfl
            · cases localP (T.drop (k + 1))
              · rw [if_neg (by simp)]; rfl
              · rw [if_pos ⟨by omega, rfl, rfl, by omega⟩]; rfl)
          have hA : (s.extract 1 (k + 1)).data.toList = T.take k := by rw [ext_mid, HT.out, List.drop_one]; rfl
          have hB : (s.extract (k + 1 + 1) s.size).data.toList = T.drop (k + 1) := by rw [ext_drop, HT.out, ← List.drop_one, List.drop_drop, show 1 + (k + 1) = k + 1 + 1 by omega]
          have HA := Lib.hid (refSpace_any (s.extract 1 (k + 1)) w (by rw [ByteArray.size_extract]; omega))
          have HAX := Lib.hid hA; have HBX := Lib.hid hB
          have HBB := Lib.hid (show ∀ W, Calls _ _ _ W _ from fun W => refLocal_any (s.extract (k + 1 + 1) s.size) W (by rw [ByteArray.size_extract]; omega))
          rw [hA] at HA
          rw [hB] at HBB
          clear hI hA hB hf P3 hc
          have hk1 : (0 : Int) ≤ (k : Int) := Int.natCast_nonneg _
          have hk3 : (k : Int) + 1 + 1 ≤ (s.size : Int) := by omega
          go_wp2_with fail
          refine HA.out.mono ?_
          rintro e w2 ⟨rfl, hb⟩
          have HB2 := Lib.hid hb; clear hb
          go_wp2_with fail
          refine (HBB.out _).mono ?_
          rintro e w3 ⟨rfl, hw⟩
          subst hw
          cases hsa : spaceP (T.take k)
          · rw [hsa] at P4
            have P5 := Lib.hid (P4.out.trans (if_neg (by simp)))
            go_wp2_with fail
            go_ret3
            exact ⟨by unfold cutV; rw [P5.out]; rfl, HB2.out⟩
          · rw [hsa] at P4
            cases hsb : localP (T.drop (k + 1))
            · rw [hsb] at P4
              have P5 := Lib.hid (P4.out.trans (if_neg (by simp)))
              go_wp2_with fail
              go_ret3
              exact ⟨by unfold cutV; rw [P5.out]; rfl, HB2.out⟩
            · rw [hsb] at P4
              have P5 := Lib.hid (P4.out.trans (if_pos rfl))
              go_wp2_with fail
              go_region
              all_goals
                go_wp2_with fail
                go_ret3
                exact ⟨by unfold cutV; rw [P5.out]; exact (by rw [str_of HAX.out, str_of HBX.out] : Ending.returned (Value.tuple #[Value.string (s.extract 1 (k + 1)), Value.string (s.extract (k + 1 + 1) s.size), .bool true]) = Ending.returned (Value.tuple #[str (T.take k), str (T.drop (k + 1)), .bool true])), HB2.out.drew⟩
        · have hcb : ((s[k + 1].toNat : Int) == 125) = false := beq_eq_false_iff_ne.2 (fun h => hc (UInt8.toNat_inj.1 (by show s[k + 1].toNat = 125; omega)))
          have HF := Lib.hid (seek_next T k hkT hf.out (fun h => hc (HTK.out.symm.trans h)))
          clear hc hf
          go_wp2_with fail
          go_round
          case rel => exact ⟨k + 1, by omega, by go_num, HF⟩
          case measure => simp [intOf]; omega
      · have HI := Lib.hid (seek_end T k (by omega) hf.out)
        have HR := Lib.hid (show cutP s.data.toList = ([], [], false) by rw [P3.out, if_neg (by rw [HI.out]; omega)])
        have hki : ¬ (k : Int) + 1 < (s.size : Int) := by omega
        clear hf HI P3
        go_wp2_with fail
        go_ret3
        exact ⟨by unfold cutV; rw [HR.out]; rfl, Below.refl _ _⟩
  · obtain ⟨_, _, p3⟩ := pre_no _ hp
    have P3 := Lib.hid p3; clear p3
    have HLo := Lib.hid (refLocal_any s w hs)
    have hfull : cutP s.data.toList = if localP s.data.toList = true then ([], s.data.toList, true) else ([], [], false) := by
      rw [P3.out, HN.out]
      cases localP s.data.toList
      · rw [if_neg (by simp), if_neg (by simp)]
      · rw [if_pos ⟨rfl, by omega⟩, if_pos rfl]
    have HF := Lib.hid hfull; clear hfull P3
    by_cases h0 : s.size = 0
    · clear hp
      cases hl : localP s.data.toList
      · rw [hl] at HLo HF; clear hl
        go_enter Tryz.func122, Tryz.ntmps122
        go_wp2_with fail
        refine HLo.out.mono ?_
        rintro e w1 ⟨rfl, hw⟩
        subst hw
        go_wp2_with fail
        go_ret3
        exact ⟨by unfold cutV; rw [HF.out]; rfl, Below.refl _ _⟩
      · rw [hl] at HLo HF; clear hl
        go_enter Tryz.func122, Tryz.ntmps122
        go_wp2_with fail
        refine HLo.out.mono ?_
        rintro e w1 ⟨rfl, hw⟩
        subst hw
        go_wp2_with fail
        go_ret3
        exact ⟨by unfold cutV; rw [HF.out]; rfl, Below.refl _ _⟩
    · have hpos : 0 < s.size := by omega
      have hz0 : ((s.size : Int) == 0) = false := beq_eq_false_iff_ne.2 (by omega)
      have hb123 : ((s[0].toNat : Int) != 123) = true := by
        simp
        intro h
        apply hp
        have e := head_eq s hpos
        rw [e]
        simp
        exact UInt8.toNat_inj.1 (by have : s[0].toNat = 123 := by omega
                                    rw [this]; rfl)
      clear hp h0
      cases hl : localP s.data.toList
      · rw [hl] at HLo HF; clear hl
        go_enter Tryz.func122, Tryz.ntmps122
        go_wp2_with fail
        refine HLo.out.mono ?_
        rintro e w1 ⟨rfl, hw⟩
        subst hw
        go_wp2_with fail
        go_ret3
        exact ⟨by unfold cutV; rw [HF.out]; rfl, Below.refl _ _⟩
      · rw [hl] at HLo HF; clear hl
        go_enter Tryz.func122, Tryz.ntmps122
        go_wp2_with fail
        refine HLo.out.mono ?_
        rintro e w1 ⟨rfl, hw⟩
        subst hw
        go_wp2_with fail
        go_ret3
        exact ⟨by unfold cutV; rw [HF.out]; rfl, Below.refl _ _⟩
end Go.Proofs.YtmniblcooficgaaGreatDoor
namespace Go.Proofs.YtmniblcooficgaaGreatDoor
open Go.RowKit Ev5
set_option linter.unusedSimpArgs false
set_option linter.unusedVariables false

def spA (t : ByteArray) : List UInt8 := (cutP t.data.toList).1
def bndA (acc : List (List UInt8)) (x : Nd) : List (List UInt8) := if x.k = 11 ∧ spA x.t ≠ [] then insU acc (spA x.t) else acc
def bindA (ks : List Nd) : List (List UInt8) := ks.foldl bndA []
def attA (ks : List Nd) : Nat := (ks.filter fun x => decide (x.k = 11)).length
def oddA (x : Nat) : Bool := decide (x < 32) && (decide (x ≠ 9) && (decide (x ≠ 10) && decide (x ≠ 13)))
def rawB (l : List UInt8) : Bool := !(l.any fun b => oddA b.toNat)
def nsL : List UInt8 := [120, 109, 108, 110, 115]
def outA (way : List Nd) : List UInt8 := match way.getLast? with
  | none => []
  | some u => spA u.t
def needA (n : Nd) (o : List UInt8) : Nat := (bindA n.kids).length + if spA n.t = o then 0 else 1
def tpA (l : List Nd) : Bool := match l.getLast? with
  | none => true
  | some n => if l.dropLast = [] ∧ n.k ≠ 10 then false else if n.k = 4 then rawB n.t.data.toList else if n.k = 11 then decide (n.t.data.toList ≠ nsL) && rawB n.v.data.toList
    else decide (needA n (outA l.dropLast) ≤ 10) && decide (needA n (outA l.dropLast) + attA n.kids ≤ 20)
theorem tpA_last (way : List Nd) (n : Nd) : tpA (way ++ [n]) = if way = [] ∧ n.k ≠ 10 then false else if n.k = 4 then rawB n.t.data.toList else if n.k = 11 then decide (n.t.data.toList ≠ nsL) && rawB n.v.data.toList
    else decide (needA n (outA way) ≤ 10) && decide (needA n (outA way) + attA n.kids ≤ 20) := by
  unfold tpA
  rw [List.getLast?_concat, List.dropLast_concat]
theorem outA_last (way : List Nd) (n : Nd) : outA (way ++ [n]) = spA n.t := by unfold outA; rw [List.getLast?_concat]
theorem bindA_step {ks : List Nd} {i : Nat} (h : i < ks.length) : bindA (ks.take (i + 1)) = bndA (bindA (ks.take i)) ks[i] := by
  unfold bindA
  rw [List.take_add_one, List.getElem?_eq_getElem h, List.foldl_append]; rfl
theorem bindA_all (ks : List Nd) : bindA (ks.take ks.length) = bindA ks := by rw [List.take_length]
theorem attA_step {ks : List Nd} {i : Nat} (h : i < ks.length) : attA (ks.take (i + 1)) = attA (ks.take i) + if ks[i].k = 11 then 1 else 0 := by
  unfold attA
  rw [List.take_add_one, List.getElem?_eq_getElem h, List.filter_append, List.length_append]
  by_cases h1 : ks[i].k = 11
  · rw [if_pos h1]; simp [h1]
  · rw [if_neg h1]; simp [h1]
theorem bndA_len (acc : List (List UInt8)) (x : Nd) : (bndA acc x).length ≤ acc.length + 1 := by
  unfold bndA
  split
  · exact insU_len _ _
  · omega
theorem bindA_len (ks : List Nd) : (bindA ks).length ≤ ks.length := by
  have key : ∀ (ks : List Nd) (acc : List (List UInt8)), (ks.foldl bndA acc).length ≤ acc.length + ks.length := by
    intro ks
    induction ks with
    | nil => intro acc; simp
    | cons x r ih =>
      intro acc
      rw [List.foldl_cons, List.length_cons]
      have h1 := ih (bndA acc x)
      have h2 := bndA_len acc x
      omega
  have h := key ks []
  rw [List.length_nil, Nat.zero_add] at h
  exact h
theorem attA_len (ks : List Nd) : attA ks ≤ ks.length := List.length_filter_le ..
theorem elem_kin {n : Nd} (h : Tf RP n) (h10 : n.k = 10) : ∀ x ∈ n.kids, (x.k = 10 ∨ x.k = 4 ∨ x.k = 11) ∧ (x.k ≠ 10 → x.kids = []) := by
  intro x hx
  have hx1 := h.kid hx
  cases h with
  | mk k t v ks hr ho hk ht =>
    have h10 : k = 10 := h10
    have hx2 := hk x hx
    rw [h10] at hx2
    have hk3 : x.k = 10 ∨ x.k = 4 ∨ x.k = 11 := by
      rcases hx2 with ⟨h1, _⟩ | ⟨h1, _⟩ | ⟨h1, _⟩ | ⟨_, h2⟩
      · omega
      · omega
      · omega
      · exact h2
    refine ⟨hk3, fun hne => ?_⟩
    cases hx1 with
    | mk k' t' v' ks' hr' ho' hk' ht' =>
      have hk4 : k' = 10 ∨ k' = 4 ∨ k' = 11 := hk3
      have hne : k' ≠ 10 := hne
      cases ks' with
      | nil => rfl
      | cons y r =>
        have hy := hk' y (by simp)
        rcases hy with ⟨h1, _⟩ | ⟨h1, _⟩ | ⟨h1, _⟩ | ⟨h1, _⟩ <;> omega
theorem attr_right {n : Nd} (h : Tf RP n) (h11 : n.k = 11) : Lib.validD n.v.data.toList = true := by
  cases h with
  | mk k t v ks hr ho hk ht =>
    have h11 : k = 11 := h11
    subst h11
    unfold RP rightP GoEv.ev at hr
    simp only [] at hr
    rw [if_neg (by omega), if_neg (by omega), if_neg (by omega), if_neg (by omega), if_neg (by omega), if_pos trivial, Bool.and_eq_true] at hr
    have h2 := hr.2
    unfold Ev5.mayP at h2
    simp only [Bool.and_eq_true] at h2
    exact h2.1
theorem text_right {n : Nd} (h : Tf RP n) (h4 : n.k = 4) : Lib.validD n.t.data.toList = true := by
  cases h with
  | mk k t v ks hr ho hk ht =>
    have h4 : k = 4 := h4
    subst h4
    unfold RP rightP GoEv.ev at hr
    simp only [] at hr
    rw [if_neg (by omega), if_neg (by omega), if_neg (by omega), if_pos (.inl trivial), Bool.and_eq_true] at hr
    have h2 := hr.2
    unfold Ev5.mayP at h2
    simp only [Bool.and_eq_true] at h2
    exact h2.1
end Go.Proofs.YtmniblcooficgaaGreatDoor
namespace Go.Proofs.YtmniblcooficgaaGreatDoor
open Go.RowKit Ev5
set_option linter.unusedSimpArgs false
set_option linter.unusedVariables false

theorem oddA_idx (s : ByteArray) (hv : Lib.validD s.data.toList = true) : decide (0 ≤ Lib.idxFunc oddA true s) = !(rawB s.data.toList) := by
  rw [idx_gen0 oddA (fun x hx => by unfold oddA; rw [decide_eq_false (by omega)]; rfl) s hv]
  unfold rawB
  rw [Bool.not_not]
set_option maxRecDepth 1000000 in
set_option maxHeartbeats 2000000 in
theorem oddR_any (x : Nat) (w : World) (hx : x ≤ 1114111) :
    Calls Tryz.prog 86 #[.int .i32 (x : Int)] w fun e w' => e = .returned (.bool (oddA x)) ∧ Below w.heap.size w w' := by
  by_cases h1 : (x : Int) < 32
  · by_cases h9 : x = 9
    · have HO := Lib.hid (show oddA x = false by subst h9; rfl)
      have e1 : ((x : Int) != 9) = false := by simp; omega
      clear h9
      go_enter Tryz.func86, Tryz.ntmps86
      go_wp2_with fail
      go_ret
      exact ⟨by rw [HO.out]; rfl, Below.refl _ _⟩
    · have e1 : ((x : Int) != 9) = true := by simp; omega
      by_cases h10 : x = 10
      · have HO := Lib.hid (show oddA x = false by subst h10; rfl)
        have e2 : ((x : Int) != 10) = false := by simp; omega
        clear h9 h10
        go_enter Tryz.func86, Tryz.ntmps86
        go_wp2_with fail
        go_ret
        exact ⟨by rw [HO.out]; rfl, Below.refl _ _⟩
      · have e2 : ((x : Int) != 10) = true := by simp; omega
        by_cases h13 : x = 13
        · have HO := Lib.hid (show oddA x = false by subst h13; rfl)
          have e3 : ((x : Int) != 13) = false := by simp; omega
          clear h9 h10 h13
          go_enter Tryz.func86, Tryz.ntmps86
          go_wp2_with fail
          go_ret
          exact ⟨by rw [HO.out]; rfl, Below.refl _ _⟩
        · have e3 : ((x : Int) != 13) = true := by simp; omega
          have HO := Lib.hid (show oddA x = true by
            unfold oddA
            rw [decide_eq_true (show x < 32 by omega), decide_eq_true h9, decide_eq_true h10, decide_eq_true h13]; rfl)
          clear h9 h10 h13
          go_enter Tryz.func86, Tryz.ntmps86
          go_wp2_with fail
          go_ret
          exact ⟨by rw [HO.out]; rfl, Below.refl _ _⟩
  · have HO := Lib.hid (show oddA x = false by unfold oddA; rw [decide_eq_false (by omega)]; rfl)
    go_enter Tryz.func86, Tryz.ntmps86
    go_wp2_with fail
    go_ret
    exact ⟨by rw [HO.out]; rfl, Below.refl _ _⟩
theorem oddA_grows (w : World) : PredGrows Tryz.prog 86 #[] oddA w := fun W x hx _ => oddR_any x W hx
theorem enters_oddA : ∀ args w, (callFunc 86 args).run Tryz.prog w = .ok (.enter 86 args) w := enters_of Tryz.func86 (by kernel_rfl) rfl
set_option maxRecDepth 1000000 in
set_option maxHeartbeats 2000000 in
theorem carryOdd_any (s : ByteArray) (w : World) (hv : Lib.validD s.data.toList = true) :
    Calls Tryz.prog 55 #[.string s] w fun e w' => e = .returned (.bool (!(rawB s.data.toList))) ∧ Below w.heap.size w w' := by
  have HD := Lib.hid (oddA_idx s hv)
  clear hv
  go_enter Tryz.func55, Tryz.ntmps55
  go_wp2_with fail
  refine (Tryz.strings_ContainsFunc_grows _ _ enters_oddA oddA s _ (oddA_grows _)).mono ?_
  rintro e w2 ⟨rfl, hb⟩
  rw [HD.out]
  have HB := Lib.hid hb
  clear hb
  obtain ⟨R, hR⟩ : ∃ R, (!(rawB s.data.toList)) = R := ⟨_, rfl⟩
  rw [hR]
  have HR := Lib.hid hR
  clear hR
  go_wp2_with fail
  go_ret
  exact ⟨by rw [HR.out]; rfl, HB.out⟩
set_option maxRecDepth 1000000 in
set_option maxHeartbeats 2000000 in
theorem refSpaceA_any (s : ByteArray) (w : World) (hs : s.size ≤ 1048576) :
    Calls Tryz.prog 93 #[.string s] w fun e w' => e = .returned (str (spA s)) ∧ Below w.heap.size w w' := by
  have HC := Lib.hid (refCutV_any s w hs)
  obtain ⟨A, hA⟩ : ∃ A : ByteArray, str (spA s) = .string A := ⟨_, rfl⟩
  obtain ⟨B, hB⟩ : ∃ B : ByteArray, str (cutP s.data.toList).2.1 = .string B := ⟨_, rfl⟩
  have HV := Lib.hid (show cutV s.data.toList = .tuple #[.string A, .string B, .bool (cutP s.data.toList).2.2] by unfold cutV; rw [hB]; exact hA ▸ rfl)
  have HA := Lib.hid hA
  rw [HV.out] at HC
  clear hA hB
  go_enter Tryz.func93, Tryz.ntmps93
  go_wp2_with fail
  refine HC.out.mono ?_
  rintro e w2 ⟨rfl, hb⟩
  have HB2 := Lib.hid hb
  clear hb
  go_wp2_with fail
  go_ret
  exact ⟨by rw [HA.out]; rfl, HB2.out⟩
theorem raw_no {s : ByteArray} {k : Nat} (h : k < s.size) (ho : oddA s[k].toNat = true) : rawB s.data.toList = false := by
  unfold rawB
  have h2 : (s.data.toList.any fun b => oddA b.toNat) = true := List.any_eq_true.2 ⟨s[k], by
    have hl : k < s.data.toList.length := by rw [Array.length_toList]; exact h
    have e : s.data.toList[k] = s[k] := by simp; rfl
    exact e ▸ List.getElem_mem hl, ho⟩
  rw [h2]; rfl
theorem raw_step {s : ByteArray} {k : Nat} (h : k < s.size) (ho : oddA s[k].toNat = false) (hk : ((s.data.toList.take k).any fun b => oddA b.toNat) = false) : ((s.data.toList.take (k + 1)).any fun b => oddA b.toNat) = false := by
  have hl : k < s.data.toList.length := by rw [Array.length_toList]; exact h
  have e : s.data.toList[k] = s[k] := by simp; rfl
  rw [List.take_add_one, List.getElem?_eq_getElem hl, List.any_append, hk, e]
  simp [ho]
theorem oddA_cases (n : Nat) : (oddA n = false ∧ ¬ n < 32) ∨ (oddA n = false ∧ n = 9) ∨ (oddA n = false ∧ n = 10) ∨ (oddA n = false ∧ n = 13) ∨ (oddA n = true ∧ n < 32 ∧ n ≠ 9 ∧ n ≠ 10 ∧ n ≠ 13) := by
  unfold oddA
  by_cases h1 : n < 32
  · by_cases h9 : n = 9
    · subst h9; exact .inr (.inl ⟨rfl, rfl⟩)
    · by_cases h10 : n = 10
      · subst h10; exact .inr (.inr (.inl ⟨rfl, rfl⟩))
      · by_cases h13 : n = 13
        · subst h13; exact .inr (.inr (.inr (.inl ⟨rfl, rfl⟩)))
        · exact .inr (.inr (.inr (.inr ⟨by rw [decide_eq_true h1, decide_eq_true h9, decide_eq_true h10, decide_eq_true h13]; rfl, h1, h9, h10, h13⟩)))
  · exact .inl ⟨by rw [decide_eq_false h1]; rfl, h1⟩
set_option maxRecDepth 1000000 in
set_option maxHeartbeats 2000000 in
theorem refRaw_any (s : ByteArray) (w : World) (hs : s.size ≤ 1048576) :
    Calls Tryz.prog 92 #[.string s] w fun e w' => e = .returned (.bool (rawB s.data.toList)) ∧ Below w.heap.size w w' := by
  go_enter Tryz.func92, Tryz.ntmps92
  go_wp2_with fail
  go_loop [3] (fun v3 => ∃ k : Nat, k ≤ s.size ∧ v3 = .int .i64 k ∧ Hid (((s.data.toList.take k).any fun b => oddA b.toNat) = false)) (fun v3 => s.size - (intOf v3).toNat)
  case atStart => exact ⟨0, Nat.zero_le _, rfl, rfl⟩
  case round =>
    obtain ⟨k, hk, rfl, hf⟩ := hrel
    by_cases hlt : k < s.size
    · have hi0 : (0 : Int) ≤ (k : Int) := Int.natCast_nonneg _
      have hi1 : (k : Int) < (s.size : Int) := by omega
      rcases oddA_cases s[k].toNat with ⟨ho, h1⟩ | ⟨ho, h1⟩ | ⟨ho, h1⟩ | ⟨ho, h1⟩ | ⟨ho, h1, h2, h3, h4⟩
      · have HST := Lib.hid (raw_step hlt ho hf.out)
        have e0 : decide ((s[k].toNat : Int) < 32) = false := decide_eq_false (by omega)
        clear ho hf
        go_wp2_with fail
        go_round
        case rel => exact ⟨k + 1, by omega, by go_num, HST⟩
        case measure => simp [intOf]; omega
      · have HST := Lib.hid (raw_step hlt ho hf.out)
        have e0 : decide ((s[k].toNat : Int) < 32) = true := decide_eq_true (by omega)
        have e1 : ((s[k].toNat : Int) != 9) = false := by simp; omega
        clear ho hf
        go_wp2_with fail
        go_round
        case rel => exact ⟨k + 1, by omega, by go_num, HST⟩
        case measure => simp [intOf]; omega
      · have HST := Lib.hid (raw_step hlt ho hf.out)
        have e0 : decide ((s[k].toNat : Int) < 32) = true := decide_eq_true (by omega)
        have e1 : ((s[k].toNat : Int) != 9) = true := by simp; omega
        have e2 : ((s[k].toNat : Int) != 10) = false := by simp; omega
        clear ho hf
        go_wp2_with fail
        go_round
        case rel => exact ⟨k + 1, by omega, by go_num, HST⟩
        case measure => simp [intOf]; omega
      · have HST := Lib.hid (raw_step hlt ho hf.out)
        have e0 : decide ((s[k].toNat : Int) < 32) = true := decide_eq_true (by omega)
        have e1 : ((s[k].toNat : Int) != 9) = true := by simp; omega
        have e2 : ((s[k].toNat : Int) != 10) = true := by simp; omega
        have e3 : ((s[k].toNat : Int) != 13) = false := by simp; omega
        clear ho hf
        go_wp2_with fail
        go_round
        case rel => exact ⟨k + 1, by omega, by go_num, HST⟩
        case measure => simp [intOf]; omega
      · have HNO := Lib.hid (raw_no hlt ho)
        have e0 : decide ((s[k].toNat : Int) < 32) = true := decide_eq_true (by omega)
        have e1 : ((s[k].toNat : Int) != 9) = true := by simp; omega
        have e2 : ((s[k].toNat : Int) != 10) = true := by simp; omega
        have e3 : ((s[k].toNat : Int) != 13) = true := by simp; omega
        clear ho hf
        go_wp2_with fail
        go_ret
        exact ⟨by rw [HNO.out]; rfl, Below.refl _ _⟩
    · obtain rfl : k = s.size := by omega
      have hi1 : ¬ ((s.size : Nat) : Int) < (s.size : Int) := by omega
      have HY := Lib.hid (show rawB s.data.toList = true by
        have h := hf.out
        rw [List.take_of_length_le (by rw [Array.length_toList]; exact Nat.le_refl _)] at h
        unfold rawB; rw [h]; rfl)
      clear hf hlt
      go_wp2_with fail
      go_ret
      exact ⟨by rw [HY.out]; rfl, Below.refl _ _⟩
end Go.Proofs.YtmniblcooficgaaGreatDoor
namespace Go.Proofs.YtmniblcooficgaaGreatDoor
open Go.RowKit Ev5
set_option linter.unusedSimpArgs false
set_option linter.unusedVariables false

def ElemAt (x : Nd) (way : List Nd) : Prop := ∀ (W : World) (B X : Nat) (v : Value) (p : List Int) (S : Nat → Prop) (u : Value), (∀ W', Below B W W' → EnvU W') → Lk W B X v p → NdV W S (ndV x u) x → (∀ b, S b → b < B) → B ≤ W.heap.size → p.length + x.size ≤ 100000 →
  Calls Tryz.prog 30 #[.pointer (some ⟨X, 0, none⟩), ndV x u, str (outA way)] W (LkEnd B X v p (firstP tpA way x p) W)
set_option maxRecDepth 100000 in
set_option maxHeartbeats 8000000 in
theorem elemK_any (n k : Nd) (way : List Nd) (hk3 : k.k = 10 ∨ k.k = 4 ∨ k.k = 11) (hkl : k.k ≠ 10 → k.kids = []) (hvt : k.k = 4 → Lib.validD k.t.data.toList = true) (hvv : k.k = 11 → Lib.validD k.v.data.toList = true) (hEl : k.k = 10 → ElemAt k (way ++ [n]))
    (W : World) (lb ob X B : Nat) (v : Value) (p : List Int) (S : Nat → Prop) (u : Value) (i : Int) (hE : ∀ W', Below B W W' → EnvU W')
    (hlb : W.heap[lb]? = some (.cells #[.pointer (some ⟨X, 0, none⟩)] 41 (0, 0))) (hob : W.heap[ob]? = some (.cells #[str (spA n.t)] 9 (0, 0)))
    (hlk : Lk W B X v p) (hv : NdV W S (ndV k u) k) (hSB : ∀ b, S b → b < B) (hB : B ≤ W.heap.size) (hl : p.length + k.size ≤ 100000) :
    Calls Tryz.prog 54 #[.int .i64 i, ndV k u, .pointer (some ⟨lb, 0, none⟩), .pointer (some ⟨ob, 0, none⟩)] W (LkEnd B X v p (firstP tpA (way ++ [n]) k p) W) := by
  obtain ⟨u2, e2, hs⟩ := hv
  obtain rfl : u = u2 := by simpa [ndV] using e2
  clear e2
  obtain ⟨ao, cap, rfl, hcap, hcm⟩ := hs.shape
  obtain ⟨O, hO⟩ : ∃ O : ByteArray, str (spA n.t) = .string O := ⟨_, rfl⟩
  rw [hO] at hob
  obtain ⟨c0, f0⟩ := blk_cell hlb 0 (by simp)
  obtain ⟨c1, f1⟩ := blk_cell hob 0 (by simp)
  have hl0 := lt_blk hlb; have hl1 := lt_blk hob
  have HB := Lib.hid (show Below W.heap.size W (W.alloc (.cells #[.int .i64 k.k, .string k.t, .string k.v, .slice ao k.kids.length cap] 24)) from (Below.refl _ _).alloc (Nat.le_refl _) _)
  have HX := Lib.hid (heap_alloc_new W (.cells #[.int .i64 k.k, .string k.t, .string k.v, .slice ao k.kids.length cap] 24))
  have H := Lib.hid hlk; have HLB := Lib.hid hlb
  have hsz := kids_size k
  have HTP := Lib.hid (tpA_last (way ++ [n]) k)
  have hwn : ¬ (way ++ [n] = [] ∧ k.k ≠ 10) := fun h => by simp at h
  by_cases h10 : k.k = 10
  · have HC := Lib.hid (fun (W' : World) (hb : Below W.heap.size W W') => hEl h10 W' B X v p S (.slice ao k.kids.length cap) (fun W2 h2 => hE _ ((hb.mono hB).trans h2)) (hlk.below hb) (.mk (hs.below hb)) hSB (Nat.le_trans hB hb.size) hl)
    rw [outA_last, hO] at HC
    have hkb : (k.k == 10) = true := by simp [h10]
    clear hlb hob hlk hs hSB hB hE hEl hk3 hkl hvt hvv h10 hwn
    unfold ndV at *
    go_enter Tryz.func54, Tryz.ntmps54
    go_wp2_with fail
    refine (HC.out _ HB.out).mono ?_
    intro e w3 he
    have he2 := he.after HB.out
    cases ho : firstP tpA (way ++ [n]) k p with
    | none =>
      rw [ho] at he2
      obtain ⟨⟨rr, rfl⟩, v', hp⟩ := he2
      have HP := Lib.hid hp
      have HO := Lib.hid ho
      clear hp he
      go_wp2_with fail
      go_end0
      show LkEnd B X v p (firstP tpA (way ++ [n]) k p) W _ _
      rw [HO.out]
      exact ⟨⟨_, rfl⟩, _, HP.out⟩
    | some q =>
      rw [ho] at he2
      obtain ⟨hfar, a, c, rfl, hints⟩ := he2
      have HF2 := Lib.hid hfar; have HI := Lib.hid hints
      have HO := Lib.hid ho
      clear hfar hints he
      go_wp2_with fail
      exact ⟨rfl, HF2.out, a, c, rfl, HI.out⟩
  · have hk0 := hkl h10
    have hkb : (k.k == 10) = false := by simp [h10]
    by_cases h11 : k.k = 11
    · have hkc : (k.k == 11) = true := by simp [h11]
      have hkd : (k.k == 4) = false := by simp [h11]
      have hodd := fun (W' : World) => carryOdd_any k.v W' (hvv h11)
      have HODD := Lib.hid hodd
      by_cases hns : k.t.data.toList = nsL
      · have HR := Lib.hid (show firstP tpA (way ++ [n]) k p = some p from firstP_no (by
          rw [HTP.out, if_neg hwn, if_neg (by omega), if_pos h11, decide_eq_false (by simp [hns])]; rfl))
        have htq : (k.t.toList == [120, 109, 108, 110, 115]) = true := by rw [ByteArray.toList_eq, hns]; rfl
        clear hlb hob hlk hs hSB hB hE hEl hk3 hkl hvt hvv h10 h11 hns hodd hwn hk0
        unfold ndV
        go_enter Tryz.func54, Tryz.ntmps54
        go_wp2_with fail
        refine (fails_any _ B X v p (H.out.below HB.out) (by omega)).mono ?_
        intro e w3 he
        have he2 : LkEnd B X v p (some p) W e w3 := he.after HB.out
        obtain ⟨hfar, a, c, rfl, hints⟩ := he2
        have HF2 := Lib.hid hfar; have HI := Lib.hid hints
        clear hfar hints he
        go_wp2_with fail
        exact ⟨rfl, by rw [HR.out]; exact ⟨HF2.out, a, c, rfl, HI.out⟩⟩
      · have htq : (k.t.toList == [120, 109, 108, 110, 115]) = false := by
          rw [ByteArray.toList_eq, beq_eq_false_iff_ne]; exact hns
        cases hraw : rawB k.v.data.toList
        · rw [hraw] at HODD
          have HR := Lib.hid (show firstP tpA (way ++ [n]) k p = some p from firstP_no (by
            rw [HTP.out, if_neg hwn, if_neg (by omega), if_pos h11, hraw, Bool.and_false]))
          clear hlb hob hlk hs hSB hB hE hEl hk3 hkl hvt hvv h10 h11 hns hodd hraw hwn hk0
          unfold ndV
          go_enter Tryz.func54, Tryz.ntmps54
          go_wp2_with fail
          refine (HODD.out _).mono ?_
          rintro e w2 ⟨rfl, hb⟩
          have HB2 := Lib.hid (bthen HB.out hb)
          have HL2 := Lib.hid ((HB2.out.block _ hl0).trans HLB.out)
          have HX2 := Lib.hid ((hb.block _ (lt_blk HX.out)).trans HX.out)
          clear hb c0 f0 c1 f1
          obtain ⟨c0, f0⟩ := blk_cell HL2.out 0 (by simp)
          have hl2 := lt_blk HL2.out
          obtain ⟨x0, x1, x2, x3, _, _, _, _, hxl⟩ := nd_cells HX2.out
          go_wp2_with fail
          refine (fails_any _ B X v p (H.out.below HB2.out) (by omega)).mono ?_
          intro e w3 he
          have he2 : LkEnd B X v p (some p) W e w3 := he.after HB2.out
          obtain ⟨hfar, a, c, rfl, hints⟩ := he2
          have HF2 := Lib.hid hfar; have HI := Lib.hid hints
          clear hfar hints he
          go_wp2_with fail
          exact ⟨rfl, by rw [HR.out]; exact ⟨HF2.out, a, c, rfl, HI.out⟩⟩
        · rw [hraw] at HODD
          have HR := Lib.hid (show firstP tpA (way ++ [n]) k p = none from firstP_leaf (by
            rw [HTP.out, if_neg hwn, if_neg (by omega), if_pos h11, hraw, decide_eq_true hns]; rfl) hk0)
          clear hlb hob hlk hs hSB hB hE hEl hk3 hkl hvt hvv h10 h11 hns hodd hraw hwn hk0
          unfold ndV
          go_enter Tryz.func54, Tryz.ntmps54
          go_wp2_with fail
          refine (HODD.out _).mono ?_
          rintro e w2 ⟨rfl, hb⟩
          have HB2 := Lib.hid (bthen HB.out hb)
          have HL2 := Lib.hid ((HB2.out.block _ hl0).trans HLB.out)
          have HX2 := Lib.hid ((hb.block _ (lt_blk HX.out)).trans HX.out)
          clear hb c0 f0 c1 f1
          obtain ⟨c0, f0⟩ := blk_cell HL2.out 0 (by simp)
          have hl2 := lt_blk HL2.out
          obtain ⟨x0, x1, x2, x3, _, _, _, _, hxl⟩ := nd_cells HX2.out
          go_wp2_with fail
          go_end0
          show LkEnd B X v p (firstP tpA (way ++ [n]) k p) W _ _
          rw [HR.out]
          exact ⟨⟨_, rfl⟩, _, LkPost.of H.out HB2.out⟩
    · have h4 : k.k = 4 := by omega
      have hkc : (k.k == 11) = false := by simp [h11]
      have hkd : (k.k == 4) = true := by simp [h4]
      have hodd := fun (W' : World) => carryOdd_any k.t W' (hvt h4)
      have HODD := Lib.hid hodd
      cases hraw : rawB k.t.data.toList
      · rw [hraw] at HODD
        have HR := Lib.hid (show firstP tpA (way ++ [n]) k p = some p from firstP_no (by
          rw [HTP.out, if_neg hwn, if_pos h4, hraw]))
        clear hlb hob hlk hs hSB hB hE hEl hk3 hkl hvt hvv h10 h11 h4 hodd hraw hwn hk0
        unfold ndV
        go_enter Tryz.func54, Tryz.ntmps54
        go_wp2_with fail
        refine (HODD.out _).mono ?_
        rintro e w2 ⟨rfl, hb⟩
        have HB2 := Lib.hid (bthen HB.out hb)
        have HL2 := Lib.hid ((HB2.out.block _ hl0).trans HLB.out)
        have HX2 := Lib.hid ((hb.block _ (lt_blk HX.out)).trans HX.out)
        clear hb c0 f0 c1 f1
        obtain ⟨c0, f0⟩ := blk_cell HL2.out 0 (by simp)
        have hl2 := lt_blk HL2.out
        obtain ⟨x0, x1, x2, x3, _, _, _, _, hxl⟩ := nd_cells HX2.out
        go_wp2_with fail
        refine (fails_any _ B X v p (H.out.below HB2.out) (by omega)).mono ?_
        intro e w3 he
        have he2 : LkEnd B X v p (some p) W e w3 := he.after HB2.out
        obtain ⟨hfar, a, c, rfl, hints⟩ := he2
        have HF2 := Lib.hid hfar; have HI := Lib.hid hints
        clear hfar hints he
        go_wp2_with fail
        exact ⟨rfl, by rw [HR.out]; exact ⟨HF2.out, a, c, rfl, HI.out⟩⟩
      · rw [hraw] at HODD
        have HR := Lib.hid (show firstP tpA (way ++ [n]) k p = none from firstP_leaf (by
          rw [HTP.out, if_neg hwn, if_pos h4, hraw]) hk0)
        clear hlb hob hlk hs hSB hB hE hEl hk3 hkl hvt hvv h10 h11 h4 hodd hraw hwn hk0
        unfold ndV
        go_enter Tryz.func54, Tryz.ntmps54
        go_wp2_with fail
        refine (HODD.out _).mono ?_
        rintro e w2 ⟨rfl, hb⟩
        have HB2 := Lib.hid (bthen HB.out hb)
        have HL2 := Lib.hid ((HB2.out.block _ hl0).trans HLB.out)
        have HX2 := Lib.hid ((hb.block _ (lt_blk HX.out)).trans HX.out)
        clear hb c0 f0 c1 f1
        obtain ⟨c0, f0⟩ := blk_cell HL2.out 0 (by simp)
        have hl2 := lt_blk HL2.out
        obtain ⟨x0, x1, x2, x3, _, _, _, _, hxl⟩ := nd_cells HX2.out
        go_wp2_with fail
        go_end0
        show LkEnd B X v p (firstP tpA (way ++ [n]) k p) W _ _
        rw [HR.out]
        exact ⟨⟨_, rfl⟩, _, LkPost.of H.out HB2.out⟩
end Go.Proofs.YtmniblcooficgaaGreatDoor
