/- The walks of a Check's value, stands, and of named. -/
import Derived.Test.YtaolnpiemeaabaaGreatDoorEvM
import Derived.WalkSpells
import Derived.Deep.DeepCutAuto
import Derived.Deep.CutBlock
namespace Go.Proofs.YtaolnpiemeaabaaGreatDoor
open Go.RowKit Ev5 Go.Maps Go.WideMaps Go.MapKept Go.ChangeMaps
set_option linter.unusedSimpArgs false
set_option linter.unusedVariables false

theorem isE_text (t : ByteArray) : t.data.toList.isEmpty = t.toList.isEmpty := by rw [ByteArray.toList_eq]

set_option maxHeartbeats 2000000 in
theorem value_any (w : World) {base c : Nat} {v : Value} {ps : List (Nat × Nat)} {st : St} (h : Chk w base c v ps st) (h6 : ps.length ≤ 6) (x : GoEv) :
    Calls Tryz.prog 119 #[.pointer (some ⟨c, 0, none⟩), evV x] w fun e w' => e = .returned (.bool (valueP st x.ev)) ∧ Below w.heap.size w w' := by
  obtain ⟨xk, xt, xv⟩ := x
  have hb0 : Below w.heap.size w (w.alloc (.cells (evC ⟨xk, xt, xv⟩) 84)) := (Below.refl _ _).alloc (Nat.le_refl _) _
  have H1 := h.below hb0
  have hx0 : (w.alloc (.cells (evC ⟨xk, xt, xv⟩) 84)).heap[w.heap.size]? = some (.cells (evC ⟨xk, xt, xv⟩) 84 (0, 0)) := heap_alloc_new w _
  clear h
  have HB0 := Lib.hid hb0; clear hb0
  have HX0 := Lib.hid hx0; clear hx0
  have HH := Lib.hid H1; clear H1
  unfold evV
  go_enter Tryz.func119, Tryz.ntmps119
  go_wp2_with fail
  refine (last_any _ HH.out h6).mono ?_
  rintro e w2 ⟨rfl, hb⟩
  have HX := (hb.block _ (lt_blk HX0.out)).trans HX0.out
  have H2 := HH.out.below hb
  have HB := Lib.hid (below_after hb)
  clear hb HB0 HX0 HH
  obtain ⟨x0, x1, x2, x3⟩ := ev_cells HX
  clear HX
  obtain ⟨k0, k1, k2, k3, k4⟩ := check_cells H2.blk
  obtain ⟨opn, ov⟩ := st
  have ho := H2.opens
  clear H2
  cases ps with
  | nil =>
    cases opn with
    | cons o os => exact ho.elim
    | nil =>
      unfold headPtr
      go_wp2
      go_ret
      exact ⟨rfl, HB.out⟩
  | cons p r =>
    cases opn with
    | nil => exact ho.elim
    | cons l os =>
      have oc := open_cells ho.1
      clear ho
      obtain ⟨o0, o1, o2, o3, o4, f0, f1, f2, f3, f4, olt⟩ := oc
      obtain ⟨lk, lkey, ltext, lfull, lhad⟩ := l
      unfold headPtr pV
      by_cases e7 : lk = 7
      · subst e7
        go_wp2
        go_ret
        exact ⟨by simp [valueP], HB.out⟩
      by_cases e10 : lk = 10
      · subst e10
        by_cases c10 : xk = 10
        · subst c10
          go_wp2
          go_ret
          exact ⟨by simp [valueP, GoEv.ev], HB.out⟩
        have b10 : (xk == 10) = false := by simp [c10]
        by_cases c4 : xk = 4
        · subst c4
          have he' : xt.data.toList.isEmpty = xt.toList.isEmpty := isE_text xt
          have HE' := Lib.hid he'; clear he'
          cases he : xt.toList.isEmpty
          · cases ltext
            · go_wp2
              go_ret
              exact ⟨by simp only [valueP, GoEv.ev]; rw [HE'.out, he]; rfl, HB.out⟩
            · go_wp2
              go_ret
              exact ⟨by simp only [valueP, GoEv.ev]; rw [HE'.out, he]; rfl, HB.out⟩
          · go_wp2
            go_ret
            exact ⟨by simp only [valueP, GoEv.ev]; rw [HE'.out, he]; rfl, HB.out⟩
        · have b4 : (xk == 4) = false := by simp [c4]
          go_wp2
          go_ret
          exact ⟨by simp [valueP, GoEv.ev, c4, c10], HB.out⟩
      · have b7 : (lk == 7) = false := by simp [e7]
        have b10 : (lk == 10) = false := by simp [e10]
        go_wp2
        go_ret
        exact ⟨by simp [valueP, e7, e10], HB.out⟩

theorem heap_set2 {w : World} {b i : Nat} {cs : Array Value} {t : TypeId} {v : Value} (h : w.heap[b]? = some (.cells cs t (0, 0))) : (w.setCell ⟨b, i, none⟩ v).heap[b]? = some (.cells (cs.setIfInBounds i v) t (0, 0)) := by
  simpa using heap_setCell_same w b i cs t v h

set_option maxHeartbeats 2000000 in
theorem stands_any (w : World) {base c : Nat} {v : Value} {ps : List (Nat × Nat)} {st : St} (h : Chk w base c v ps st) (h6 : ps.length ≤ 6) (x : GoEv) :
    Calls Tryz.prog 120 #[.pointer (some ⟨c, 0, none⟩), evV x] w fun e w' => e = .returned (.tuple #[]) ∧ Chk w' base c v ps (standsP st x.ev) ∧ Mv base w w' := by
  obtain ⟨xk, xt, xv⟩ := x
  have hb0 : Below w.heap.size w (w.alloc (.cells (evC ⟨xk, xt, xv⟩) 84)) := (Below.refl _ _).alloc (Nat.le_refl _) _
  have H1 := h.below hb0
  have hx0 : (w.alloc (.cells (evC ⟨xk, xt, xv⟩) 84)).heap[w.heap.size]? = some (.cells (evC ⟨xk, xt, xv⟩) 84 (0, 0)) := heap_alloc_new w _
  have hbase := Lib.hid h.base_le
  clear h
  have HB0 := Lib.hid hb0; clear hb0
  have HX0 := Lib.hid hx0; clear hx0
  have HH := Lib.hid H1; clear H1
  unfold evV
  go_enter Tryz.func120, Tryz.ntmps120
  go_wp2_with fail
  refine (last_any _ HH.out h6).mono ?_
  rintro e w2 ⟨rfl, hb⟩
  have HX := (hb.block _ (lt_blk HX0.out)).trans HX0.out
  have H2 := HH.out.below hb
  have HB := Lib.hid (Mv.of (below_after hb) hbase.out)
  clear hb HB0 HX0 HH hbase
  obtain ⟨x0, x1, x2, x3⟩ := ev_cells HX
  clear HX
  obtain ⟨k0, k1, k2, k3, k4⟩ := check_cells H2.blk
  obtain ⟨opn, ov⟩ := st
  have ho := H2.opens
  have HK := Lib.hid H2
  clear H2
  cases ps with
  | nil =>
    cases opn with
    | cons o os => exact ho.elim
    | nil =>
      unfold headPtr
      go_wp2
      go_end0
      have R := Chk.own (st' := ⟨[], true⟩) HK.out (grown_set w2 c 1 (.bool true)) (heap_set2 HK.out.blk) HK.out.row HK.out.opens
      exact ⟨rfl, R.1, HB.out.trans R.2⟩
  | cons p r =>
    cases opn with
    | nil => exact ho.elim
    | cons l os =>
      have oc := open_cells ho.1
      clear ho
      obtain ⟨o0, o1, o2, o3, o4, f0, f1, f2, f3, f4, olt⟩ := oc
      obtain ⟨lk, lkey, ltext, lfull, lhad⟩ := l
      unfold headPtr pV
      go_wp2
      go_region
      all_goals (try go_wp2)
      all_goals go_end0
      all_goals
        have R := Chk.head (l' := ⟨lk, false, xk == 4, true, lhad⟩) HK.out (grown_drew (grown_trans (grown_trans (grown_set w2 p.1 1 (.bool false)) (grown_set _ p.1 3 (.bool true))) (grown_set _ p.1 2 (.bool (xk == 4)))))
          (show (((w2.setCell _ _).setCell _ _).setCell _ _).heap[p.1]? = _ from heap_set2 (heap_set2 (heap_set2 HK.out.opens.1))) rfl
        exact ⟨rfl, R.1, HB.out.trans R.2⟩

theorem text_key (t : ByteArray) (h : t.size ≤ maxLen) : keyOf Tryz.prog 9 (.string t) = some (.string t.data.toList) := keyOf_string_mk Tryz.underlying9 h
theorem boolZ (w : World) : (zeroValue 4).run Tryz.prog w = .ok (.bool false) w := by kernel_rfl

theorem namedP_6 {l : Ev5.Op} {x : Ev} (h : l.had.contains x.text = true) : namedP l x = (l, 6) := by unfold namedP; rw [if_pos h]
theorem namedP_7 {l : Ev5.Op} {x : Ev} (h : l.had.contains x.text = false) (h10 : 10 ≤ l.had.length) : namedP l x = (l, 7) := by unfold namedP; rw [if_neg (by rw [h]; simp), if_pos h10]
theorem namedP_0 {l : Ev5.Op} {x : Ev} (h : l.had.contains x.text = false) (h10 : ¬ 10 ≤ l.had.length) : namedP l x = ({ l with had := l.had ++ [x.text], key := decide (x.kind = 8) }, 0) := by unfold namedP; rw [if_neg (by rw [h]; simp), if_neg h10]

set_option maxHeartbeats 2000000 in
theorem named_any (w : World) {base c : Nat} {v : Value} {p : Nat × Nat} {r : List (Nat × Nat)} {l : Ev5.Op} {os : List Ev5.Op} {ov : Bool} (h : Chk w base c v (p :: r) ⟨l :: os, ov⟩) (x : GoEv) (ht : x.t.size ≤ 140737488351232) :
    Calls Tryz.prog 121 #[.pointer (some ⟨p.1, 0, none⟩), evV x] w fun e w' => e = .returned (.int .i64 (namedP l x.ev).2) ∧ Chk w' base c v (p :: r) ⟨(namedP l x.ev).1 :: os, ov⟩ ∧ Mv base w w' := by
  obtain ⟨xk, xt, xv⟩ := x
  have hb0 : Below w.heap.size w (w.alloc (.cells (evC ⟨xk, xt, xv⟩) 84)) := (Below.refl _ _).alloc (Nat.le_refl _) _
  have H1 := h.below hb0
  have hx0 : (w.alloc (.cells (evC ⟨xk, xt, xv⟩) 84)).heap[w.heap.size]? = some (.cells (evC ⟨xk, xt, xv⟩) 84 (0, 0)) := heap_alloc_new w _
  have HB := Lib.hid (Mv.of hb0 h.base_le)
  clear h hb0
  have hkey := text_key xt (by unfold maxLen; simp only [] at ht; omega)
  have HK := Lib.hid H1
  have ho := H1.opens
  clear H1
  unfold evV
  go_enter Tryz.func121, Tryz.ntmps121
  go_upto_region 1 with (fail)
  have hx0' : (w.alloc (.cells #[.int .i64 xk, .string xt, .string xv] 84)).heap[w.heap.size]? = some (.cells (evC ⟨xk, xt, xv⟩) 84 (0, 0)) := hx0
  have HB' : RowKit.Hid (Mv base w (w.alloc (.cells #[.int .i64 xk, .string xt, .string xv] 84))) := HB
  have HK' : RowKit.Hid (Chk (w.alloc (.cells #[.int .i64 xk, .string xt, .string xv] 84)) base c v (p :: r) ⟨l :: os, ov⟩) := HK
  have ho' : Opens (w.alloc (.cells #[.int .i64 xk, .string xt, .string xv] 84)) base (p :: r) (l :: os) := ho
  clear hx0 HB HK ho
  generalize w.alloc (.cells #[.int .i64 xk, .string xt, .string xv] 84) = w1 at *
  generalize w.heap.size = bx at *
  have HX0 := Lib.hid hx0'
  obtain ⟨x0, x1, x2, x3⟩ := ev_cells hx0'
  clear hx0'
  have oc := open_cells ho'.1
  have hN := ho'.2.1
  clear ho'
  obtain ⟨o0, o1, o2, o3, o4, f0, f1, f2, f3, f4, olt⟩ := oc
  obtain ⟨lk, lkey, ltext, lfull, lhad⟩ := l
  have hND : Names w1.drew Tryz.prog 9 4 p.2 lhad := hN.same rfl
  have hND2 : Names w1.drew.drew Tryz.prog 9 4 p.2 lhad := hN.same rfl
  have hlook := hND.look (t := 120) (string_keyed Tryz.underlying9) Tryz.underlying120 Tryz.underlying4 (boolZ _) hkey
  have HN := Lib.hid hND; have HN2 := Lib.hid hND2; clear hN hND hND2
  have HKey := Lib.hid hkey; clear hkey
  cases hc : lhad.contains xt.data.toList
  · rw [hc] at hlook
    have HC := Lib.hid hc; clear hc
    go_region
    by_cases h10 : (10 : Int) ≤ lhad.length
    · go_wp2_with (first | (at_len; refine wpList_names_len (by rfl) _ _ (by rfl) _ _ Tryz.underlying120 p.2 lhad (by rfl) HN.out ?_))
      go_ret
      have hnm : namedP ⟨lk, lkey, ltext, lfull, lhad⟩ (GoEv.ev ⟨xk, xt, xv⟩) = (⟨lk, lkey, ltext, lfull, lhad⟩, 7) := namedP_7 HC.out (by simp only []; omega)
      rw [hnm]
      exact ⟨rfl, HK'.out.below (Below.refl _ _).drew, HB'.out.trans (Mv.of (Below.refl _ _).drew HK'.out.base_le)⟩
    · have h10' : ¬ 10 ≤ lhad.length := by omega
      obtain ⟨w2, hrun, hN2, hg2⟩ := HN2.out.put (t := 120) (string_keyed Tryz.underlying9) Tryz.underlying120 Tryz.underlying4 (by unfold maxLen; omega) HKey.out HC.out
      have R := Chk.named (HK'.out.below (((Below.refl _ w1).drew).drew)) hg2 hN2
      have hx2 := R.2.keep bx _ (show w1.drew.drew.heap[bx]? = _ from HX0.out) (by simp [mine])
      obtain ⟨y0, y1, y2, y3⟩ := ev_cells hx2
      obtain ⟨q0, q1, q2, q3, q4, g0, g1, g2, g3, g4, qlt⟩ := open_cells R.1.opens.1
      have HR := Lib.hid R; clear R hx2 hN2 hg2
      have hnm : namedP ⟨lk, lkey, ltext, lfull, lhad⟩ (GoEv.ev ⟨xk, xt, xv⟩) = (⟨lk, xk == 8, ltext, lfull, lhad ++ [xt.data.toList]⟩, 0) := namedP_0 HC.out h10'
      have HNM := Lib.hid hnm; clear hnm
      go_wp2_with (first | (at_len; refine wpList_names_len (by rfl) _ _ (by rfl) _ _ Tryz.underlying120 p.2 lhad (by rfl) HN.out ?_))
      go_region
      go_wp2
      go_ret
      rw [HNM.out]
      have R2 := Chk.head (l' := ⟨lk, xk == 8, ltext, lfull, lhad ++ [xt.data.toList]⟩) HR.out.1 (grown_set w2 p.1 1 (.bool (xk == 8))) (heap_set2 HR.out.1.opens.1) rfl
      exact ⟨rfl, R2.1, (HB'.out.trans (Mv.of (((Below.refl _ w1).drew).drew) HK'.out.base_le)).trans (HR.out.2.trans R2.2)⟩
  · rw [hc] at hlook
    have HC := Lib.hid hc; clear hc
    go_region
    go_wp2
    go_ret
    have hnm : namedP ⟨lk, lkey, ltext, lfull, lhad⟩ (GoEv.ev ⟨xk, xt, xv⟩) = (⟨lk, lkey, ltext, lfull, lhad⟩, 6) := namedP_6 HC.out
    rw [hnm]
    exact ⟨rfl, HK'.out.below (Below.refl _ _).drew, HB'.out.trans (Mv.of (Below.refl _ _).drew HK'.out.base_le)⟩
end Go.Proofs.YtaolnpiemeaabaaGreatDoor
