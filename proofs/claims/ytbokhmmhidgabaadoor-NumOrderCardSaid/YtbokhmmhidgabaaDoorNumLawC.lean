/- The walk of the law NumOrder. -/
import Derived.Test.YtbokhmmhidgabaaDoorNumT
import Derived.Test.YtbokhmmhidgabaaDoorNumO
namespace Go.Proofs.YtbokhmmhidgabaaDoor
open Go.RowKit Num2
set_option linter.unusedSimpArgs false
set_option linter.unusedVariables false

theorem compareP_ok {a b : List UInt8} (ha : (mayP a).2 = 0) (hb : (mayP b).2 = 0) : compareP a b = (compareV (mayP a).1 (mayP b).1, 0) := by
  unfold compareP; rw [if_pos ⟨ha, hb⟩]
theorem compareP_no {a b : List UInt8} (h : ¬ ((mayP a).2 = 0 ∧ (mayP b).2 = 0)) : compareP a b = (0, 8) := by
  unfold compareP; rw [if_neg h]

set_option maxHeartbeats 4000000 in
set_option maxRecDepth 100000 in
theorem numOrder_walk (a b c : ByteArray) (w : World) (hE : Env w) (hsa : a.size ≤ 140737488351232) (hsb : b.size ≤ 140737488351232) (hsc : c.size ≤ 140737488351232) :
    Calls Tryd.prog 6 #[.string a, .string b, .string c] w fun e w' => e = .returned (.bool true) ∧ Below w.heap.size w w' := by
  have HE := Lib.hid hE; clear hE
  go_enter Tryd.func6, Tryd.ntmps6
  go_wp2_with fail
  refine (compare_any a b _ HE.out hsa hsb).mono ?_
  rintro e w1 ⟨rfl, hb⟩
  have HB1 := Lib.hid hb; clear hb
  go_wp2_with fail
  refine (compare_any b c _ (HE.out.below HB1.out) hsb hsc).mono ?_
  rintro e w2 ⟨rfl, hb⟩
  have HB2 := Lib.hid (below_then HB1.out hb); clear hb
  go_wp2_with fail
  refine (compare_any a c _ (HE.out.below HB2.out) hsa hsc).mono ?_
  rintro e w3 ⟨rfl, hb⟩
  have HB3 := Lib.hid (below_then HB2.out hb); clear hb
  by_cases ha : (mayP a.data.toList).2 = 0
  · by_cases hb : (mayP b.data.toList).2 = 0
    · by_cases hc : (mayP c.data.toList).2 = 0
      · obtain ⟨o1, o2, o3, o4, o5, o6⟩ := order_law _ _ _ ha hb hc
        rw [compareP_ok ha hb, compareP_ok hb hc, compareP_ok ha hc]
        have e1 := Lib.hid ((compareP_ok hb ha).trans (by rw [o1]))
        have e2 := Lib.hid ((compareP_ok ha ha).trans (by rw [o2]))
        have n1 := Lib.hid (norm_ok ha)
        have n2 := Lib.hid (norm_ok hb)
        clear o1 o2 ha hb hc
        generalize compareV (mayP a.data.toList).1 (mayP b.data.toList).1 = x at *
        generalize compareV (mayP b.data.toList).1 (mayP c.data.toList).1 = y at *
        generalize compareV (mayP a.data.toList).1 (mayP c.data.toList).1 = z at *
        have O4 := Lib.hid o4; have O3 := Lib.hid o3
        clear o3 o4
        go_wp2_with fail
        refine (compare_any b a _ (HE.out.below HB3.out) hsb hsa).mono ?_
        rintro e w4 ⟨rfl, hb⟩
        have HB4 := Lib.hid (below_then HB3.out hb); clear hb
        rw [e1.out]
        go_wp2_with fail
        refine (compare_any a a _ (HE.out.below HB4.out) hsa hsa).mono ?_
        rintro e w5 ⟨rfl, hb⟩
        have HB5 := Lib.hid (below_then HB4.out hb); clear hb
        rw [e2.out]
        go_wp2_with fail
        refine (read2_any a _ (HE.out.below HB5.out) hsa).mono ?_
        rintro e w6 ⟨rfl, hb⟩
        have HB6 := Lib.hid (below_then HB5.out hb); clear hb
        rw [n1.out]
        go_wp2_with fail
        refine (read2_any b _ (HE.out.below HB6.out) hsb).mono ?_
        rintro e w7 ⟨rfl, hb⟩
        have HB7 := Lib.hid (below_then HB6.out hb); clear hb
        rw [n2.out]
        obtain ⟨p, hp, zp⟩ := named (formP (mayP a.data.toList).1)
        obtain ⟨q, hq, zq⟩ := named (formP (mayP b.data.toList).1)
        have e3 : (⟨(formP (mayP a.data.toList).1).toArray⟩ : ByteArray) = p := hp.symm
        have e4 : (⟨(formP (mayP b.data.toList).1).toArray⟩ : ByteArray) = q := hq.symm
        simp only [] at e3 e4 ⊢
        rw [e3, e4]
        have hpq : (p.toList == q.toList) = (x == 0) := by
          rw [ByteArray.toList_eq, ByteArray.toList_eq, hp, hq, Bool.eq_iff_iff]
          simp only [beq_iff_eq]
          rw [mk_list, mk_list]
          exact O4.out.symm
        clear e3 e4 hp hq zp zq n1 n2 e1 e2
        have HPQ := Lib.hid hpq; clear hpq
        cases hx : (x == 0)
        · have hpq2 := HPQ.out.trans hx
          clear HPQ
          by_cases q1 : 0 < x
          · clear O3 O4
            go_wp2_with fail
            refine (lives_any _ (HE.out.below HB7.out)).mono ?_
            rintro e w8 ⟨rfl, hb⟩
            have HB8 := Lib.hid (below_then HB7.out hb); clear hb
            go_wp2_with fail
            go_ret
            exact ⟨rfl, HB8.out⟩
          · by_cases q2 : 0 < y
            · clear O3 O4
              go_wp2_with fail
              refine (lives_any _ (HE.out.below HB7.out)).mono ?_
              rintro e w8 ⟨rfl, hb⟩
              have HB8 := Lib.hid (below_then HB7.out hb); clear hb
              go_wp2_with fail
              go_ret
              exact ⟨rfl, HB8.out⟩
            · have q3 : z ≤ 0 := by rcases O3.out with h | h | h <;> omega
              clear O3 O4
              go_wp2_with fail
              refine (lives_any _ (HE.out.below HB7.out)).mono ?_
              rintro e w8 ⟨rfl, hb⟩
              have HB8 := Lib.hid (below_then HB7.out hb); clear hb
              go_wp2_with fail
              go_ret
              exact ⟨rfl, HB8.out⟩
        · have hpq2 := HPQ.out.trans hx
          clear HPQ
          have hx0 : x = 0 := by simpa using hx
          have HX0 := Lib.hid hx0; clear hx0
          by_cases q1 : 0 < x
          · have := HX0.out; omega
          · by_cases q2 : 0 < y
            · clear O3 O4
              go_wp2_with fail
              refine (lives_any _ (HE.out.below HB7.out)).mono ?_
              rintro e w8 ⟨rfl, hb⟩
              have HB8 := Lib.hid (below_then HB7.out hb); clear hb
              go_wp2_with fail
              go_ret
              exact ⟨rfl, HB8.out⟩
            · have q3 : z ≤ 0 := by rcases O3.out with h | h | h <;> omega
              clear O3 O4
              go_wp2_with fail
              refine (lives_any _ (HE.out.below HB7.out)).mono ?_
              rintro e w8 ⟨rfl, hb⟩
              have HB8 := Lib.hid (below_then HB7.out hb); clear hb
              go_wp2_with fail
              go_ret
              exact ⟨rfl, HB8.out⟩
      · rw [compareP_ok ha hb, compareP_no (a := b.data.toList) (b := c.data.toList) (fun h => hc h.2)]
        generalize compareP a.data.toList c.data.toList = g
        obtain ⟨g1, g2⟩ := g
        clear ha hb hc
        go_wp2_with fail
        refine (lives_any _ (HE.out.below HB3.out)).mono ?_
        rintro e w8 ⟨rfl, hb⟩
        have HB8 := Lib.hid (below_then HB3.out hb); clear hb
        go_wp2_with fail
        go_ret
        exact ⟨rfl, HB8.out⟩
    · rw [compareP_no (a := a.data.toList) (b := b.data.toList) (fun h => hb h.2)]
      generalize compareP a.data.toList c.data.toList = g
      generalize compareP b.data.toList c.data.toList = g'
      obtain ⟨g1, g2⟩ := g
      obtain ⟨g1', g2'⟩ := g'
      clear ha hb
      go_wp2_with fail
      refine (lives_any _ (HE.out.below HB3.out)).mono ?_
      rintro e w8 ⟨rfl, hb⟩
      have HB8 := Lib.hid (below_then HB3.out hb); clear hb
      go_wp2_with fail
      go_ret
      exact ⟨rfl, HB8.out⟩
  · rw [compareP_no (a := a.data.toList) (b := b.data.toList) (fun h => ha h.1)]
    generalize compareP a.data.toList c.data.toList = g
    generalize compareP b.data.toList c.data.toList = g'
    obtain ⟨g1, g2⟩ := g
    obtain ⟨g1', g2'⟩ := g'
    clear ha
    go_wp2_with fail
    refine (lives_any _ (HE.out.below HB3.out)).mono ?_
    rintro e w8 ⟨rfl, hb⟩
    have HB8 := Lib.hid (below_then HB3.out hb); clear hb
    go_wp2_with fail
    go_ret
    exact ⟨rfl, HB8.out⟩
end Go.Proofs.YtbokhmmhidgabaaDoor
