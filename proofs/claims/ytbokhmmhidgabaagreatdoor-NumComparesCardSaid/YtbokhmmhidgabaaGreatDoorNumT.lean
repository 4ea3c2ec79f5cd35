/- The walks of num's sized and Compare. -/
import Derived.Test.YtbokhmmhidgabaaGreatDoorNumS
import Derived.WalkLawsBesides
namespace Go.Proofs.YtbokhmmhidgabaaGreatDoor
open Go.RowKit Num2
set_option linter.unusedSimpArgs false
set_option linter.unusedVariables false

theorem isE_nil (d : ByteArray) (h : d.data.toList = []) : d.toList.isEmpty = true := by rw [ByteArray.toList_eq, h]; rfl
theorem isE_cons (d : ByteArray) (h : ¬ d.data.toList = []) : d.toList.isEmpty = false := by rw [ByteArray.toList_eq]; cases h2 : d.data.toList with | nil => exact absurd h2 h | cons x y => rfl
theorem len_sz (d : ByteArray) : (d.data.toList.length : Int) = d.size := by rw [Array.length_toList]; rfl

theorem len30 {d : ByteArray} (h : d.size ≤ 30) : d.data.toList.length ≤ 30 := by rw [Array.length_toList]; exact h

set_option maxHeartbeats 1000000 in
theorem sized_any (b : Bool) (d : ByteArray) (p : Int) (b' : Bool) (d' : ByteArray) (p' : Int) (w : World) (hd : d.size ≤ 30) (hd' : d'.size ≤ 30) (h0 : -999 ≤ p) (h1 : p ≤ 999) (h0' : -999 ≤ p') (h1' : p' ≤ 999) :
    Calls Tryz.prog 15 #[.agg #[.bool b, .string d, .int .i64 p], .agg #[.bool b', .string d', .int .i64 p']] w fun e w' => e = .returned (.int .i64 (sizedP (b, d.data.toList, p) (b', d'.data.toList, p'))) ∧ Below w.heap.size w w' := by
  have e1 := Lib.hid (len_sz d)
  have e2 := Lib.hid (len_sz d')
  have bel : Below w.heap.size w ((w.alloc (.cells #[.bool b, .string d, .int .i64 p] 31)).alloc (.cells #[.bool b', .string d', .int .i64 p'] 31)) := ((Below.refl _ _).alloc (Nat.le_refl _) _).alloc (by simp) _
  have BB := Lib.hid bel; clear bel
  by_cases hz : d.data.toList = []
  · have HS := Lib.hid (show sizedP (b, d.data.toList, p) (b', d'.data.toList, p') = (d.size : Int) - d'.size by unfold sizedP; rw [if_pos (.inl hz), ← e1.out, ← e2.out])
    have q1 := isE_nil d hz
    clear hz
    go_enter Tryz.func15, Tryz.ntmps15
    go_wp2_with fail
    go_ret
    exact ⟨by rw [HS.out]; rfl, BB.out⟩
  by_cases hz' : d'.data.toList = []
  · have HS := Lib.hid (show sizedP (b, d.data.toList, p) (b', d'.data.toList, p') = (d.size : Int) - d'.size by unfold sizedP; rw [if_pos (.inr hz'), ← e1.out, ← e2.out])
    have q1 := isE_cons d hz
    have q2 := isE_nil d' hz'
    clear hz hz'
    go_enter Tryz.func15, Tryz.ntmps15
    go_wp2_with fail
    go_ret
    exact ⟨by rw [HS.out]; rfl, BB.out⟩
  have q1 := isE_cons d hz
  have q2 := isE_cons d' hz'
  have HS := Lib.hid (show sizedP (b, d.data.toList, p) (b', d'.data.toList, p') = if (d.size : Int) + p ≠ d'.size + p' then (d.size : Int) + p - d'.size - p' else Lib.compareBytes d.data.toList d'.data.toList by
    unfold sizedP; rw [if_neg (by simp [hz, hz']), ← e1.out, ← e2.out])
  clear hz hz'
  by_cases hc : (d.size : Int) + p = d'.size + p'
  · have HS2 := Lib.hid (HS.out.trans (if_neg (by simpa using hc)))
    have q3 : ((d.size : Int) + p != d'.size + p') = false := by simp [hc]
    clear hc HS
    go_enter Tryz.func15, Tryz.ntmps15
    go_wp2_with fail
    refine (Tryz.strings_Compare d d' _).mono ?_
    rintro e w' ⟨rfl, rfl⟩
    go_wp2_with fail
    go_ret
    exact ⟨by rw [HS2.out]; rfl, BB.out⟩
  · have HS2 := Lib.hid (HS.out.trans (if_pos hc))
    have q3 : ((d.size : Int) + p != d'.size + p') = true := by simp [hc]
    clear hc HS
    go_enter Tryz.func15, Tryz.ntmps15
    go_wp2_with fail
    go_ret
    exact ⟨by rw [HS2.out]; rfl, BB.out⟩

theorem sizedP_bd (x y : Val) (hx : x.2.1.length ≤ 30) (hy : y.2.1.length ≤ 30) (h0 : -999 ≤ x.2.2) (h1 : x.2.2 ≤ 999) (h0' : -999 ≤ y.2.2) (h1' : y.2.2 ≤ 999) : -5000 ≤ sizedP x y ∧ sizedP x y ≤ 5000 := by
  unfold sizedP
  split
  · omega
  · split
    · omega
    · have : ∀ a b : List UInt8, -1 ≤ Lib.compareBytes a b ∧ Lib.compareBytes a b ≤ 1 := by
        intro a
        induction a with
        | nil => intro b; cases b <;> simp [Lib.compareBytes]
        | cons x y ih => intro b; cases b with
          | nil => simp [Lib.compareBytes]
          | cons u v => simp only [Lib.compareBytes]; split; omega; split; omega; exact ih v
      have := this x.2.1 y.2.1
      omega

set_option maxHeartbeats 2000000 in
theorem compare_any (s t : ByteArray) (w : World) (hE : Env w) (hs : s.size ≤ 140737488351232) (ht : t.size ≤ 140737488351232) :
    Calls Tryz.prog 8 #[.string s, .string t] w fun e w' => e = .returned (.tuple #[.int .i64 (compareP s.data.toList t.data.toList).1, .int .i64 (compareP s.data.toList t.data.toList).2]) ∧ Below w.heap.size w w' := by
  have HE := Lib.hid hE; clear hE
  go_enter Tryz.func8, Tryz.ntmps8
  go_wp2_with fail
  refine (mayn_any s _ HE.out hs).mono ?_
  rintro e w1 ⟨b, d, p, en, rfl, hm, hd, hp0, hp1, hb⟩
  have HM := Lib.hid hm; clear hm
  have V1 := Lib.hid (three_new w1 (.bool b) (.string d) (.int .i64 p) 31)
  have hbel : Below w.heap.size w (w1.alloc (.cells #[.bool b, .string d, .int .i64 p] 31)) := hb.alloc hb.size _
  have HB1 := Lib.hid hbel; clear hb hbel
  go_wp2_with fail
  refine (mayn_any t _ (HE.out.below HB1.out) ht).mono ?_
  rintro e w2 ⟨b', d', p', en', rfl, hm, hd', hp0', hp1', hb⟩
  have HM' := Lib.hid hm; clear hm
  have V2 := Lib.hid ((V1.out.below hb))
  obtain ⟨vc0, vc1, vc2, vf0, vf1, vf2, vlt⟩ := V2.out
  have hbel : Below w.heap.size w (w2.alloc (.cells #[.bool b', .string d', .int .i64 p'] 31)) := (below_then HB1.out hb).alloc (below_then HB1.out hb).size _
  have HB2 := Lib.hid hbel; clear hb hbel V1
  by_cases h0 : en = 0
  · by_cases h0' : en' = 0
    · subst h0; subst h0'
      have HC := Lib.hid (show compareP s.data.toList t.data.toList = (compareV (b, d.data.toList, p) (b', d'.data.toList, p'), 0) by
        unfold compareP; rw [HM.out, HM'.out, if_pos ⟨rfl, rfl⟩])
      have bd := sizedP_bd (b, d.data.toList, p) (b', d'.data.toList, p') (len30 hd) (len30 hd') hp0 hp1 hp0' hp1'
      have bd' := sizedP_bd (b', d'.data.toList, p') (b, d.data.toList, p) (len30 hd') (len30 hd) hp0' hp1' hp0 hp1
      cases b <;> cases b'
      · have HC2 := Lib.hid (HC.out.trans (show _ = (max (-1) (min 1 (sizedP (false, d.data.toList, p) (false, d'.data.toList, p'))), (0 : Int)) by simp [compareV, clamp] <;> decide)); clear HC
        go_wp2_with fail
        refine (sized_any false d p false d' p' _ hd hd' hp0 hp1 hp0' hp1').mono ?_
        rintro e w3 ⟨rfl, hb⟩
        have HB3 := Lib.hid (below_then HB2.out hb); clear hb
        generalize hx : sizedP (false, d.data.toList, p) (false, d'.data.toList, p') = x at *
        have HX := Lib.hid hx; clear hx
        go_wp2_with fail
        go_ret2
        exact ⟨by rw [HC2.out]; rfl, HB3.out⟩
      · have HC2 := Lib.hid (HC.out.trans (show _ = ((1 : Int), (0 : Int)) by simp [compareV, clamp] <;> decide)); clear HC
        go_wp2_with fail
        go_ret2
        exact ⟨by rw [HC2.out]; rfl, HB2.out⟩
      · have HC2 := Lib.hid (HC.out.trans (show _ = ((-1 : Int), (0 : Int)) by simp [compareV, clamp] <;> decide)); clear HC
        go_wp2_with fail
        go_ret2
        exact ⟨by rw [HC2.out]; rfl, HB2.out⟩
      · have HC2 := Lib.hid (HC.out.trans (show _ = (max (-1) (min 1 (sizedP (true, d'.data.toList, p') (true, d.data.toList, p))), (0 : Int)) by simp [compareV, clamp] <;> decide)); clear HC
        go_wp2_with fail
        refine (sized_any true d' p' true d p _ hd' hd hp0' hp1' hp0 hp1).mono ?_
        rintro e w3 ⟨rfl, hb⟩
        have HB3 := Lib.hid (below_then HB2.out hb); clear hb
        generalize hx : sizedP (true, d'.data.toList, p') (true, d.data.toList, p) = x at *
        have HX := Lib.hid hx; clear hx
        go_wp2_with fail
        go_ret2
        exact ⟨by rw [HC2.out]; rfl, HB3.out⟩
    · have HC := Lib.hid (show compareP s.data.toList t.data.toList = (0, 8) by unfold compareP; rw [HM.out, HM'.out, if_neg (fun h => h0' h.2)])
      have q1 : (en != 0) = false := by simp [h0]
      have q2 : (en' != 0) = true := by simp [h0']
      clear h0 h0'
      go_wp2_with fail
      go_ret2
      exact ⟨by rw [HC.out]; rfl, HB2.out⟩
  · have HC := Lib.hid (show compareP s.data.toList t.data.toList = (0, 8) by unfold compareP; rw [HM.out, HM'.out, if_neg (fun h => h0 h.1)])
    have q1 : (en != 0) = true := by simp [h0]
    clear h0
    go_wp2_with fail
    go_ret2
    exact ⟨by rw [HC.out]; rfl, HB2.out⟩

theorem lives_read : normP [45, 48, 46, 53, 48] = ([45, 53, 101, 45, 49], 0) := by decide +kernel
theorem lives_may : may [49, 101, 53] = (true, true) := by decide
theorem lives_cmp : compareP [49, 101, 50] [57, 57, 46, 57] = (1, 0) := by decide +kernel
set_option maxHeartbeats 1000000 in
theorem lives_any (w : World) (hE : Env w) :
    Calls Tryz.prog 7 #[] w fun e w' => e = .returned (.bool true) ∧ Below w.heap.size w w' := by
  have HE := Lib.hid hE; clear hE
  go_enter Tryz.func7, Tryz.ntmps7
  go_wp2_with fail
  refine (read2_any _ _ HE.out (by decide)).mono ?_
  rintro e w1 ⟨rfl, hb⟩
  have HB1 := Lib.hid hb; clear hb
  rw [show (⟨#[45, 48, 46, 53, 48]⟩ : ByteArray).data.toList = [45, 48, 46, 53, 48] from rfl, lives_read]
  go_wp2_with fail
  refine (may_any _ _ (by decide)).mono ?_
  rintro e w2 ⟨rfl, hb⟩
  have HB2 := Lib.hid (below_then HB1.out hb); clear hb
  rw [show (⟨#[49, 101, 53]⟩ : ByteArray).data.toList = [49, 101, 53] from rfl, lives_may]
  go_wp2_with fail
  refine (compare_any _ _ _ (HE.out.below HB2.out) (by decide) (by decide)).mono ?_
  rintro e w3 ⟨rfl, hb⟩
  have HB3 := Lib.hid (below_then HB2.out hb); clear hb
  rw [show (⟨#[49, 101, 50]⟩ : ByteArray).data.toList = [49, 101, 50] from rfl, show (⟨#[57, 57, 46, 57]⟩ : ByteArray).data.toList = [57, 57, 46, 57] from rfl, lives_cmp]
  go_wp2_with fail
  go_ret
  exact ⟨rfl, HB3.out⟩

end Go.Proofs.YtbokhmmhidgabaaGreatDoor
