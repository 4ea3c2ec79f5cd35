import Derived.Test.YtmniblcooficgaaGreatDoorD28
import Derived.Test.YtmniblcooficgaaGreatDoorD33
import Derived.Test.YtmniblcooficgaaGreatDoorD35
import Derived.Test.YtmniblcooficgaaGreatDoorD36
import Derived.Test.YtmniblcooficgaaGreatDoorD39
import Derived.Test.YtmniblcooficgaaGreatDoorD41
namespace Go.Proofs.YtmniblcooficgaaGreatDoor
open Go.RowKit Ev5
set_option linter.unusedSimpArgs false
set_option linter.unusedVariables false

noncomputable def ofS (s : Int) (n : Nd) : Option (List Int) × Int :=
  if s = 1 then ofP tpB n else if s = 2 then ofP tpA n else if s = 3 then ofP tpO n else if s = 4 then ofP tpS n else if s = 5 then ofP tpD n else if s = 6 then (none, n.wh) else (none, 50)
theorem OfPost.nil {E : Int} {w w' : World} {e : Ending} (h : e = .returned (.tuple #[.slice none 0 0, .int .i64 E]) ∧ Below w.heap.size w w') : OfPost (none, E) w e w' :=
  ⟨h.2, none, 0, 0, h.1, rfl⟩
theorem carryOf_any (s : Int) (n : Nd) (w : World) (S : Nat → Prop) (v : Value) (hE : EnvU w) (hv : NdV w S v n) (hok : n.ok) (hN : n.size ≤ 50000) (hW : n.walk.length ≤ 100000) :
    Calls Tryz.prog 7 #[.int .i64 s, v] w (OfPost (ofS s n) w) := by
  by_cases h1 : s < 1
  · have e : ofS s n = (none, 50) := by unfold ofS; simp [show s ≠ 1 by omega, show s ≠ 2 by omega, show s ≠ 3 by omega, show s ≠ 4 by omega, show s ≠ 5 by omega, show s ≠ 6 by omega]
    rw [e]; exact (carryNoneLo_any s h1 n w S v hv).mono fun _ _ h => OfPost.nil h
  by_cases h6 : 6 < s
  · have e : ofS s n = (none, 50) := by unfold ofS; simp [show s ≠ 1 by omega, show s ≠ 2 by omega, show s ≠ 3 by omega, show s ≠ 4 by omega, show s ≠ 5 by omega, show s ≠ 6 by omega]
    rw [e]; exact (carryNoneHi_any s h1 h6 n w S v hv).mono fun _ _ h => OfPost.nil h
  have hs : s = 1 ∨ s = 2 ∨ s = 3 ∨ s = 4 ∨ s = 5 ∨ s = 6 := by omega
  clear h1 h6
  rcases hs with rfl | rfl | rfl | rfl | rfl | rfl
  · exact carryBrace_any n w S v hE hv hok hN
  · exact carryAngle_any n w S v hE hv hok hN
  · exact carryOutline_any n w S v hE hv hok hN
  · exact carrySections_any n w S v hE hv hok hN
  · exact carryDelim_any n w S v hE hv hok hN
  · exact (carryParen_any n w S v hE hv hok hW).mono fun _ _ h => OfPost.nil h
theorem refOfS_any (s : Int) (n : Nd) (w : World) (S : Nat → Prop) (v : Value) (hE : EnvU w) (hv : NdV w S v n) (hok : n.ok) (hN : n.size ≤ 50000) :
    Calls Tryz.prog 8 #[.int .i64 s, v] w (OfPost (ofS s n) w) := by
  by_cases h1 : s < 1
  · have e : ofS s n = (none, 50) := by unfold ofS; simp [show s ≠ 1 by omega, show s ≠ 2 by omega, show s ≠ 3 by omega, show s ≠ 4 by omega, show s ≠ 5 by omega, show s ≠ 6 by omega]
    rw [e]; exact (refNoneLo_any s h1 n w S v hv).mono fun _ _ h => OfPost.nil h
  by_cases h6 : 6 < s
  · have e : ofS s n = (none, 50) := by unfold ofS; simp [show s ≠ 1 by omega, show s ≠ 2 by omega, show s ≠ 3 by omega, show s ≠ 4 by omega, show s ≠ 5 by omega, show s ≠ 6 by omega]
    rw [e]; exact (refNoneHi_any s h1 h6 n w S v hv).mono fun _ _ h => OfPost.nil h
  have hs : s = 1 ∨ s = 2 ∨ s = 3 ∨ s = 4 ∨ s = 5 ∨ s = 6 := by omega
  clear h1 h6
  rcases hs with rfl | rfl | rfl | rfl | rfl | rfl
  · exact refOfBrace_any n w S v hE hv hok hN
  · exact refOfAngle_any n w S v hE hv hok hN
  · exact refOfOutline_any n w S v hE hv hok hN
  · exact refOfSections_any n w S v hE hv hok hN
  · exact refOfDelim_any n w S v hE hv hok hN
  · exact (refOfParen_any n w S v hE hv hok hN).mono fun _ _ h => OfPost.nil h
theorem ofBoth (n : Nd) (hok : n.ok) (s : Int) : ∃ (q : List Int) (E : Int),
    (∀ (w' : World) (S : Nat → Prop) (v : Value), EnvU w' → NdV w' S v n → n.size ≤ 200 → Calls Tryz.prog 7 #[.int .i64 s, v] w' fun e w2 => Below w'.heap.size w' w2 ∧ ∃ a c, e = .returned (.tuple #[.slice a q.length c, .int .i64 E]) ∧ IntsIn w2 (.slice a q.length c) q) ∧
    (∀ (w' : World) (S : Nat → Prop) (v : Value), EnvU w' → NdV w' S v n → n.size ≤ 200 → Calls Tryz.prog 8 #[.int .i64 s, v] w' fun e w2 => Below w'.heap.size w' w2 ∧ ∃ a c, e = .returned (.tuple #[.slice a q.length c, .int .i64 E]) ∧ IntsIn w2 (.slice a q.length c) q) :=
  ⟨plc (ofS s n), (ofS s n).2, fun w' S v h1 h2 h3 => (carryOf_any s n w' S v h1 h2 hok (by omega) (by have := walk_len n; omega)).mono fun e w2 h => h.to rfl rfl,
    fun w' S v h1 h2 h3 => (refOfS_any s n w' S v h1 h2 hok (by omega)).mono fun e w2 h => h.to rfl rfl⟩
set_option maxRecDepth 100000 in
set_option maxHeartbeats 8000000 in
theorem carryOf_law (s : Int) (v : Value) (n : Nd) (w : World) (hE : EnvU w) (hs0 : (Lit.int .i64 s).wf = true) (h : NdV w (fun b => b < w.heap.size) v n ∧ n.ok ∧ n.size ≤ 1048576) :
    Calls Tryz.prog 3 #[.int .i64 s, v] w fun e w' => e = .returned (.bool true) ∧ Below w.heap.size w w' := by
  obtain ⟨hv, hok, _⟩ := h
  obtain ⟨u, rfl, hs⟩ := hv
  obtain ⟨ao, cap, rfl, hcap, hcm⟩ := hs.shape
  obtain ⟨q, E, hc, hr⟩ := ofBoth n hok s
  have HC := Lib.hid hc; have HR := Lib.hid hr
  have HV := Lib.hid (NdV.mk hs); have HE := Lib.hid hE; have HOK := Lib.hid hok
  have HX1 := Lib.hid (heap_alloc_new w (.cells #[.int .i64 n.k, .string n.t, .string n.v, .slice ao n.kids.length cap] 24))
  have HB1 := Lib.hid (show Below w.heap.size w (w.alloc (.cells #[.int .i64 n.k, .string n.t, .string n.v, .slice ao n.kids.length cap] 24)) from (Below.refl _ _).alloc (Nat.le_refl _) _)
  clear hs hE hok hc hr hs0
  unfold ndV
  go_enter Tryz.func3, Tryz.ntmps3
  go_wp2_with fail
  refine (few15_any n _ _ _ (HV.out.below HB1.out)).mono ?_
  rintro e w2 ⟨rfl, hb⟩
  have HB2 := Lib.hid (bthen HB1.out hb)
  have HX2 := Lib.hid ((hb.block _ (lt_blk HX1.out)).trans HX1.out)
  clear hb
  by_cases hf : 0 ≤ n.few 200 20
  · rw [decide_eq_true hf]
    have HN := Lib.hid (few15_size hf)
    clear hf
    obtain ⟨x0, x1, x2, x3, _, _, _, _, hxl⟩ := nd_cells HX2.out
    go_wp2_with fail
    refine (HC.out _ _ _ (HE.out.below HB2.out) (HV.out.below HB2.out) (by have := HN.out; omega)).mono ?_
    rintro e w3 ⟨hb, a3, c3, rfl, hi3⟩
    have HB3 := Lib.hid (bthen HB2.out hb)
    have HX3 := Lib.hid ((hb.block _ (lt_blk HX2.out)).trans HX2.out)
    have HI3 := Lib.hid hi3
    clear hb hi3 x0 x1 x2 x3 hxl
    obtain ⟨x0, x1, x2, x3, _, _, _, _, hxl⟩ := nd_cells HX3.out
    go_wp2_with fail
    refine (HR.out _ _ _ (HE.out.below HB3.out) (HV.out.below HB3.out) (by have := HN.out; omega)).mono ?_
    rintro e w4 ⟨hb, a4, c4, rfl, hi4⟩
    have HB4 := Lib.hid (bthen HB3.out hb)
    have HX4 := Lib.hid ((hb.block _ (lt_blk HX3.out)).trans HX3.out)
    have HI4 := Lib.hid hi4
    have HJ4 := Lib.hid (HI3.out.below hb)
    clear hb hi4 x0 x1 x2 x3 hxl
    go_wp2_with fail
    refine (same15_any _ _ _ _ _ w4 HJ4.out HI4.out).mono ?_
    rintro e w5 ⟨rfl, hb⟩
    have HB5 := Lib.hid (bthen HB4.out hb)
    have HX5 := Lib.hid ((hb.block _ (lt_blk HX4.out)).trans HX4.out)
    clear hb
    go_wp2_with fail
    refine (lives15_any _ (HE.out.below HB5.out)).mono ?_
    rintro e wl ⟨rfl, hb⟩
    have HBL := Lib.hid (bthen HB5.out hb)
    clear hb
    go_wp2_with fail
    go_ret
    exact ⟨rfl, HBL.out⟩
  · rw [decide_eq_false hf]
    clear hf
    obtain ⟨x0, x1, x2, x3, _, _, _, _, hxl⟩ := nd_cells HX2.out
    go_wp2_with fail
    refine (lives15_any _ (HE.out.below HB2.out)).mono ?_
    rintro e wl ⟨rfl, hb⟩
    have HBL := Lib.hid (bthen HB2.out hb)
    clear hb
    go_wp2_with fail
    go_ret
    exact ⟨rfl, HBL.out⟩
set_option maxRecDepth 100000 in
set_option maxHeartbeats 8000000 in
theorem carryAll_law (v : Value) (n : Nd) (w : World) (hE : EnvU w) (h : NdV w (fun b => b < w.heap.size) v n ∧ n.ok ∧ n.size ≤ 1048576) :
    Calls Tryz.prog 4 #[v] w fun e w' => e = .returned (.bool true) ∧ Below w.heap.size w w' := by
  obtain ⟨hv, hok, _⟩ := h
  obtain ⟨u, rfl, hs⟩ := hv
  obtain ⟨ao, cap, rfl, hcap, hcm⟩ := hs.shape
  have hcr := ofBoth n hok
  have HCR := Lib.hid hcr
  have HV := Lib.hid (NdV.mk hs); have HE := Lib.hid hE; have HOK := Lib.hid hok
  have HX1 := Lib.hid (heap_alloc_new w (.cells #[.int .i64 n.k, .string n.t, .string n.v, .slice ao n.kids.length cap] 24))
  have HB1 := Lib.hid (show Below w.heap.size w (w.alloc (.cells #[.int .i64 n.k, .string n.t, .string n.v, .slice ao n.kids.length cap] 24)) from (Below.refl _ _).alloc (Nat.le_refl _) _)
  clear hs hE hok hcr
  unfold ndV
  go_enter Tryz.func4, Tryz.ntmps4
  go_wp2_with fail
  refine (few15_any n _ _ _ (HV.out.below HB1.out)).mono ?_
  rintro e w2 ⟨rfl, hb⟩
  have HB2 := Lib.hid (bthen HB1.out hb)
  have HX2 := Lib.hid ((hb.block _ (lt_blk HX1.out)).trans HX1.out)
  clear hb
  by_cases hf : 0 ≤ n.few 200 20
  · rw [decide_eq_true hf]
    have HN := Lib.hid (few15_size hf)
    clear hf
    go_wp2_with fail
    go_loopw [4] (fun v4 wr => ∃ i : Nat, 1 ≤ i ∧ i ≤ 7 ∧ v4 = .int .i64 i ∧ Hid (Below w.heap.size w wr) ∧ Hid (wr.heap[w.heap.size]? = some (.cells #[.int .i64 n.k, .string n.t, .string n.v, .slice ao n.kids.length cap] 24 (0, 0)))) (fun v4 _ => 7 - (intOf v4).toNat)
    case atStart => exact ⟨1, by omega, by omega, rfl, HB2.out, HX2.out⟩
    case round =>
      obtain ⟨i, h1, h7, rfl, HBR, HXR⟩ := hrel
      obtain ⟨x0, x1, x2, x3, _, _, _, _, hxl⟩ := nd_cells HXR.out
      by_cases hlt : i ≤ 6
      · have hi0 : (0 : Int) ≤ (i : Int) := Int.natCast_nonneg _
        have hi1 : (i : Int) ≤ 6 := by omega
        obtain ⟨q, E, hc, hr⟩ := HCR.out (i : Int)
        have HC := Lib.hid hc; have HR := Lib.hid hr
        clear hc hr
        go_wp2_with fail
        refine (HC.out _ _ _ (HE.out.below HBR.out) (HV.out.below HBR.out) (by have := HN.out; omega)).mono ?_
        rintro e w3 ⟨hb, a3, c3, rfl, hi3⟩
        have HB3 := Lib.hid (bthen HBR.out hb)
        have HX3 := Lib.hid ((hb.block _ (lt_blk HXR.out)).trans HXR.out)
        have HI3 := Lib.hid hi3
        clear hb hi3 x0 x1 x2 x3 hxl
        obtain ⟨x0, x1, x2, x3, _, _, _, _, hxl⟩ := nd_cells HX3.out
        go_wp2_with fail
        refine (HR.out _ _ _ (HE.out.below HB3.out) (HV.out.below HB3.out) (by have := HN.out; omega)).mono ?_
        rintro e w4 ⟨hb, a4, c4, rfl, hi4⟩
        have HB4 := Lib.hid (bthen HB3.out hb)
        have HX4 := Lib.hid ((hb.block _ (lt_blk HX3.out)).trans HX3.out)
        have HI4 := Lib.hid hi4
        have HJ4 := Lib.hid (HI3.out.below hb)
        clear hb hi4 x0 x1 x2 x3 hxl
        go_wp2_with fail
        refine (same15_any _ _ _ _ _ w4 HJ4.out HI4.out).mono ?_
        rintro e w5 ⟨rfl, hb⟩
        have HB5 := Lib.hid (bthen HB4.out hb)
        have HX5 := Lib.hid ((hb.block _ (lt_blk HX4.out)).trans HX4.out)
        clear hb
        go_wp2_with fail
        go_roundw
        case rel => exact ⟨i + 1, by omega, by omega, by go_num, HB5.out, HX5.out⟩
        case measure => simp [intOf]; omega
      · obtain rfl : i = 7 := by omega
        go_wp2_with fail
        refine (lives15_any _ (HE.out.below HBR.out)).mono ?_
        rintro e wl ⟨rfl, hb⟩
        have HBL := Lib.hid (bthen HBR.out hb)
        clear hb
        go_wp2_with fail
        go_ret
        exact ⟨rfl, HBL.out⟩
  · rw [decide_eq_false hf]
    clear hf
    obtain ⟨x0, x1, x2, x3, _, _, _, _, hxl⟩ := nd_cells HX2.out
    go_wp2_with fail
    refine (lives15_any _ (HE.out.below HB2.out)).mono ?_
    rintro e wl ⟨rfl, hb⟩
    have HBL := Lib.hid (bthen HB2.out hb)
    clear hb
    go_wp2_with fail
    go_ret
    exact ⟨rfl, HBL.out⟩
end Go.Proofs.YtmniblcooficgaaGreatDoor
