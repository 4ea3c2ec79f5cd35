/- Step under what is known of the library's tables; a row of events in memory; lives. -/
import Derived.Test.YtinjhglmakfmkaaGreatDoorEvS
import Derived.Test.YtinjhglmakfmkaaGreatDoorEvY
namespace Go.Proofs.YtinjhglmakfmkaaGreatDoor
open Go.RowKit Ev5
set_option linter.unusedSimpArgs false
set_option linter.unusedVariables false

def RP : Ev → Bool := rightP Num2.normP
/-- An event whose kind is an int's and whose texts are no longer than the bound. -/
structure EvOK (x : GoEv) : Prop where
  k : (Lit.int .i64 x.k).wf = true
  t : x.t.size ≤ 1048576
  v : x.v.size ≤ 1048576
theorem go_step (w : World) {base c : Nat} {v : Value} {ps : List (Nat × Nat)} {st : St} (hE : EnvU w) (h : Chk w base c v ps st) (h6 : st.opn.length ≤ 6) (x : GoEv) (hx : EvOK x) :
    Calls Tryz.prog 15 #[.pointer (some ⟨c, 0, none⟩), evV x] w fun e w' => e = .returned (.int .i64 (stepP RP st x.ev).2) ∧ (∃ v' ps', Chk w' base c v' ps' (stepP RP st x.ev).1) ∧ Mv base w w' :=
  cstep_any RP w h h6 x (by have := hx.t; omega) hx.k fun W hb => right_any x W (hE.below hb) hx.t hx.v

/-- A row of events in memory. -/
structure EvIn (w : World) (v : Value) (l : List GoEv) : Prop where
  ex : ∃ (ao : Option Addr) (cap : Nat), v = .slice ao l.length cap ∧ l.length ≤ cap ∧ cap ≤ maxLen ∧
    ∀ (i : Nat) (h : i < l.length), ∃ b o, ao = some ⟨b, o, none⟩ ∧ w.cell? ⟨b, o + i * 3, none⟩ = some (.int .i64 l[i].k) ∧ w.cell? ⟨b, o + i * 3 + 1, none⟩ = some (.string l[i].t) ∧ w.cell? ⟨b, o + i * 3 + 2, none⟩ = some (.string l[i].v)
  ok : ∀ x ∈ l, EvOK x
  len : l.length ≤ 1048576
theorem EvIn.below {w w' : World} {v : Value} {l : List GoEv} (h : EvIn w v l) (hb : Below w.heap.size w w') : EvIn w' v l := by
  obtain ⟨ao, cap, h1, h2, h3, h4⟩ := h.ex
  refine ⟨⟨ao, cap, h1, h2, h3, fun i hi => ?_⟩, h.ok, h.len⟩
  obtain ⟨b, o, e, c0, c1, c2⟩ := h4 i hi
  have hl := cell_lt c0
  exact ⟨b, o, e, by rw [hb.cell (p := ⟨b, o + i * 3, none⟩) hl]; exact c0, by rw [hb.cell (p := ⟨b, o + i * 3 + 1, none⟩) hl]; exact c1, by rw [hb.cell (p := ⟨b, o + i * 3 + 2, none⟩) hl]; exact c2⟩

theorem lives1 : stepP RP St.new ⟨5, [], []⟩ = (⟨[⟨5, false, false, false, []⟩], true⟩, 0) := by kernel_rfl
theorem lives2 : stepP RP ⟨[⟨5, false, false, false, []⟩], true⟩ ⟨3, [49], []⟩ = (⟨[⟨5, false, false, true, []⟩], true⟩, 0) := by kernel_rfl
theorem lives3 : stepP RP ⟨[⟨5, false, false, true, []⟩], true⟩ ⟨6, [], []⟩ = (⟨[], true⟩, 0) := by kernel_rfl
theorem lives4 : stepP RP ⟨[], true⟩ ⟨1, [], []⟩ = (⟨[], true⟩, 19) := by kernel_rfl

theorem ok_lit (k : Int) (t : ByteArray) (hk : (Lit.int .i64 k).wf = true) (ht : t.size ≤ 1048576) : EvOK ⟨k, t, ⟨#[]⟩⟩ := ⟨hk, ht, show (0 : Nat) ≤ 1048576 by decide⟩
set_option maxRecDepth 100000 in
set_option maxHeartbeats 2000000 in
theorem evlives_any (w : World) (hE : EnvU w) :
    Calls Tryz.prog 19 #[] w fun e w' => e = .returned (.bool true) ∧ Below w.heap.size w w' := by
  have HE := Lib.hid hE; clear hE
  go_enter Tryz.func19, Tryz.ntmps19
  go_wp2_with fail
  refine (new_any _).mono ?_
  rintro e w1 ⟨rfl, hb, hc⟩
  have HB1 := Lib.hid hb; have HC1 := Lib.hid hc; clear hb hc
  go_wp2_with fail
  refine (go_step w1 (HE.out.below HB1.out) HC1.out (by simp [St.new]) ⟨5, ⟨#[]⟩, ⟨#[]⟩⟩ (ok_lit 5 _ (by decide) (by decide))).mono ?_
  rintro e w2 ⟨rfl, ⟨v2, ps2, hc⟩, hm⟩
  have e1 : stepP RP St.new (GoEv.ev ⟨5, ⟨#[]⟩, ⟨#[]⟩⟩) = _ := lives1
  rw [e1] at hc ⊢
  have HB2 := Lib.hid (HB1.out.trans hm.bel); have HC2 := Lib.hid hc; clear hc hm e1 HB1 HC1
  go_wp2_with fail
  refine (go_step w2 (HE.out.below HB2.out) HC2.out (by simp) ⟨3, ⟨#[49]⟩, ⟨#[]⟩⟩ (ok_lit 3 _ (by decide) (by decide))).mono ?_
  rintro e w3 ⟨rfl, ⟨v3, ps3, hc⟩, hm⟩
  have e1 : stepP RP ⟨[⟨5, false, false, false, []⟩], true⟩ (GoEv.ev ⟨3, ⟨#[49]⟩, ⟨#[]⟩⟩) = _ := lives2
  rw [e1] at hc ⊢
  have HB3 := Lib.hid (HB2.out.trans hm.bel); have HC3 := Lib.hid hc; clear hc hm e1 HB2 HC2
  go_wp2_with fail
  refine (depth_any w3 HC3.out).mono ?_
  rintro e w3b ⟨rfl, hw⟩
  subst hw
  go_wp2_with fail
  refine (go_step _ (HE.out.below HB3.out) HC3.out (by simp) ⟨6, ⟨#[]⟩, ⟨#[]⟩⟩ (ok_lit 6 _ (by decide) (by decide))).mono ?_
  rintro e w4 ⟨rfl, ⟨v4, ps4, hc⟩, hm⟩
  have e1 : stepP RP ⟨[⟨5, false, false, true, []⟩], true⟩ (GoEv.ev ⟨6, ⟨#[]⟩, ⟨#[]⟩⟩) = _ := lives3
  rw [e1] at hc ⊢
  have HB4 := Lib.hid (HB3.out.trans hm.bel); have HC4 := Lib.hid hc; clear hc hm e1 HB3 HC3
  go_wp2_with fail
  refine (go_step w4 (HE.out.below HB4.out) HC4.out (by simp) ⟨1, ⟨#[]⟩, ⟨#[]⟩⟩ (ok_lit 1 _ (by decide) (by decide))).mono ?_
  rintro e w5 ⟨rfl, ⟨v5, ps5, hc⟩, hm⟩
  have e1 : stepP RP ⟨[], true⟩ (GoEv.ev ⟨1, ⟨#[]⟩, ⟨#[]⟩⟩) = _ := lives4
  rw [e1] at hc ⊢
  have HB5 := Lib.hid (HB4.out.trans hm.bel); have HC5 := Lib.hid hc; clear hc hm e1 HB4 HC4
  go_wp2_with fail
  refine (done_any w5 HC5.out).mono ?_
  rintro e w6 ⟨rfl, hw⟩
  subst hw
  rw [show St.done ⟨[], true⟩ = true from rfl]
  go_wp2_with fail
  go_ret
  exact ⟨rfl, HB5.out⟩

theorem add0 (b o : Nat) : (⟨b, o, none⟩ : Addr).add 0 = ⟨b, o, none⟩ := rfl

/-- A row from a state on, event by event. -/
theorem runP_snoc (R : Ev → Bool) (l : List Ev) (x : Ev) (h : (runP R St.new l).2.2 = 0) : runP R St.new (l ++ [x]) = if (stepP R (runP R St.new l).1 x).2 = 0 then ((stepP R (runP R St.new l).1 x).1, l.length + 1, 0) else ((runP R St.new l).1, l.length, (stepP R (runP R St.new l).1 x).2) := by
  rw [run_app R l [x] St.new h]
  simp only [runP]
  split <;> simp
theorem runP_stop (R : Ev → Bool) (l r : List Ev) (x : Ev) (h : (runP R St.new l).2.2 = 0) (hx : (stepP R (runP R St.new l).1 x).2 ≠ 0) : wholeP R (l ++ x :: r) = (l.length, (stepP R (runP R St.new l).1 x).2) := by
  have : runP R St.new (l ++ x :: r) = ((runP R St.new l).1, l.length, (stepP R (runP R St.new l).1 x).2) := by
    rw [run_app R l (x :: r) St.new h]
    simp only [runP]
    rw [if_neg hx]; simp
  unfold wholeP
  rw [this, if_pos hx]
theorem runP_end (R : Ev → Bool) (l : List Ev) (h : (runP R St.new l).2.2 = 0) : wholeP R l = (l.length, if (runP R St.new l).1.done = true then 0 else 19) := by
  unfold wholeP
  rw [if_neg (by rw [h]; simp)]
  split <;> rfl
theorem runP_deep (R : Ev → Bool) : ∀ (l : List Ev) (st : St), st.opn.length ≤ 6 → (runP R st l).1.opn.length ≤ 6
  | [], st, h => h
  | x :: r, st, h => by
    simp only [runP]
    split
    · exact runP_deep R r _ (step_depth R st x h).1
    · exact h

set_option maxRecDepth 100000 in
set_option maxHeartbeats 4000000 in
theorem whole_any (w : World) (hE : EnvU w) (v : Value) (l : List GoEv) (hin : EvIn w v l) :
    Calls Tryz.prog 20 #[v] w fun e w' => e = .returned (.tuple #[.int .i64 (wholeP RP (l.map GoEv.ev)).1, .int .i64 (wholeP RP (l.map GoEv.ev)).2]) ∧ Below w.heap.size w w' := by
  have HE := Lib.hid hE
  have HIN := Lib.hid hin
  obtain ⟨ao, cap, rfl, hcap, hcm, hcells⟩ := hin.ex
  have HC := Lib.hid hcells
  have hlen := hin.len
  clear hE hin hcells
  go_enter Tryz.func20, Tryz.ntmps20
  go_wp2_with fail
  refine (new_any _).mono ?_
  rintro e w1 ⟨rfl, hb, hc⟩
  have HB1 := Lib.hid hb; have HC1 := Lib.hid hc; clear hb hc
  go_wp2_with fail
  go_loopw [11] (fun vi wr => ∃ (k : Nat) (v' : Value) (ps : List (Nat × Nat)), k ≤ l.length ∧ vi = .int .i64 k ∧ Hid ((runP RP St.new ((l.take k).map GoEv.ev)).2.2 = 0) ∧ Hid (Chk wr w.heap.size w.heap.size v' ps (runP RP St.new ((l.take k).map GoEv.ev)).1) ∧ Hid (Below w.heap.size w wr))
    (fun vi _ => l.length - (intOf vi).toNat)
  case atStart => exact ⟨0, _, _, Nat.zero_le _, rfl, rfl, HC1.out, HB1.out⟩
  case round =>
    obtain ⟨k, v', ps, hk, rfl, HR, HCk, HB⟩ := hrel
    by_cases hlt : k < l.length
    · obtain ⟨b, o, hao, c0, c1, c2⟩ := HC.out k hlt
      subst hao
      have hbl : b < w.heap.size := cell_lt c0
      obtain ⟨x, hx⟩ : ∃ x, l[k] = x := ⟨_, rfl⟩
      rw [hx] at c0 c1 c2
      have hmem : x ∈ l := by rw [← hx]; exact List.getElem_mem hlt
      have hok := HIN.out.ok x hmem
      have htk : (l.take (k + 1)).map GoEv.ev = (l.take k).map GoEv.ev ++ [x.ev] := by rw [List.take_add_one, List.getElem?_eq_getElem hlt, hx]; simp
      have hsplit : l.map GoEv.ev = (l.take k).map GoEv.ev ++ x.ev :: (l.drop (k + 1)).map GoEv.ev := by
        conv => lhs; rw [← List.take_append_drop k l, List.drop_eq_getElem_cons hlt, hx]
        simp
      have HX := Lib.hid hx; have HOK := Lib.hid hok; have HTK := Lib.hid htk; have HSP := Lib.hid hsplit
      clear hx hmem hok htk hsplit
      have d0 : wr.cell? ⟨b, o + k * 3, none⟩ = some (.int .i64 x.k) := by rw [HB.out.cell (p := ⟨b, o + k * 3, none⟩) hbl]; exact c0
      have d1 : wr.cell? ⟨b, o + k * 3 + 1, none⟩ = some (.string x.t) := by rw [HB.out.cell (p := ⟨b, o + k * 3 + 1, none⟩) hbl]; exact c1
      have d2 : wr.cell? ⟨b, o + k * 3 + 2, none⟩ = some (.string x.v) := by rw [HB.out.cell (p := ⟨b, o + k * 3 + 2, none⟩) hbl]; exact c2
      clear c0 c1 c2
      have hszr := HB.out.size
      have hbr : b < wr.heap.size := by omega
      go_wp2_with fail
      have hbx : Below wr.heap.size wr (wr.alloc (.cells #[.int .i64 x.k, .string x.t, .string x.v] 28)) := (Below.refl _ _).alloc (Nat.le_refl _) _
      have HBX := Lib.hid hbx; clear hbx
      have HB' := Lib.hid (HB.out.trans (HBX.out.mono hszr))
      refine (go_step _ (HE.out.below HB'.out) (HCk.out.below HBX.out) (runP_deep RP _ _ (by simp [St.new])) x HOK.out).mono ?_
      rintro e w2 ⟨rfl, ⟨v2, ps2, hc⟩, hm⟩
      have HB2 := Lib.hid (HB'.out.trans hm.bel); have HC2 := Lib.hid hc; clear hc hm
      by_cases hz : (stepP RP (runP RP St.new ((l.take k).map GoEv.ev)).1 x.ev).2 = 0
      · have hsn := (runP_snoc RP _ x.ev HR.out).trans (if_pos hz)
        rw [← HTK.out] at hsn
        have HS := Lib.hid hsn
        rw [hz]
        clear hz hsn
        go_wp2_with fail
        go_roundw
        case rel => exact ⟨k + 1, v2, ps2, by omega, by go_num, by show _ = _; rw [HS.out], by show Chk _ _ _ _ _ _; rw [HS.out]; exact HC2.out, HB2.out⟩
        case measure => simp [intOf]; omega
      · have hst := runP_stop RP ((l.take k).map GoEv.ev) ((l.drop (k + 1)).map GoEv.ev) x.ev HR.out hz
        rw [← HSP.out] at hst
        have HS := Lib.hid hst
        obtain ⟨E, hE⟩ : ∃ E, (stepP RP (runP RP St.new ((l.take k).map GoEv.ev)).1 x.ev).2 = E := ⟨_, rfl⟩
        rw [hE] at hz HS
        rw [hE]
        have hzb : (E != 0) = true := by simp [hz]
        have hlk : ((l.take k).map GoEv.ev).length = k := by rw [List.length_map, List.length_take]; omega
        rw [hlk] at HS
        clear hE hz hst hlk
        go_wp2_with fail
        go_ret2
        exact ⟨by rw [HS.out]; rfl, HB2.out⟩
    · obtain rfl : k = l.length := by omega
      have hte : l.take l.length = l := List.take_length
      rw [hte] at HR HCk
      have hen := Lib.hid (runP_end RP _ HR.out)
      clear hte hlt
      go_wp2_with fail
      refine (done_any wr HCk.out).mono ?_
      rintro e w3 ⟨rfl, hw⟩
      subst hw
      have hlm : (l.map GoEv.ev).length = l.length := List.length_map _
      rw [hlm] at hen
      clear hlm
      cases hd : (runP RP St.new (l.map GoEv.ev)).1.done
      · rw [hd] at hen; clear hd
        go_wp2_with fail
        go_ret2
        exact ⟨by rw [hen.out]; rfl, HB.out⟩
      · rw [hd] at hen; clear hd
        go_wp2_with fail
        go_ret2
        exact ⟨by rw [hen.out]; rfl, HB.out⟩
end Go.Proofs.YtinjhglmakfmkaaGreatDoor
