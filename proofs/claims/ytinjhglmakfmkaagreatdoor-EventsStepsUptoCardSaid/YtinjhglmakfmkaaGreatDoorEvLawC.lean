/- The walk of the law EventsSteps. -/
import Derived.Test.YtinjhglmakfmkaaGreatDoorEvJ
import Derived.Test.YtinjhglmakfmkaaGreatDoorEvH
namespace Go.Proofs.YtinjhglmakfmkaaGreatDoor
open Go.RowKit Ev5
set_option linter.unusedSimpArgs false
set_option linter.unusedVariables false

set_option maxRecDepth 1000000 in
set_option maxHeartbeats 16000000 in
theorem steps_walk (v : Value) (l : List GoEv) (w : World) (hE : EnvU w) (hin : EvIn w v l) :
    Calls Tryz.prog 3 #[v] w fun e w' => e = .returned (.bool true) ∧ Below w.heap.size w w' := by
  have HE := Lib.hid hE
  have HIN := Lib.hid hin
  obtain ⟨ao, cap, rfl, hcap, hcm, hcells⟩ := hin.ex
  have HC := Lib.hid hcells
  have hlen := hin.len
  clear hE hin hcells
  obtain ⟨i0, hi, hz0, hz1, hz2⟩ := info_parts infoE
  have HI := Lib.hid hi; clear hi
  go_enter Tryz.func3, Tryz.ntmps3
  go_wp2_with fail
  refine (new_any _).mono ?_
  rintro e w1 ⟨rfl, hb, hc⟩
  have HB1 := Lib.hid hb; have HC1 := Lib.hid hc; clear hb hc
  go_wp2_with fail
  go_loopw [4, 5] (fun u vi wr => ∃ (k : Nat) (v' : Value) (ps : List (Nat × Nat)) (st : St) (had : List GoEv), k ≤ l.length ∧ k ≤ 120 ∧ vi = .int .i64 k ∧ had.length ≤ k ∧ Hid (Chk wr w.heap.size w.heap.size v' ps st) ∧ Hid (Had w wr w.heap.size u had st))
    (fun _ vi _ => l.length - (intOf vi).toNat)
  case atStart => exact ⟨0, _, _, _, [], Nat.zero_le _, Nat.zero_le _, rfl, Nat.le_refl _, HC1.out, ⟨World.ownsRow_nil _ _ _ _, by simp, tk_new _, HB1.out⟩⟩
  case round =>
    obtain ⟨k, v', ps, st, had, hk, hk120, rfl, hhk, HCk, HH⟩ := hrel
    by_cases hgo : k < l.length ∧ k < 120
    · obtain ⟨hlt, h120⟩ := hgo
      have h120' : (k : Int) < 120 := by omega
      obtain ⟨b, o, hao, c0, c1, c2⟩ := HC.out k hlt
      subst hao
      have hbl : b < w.heap.size := cell_lt c0
      obtain ⟨x, hx⟩ : ∃ x, l[k] = x := ⟨_, rfl⟩
      rw [hx] at c0 c1 c2
      have hmem : x ∈ l := by rw [← hx]; exact List.getElem_mem hlt
      have HOK := Lib.hid (HIN.out.ok x hmem)
      clear hx hmem
      have HCW := Lib.hid (show ∀ w' : World, Below w.heap.size w w' → w'.cell? ⟨b, o + k * 3, none⟩ = some (.int .i64 x.k) ∧ w'.cell? ⟨b, o + k * 3 + 1, none⟩ = some (.string x.t) ∧ w'.cell? ⟨b, o + k * 3 + 2, none⟩ = some (.string x.v) ∧ b < w'.heap.size from fun w' hb =>
        ⟨by rw [hb.cell (p := ⟨b, o + k * 3, none⟩) hbl]; exact c0, by rw [hb.cell (p := ⟨b, o + k * 3 + 1, none⟩) hbl]; exact c1, by rw [hb.cell (p := ⟨b, o + k * 3 + 2, none⟩) hbl]; exact c2, by have := hb.size; omega⟩)
      clear c0 c1 c2
      obtain ⟨d0, d1, d2, d3⟩ := HCW.out wr HH.out.bel
      have HEV0 := Lib.hid (HH.out.own.evIn HH.out.ok (by omega))
      have HRS := Lib.hid (ref_step RP st (had.map GoEv.ev) x.ev HH.out.tk.inv HH.out.tk.knows)
      go_wp2_with fail
      refine (refStep_any _ _ had HEV0.out x HOK.out).mono ?_
      rintro e w0 ⟨rfl, hb⟩
      rw [HRS.out]
      have HH0 := Lib.hid (HH.out.below hb)
      have HC0 := Lib.hid (HCk.out.below hb)
      clear hb d0 d1 d2 d3 HEV0 HRS
      obtain ⟨d0, d1, d2, d3⟩ := HCW.out w0 HH0.out.bel
      go_wp2_with fail
      refine (go_step _ (HE.out.below HH0.out.bel) HC0.out HH0.out.tk.inv.deep x HOK.out).mono ?_
      rintro e w2 ⟨rfl, ⟨v2, ps2, hc⟩, hm⟩
      have HC2 := Lib.hid hc
      have HM := Lib.hid hm
      clear hc hm d0 d1 d2 d3
      by_cases hz : (stepP RP st x.ev).2 = 0
      · have HTK := Lib.hid (HH0.out.tk.step hz)
        have hH2 : Had w w2 w.heap.size u4 had st := ⟨HH0.out.own.keeps HM.out.keep, HH0.out.ok, HH0.out.tk, HH0.out.bel.trans HM.out.bel⟩
        have HH2 := Lib.hid hH2; clear hH2
        obtain ⟨d0, d1, d2, d3⟩ := HCW.out w2 HH2.out.bel
        obtain ⟨n1, n2⟩ := ev_len had (by omega)
        have HO2 := Lib.hid HH2.out.own
        have hsz := HH2.out.bel.size
        obtain ⟨stN, hstN⟩ : ∃ stN, (stepP RP st x.ev).1 = stN := ⟨_, rfl⟩
        rw [hstN] at HTK HC2
        rw [hz]
        clear hz hstN
        go_wp2_with (first
          | (at_builtin; refine wpList_append_own _ (by rfl) _ _ _ (by rfl) w.heap.size 28 i0 _ 3 40 Tryz.underlying22 HI.out hz0 hz1 hz2 rfl (by omega) _ had.length _ (by rfl) (HO2.out.alloc _) ⟨w2.heap.size, 0, none⟩ 1 1 (evL x) (by rfl) (by rfl) ev_news ev_one n1 n2 (by simp; omega) ?_)
          | fail)
        intro v3 w3 hown3 hgrow3 _
        have hH3 := HH2.out.snoc x HOK.out (Nat.le_refl _) hsz hown3 hgrow3 HTK.out
        have hc3 := (HC2.out.below ((Below.refl _ _).alloc (Nat.le_refl _) _)).aside (HO2.out.alloc _) hgrow3
        have HH3 := Lib.hid hH3; have HC3 := Lib.hid hc3
        clear hown3 hgrow3 hH3 hc3
        obtain ⟨hadN, hhN⟩ : ∃ hadN, had ++ [x] = hadN := ⟨_, rfl⟩
        rw [hhN] at HH3
        have hhl : hadN.length = had.length + 1 := by rw [← hhN]; simp
        clear hhN
        have HEV := Lib.hid (HH3.out.own.evIn HH3.out.ok (by omega))
        have HTT := Lib.hid HH3.out.tk
        go_wp2_with fail
        refine (at_any _ _ (hadN) HEV.out).mono ?_
        rintro e wA ⟨rfl, hbA⟩
        obtain ⟨sa, scap, hsh⟩ := HH3.out.shape
        have HHA := Lib.hid (HH3.out.below hbA)
        have HCA := Lib.hid (HC3.out.below hbA)
        have HDp := Lib.hid (depth_any wA HCA.out)
        have HDn := Lib.hid (done_any wA HCA.out)
        clear hbA
        have hov := HTT.out.over_iff
        rcases HTT.out.at_ with ⟨hs, ho⟩ | ⟨i, s, lo, r, hs, ho, hi, hkd, hkc, hsr⟩
        · rw [hs]
          rw [show headI [] = -1 from rfl, List.length_nil]
          have hdp : (stN).opn.length = 0 := by rw [ho]; rfl
          have hdn : (stN).done = (stN).over := by unfold St.done; rw [ho]; simp
          rw [hdp] at HDp
          rw [hdn] at HDn
          clear hs ho hdp hdn
          by_cases h0 : (hadN) = []
          · have hf : (stN).over = false := by cases e : (stN).over with | false => rfl | true => exact absurd (by rw [h0]; rfl) (hov.1 e)
            have hl0 : (hadN).length = 0 := by rw [h0]; rfl
            rw [hf] at HDn
            rw [hl0] at hsh
            subst hsh
            clear hov hf h0
            go_wp2_with fail
            refine HDp.out.mono ?_
            rintro e wB ⟨rfl, hw⟩
            subst hw
            go_wp2_with fail
            refine HDn.out.mono ?_
            rintro e wB2 ⟨rfl, hw⟩
            subst hw
            go_wp2_with fail
            go_roundw
            case rel => exact ⟨k + 1, _, _, stN, hadN, by omega, by omega, by go_num, by first | omega | (simp; omega), HCA.out, HHA.out⟩
            case measure => simp [intOf]; omega
          · have hf : (stN).over = true := hov.2 (by intro h; exact h0 (List.map_eq_nil_iff.1 h))
            have hlp : 0 < (hadN).length := List.length_pos_iff.2 h0
            rw [hf] at HDn
            obtain ⟨hl, hhl⟩ : ∃ hl, (hadN).length = hl := ⟨_, rfl⟩
            rw [hhl] at hsh hlp
            subst hsh
            have hlp2 : (0 : Int) < (hl : Int) := by omega
            have HHL := Lib.hid hhl
            clear hov hf h0 hhl
            go_wp2_with fail
            refine HDp.out.mono ?_
            rintro e wB ⟨rfl, hw⟩
            subst hw
            go_wp2_with fail
            refine HDn.out.mono ?_
            rintro e wB2 ⟨rfl, hw⟩
            subst hw
            go_wp2_with fail
            go_roundw
            case rel => exact ⟨k + 1, _, _, stN, hadN, by omega, by omega, by go_num, by first | omega | (simp; omega), HCA.out, HHA.out⟩
            case measure => simp [intOf]; omega
        · rw [hs]
          rw [show headI (i :: s) = (i : Int) from rfl, List.length_cons]
          have hdp : (stN).opn.length = r.length + 1 := by rw [ho]; rfl
          have hdn : (stN).done = false := by unfold St.done; rw [ho]; simp
          have hr6 : r.length ≤ 6 := by have := HTT.out.inv.deep; omega
          rw [hdp, ← hsr] at HDp
          rw [hdn] at HDn
          rw [← hsr] at hr6
          have hi0 : (0 : Int) ≤ (i : Int) := Int.natCast_nonneg _
          obtain ⟨hl, hhl⟩ : ∃ hl, (hadN).length = hl := ⟨_, rfl⟩
          rw [hhl] at hsh
          subst hsh
          have HHL := Lib.hid hhl
          clear hs ho hdp hdn hov hi hkd hkc hsr hhl
          generalize s.length = sl at *
          go_wp2_with fail
          refine HDp.out.mono ?_
          rintro e wB ⟨rfl, hw⟩
          subst hw
          go_wp2_with fail
          refine HDn.out.mono ?_
          rintro e wB2 ⟨rfl, hw⟩
          subst hw
          go_wp2_with fail
          go_roundw
          case rel => exact ⟨k + 1, _, _, stN, hadN, by omega, by omega, by go_num, by first | omega | (simp; omega), HCA.out, HHA.out⟩
          case measure => simp [intOf]; omega
      · have hs := HH0.out.tk.same hz
        rw [hs] at HC2
        have hH2 : Had w w2 w.heap.size u4 had st := ⟨HH0.out.own.keeps HM.out.keep, HH0.out.ok, HH0.out.tk, HH0.out.bel.trans HM.out.bel⟩
        have HH2 := Lib.hid hH2; clear hH2
        obtain ⟨E, hE⟩ : ∃ E, (stepP RP st x.ev).2 = E := ⟨_, rfl⟩
        rw [hE] at hz
        rw [hE]
        have hzb : (E == 0) = false := by simp [hz]
        have hEE : (E != E) = false := by simp
        clear hE hz hs
        have HEV := Lib.hid (HH2.out.own.evIn HH2.out.ok (by omega))
        have HTT := Lib.hid HH2.out.tk
        go_wp2_with fail
        refine (at_any _ _ (had) HEV.out).mono ?_
        rintro e wA ⟨rfl, hbA⟩
        obtain ⟨sa, scap, hsh⟩ := HH2.out.shape
        have HHA := Lib.hid (HH2.out.below hbA)
        have HCA := Lib.hid (HC2.out.below hbA)
        have HDp := Lib.hid (depth_any wA HCA.out)
        have HDn := Lib.hid (done_any wA HCA.out)
        clear hbA
        have hov := HTT.out.over_iff
        rcases HTT.out.at_ with ⟨hs, ho⟩ | ⟨i, s, lo, r, hs, ho, hi, hkd, hkc, hsr⟩
        · rw [hs]
          rw [show headI [] = -1 from rfl, List.length_nil]
          have hdp : (st).opn.length = 0 := by rw [ho]; rfl
          have hdn : (st).done = (st).over := by unfold St.done; rw [ho]; simp
          rw [hdp] at HDp
          rw [hdn] at HDn
          clear hs ho hdp hdn
          by_cases h0 : (had) = []
          · have hf : (st).over = false := by cases e : (st).over with | false => rfl | true => exact absurd (by rw [h0]; rfl) (hov.1 e)
            have hl0 : (had).length = 0 := by rw [h0]; rfl
            rw [hf] at HDn
            rw [hl0] at hsh
            subst hsh
            clear hov hf h0
            go_wp2_with fail
            refine HDp.out.mono ?_
            rintro e wB ⟨rfl, hw⟩
            subst hw
            go_wp2_with fail
            refine HDn.out.mono ?_
            rintro e wB2 ⟨rfl, hw⟩
            subst hw
            go_wp2_with fail
            go_roundw
            case rel => exact ⟨k + 1, _, _, st, had, by omega, by omega, by go_num, by first | omega | (simp; omega), HCA.out, HHA.out⟩
            case measure => simp [intOf]; omega
          · have hf : (st).over = true := hov.2 (by intro h; exact h0 (List.map_eq_nil_iff.1 h))
            have hlp : 0 < (had).length := List.length_pos_iff.2 h0
            rw [hf] at HDn
            obtain ⟨hl, hhl⟩ : ∃ hl, (had).length = hl := ⟨_, rfl⟩
            rw [hhl] at hsh hlp
            subst hsh
            have hlp2 : (0 : Int) < (hl : Int) := by omega
            have HHL := Lib.hid hhl
            clear hov hf h0 hhl
            go_wp2_with fail
            refine HDp.out.mono ?_
            rintro e wB ⟨rfl, hw⟩
            subst hw
            go_wp2_with fail
            refine HDn.out.mono ?_
            rintro e wB2 ⟨rfl, hw⟩
            subst hw
            go_wp2_with fail
            go_roundw
            case rel => exact ⟨k + 1, _, _, st, had, by omega, by omega, by go_num, by first | omega | (simp; omega), HCA.out, HHA.out⟩
            case measure => simp [intOf]; omega
        · rw [hs]
          rw [show headI (i :: s) = (i : Int) from rfl, List.length_cons]
          have hdp : (st).opn.length = r.length + 1 := by rw [ho]; rfl
          have hdn : (st).done = false := by unfold St.done; rw [ho]; simp
          have hr6 : r.length ≤ 6 := by have := HTT.out.inv.deep; omega
          rw [hdp, ← hsr] at HDp
          rw [hdn] at HDn
          rw [← hsr] at hr6
          have hi0 : (0 : Int) ≤ (i : Int) := Int.natCast_nonneg _
          obtain ⟨hl, hhl⟩ : ∃ hl, (had).length = hl := ⟨_, rfl⟩
          rw [hhl] at hsh
          subst hsh
          have HHL := Lib.hid hhl
          clear hs ho hdp hdn hov hi hkd hkc hsr hhl
          generalize s.length = sl at *
          go_wp2_with fail
          refine HDp.out.mono ?_
          rintro e wB ⟨rfl, hw⟩
          subst hw
          go_wp2_with fail
          refine HDn.out.mono ?_
          rintro e wB2 ⟨rfl, hw⟩
          subst hw
          go_wp2_with fail
          go_roundw
          case rel => exact ⟨k + 1, _, _, st, had, by omega, by omega, by go_num, by first | omega | (simp; omega), HCA.out, HHA.out⟩
          case measure => simp [intOf]; omega
    · by_cases hlt : (k : Int) < l.length
      · have h120 : k = 120 := by omega
        subst h120
        clear hgo hhk hk hk120
        go_wp2_with fail
        refine (evlives_any _ (HE.out.below HH.out.bel)).mono ?_
        rintro e w3 ⟨rfl, hb⟩
        have HB3 := Lib.hid (below_then HH.out.bel hb); clear hb
        go_wp2_with fail
        go_ret
        exact ⟨rfl, HB3.out⟩
      · clear hgo hhk hk hk120
        go_wp2_with fail
        refine (evlives_any _ (HE.out.below HH.out.bel)).mono ?_
        rintro e w3 ⟨rfl, hb⟩
        have HB3 := Lib.hid (below_then HH.out.bel hb); clear hb
        go_wp2_with fail
        go_ret
        exact ⟨rfl, HB3.out⟩
end Go.Proofs.YtinjhglmakfmkaaGreatDoor
