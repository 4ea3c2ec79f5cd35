/- The walks of the laws EventsDepth and EventsBegins. -/
import Derived.Test.YtgipodgcenkckaaGreatDoorEvZ
import Derived.Deep.DeepCutAuto
import Derived.Deep.CutBlock
namespace Go.Proofs.YtgipodgcenkckaaGreatDoor
open Go.RowKit Ev5
set_option linter.unusedSimpArgs false
set_option linter.unusedVariables false

theorem EvIn.take {w : World} {ao : Option Addr} {cap : Nat} {l : List GoEv} (h : EvIn w (.slice ao l.length cap) l) (n : Nat) (hn : n ≤ l.length) : EvIn w (.slice ao (l.take n).length cap) (l.take n) := by
  obtain ⟨ao', cap', h1, h2, h3, h4⟩ := h.ex
  injection h1 with e1 e2 e3
  subst e1; subst e3
  have hl : (l.take n).length = n := by rw [List.length_take]; omega
  refine ⟨⟨ao, cap, rfl, by omega, h3, fun i hi => ?_⟩, fun x hx => h.ok x (List.mem_of_mem_take hx), by have := h.len; omega⟩
  have := h4 i (by omega)
  rwa [← List.getElem_take (h := hi)] at this
theorem EvIn.some {w : World} {ao : Option Addr} {n cap : Nat} {l : List GoEv} (h : EvIn w (.slice ao n cap) l) (hl : 0 < l.length) : n = l.length ∧ n ≤ cap ∧ ∃ b o, ao = some ⟨b, o, none⟩ := by
  obtain ⟨ao', cap', h1, h2, h3, h4⟩ := h.ex
  injection h1 with e1 e2 e3
  subst e1; subst e3
  obtain ⟨b, o, e, _⟩ := h4 0 hl
  exact ⟨e2, by omega, b, o, e⟩

set_option maxRecDepth 100000 in
set_option maxHeartbeats 4000000 in
theorem depth_walk (v : Value) (l : List GoEv) (w : World) (hE : EnvU w) (hin : EvIn w v l) :
    Calls Tryz.prog 4 #[v] w fun e w' => e = .returned (.bool true) ∧ Below w.heap.size w w' := by
  have HE := Lib.hid hE
  have HIN := Lib.hid hin
  obtain ⟨ao, cap, rfl, hcap, hcm, hcells⟩ := hin.ex
  have HC := Lib.hid hcells
  have hlen := hin.len
  clear hE hin hcells
  go_enter Tryz.func4, Tryz.ntmps4
  go_wp2_with fail
  refine (new_any _).mono ?_
  rintro e w1 ⟨rfl, hb, hc⟩
  have HB1 := Lib.hid hb; have HC1 := Lib.hid hc; clear hb hc
  go_wp2_with fail
  go_loopw [4, 5] (fun vn vi wr => ∃ (k : Nat) (v' : Value) (ps : List (Nat × Nat)) (st : St), k ≤ l.length ∧ vi = .int .i64 k ∧ vn = .int .i64 st.opn.length ∧ st.opn.length ≤ 6 ∧ Hid (Chk wr w.heap.size w.heap.size v' ps st) ∧ Hid (Below w.heap.size w wr))
    (fun _ vi _ => l.length - (intOf vi).toNat)
  case atStart => exact ⟨0, _, _, _, Nat.zero_le _, rfl, rfl, by simp [St.new], HC1.out, HB1.out⟩
  case round =>
    obtain ⟨k, v', ps, st, hk, rfl, rfl, h6, HCk, HB⟩ := hrel
    by_cases hlt : k < l.length
    · by_cases h1000 : (k : Int) < 1000
      · obtain ⟨b, o, hao, c0, c1, c2⟩ := HC.out k hlt
        subst hao
        have hbl : b < w.heap.size := cell_lt c0
        obtain ⟨x, hx⟩ : ∃ x, l[k] = x := ⟨_, rfl⟩
        rw [hx] at c0 c1 c2
        have hmem : x ∈ l := by rw [← hx]; exact List.getElem_mem hlt
        have HOK := Lib.hid (HIN.out.ok x hmem)
        clear hx hmem
        have d0 : wr.cell? ⟨b, o + k * 3, none⟩ = some (.int .i64 x.k) := by rw [HB.out.cell (p := ⟨b, o + k * 3, none⟩) hbl]; exact c0
        have d1 : wr.cell? ⟨b, o + k * 3 + 1, none⟩ = some (.string x.t) := by rw [HB.out.cell (p := ⟨b, o + k * 3 + 1, none⟩) hbl]; exact c1
        have d2 : wr.cell? ⟨b, o + k * 3 + 2, none⟩ = some (.string x.v) := by rw [HB.out.cell (p := ⟨b, o + k * 3 + 2, none⟩) hbl]; exact c2
        clear c0 c1 c2
        have hszr := HB.out.size
        have hbr : b < wr.heap.size := by omega
        go_wp2_with fail
        refine (go_step _ (HE.out.below HB.out) HCk.out h6 x HOK.out).mono ?_
        rintro e w2 ⟨rfl, ⟨v2, ps2, hc⟩, hm⟩
        have HB2 := Lib.hid (HB.out.trans hm.bel); have HC2 := Lib.hid hc; clear hc hm
        obtain ⟨s1, s2, s3, s4, s5⟩ := step_depth RP st x.ev h6
        generalize stepP RP st x.ev = r at *
        obtain ⟨st', E⟩ := r
        simp only at s1 s2 s3 s4 s5 HC2 ⊢
        have HD := Lib.hid (depth_any w2 HC2.out)
        have HS6 := Lib.hid s1
        by_cases hz : E = 0
        · subst hz
          clear s4 s5
          go_wp2_with fail
          refine HD.out.mono ?_
          rintro e w3 ⟨rfl, hw⟩
          subst hw
          clear HD
          generalize hn : st'.opn.length = n at *
          generalize st.opn.length = m at *
          go_wp2_with fail
          go_roundw
          case rel => exact ⟨k + 1, v2, ps2, st', by omega, by go_num, by rw [hn], by rw [hn]; exact HS6.out, HC2.out, HB2.out⟩
          case measure => simp [intOf]; omega
        · have hs := s4 hz
          subst hs
          have hzb : (E != 0) = true := by simp [hz]
          by_cases h5 : E = 5
          · subst h5
            have hn6 := s5 rfl
            clear s4 s5 hz
            go_wp2_with fail
            refine HD.out.mono ?_
            rintro e w3 ⟨rfl, hw⟩
            subst hw
            clear HD
            generalize hn : st'.opn.length = n at *
            subst hn6
            go_wp2_with fail
            go_roundw
            case rel => exact ⟨k + 1, v2, ps2, st', by omega, by go_num, by rw [hn]; rfl, by rw [hn]; exact HS6.out, HC2.out, HB2.out⟩
            case measure => simp [intOf]; omega
          · have h5b : (E == 5) = false := by simp [h5]
            clear s4 s5 hz h5
            go_wp2_with fail
            refine HD.out.mono ?_
            rintro e w3 ⟨rfl, hw⟩
            subst hw
            clear HD
            generalize hn : st'.opn.length = n at *
            go_wp2_with fail
            go_roundw
            case rel => exact ⟨k + 1, v2, ps2, st', by omega, by go_num, by rw [hn], by rw [hn]; exact HS6.out, HC2.out, HB2.out⟩
            case measure => simp [intOf]; omega
      · go_wp2_with fail
        refine (evlives_any _ (HE.out.below HB.out)).mono ?_
        rintro e w3 ⟨rfl, hb⟩
        have HB3 := Lib.hid (below_then HB.out hb); clear hb
        go_wp2_with fail
        go_ret
        exact ⟨rfl, HB3.out⟩
    · obtain rfl : k = l.length := by omega
      clear hlt
      go_wp2_with fail
      refine (evlives_any _ (HE.out.below HB.out)).mono ?_
      rintro e w3 ⟨rfl, hb⟩
      have HB3 := Lib.hid (below_then HB.out hb); clear hb
      go_wp2_with fail
      go_ret
      exact ⟨rfl, HB3.out⟩

theorem mod_lt (x : Int) (n : Nat) (hn : 0 < n) (h : 0 ≤ x) : ∃ m : Nat, x % (n : Int) = m ∧ m < n := by
  have h1 := Int.emod_nonneg x (b := (n : Int)) (by omega)
  have h2 := Int.emod_lt_of_pos x (b := (n : Int)) (by omega)
  exact ⟨(x % (n : Int)).toNat, by omega, by omega⟩
theorem whole_nil : wholeP RP [] = (0, 19) := rfl
set_option maxRecDepth 100000 in
set_option maxHeartbeats 4000000 in
theorem begins_walk (v : Value) (l : List GoEv) (cut : Int) (w : World) (hE : EnvU w) (hin : EvIn w v l) (hc : (Lit.int .i64 cut).wf = true) :
    Calls Tryz.prog 7 #[v, .int .i64 cut] w fun e w' => e = .returned (.bool true) ∧ Below w.heap.size w w' := by
  have HE := Lib.hid hE
  obtain ⟨hc0, hc1⟩ : -9223372036854775808 ≤ cut ∧ cut ≤ 9223372036854775807 := by
    have e1 : IntKind.i64.min = -9223372036854775808 := rfl
    have e2 : IntKind.i64.max = 9223372036854775807 := rfl
    simp [Lit.wf, e1, e2] at hc
    omega
  have HIN := Lib.hid hin
  obtain ⟨ao, cap, rfl, hcap, hcm, _⟩ := hin.ex
  have hlen := hin.len
  clear hE hin hc
  go_enter Tryz.func7, Tryz.ntmps7
  go_upto_if 11 with (fail)
  go_cut [0] (fun u wc => ∃ (ao : Option Addr) (L : List GoEv) (cap : Nat), u = .slice ao L.length cap ∧ Hid (EvIn w (.slice ao L.length cap) L) ∧ w = wc)
  case first =>
    by_cases h120 : (120 : Int) < l.length
    · obtain ⟨_, _, b, o, rfl⟩ := HIN.out.some (by omega)
      have h2 := HIN.out.take 120 (by omega)
      have hl2 : (l.take 120).length = 120 := by rw [List.length_take]; omega
      have H2 := Lib.hid h2; have HL2 := Lib.hid hl2; clear h2 hl2
      have hk : (120 : Int) ≤ (cap : Int) := by omega
      go_wp2
      go_meet
      case rel => exact ⟨_, l.take 120, cap, by rw [HL2.out], H2.out, rfl⟩
    · go_wp2
      go_meet
      case rel => exact ⟨_, l, cap, rfl, HIN.out, rfl⟩
  case rest =>
    obtain ⟨ao2, L, cap2, rfl, HL, rfl⟩ := hcut
    clear hcap hcm hlen HIN
    have hLc : L.length ≤ cap2 := by obtain ⟨_, _, e, h, _⟩ := HL.out.ex; injection e with e1 e2 e3; omega
    have hLm := HL.out.len
    go_wp2_with fail
    refine (whole_any _ HE.out _ L HL.out).mono ?_
    rintro e w1 ⟨rfl, hb⟩
    have HB1 := Lib.hid hb; clear hb
    have HWB := Lib.hid (whole_begins RP (L.map GoEv.ev))
    have HNIL := Lib.hid (show L = [] → (wholeP RP (L.map GoEv.ev)).2 ≠ 0 by rintro rfl; rw [List.map_nil, whole_nil]; simp)
    obtain ⟨n0, hn0⟩ : ∃ n0, (wholeP RP (L.map GoEv.ev)).1 = n0 := ⟨_, rfl⟩
    obtain ⟨E, hE⟩ : ∃ E, (wholeP RP (L.map GoEv.ev)).2 = E := ⟨_, rfl⟩
    rw [hE] at HWB HNIL
    rw [hn0, hE]
    clear hn0 hE
    by_cases hz : E = 0
    · subst hz
      have hpos : 0 < L.length := by cases hL : L with | nil => exact absurd rfl (HNIL.out hL) | cons a b => simp
      have hwb := HWB.out rfl
      obtain ⟨_, _, b, o, rfl⟩ := HL.out.some hpos
      have fin : ∀ (m : Nat), m < L.length → wholeP RP ((L.take m).map GoEv.ev) = (m, 19) ∧ EvIn w1 (.slice (some ⟨b, o, none⟩) m cap2) (L.take m) := by
        intro m hm
        refine ⟨?_, ?_⟩
        · rw [List.map_take]; exact hwb m (by rw [List.length_map]; exact hm)
        · have h := (HL.out.take m (by omega)).below HB1.out
          rwa [show (L.take m).length = m by rw [List.length_take]; omega] at h
      have FIN := Lib.hid fin
      clear hwb fin HWB HNIL
      by_cases hneg : cut < 0
      · obtain ⟨m, hm, hml⟩ := mod_lt (-(cut + 1)) L.length hpos (by omega)
        rw [← Int.tmod_eq_emod_of_nonneg (by omega), Int.neg_tmod] at hm
        obtain ⟨f1, f2⟩ := FIN.out m hml
        have F1 := Lib.hid f1; have F2 := Lib.hid f2; have HM := Lib.hid hm
        clear f1 f2 FIN hm
        go_upto_region 9 with (fail)
        rw [HM.out]
        have hm0 : (0 : Int) ≤ (m : Int) := Int.natCast_nonneg _
        have hm1 : (m : Int) ≤ (cap2 : Int) := by omega
        clear HM
        go_wp2_with fail
        refine (whole_any _ (HE.out.below HB1.out) _ (L.take m) F2.out).mono ?_
        rintro e w2 ⟨rfl, hb⟩
        rw [F1.out]
        have HB2 := Lib.hid (below_then HB1.out hb); clear hb
        go_wp2_with fail
        refine (evlives_any _ (HE.out.below HB2.out)).mono ?_
        rintro e w3 ⟨rfl, hb⟩
        have HB3 := Lib.hid (below_then HB2.out hb); clear hb
        go_wp2_with fail
        go_ret
        exact ⟨rfl, HB3.out⟩
      · obtain ⟨m, hm, hml⟩ := mod_lt cut L.length hpos (by omega)
        obtain ⟨f1, f2⟩ := FIN.out m hml
        have F1 := Lib.hid f1; have F2 := Lib.hid f2; have HM := Lib.hid hm
        clear f1 f2 FIN hm
        go_upto_region 9 with (fail)
        rw [HM.out]
        have hm0 : (0 : Int) ≤ (m : Int) := Int.natCast_nonneg _
        have hm1 : (m : Int) ≤ (cap2 : Int) := by omega
        clear HM
        go_wp2_with fail
        refine (whole_any _ (HE.out.below HB1.out) _ (L.take m) F2.out).mono ?_
        rintro e w2 ⟨rfl, hb⟩
        rw [F1.out]
        have HB2 := Lib.hid (below_then HB1.out hb); clear hb
        go_wp2_with fail
        refine (evlives_any _ (HE.out.below HB2.out)).mono ?_
        rintro e w3 ⟨rfl, hb⟩
        have HB3 := Lib.hid (below_then HB2.out hb); clear hb
        go_wp2_with fail
        go_ret
        exact ⟨rfl, HB3.out⟩
    · have hzb : (E != 0) = true := by simp [hz]
      clear hz HWB HNIL
      go_wp2_with fail
      refine (evlives_any _ (HE.out.below HB1.out)).mono ?_
      rintro e w2 ⟨rfl, hb⟩
      have HB2 := Lib.hid (below_then HB1.out hb); clear hb
      go_wp2_with fail
      go_ret
      exact ⟨rfl, HB2.out⟩
end Go.Proofs.YtgipodgcenkckaaGreatDoor
