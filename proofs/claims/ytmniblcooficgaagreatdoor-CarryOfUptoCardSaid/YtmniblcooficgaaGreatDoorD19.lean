import Derived.Deep.DeepCutAuto
import Derived.Deep.CutBlock
import Derived.Test.YtmniblcooficgaaGreatDoorD18
namespace Go.Proofs.YtmniblcooficgaaGreatDoor
open Go.RowKit Ev5
set_option linter.unusedSimpArgs false
set_option linter.unusedVariables false

set_option maxRecDepth 1000000 in
set_option maxHeartbeats 16000000 in
theorem refStep_ka (w : World) (v : Value) (had : List GoEv) (hin : EvIn w v had) (x : GoEv) (hx : EvOK x) (hka : x.k = 8 ∨ x.k = 11) :
    Calls Tryz.prog 65 #[v, evV x] w fun e w' => e = .returned (.int .i64 (refStepP RP (had.map GoEv.ev) x.ev)) ∧ Below w.heap.size w w' := by
  obtain ⟨xk, xt, xv⟩ := x
  change xk = 8 ∨ xk = 11 at hka
  have q1 : (xk == 1) = false := by simp; omega
  have q2 : (xk == 2) = false := by simp; omega
  have q3 : (xk == 3) = false := by simp; omega
  have q4 : (xk == 4) = false := by simp; omega
  have q5 : (xk == 5) = false := by simp; omega
  have q6 : (xk == 6) = false := by simp; omega
  have q7 : (xk == 7) = false := by simp; omega
  have q9 : (xk == 9) = false := by simp; omega
  have q10 : (xk == 10) = false := by simp; omega
  have q12 : (xk == 12) = false := by simp; omega
  have HKA := Lib.hid hka; clear hka
  have HIN := Lib.hid hin
  obtain ⟨ao, cap, rfl, hcap, hcm, hcells⟩ := hin.ex
  have hlen := hin.len
  have HC := Lib.hid (show ∀ (W : World), Below w.heap.size w W → ∀ (i : Nat) (h : i < had.length), ∃ b o, ao = some ⟨b, o, none⟩ ∧ W.cell? ⟨b, o + i * 3, none⟩ = some (.int .i64 had[i].k) ∧ W.cell? ⟨b, o + i * 3 + 1, none⟩ = some (.string had[i].t) ∧ b < W.heap.size from fun W hW i h => by
    obtain ⟨b, o, e, c0, c1, _⟩ := hcells i h
    have hl := cell_lt c0
    exact ⟨b, o, e, by rw [hW.cell (p := ⟨b, o + i * 3, none⟩) hl]; exact c0, by rw [hW.cell (p := ⟨b, o + i * 3 + 1, none⟩) hl]; exact c1, by have := hW.size; have : b < w.heap.size := hl; omega⟩)
  have hxt : xt.size ≤ 1048576 := hx.t
  have hxv : xv.size ≤ 1048576 := hx.v
  clear hin hcells hx
  have HNL := Lib.hid (show (had.map GoEv.ev).length = had.length from List.length_map _)
  show Calls Tryz.prog 65 #[.slice ao had.length cap, .agg #[.int .i64 xk, .string xt, .string xv]] w _
  go_enter Tryz.func65, Tryz.ntmps65
  go_wp2_with fail
  refine (refRight_any ⟨xk, xt, xv⟩ _ hxt hxv).mono ?_
  rintro e w1 ⟨rfl, hb⟩
  have hx1 := (hb.block _ (by simp)).trans (heap_alloc_new w (.cells (evC ⟨xk, xt, xv⟩) 85))
  have HB1 := Lib.hid (below_after hb); clear hb
  have HX1 := Lib.hid hx1
  obtain ⟨x0, x1, x2, x3⟩ := ev_cells hx1
  clear hx1
  cases hr : RP (GoEv.ev ⟨xk, xt, xv⟩)
  · have HS := Lib.hid (show refStepP RP (had.map GoEv.ev) (GoEv.ev ⟨xk, xt, xv⟩) = 19 by unfold refStepP; rw [if_pos hr])
    clear hr
    go_wp2_with fail
    go_ret
    exact ⟨by rw [HS.out]; rfl, HB1.out⟩
  have HS0 := Lib.hid (show refStepP RP (had.map GoEv.ev) (GoEv.ev ⟨xk, xt, xv⟩) = _ by unfold refStepP; rw [if_neg (by rw [hr]; simp)])
  clear hr
  go_wp2_with fail
  refine (at_any _ _ had (HIN.out.below HB1.out)).mono ?_
  rintro e w2 ⟨rfl, hb⟩
  have hx2 := (hb.block _ (lt_blk HX1.out)).trans HX1.out
  have HB2 := Lib.hid (below_then HB1.out hb); clear hb x0 x1 x2 x3 HX1
  have HX2 := Lib.hid hx2
  obtain ⟨x0, x1, x2, x3⟩ := ev_cells hx2
  clear hx2
  obtain ⟨S, hS⟩ : ∃ S, stackP (had.map GoEv.ev) = S := ⟨_, rfl⟩
  have HLT := Lib.hid (stackP_lt (had.map GoEv.ev))
  have hSl := stackP_len (had.map GoEv.ev)
  rw [hS, HNL.out] at hSl
  rw [hS] at HS0 HLT
  rw [hS]
  clear hS
  go_upto_region 6 with (fail)
  go_cut [9] (fun u wx => u = .bool (opens xk) ∧ w2 = wx)
  case first =>
    go_wp2
    go_meet
    case rel => exact ⟨by rw [opens_bool, q5, q7, q10]; rfl, rfl⟩
  case rest =>
  obtain ⟨rfl, rfl⟩ := hcut
  have ho : opens xk = false := by rw [opens_bool, q5, q7, q10]; rfl
  rw [ho]
  have HOP := Lib.hid ho; clear ho
  go_upto_region 7 with (fail)
  go_cut [10] (fun u wx => u = .bool (isVal xk) ∧ w2 = wx)
  case first =>
    go_wp2
    go_meet
    case rel => exact ⟨by rw [isVal_bool, HOP.out, q1, q2, q3, q4]; rfl, rfl⟩
  case rest =>
  obtain ⟨rfl, rfl⟩ := hcut
  have hvl : isVal xk = false := by rw [isVal_bool, HOP.out, q1, q2, q3, q4]; rfl
  rw [hvl]
  have HVL := Lib.hid hvl; clear hvl
  cases S with
  | nil =>
    rw [show headI [] = -1 from rfl, List.length_nil]
    have HS := Lib.hid (HS0.out.trans (if_neg (by intro h; have h1 : isVal xk = true := h.1; rw [HVL.out] at h1; cases h1)))
    go_wp2_with fail
    go_ret
    exact ⟨by rw [HS.out]; rfl, HB2.out⟩
  | cons i r =>
    have hi : i < had.length := by have := HLT.out i (by simp); rw [HNL.out] at this; exact this
    rw [show headI (i :: r) = (i : Int) from rfl, List.length_cons]
    have hi2 : i ≤ 1048576 := by omega
    have hrl : r.length ≤ 1048576 := by simp at hSl; omega
    go_wp2_with fail
    refine (own_any _ _ had i hi (HIN.out.below HB2.out)).mono ?_
    rintro e w3 ⟨⟨u, rfl, hrow⟩, hb⟩
    have HB3 := Lib.hid (below_then HB2.out hb)
    have hx3 := (hb.block _ (lt_blk HX2.out)).trans HX2.out
    clear hb x0 x1 x2 x3 HX2
    have HX3 := Lib.hid hx3
    obtain ⟨x0, x1, x2, x3⟩ := ev_cells hx3
    clear hx3
    obtain ⟨R, hR⟩ : ∃ R, ownI 0 (i + 1) ((had.map GoEv.ev).drop (i + 1)) = R := ⟨_, rfl⟩
    obtain ⟨O, hO⟩ : ∃ O, ownE 0 ((had.map GoEv.ev).drop (i + 1)) = O := ⟨_, rfl⟩
    have hRO := ownI_ev ((had.map GoEv.ev).drop (i + 1)) 0 (i + 1) (fun j => ((had.map GoEv.ev)[j]?).getD ⟨0, [], []⟩) (by
      intro j hj
      rw [List.length_drop] at hj
      rw [List.getElem_drop, List.getElem?_eq_getElem (by omega)]; rfl)
    have hRg := ownI_ge ((had.map GoEv.ev).drop (i + 1)) 0 (i + 1)
    have hRl := ownI_le ((had.map GoEv.ev).drop (i + 1)) 0 (i + 1)
    rw [hR] at hrow hRO hRg hRl
    rw [hO] at hRO
    rw [List.length_drop, HNL.out] at hRl hRg
    have HS1 := Lib.hid (show refStepP RP (had.map GoEv.ev) (GoEv.ev ⟨xk, xt, xv⟩) = (if fitsP (kindAt (had.map GoEv.ev) i) (lastK O) (GoEv.ev ⟨xk, xt, xv⟩) = false then 19 else if opens xk = true ∧ 6 ≤ r.length + 1 then 5
      else if xk = 8 ∨ xk = 11 then (if (namesOf xk O).contains xt.data.toList = true then 6 else if 10 ≤ (namesOf xk O).length then 7 else 0) else 0) by rw [← hO]; exact HS0.out)
    have hOL : O.length = R.length := by rw [← hRO, List.length_map]
    have hOJ : ∀ (j : Nat) (hj : j < R.length), ∃ hp : R[j] < had.length, O[j]? = some (had[R[j]]).ev := by
      intro j hj
      have hp : R[j] < had.length := by have := hRg R[j] (List.getElem_mem hj); omega
      refine ⟨hp, ?_⟩
      rw [← hRO, List.getElem?_map, List.getElem?_eq_getElem hj]
      simp only [Option.map_some]
      rw [List.getElem?_map, List.getElem?_eq_getElem hp]; rfl
    have HOJ := Lib.hid hOJ; have HOL := Lib.hid hOL
    clear hR hO hRO hRg HS0 hOJ hOL hSl HLT
    have hR2 : R.length ≤ 1048576 := by omega
    obtain ⟨ua, ucap, rfl, huc, hcj⟩ := row_cells hrow
    have HCJ := Lib.hid hcj
    clear hrow hcj hRl
    have hkq : kindAt (had.map GoEv.ev) i = had[i].k := by unfold kindAt; rw [List.getElem?_map, List.getElem?_eq_getElem hi]; rfl
    rw [hkq] at HS1
    clear hkq
    go_upto_region 14 with (fail)
    go_cut [68] (fun u wx => u = .bool (decide ((0 : Int) < (R.length : Int))) ∧ w3 = wx)
    case first =>
      by_cases h0 : (0 : Int) < (R.length : Int)
      · go_wp2
        go_meet
        case rel => exact ⟨by first | (simp; done) | (simp; omega), rfl⟩
      · go_wp2
        go_meet
        case rel => exact ⟨by first | (simp; done) | (simp; omega), rfl⟩
    case rest =>
    obtain ⟨rfl, rfl⟩ := hcut
    go_upto_if 68 with (fail)
    go_cut [12] (fun u wx => u = .int .i64 (lastK O) ∧ w3 = wx)
    case first =>
      by_cases h0 : R.length = 0
      · have hb : decide ((0 : Int) < (R.length : Int)) = false := decide_eq_false (by omega)
        have hl : lastK O = 0 := by rw [List.eq_nil_of_length_eq_zero (HOL.out.trans h0)]; rfl
        have HL := Lib.hid hl
        rw [hb]
        clear h0 hl hb
        go_wp2
        go_meet
        case rel => exact ⟨by rw [HL.out], rfl⟩
      · obtain ⟨m, hm⟩ : ∃ m, R.length = m + 1 := ⟨R.length - 1, by omega⟩
        have hmR : m < R.length := by omega
        obtain ⟨g, rfl, hcm, hg⟩ := HCJ.out m hmR
        obtain ⟨hp, hoj⟩ := HOJ.out m hmR
        obtain ⟨p, hpe⟩ : ∃ p, R[m] = p := ⟨_, rfl⟩
        simp only [hpe] at hcm hp hoj
        obtain ⟨b, o2, rfl, e0, _, e2⟩ := HC.out w3 HB3.out p hp
        have hl : lastK O = had[p].k := by
          rw [lastK_take O m (by rw [HOL.out, hm])]
          rw [List.getElem?_eq_getElem (by rw [HOL.out]; exact hmR)] at hoj
          injection hoj with hoj
          rw [hoj]; rfl
        have HL := Lib.hid hl
        have hb : decide ((0 : Int) < (R.length : Int)) = true := decide_eq_true (by omega)
        rw [hb, hm]
        have hp1 : (p : Int) < (had.length : Int) := by omega
        have hm2 : m ≤ 1048576 := by omega
        have hp2 : p ≤ 1048576 := by omega
        have hmc : m + 1 ≤ ucap := by omega
        have HM := Lib.hid hm
        clear h0 hl hb hoj
        go_wp2
        rw [← HM.out]
        go_meet
        case rel => exact ⟨by rw [HL.out], rfl⟩
    case rest =>
    obtain ⟨rfl, rfl⟩ := hcut
    obtain ⟨lk, hlk⟩ : ∃ lk, lastK O = lk := ⟨_, rfl⟩
    rw [hlk] at HS1
    rw [hlk]
    clear hlk
    obtain ⟨q, hq⟩ : ∃ q, had[i].k = q := ⟨_, rfl⟩
    rw [hq] at HS1
    obtain ⟨b, o2, rfl, e0, _, e2⟩ := HC.out w3 HB3.out i hi
    rw [hq] at e0
    clear hq
    go_upto_block 0 with fail
    refine fits_walk xk xt xv w3 b o2 had.length cap w.heap.size i q lk _ HVL.out hi hcap hi2 e0 (by omega) x0 x1 x2 x3 hxt _ _ _ _ _ _ _ _ _ _ _ _ _ _ _ _ _ _ _ _ _ _ _ _ _ _ _ _ _ _ _ _ _ _ _ _ _ _ _ _ _ _ _ _ _ _ _ _ _ _ _ _ _ _ _ _ _ _ _ _ _ _ _ _ _ _ _ _ _ _ _ _ _ _ _ _ _ _ _ _ _ _ _ _ _ _ _ _ _ _ _ _ _ _ _ _ _ _ _ _ _ _ _ _ _ _ _ _ _ _ _ _ _ _ _ _ _ _ _ _ _ _ _ _ _ _ _ _ _ _ _ _ _ _ _ _ _ _ _ _ _ _ _ _ _ _ _ _ _ _ _ _ _ _ _ _ _ _ _ _ _ _ _ _ _ _ _ _ _ _ _ _ _ ?_ _ (by rfl)
    intro u16 u17 u18 u19 u20 u21 u22 u23 u24 u25 u26 u27 u28 u29 u30 u31 u32 u33 u34 u35 u36 u37 u38 u39 u40 u41 u42 u43 u44 u45 u46 u47 u48 u49 u50 u51 u52 u53 u54 u55 u56 u57 u58 u59 u60 u61 u62 u63 u64 u65 u66 u67 u68 u69 u70 u71 u72 u73 u74 u75 u76 u77 u78 u79 u80 u81 u82 u83 u84 u85 u86 u87 u88 u89 u90 u91 u92 u93 u94 u95 u96 u97 u98 u99 u100 u101 u102 u103 u104 u105 u106 u107 u108 u109 u110 u111 u112 u113 u114 u115 u116 u117 u118 u119 u120 u121 u122 u123 u124 u125 u126 u127 u128 u129 u130 u131 u132 u133 u134 u135 u136 u137 u138 u139 u140 u141 u142 u143 u144 u145 u146 u147 u148 u149 u150 u151 u152 u153 u154 u155 u156 u157 u158 u159 u160 u161 u162 u163 u164 u165 u166 u167 u168 u169 u170 u171 u172 u173 u174 u175 u176 u177 u178
    obtain ⟨F, hF⟩ : ∃ F, fitsP q lk (GoEv.ev ⟨xk, xt, xv⟩) = F := ⟨_, rfl⟩
    rw [hF] at HS1
    rw [hF]
    clear hF
    cases F
    · have HS := Lib.hid (HS1.out.trans (if_pos rfl))
      clear HS1
      go_wp2_with fail
      go_ret
      exact ⟨by rw [HS.out]; rfl, HB3.out⟩
    have HS2 := Lib.hid (HS1.out.trans (if_neg (by simp)))
    clear HS1
    rw [HOP.out] at HS2
    have HS3 := Lib.hid (HS2.out.trans (if_neg (by intro h; cases h.1)))
    clear HS2
    have hka := HKA.out
    have HS4 := Lib.hid (HS3.out.trans (if_pos hka))
    clear HS3
    go_upto_region 30 with (fail)
    go_cut [147] (fun u wx => u = .bool true ∧ w3 = wx)
    case first =>
      have hks : ((xk == 8) = true) ∨ ((xk == 8) = false ∧ (xk == 11) = true) := by rcases hka with rfl | rfl <;> simp
      clear hka
      rcases hks with q8 | ⟨q8, q11⟩
      · go_wp2
        go_meet
        case rel => exact ⟨rfl, rfl⟩
      · go_wp2
        go_meet
        case rel => exact ⟨rfl, rfl⟩
    case rest =>
    obtain ⟨rfl, rfl⟩ := hcut
    clear hka e0 e2
    go_wp2_with fail
    go_loopw [14, 15] (fun vn vj wr => ∃ (j : Nat) (c : Nat), vj = .int .i64 j ∧ vn = .int .i64 c ∧ j ≤ R.length ∧ c ≤ j ∧ Hid ((namesOf xk (O.take j)).length = c) ∧ Hid ((namesOf xk (O.take j)).contains xt.data.toList = false) ∧ Hid (Below w3.heap.size w3 wr))
      (fun _ vj _ => R.length - (intOf vj).toNat)
    case atStart => exact ⟨0, 0, rfl, rfl, by omega, by omega, rfl, rfl, Below.refl _ _⟩
    case round =>
      obtain ⟨j, c, rfl, rfl, hj, hcj, HN1, HN2, HBr⟩ := hrel
      have HB4 := Lib.hid (below_then HB3.out HBr.out)
      have hx4 := (HBr.out.block _ (lt_blk HX3.out)).trans HX3.out
      obtain ⟨y0, y1, y2, y3⟩ := ev_cells hx4
      clear hx4
      by_cases hjl : j < R.length
      · obtain ⟨g, hua, hcm, hg⟩ := HCJ.out j hjl
        subst hua
        obtain ⟨hp, hoj⟩ := HOJ.out j hjl
        obtain ⟨p, hpe⟩ : ∃ p, R[j] = p := ⟨_, rfl⟩
        simp only [hpe] at hcm hp hoj
        obtain ⟨b', o3, hao2, e0, e1, e2⟩ := HC.out wr HB4.out p hp
        obtain ⟨rfl, rfl⟩ : b = b' ∧ o2 = o3 := by simpa using hao2
        obtain ⟨qq, hqq⟩ : ∃ qq, had[p].k = qq := ⟨_, rfl⟩
        obtain ⟨tt, htt⟩ : ∃ tt, had[p].t = tt := ⟨_, rfl⟩
        obtain ⟨vv, hvv⟩ : ∃ vv, had[p].v = vv := ⟨_, rfl⟩
        have hev : (had[p]).ev = ⟨qq, tt.data.toList, vv.data.toList⟩ := by rw [← hqq, ← htt, ← hvv]; rfl
        rw [hqq] at e0; rw [htt] at e1; rw [hev] at hoj
        have htk : O.take (j + 1) = O.take j ++ [⟨qq, tt.data.toList, vv.data.toList⟩] := by rw [List.take_add_one, hoj]; rfl
        have hns := namesOf_snoc xk (O.take j) ⟨qq, tt.data.toList, vv.data.toList⟩
        rw [← htk] at hns
        have HNS := Lib.hid hns
        have hc0 : wr.cell? ⟨g, j, none⟩ = some (.int .i64 (p : Int)) := by rw [HBr.out.cell (p := ⟨g, j, none⟩) hg]; exact hcm
        have hgr : g < wr.heap.size := by have := HBr.out.size; omega
        have hp1 : (p : Int) < (had.length : Int) := by omega
        have hp2 : p ≤ 1048576 := by omega
        have hj2 : (j : Int) < (R.length : Int) := by omega
        have hj3 : j ≤ 1048576 := by omega
        clear hqq htt hvv hev hoj htk hns hcm hg hpe
        cases hkq : (qq == xk)
        · have hne : qq ≠ xk := by simpa using hkq
          have HE := Lib.hid (HNS.out.trans (by rw [if_neg hne, List.append_nil]))
          clear hne HNS
          go_wp2_with fail
          go_roundw
          case rel => exact ⟨j + 1, c, by go_num, rfl, by omega, by omega, by show _ = _; rw [HE.out]; exact HN1.out, by show _ = _; rw [HE.out]; exact HN2.out, HBr⟩
          case measure => simp [intOf]; omega
        · have heq : qq = xk := by simpa using hkq
          have HE := Lib.hid (HNS.out.trans (by rw [if_pos heq]))
          clear heq HNS
          cases hte : (tt.toList == xt.toList)
          · have hne : tt.data.toList ≠ xt.data.toList := by rw [← ByteArray.toList_eq, ← ByteArray.toList_eq]; simpa using hte
            have HX := Lib.hid (show (namesOf xk (O.take (j + 1))).contains xt.data.toList = false by
              rw [HE.out]
              have h2 := HN2.out
              simp at h2 ⊢
              exact ⟨h2, fun h => hne (by rw [h])⟩)
            have HY := Lib.hid (show (namesOf xk (O.take (j + 1))).length = c + 1 by rw [HE.out, List.length_append, HN1.out]; rfl)
            clear hne HE
            go_wp2_with fail
            go_region
            all_goals
              go_wp2_with fail
              go_roundw
              case rel => exact ⟨j + 1, c + 1, by go_num, by go_num, by omega, by omega, HY, HX, HBr.out.drew⟩
              case measure => simp [intOf]; omega
          · have he2 : tt.data.toList = xt.data.toList := by rw [← ByteArray.toList_eq, ← ByteArray.toList_eq]; simpa using hte
            have HS := Lib.hid (HS4.out.trans (if_pos (by
              have hsp : O = O.take (j + 1) ++ O.drop (j + 1) := (List.take_append_drop _ _).symm
              rw [hsp, namesOf_app, HE.out]
              simp [he2])))
            clear he2 HE HS4
            go_wp2_with fail
            go_region
            all_goals
              go_wp2_with fail
              go_ret
              exact ⟨by rw [HS.out]; rfl, HB4.out.drew⟩
      · obtain rfl : j = R.length := by omega
        have hte : O.take R.length = O := by rw [← HOL.out]; exact List.take_length
        rw [hte] at HN1 HN2
        have HS5 := Lib.hid (HS4.out.trans (if_neg (by rw [HN2.out]; simp)))
        rw [HN1.out] at HS5
        clear hte hjl HS4
        by_cases h10 : (10 : Int) ≤ (c : Int)
        · have HS := Lib.hid (HS5.out.trans (if_pos (by omega)))
          clear HS5
          go_wp2_with fail
          go_ret
          exact ⟨by rw [HS.out]; rfl, HB4.out⟩
        · have HS := Lib.hid (HS5.out.trans (if_neg (by omega)))
          clear HS5
          go_wp2_with fail
          go_ret
          exact ⟨by rw [HS.out]; rfl, HB4.out⟩
end Go.Proofs.YtmniblcooficgaaGreatDoor
