import Derived.Deep.DeepCutAuto
import Derived.Deep.CutBlock
import Derived.Test.YtmniblcooficgaaGreatDoorD17
namespace Go.Proofs.YtmniblcooficgaaGreatDoor
open Go.RowKit Ev5
set_option linter.unusedSimpArgs false
set_option linter.unusedVariables false

theorem row_cells {w : World} {base : Nat} {u : Value} {s : List Nat} (h : w.ownsRow base 3 1 u s.length (fwd s)) : ∃ a cap, u = .slice a s.length cap ∧ s.length ≤ cap ∧ ∀ (j : Nat) (hj : j < s.length), ∃ g, a = some ⟨g, 0, none⟩ ∧ w.cell? ⟨g, j, none⟩ = some (.int .i64 (s[j] : Int)) ∧ g < w.heap.size := by
  rcases h.2 with ⟨rfl, h0⟩ | ⟨g, cap, cur, rfl, hb, hg, hc, _⟩
  · exact ⟨none, 0, by rw [h0], by omega, fun j hj => by omega⟩
  · refine ⟨_, cap, rfl, hc, fun j hj => ⟨g, rfl, ?_, lt_blk hg⟩⟩
    have := h.cells (g := g) (by simp [Value.ownBlock]) j (.int .i64 (s[j] : Int)) (by simp [fwd, hj])
    have e : (⟨g, 0, none⟩ : Addr).add j = ⟨g, j, none⟩ := by unfold Addr.add; split <;> simp_all
    rw [← e]; exact this
theorem namesOf_app (k : Int) (a b : List Ev) : namesOf k (a ++ b) = namesOf k a ++ namesOf k b := by simp [namesOf]
theorem stackP_len (l : List Ev) : (stackP l).length ≤ l.length := by
  have gen : ∀ (l : List Ev) (s : List Nat) (i : Nat), (stackFrom s i l).length ≤ s.length + l.length := by
    intro l
    induction l with
    | nil => intro s i; simp [stackFrom]
    | cons x r ih =>
      intro s i
      have := ih (push s i x.kind) (i + 1)
      have hp : (push s i x.kind).length ≤ s.length + 1 := by
        unfold push; split
        · simp
        · split
          · simp; omega
          · omega
      simp only [stackFrom, List.length_cons]; omega
  have := gen l [] 0
  simpa [stackP] using this
theorem lastK_take (O : List Ev) (m : Nat) (h : O.length = m + 1) : lastK O = (O[m]'(by omega)).kind := by
  unfold lastK
  rw [List.getLast?_eq_getElem?, show O.length - 1 = m by omega, List.getElem?_eq_getElem (by omega)]
set_option maxRecDepth 1000000 in
set_option maxHeartbeats 16000000 in
theorem refStep_no (w : World) (v : Value) (had : List GoEv) (hin : EvIn w v had) (x : GoEv) (hx : EvOK x) (hka : ¬ (x.k = 8 ∨ x.k = 11)) :
    Calls Tryz.prog 65 #[v, evV x] w fun e w' => e = .returned (.int .i64 (refStepP RP (had.map GoEv.ev) x.ev)) ∧ Below w.heap.size w w' := by
  obtain ⟨xk, xt, xv⟩ := x
  change ¬ (xk = 8 ∨ xk = 11) at hka
  have q8 : (xk == 8) = false := by simp; omega
  have q11 : (xk == 11) = false := by simp; omega
  have HKA := Lib.hid hka; clear hka
  have HIN := Lib.hid hin
  obtain ⟨ao, cap, rfl, hcap, hcm, hcells⟩ := hin.ex
  have hlen := hin.len
  have HC := Lib.hid (show ∀ (W : World), Below w.heap.size w W → ∀ (i : Nat) (h : i < had.length), ∃ b o, ao = some ⟨b, o, none⟩ ∧ W.cell? ⟨b, o + i * 3, none⟩ = some (.int .i64 had[i].k) ∧ W.cell? ⟨b, o + i * 3 + 1, none⟩ = some (.string had[i].t) ∧ b < W.heap.size from fun W hW i h => by
    obtain ⟨b, o, e, c0, c1, _⟩ := hcells i h
    have hl := cell_lt c0
    exact ⟨b, o, e, by rw [hW.cell (p := ⟨b, o + i * 3, none⟩) hl]; exact c0, by rw [hW.cell (p := ⟨b, o + i * 3 + 1, none⟩) hl]; exact c1, by have := hW.size; have : b < w.heap.size := hl; omega⟩)
  have hxt : xt.size ≤ 1048576 := hx.t
  have hxv : xv.size ≤ 1048576 := hx.v
  clear hin hcells hx
  have HNL := Lib.hid (show (had.map GoEv.ev).length = had.length from List.length_map _)
  show Calls Tryz.prog 65 #[.slice ao had.length cap, .agg #[.int .i64 xk, .string xt, .string xv]] w _
  go_enter Tryz.func65, Tryz.ntmps65
  go_wp2_with fail
  refine (refRight_any ⟨xk, xt, xv⟩ _ hxt hxv).mono ?_
  rintro e w1 ⟨rfl, hb⟩
  have hx1 := (hb.block _ (by simp)).trans (heap_alloc_new w (.cells (evC ⟨xk, xt, xv⟩) 85))
  have HB1 := Lib.hid (below_after hb); clear hb
  have HX1 := Lib.hid hx1
  obtain ⟨x0, x1, x2, x3⟩ := ev_cells hx1
  clear hx1
  cases hr : RP (GoEv.ev ⟨xk, xt, xv⟩)
  · have HS := Lib.hid (show refStepP RP (had.map GoEv.ev) (GoEv.ev ⟨xk, xt, xv⟩) = 19 by unfold refStepP; rw [if_pos hr])
    clear hr
    go_wp2_with fail
    go_ret
    exact ⟨by rw [HS.out]; rfl, HB1.out⟩
  have HS0 := Lib.hid (show refStepP RP (had.map GoEv.ev) (GoEv.ev ⟨xk, xt, xv⟩) = _ by unfold refStepP; rw [if_neg (by rw [hr]; simp)])
  clear hr
  go_wp2_with fail
  refine (at_any _ _ had (HIN.out.below HB1.out)).mono ?_
  rintro e w2 ⟨rfl, hb⟩
  have hx2 := (hb.block _ (lt_blk HX1.out)).trans HX1.out
  have HB2 := Lib.hid (below_then HB1.out hb); clear hb x0 x1 x2 x3 HX1
  have HX2 := Lib.hid hx2
  obtain ⟨x0, x1, x2, x3⟩ := ev_cells hx2
  clear hx2
  obtain ⟨S, hS⟩ : ∃ S, stackP (had.map GoEv.ev) = S := ⟨_, rfl⟩
  have HLT := Lib.hid (stackP_lt (had.map GoEv.ev))
  have hSl := stackP_len (had.map GoEv.ev)
  rw [hS, HNL.out] at hSl
  rw [hS] at HS0 HLT
  rw [hS]
  clear hS
  go_upto_region 6 with (fail)
  go_cut [9] (fun u wx => u = .bool (opens xk) ∧ w2 = wx)
  case first =>
    cases q5 : (xk == 5)
    · cases q7 : (xk == 7)
      · cases q10 : (xk == 10)
        · go_wp2
          go_meet
          case rel => exact ⟨by rw [opens_bool, q5, q7, q10]; rfl, rfl⟩
        · go_wp2
          go_meet
          case rel => exact ⟨by rw [opens_bool, q5, q7, q10]; rfl, rfl⟩
      · go_wp2
        go_meet
        case rel => exact ⟨by rw [opens_bool, q5, q7]; rfl, rfl⟩
    · go_wp2
      go_meet
      case rel => exact ⟨by rw [opens_bool, q5]; rfl, rfl⟩
  case rest =>
  obtain ⟨rfl, rfl⟩ := hcut
  obtain ⟨o, ho⟩ : ∃ o, opens xk = o := ⟨_, rfl⟩
  rw [ho]
  have HOP := Lib.hid ho; clear ho
  go_upto_region 7 with (fail)
  go_cut [10] (fun u wx => u = .bool (isVal xk) ∧ w2 = wx)
  case first =>
    cases o
    · cases q1 : (xk == 1)
      · cases q2 : (xk == 2)
        · cases q3 : (xk == 3)
          · cases q4 : (xk == 4)
            · go_wp2
              go_meet
              case rel => exact ⟨by rw [isVal_bool, HOP.out, q1, q2, q3, q4]; rfl, rfl⟩
            · go_wp2
              go_meet
              case rel => exact ⟨by rw [isVal_bool, HOP.out, q1, q2, q3, q4]; rfl, rfl⟩
          · go_wp2
            go_meet
            case rel => exact ⟨by rw [isVal_bool, HOP.out, q1, q2, q3]; rfl, rfl⟩
        · go_wp2
          go_meet
          case rel => exact ⟨by rw [isVal_bool, HOP.out, q1, q2]; rfl, rfl⟩
      · go_wp2
        go_meet
        case rel => exact ⟨by rw [isVal_bool, HOP.out, q1]; rfl, rfl⟩
    · go_wp2
      go_meet
      case rel => exact ⟨by rw [isVal_bool, HOP.out]; rfl, rfl⟩
  case rest =>
  obtain ⟨rfl, rfl⟩ := hcut
  obtain ⟨vl, hvl⟩ : ∃ vl, isVal xk = vl := ⟨_, rfl⟩
  rw [hvl]
  have HVL := Lib.hid hvl; clear hvl
  cases S with
  | nil =>
    rw [show headI [] = -1 from rfl, List.length_nil]
    cases vl
    · have HS := Lib.hid (HS0.out.trans (if_neg (by intro h; have h1 : isVal xk = true := h.1; rw [HVL.out] at h1; cases h1)))
      go_wp2_with fail
      go_ret
      exact ⟨by rw [HS.out]; rfl, HB2.out⟩
    · by_cases h0 : had.length = 0
      · obtain rfl : had = [] := List.eq_nil_of_length_eq_zero h0
        have HS := Lib.hid (HS0.out.trans (if_pos ⟨HVL.out, rfl⟩))
        simp only [List.length_nil] at HC HIN ⊢
        clear h0
        have HSn := Lib.hid (show refStepP RP [] (GoEv.ev ⟨xk, xt, xv⟩) = 0 from HS.out)
        go_wp2_with fail
        go_ret
        exact ⟨by show _ = Ending.returned (.int .i64 (refStepP RP [] (GoEv.ev ⟨xk, xt, xv⟩))); rw [HSn.out]; rfl, HB2.out⟩
      · have HS := Lib.hid (HS0.out.trans (if_neg (by intro h; have := congrArg List.length h.2; simp at this; rw [this] at h0; exact h0 rfl)))
        have hp : (0 : Int) < (had.length : Int) := by omega
        clear h0
        go_wp2_with fail
        go_ret
        exact ⟨by rw [HS.out]; rfl, HB2.out⟩
  | cons i r =>
    have hi : i < had.length := by have := HLT.out i (by simp); rw [HNL.out] at this; exact this
    rw [show headI (i :: r) = (i : Int) from rfl, List.length_cons]
    have hi2 : i ≤ 1048576 := by omega
    have hrl : r.length ≤ 1048576 := by simp at hSl; omega
    go_wp2_with fail
    refine (own_any _ _ had i hi (HIN.out.below HB2.out)).mono ?_
    rintro e w3 ⟨⟨u, rfl, hrow⟩, hb⟩
    have HB3 := Lib.hid (below_then HB2.out hb)
    have hx3 := (hb.block _ (lt_blk HX2.out)).trans HX2.out
    clear hb x0 x1 x2 x3 HX2
    have HX3 := Lib.hid hx3
    obtain ⟨x0, x1, x2, x3⟩ := ev_cells hx3
    clear hx3
    obtain ⟨R, hR⟩ : ∃ R, ownI 0 (i + 1) ((had.map GoEv.ev).drop (i + 1)) = R := ⟨_, rfl⟩
    obtain ⟨O, hO⟩ : ∃ O, ownE 0 ((had.map GoEv.ev).drop (i + 1)) = O := ⟨_, rfl⟩
    have hRO := ownI_ev ((had.map GoEv.ev).drop (i + 1)) 0 (i + 1) (fun j => ((had.map GoEv.ev)[j]?).getD ⟨0, [], []⟩) (by
      intro j hj
      rw [List.length_drop] at hj
      rw [List.getElem_drop, List.getElem?_eq_getElem (by omega)]; rfl)
    have hRg := ownI_ge ((had.map GoEv.ev).drop (i + 1)) 0 (i + 1)
    have hRl := ownI_le ((had.map GoEv.ev).drop (i + 1)) 0 (i + 1)
    rw [hR] at hrow hRO hRg hRl
    rw [hO] at hRO
    rw [List.length_drop, HNL.out] at hRl hRg
    have HS1 := Lib.hid (show refStepP RP (had.map GoEv.ev) (GoEv.ev ⟨xk, xt, xv⟩) = (if fitsP (kindAt (had.map GoEv.ev) i) (lastK O) (GoEv.ev ⟨xk, xt, xv⟩) = false then 19 else if opens xk = true ∧ 6 ≤ r.length + 1 then 5
      else if xk = 8 ∨ xk = 11 then (if (namesOf xk O).contains xt.data.toList = true then 6 else if 10 ≤ (namesOf xk O).length then 7 else 0) else 0) by rw [← hO]; exact HS0.out)
    have hOL : O.length = R.length := by rw [← hRO, List.length_map]
    have hOJ : ∀ (j : Nat) (hj : j < R.length), ∃ hp : R[j] < had.length, O[j]? = some (had[R[j]]).ev := by
      intro j hj
      have hp : R[j] < had.length := by have := hRg R[j] (List.getElem_mem hj); omega
      refine ⟨hp, ?_⟩
      rw [← hRO, List.getElem?_map, List.getElem?_eq_getElem hj]
      simp only [Option.map_some]
      rw [List.getElem?_map, List.getElem?_eq_getElem hp]; rfl
    have HOJ := Lib.hid hOJ; have HOL := Lib.hid hOL
    clear hR hO hRO hRg HS0 hOJ hOL hSl HLT
    have hR2 : R.length ≤ 1048576 := by omega
    obtain ⟨ua, ucap, rfl, huc, hcj⟩ := row_cells hrow
    have HCJ := Lib.hid hcj
    clear hrow hcj hRl
    have hkq : kindAt (had.map GoEv.ev) i = had[i].k := by unfold kindAt; rw [List.getElem?_map, List.getElem?_eq_getElem hi]; rfl
    rw [hkq] at HS1
    clear hkq
    go_upto_region 14 with (fail)
    go_cut [68] (fun u wx => u = .bool (decide ((0 : Int) < (R.length : Int))) ∧ w3 = wx)
    case first =>
      by_cases h0 : (0 : Int) < (R.length : Int)
      · go_wp2
        go_meet
        case rel => exact ⟨by first | (simp; done) | (simp; omega), rfl⟩
      · go_wp2
        go_meet
        case rel => exact ⟨by first | (simp; done) | (simp; omega), rfl⟩
    case rest =>
    obtain ⟨rfl, rfl⟩ := hcut
    go_upto_if 68 with (fail)
    go_cut [12] (fun u wx => u = .int .i64 (lastK O) ∧ w3 = wx)
    case first =>
      by_cases h0 : R.length = 0
      · have hb : decide ((0 : Int) < (R.length : Int)) = false := decide_eq_false (by omega)
        have hl : lastK O = 0 := by rw [List.eq_nil_of_length_eq_zero (HOL.out.trans h0)]; rfl
        have HL := Lib.hid hl
        rw [hb]
        clear h0 hl hb
        go_wp2
        go_meet
        case rel => exact ⟨by rw [HL.out], rfl⟩
      · obtain ⟨m, hm⟩ : ∃ m, R.length = m + 1 := ⟨R.length - 1, by omega⟩
        have hmR : m < R.length := by omega
        obtain ⟨g, rfl, hcm, hg⟩ := HCJ.out m hmR
        obtain ⟨hp, hoj⟩ := HOJ.out m hmR
        obtain ⟨p, hpe⟩ : ∃ p, R[m] = p := ⟨_, rfl⟩
        simp only [hpe] at hcm hp hoj
        obtain ⟨b, o2, rfl, e0, _, e2⟩ := HC.out w3 HB3.out p hp
        have hl : lastK O = had[p].k := by
          rw [lastK_take O m (by rw [HOL.out, hm])]
          rw [List.getElem?_eq_getElem (by rw [HOL.out]; exact hmR)] at hoj
          injection hoj with hoj
          rw [hoj]; rfl
        have HL := Lib.hid hl
        have hb : decide ((0 : Int) < (R.length : Int)) = true := decide_eq_true (by omega)
        rw [hb, hm]
        have hp1 : (p : Int) < (had.length : Int) := by omega
        have hm2 : m ≤ 1048576 := by omega
        have hp2 : p ≤ 1048576 := by omega
        have hmc : m + 1 ≤ ucap := by omega
        have HM := Lib.hid hm
        clear h0 hl hb hoj
        go_wp2
        rw [← HM.out]
        go_meet
        case rel => exact ⟨by rw [HL.out], rfl⟩
    case rest =>
    obtain ⟨rfl, rfl⟩ := hcut
    obtain ⟨lk, hlk⟩ : ∃ lk, lastK O = lk := ⟨_, rfl⟩
    rw [hlk] at HS1
    rw [hlk]
    clear hlk
    obtain ⟨q, hq⟩ : ∃ q, had[i].k = q := ⟨_, rfl⟩
    rw [hq] at HS1
    obtain ⟨b, o2, rfl, e0, _, e2⟩ := HC.out w3 HB3.out i hi
    rw [hq] at e0
    clear hq
    go_upto_block 0 with fail
    refine fits_walk xk xt xv w3 b o2 had.length cap w.heap.size i q lk _ HVL.out hi hcap hi2 e0 (by omega) x0 x1 x2 x3 hxt _ _ _ _ _ _ _ _ _ _ _ _ _ _ _ _ _ _ _ _ _ _ _ _ _ _ _ _ _ _ _ _ _ _ _ _ _ _ _ _ _ _ _ _ _ _ _ _ _ _ _ _ _ _ _ _ _ _ _ _ _ _ _ _ _ _ _ _ _ _ _ _ _ _ _ _ _ _ _ _ _ _ _ _ _ _ _ _ _ _ _ _ _ _ _ _ _ _ _ _ _ _ _ _ _ _ _ _ _ _ _ _ _ _ _ _ _ _ _ _ _ _ _ _ _ _ _ _ _ _ _ _ _ _ _ _ _ _ _ _ _ _ _ _ _ _ _ _ _ _ _ _ _ _ _ _ _ _ _ _ _ _ _ _ _ _ _ _ _ _ _ _ _ ?_ _ (by rfl)
    intro u16 u17 u18 u19 u20 u21 u22 u23 u24 u25 u26 u27 u28 u29 u30 u31 u32 u33 u34 u35 u36 u37 u38 u39 u40 u41 u42 u43 u44 u45 u46 u47 u48 u49 u50 u51 u52 u53 u54 u55 u56 u57 u58 u59 u60 u61 u62 u63 u64 u65 u66 u67 u68 u69 u70 u71 u72 u73 u74 u75 u76 u77 u78 u79 u80 u81 u82 u83 u84 u85 u86 u87 u88 u89 u90 u91 u92 u93 u94 u95 u96 u97 u98 u99 u100 u101 u102 u103 u104 u105 u106 u107 u108 u109 u110 u111 u112 u113 u114 u115 u116 u117 u118 u119 u120 u121 u122 u123 u124 u125 u126 u127 u128 u129 u130 u131 u132 u133 u134 u135 u136 u137 u138 u139 u140 u141 u142 u143 u144 u145 u146 u147 u148 u149 u150 u151 u152 u153 u154 u155 u156 u157 u158 u159 u160 u161 u162 u163 u164 u165 u166 u167 u168 u169 u170 u171 u172 u173 u174 u175 u176 u177 u178
    obtain ⟨F, hF⟩ : ∃ F, fitsP q lk (GoEv.ev ⟨xk, xt, xv⟩) = F := ⟨_, rfl⟩
    rw [hF] at HS1
    rw [hF]
    clear hF
    cases F
    · have HS := Lib.hid (HS1.out.trans (if_pos rfl))
      clear HS1
      go_wp2_with fail
      go_ret
      exact ⟨by rw [HS.out]; rfl, HB3.out⟩
    have HS2 := Lib.hid (HS1.out.trans (if_neg (by simp)))
    clear HS1
    rw [HOP.out] at HS2
    by_cases hdeep : o = true ∧ 6 ≤ r.length + 1
    · obtain ⟨rfl, h6⟩ := hdeep
      have HS := Lib.hid (HS2.out.trans (if_pos ⟨rfl, h6⟩))
      have h6i : (6 : Int) ≤ (r.length : Int) + 1 := by omega
      clear HS2
      go_wp2_with fail
      go_ret
      exact ⟨by rw [HS.out]; rfl, HB3.out⟩
    have HS3 := Lib.hid (HS2.out.trans (if_neg hdeep))
    clear HS2
    go_upto_region 28 with (fail)
    go_cut [141] (fun u wx => u = .bool false ∧ w3 = wx)
    case first =>
      cases o
      · go_wp2
        go_meet
        case rel => exact ⟨rfl, rfl⟩
      · have h6i : decide ((6 : Int) ≤ (r.length : Int) + 1) = false := decide_eq_false (by intro h; exact hdeep ⟨rfl, by omega⟩)
        clear hdeep
        go_wp2
        go_meet
        case rel => exact ⟨rfl, rfl⟩
    case rest =>
    obtain ⟨rfl, rfl⟩ := hcut
    clear hdeep
    have HS := Lib.hid (HS3.out.trans (if_neg HKA.out))
    clear HS3
    go_wp2_with fail
    go_ret
    exact ⟨by rw [HS.out]; rfl, HB3.out⟩
end Go.Proofs.YtmniblcooficgaaGreatDoor
