import Derived.Deep.DeepCutAuto
import Derived.Deep.CutBlock
import Derived.Test.YtmniblcooficgaaGreatDoorD08
import Derived.Test.YtmniblcooficgaaGreatDoorD16
namespace Go.Proofs.YtmniblcooficgaaGreatDoor
open Go.RowKit Ev5
set_option linter.unusedSimpArgs false
set_option linter.unusedVariables false

def blkOf (n : Nat) : Code → Option Code
  | .block m c => if m = n then some (.block m c) else blkOf n c
  | .seq a b => (blkOf n a).orElse fun _ => blkOf n b
  | .cond _ a b => (blkOf n a).orElse fun _ => blkOf n b
  | .loop a => blkOf n a
  | .scope a => blkOf n a
  | _ => none
theorem opens_bool (k : Int) : opens k = ((k == 5) || ((k == 7) || (k == 10))) := by
  unfold opens; rw [Bool.eq_iff_iff]; simp
theorem isVal_bool (k : Int) : isVal k = (opens k || ((k == 1) || ((k == 2) || ((k == 3) || (k == 4))))) := by
  unfold isVal; congr 1; rw [Bool.eq_iff_iff]; simp

set_option maxRecDepth 1000000 in
set_option maxHeartbeats 16000000 in
theorem fits_walk (xk : Int) (xt xv : ByteArray) (w3 : World) (b o2 n cap g0 i : Nat) (q lk : Int) (vl : Bool)
    (hVL : isVal xk = vl) (hi : i < n) (hcap : n ≤ cap) (hi2 : i ≤ 1048576)
    (e0 : w3.cell? ⟨b, o2 + i * 3, none⟩ = some (.int .i64 q)) (hb : b < w3.heap.size)
    (x0 : w3.cell? ⟨g0, 0, none⟩ = some (.int .i64 xk)) (x1 : w3.cell? ⟨g0, 1, none⟩ = some (.string xt)) (x2 : w3.cell? ⟨g0, 2, none⟩ = some (.string xv)) (hg : g0 < w3.heap.size)
    (hxt : xt.size ≤ 1048576)
    (PK : Act → World → Prop) (PR : Ending → World → Prop) (t1 t2 t4 t5 t7 t9 t11 t14 t15 t16 t17 t18 t19 t20 t21 t22 t23 t24 t25 t26 t27 t28 t29 t30 t31 t32 t33 t34 t35 t36 t37 t38 t39 t40 t41 t42 t43 t44 t45 t46 t47 t48 t49 t50 t51 t52 t53 t54 t55 t56 t57 t58 t59 t60 t61 t62 t63 t64 t65 t66 t67 t68 t69 t70 t71 t72 t73 t74 t75 t76 t77 t78 t79 t80 t81 t82 t84 t85 t86 t87 t88 t89 t90 t91 t92 t93 t94 t95 t96 t97 t98 t99 t100 t101 t102 t103 t104 t105 t106 t107 t108 t109 t110 t111 t112 t113 t114 t115 t116 t117 t118 t119 t120 t121 t122 t123 t124 t125 t126 t127 t128 t129 t130 t131 t132 t133 t134 t135 t136 t137 t138 t139 t140 t141 t142 t143 t144 t145 t146 t147 t148 t149 t150 t151 t152 t153 t154 t155 t156 t157 t158 t159 t160 t161 t162 t163 t164 t165 t166 t167 t168 t169 t170 t171 t172 t173 t174 t175 t176 t177 t178 : Value)
    (hK : ∀ (u16 u17 u18 u19 u20 u21 u22 u23 u24 u25 u26 u27 u28 u29 u30 u31 u32 u33 u34 u35 u36 u37 u38 u39 u40 u41 u42 u43 u44 u45 u46 u47 u48 u49 u50 u51 u52 u53 u54 u55 u56 u57 u58 u59 u60 u61 u62 u63 u64 u65 u66 u67 u68 u69 u70 u71 u72 u73 u74 u75 u76 u77 u78 u79 u80 u81 u82 u83 u84 u85 u86 u87 u88 u89 u90 u91 u92 u93 u94 u95 u96 u97 u98 u99 u100 u101 u102 u103 u104 u105 u106 u107 u108 u109 u110 u111 u112 u113 u114 u115 u116 u117 u118 u119 u120 u121 u122 u123 u124 u125 u126 u127 u128 u129 u130 u131 u132 u133 u134 u135 u136 u137 u138 u139 u140 u141 u142 u143 u144 u145 u146 u147 u148 u149 u150 u151 u152 u153 u154 u155 u156 u157 u158 u159 u160 u161 u162 u163 u164 u165 u166 u167 u168 u169 u170 u171 u172 u173 u174 u175 u176 u177 u178 : Value), PK ⟨List.toArray (.slice (some ⟨b, o2, none⟩) n cap :: t1 :: t2 :: .pointer (some ⟨g0, 0, none⟩) :: t4 :: t5 :: .int .i64 (i : Int) :: t7 :: .int .i64 xk :: t9 :: .bool vl :: t11 :: .int .i64 lk :: .bool (fitsP q lk (GoEv.ev ⟨xk, xt, xv⟩)) :: t14 :: t15 :: u16 :: u17 :: u18 :: u19 :: u20 :: u21 :: u22 :: u23 :: u24 :: u25 :: u26 :: u27 :: u28 :: u29 :: u30 :: u31 :: u32 :: u33 :: u34 :: u35 :: u36 :: u37 :: u38 :: u39 :: u40 :: u41 :: u42 :: u43 :: u44 :: u45 :: u46 :: u47 :: u48 :: u49 :: u50 :: u51 :: u52 :: u53 :: u54 :: u55 :: u56 :: u57 :: u58 :: u59 :: u60 :: u61 :: u62 :: u63 :: u64 :: u65 :: u66 :: u67 :: u68 :: u69 :: u70 :: u71 :: u72 :: u73 :: u74 :: u75 :: u76 :: u77 :: u78 :: u79 :: u80 :: u81 :: u82 :: u83 :: u84 :: u85 :: u86 :: u87 :: u88 :: u89 :: u90 :: u91 :: u92 :: u93 :: u94 :: u95 :: u96 :: u97 :: u98 :: u99 :: u100 :: u101 :: u102 :: u103 :: u104 :: u105 :: u106 :: u107 :: u108 :: u109 :: u110 :: u111 :: u112 :: u113 :: u114 :: u115 :: u116 :: u117 :: u118 :: u119 :: u120 :: u121 :: u122 :: u123 :: u124 :: u125 :: u126 :: u127 :: u128 :: u129 :: u130 :: u131 :: u132 :: u133 :: u134 :: u135 :: u136 :: u137 :: u138 :: u139 :: u140 :: u141 :: u142 :: u143 :: u144 :: u145 :: u146 :: u147 :: u148 :: u149 :: u150 :: u151 :: u152 :: u153 :: u154 :: u155 :: u156 :: u157 :: u158 :: u159 :: u160 :: u161 :: u162 :: u163 :: u164 :: u165 :: u166 :: u167 :: u168 :: u169 :: u170 :: u171 :: u172 :: u173 :: u174 :: u175 :: u176 :: u177 :: u178 :: []), []⟩ w3)
    (c : Code) (hc : blkOf 0 (Tryz.f65.body.getD .skip) = some c) :
    c.wp Tryz.prog (Exit.then PK (bodyPost Tryz.prog Tryz.f65 PR)) ⟨List.toArray (.slice (some ⟨b, o2, none⟩) n cap :: t1 :: t2 :: .pointer (some ⟨g0, 0, none⟩) :: t4 :: t5 :: .int .i64 (i : Int) :: t7 :: .int .i64 xk :: t9 :: .bool vl :: t11 :: .int .i64 lk :: .bool false :: t14 :: t15 :: t16 :: t17 :: t18 :: t19 :: t20 :: t21 :: t22 :: t23 :: t24 :: t25 :: t26 :: t27 :: t28 :: t29 :: t30 :: t31 :: t32 :: t33 :: t34 :: t35 :: t36 :: t37 :: t38 :: t39 :: t40 :: t41 :: t42 :: t43 :: t44 :: t45 :: t46 :: t47 :: t48 :: t49 :: t50 :: t51 :: t52 :: t53 :: t54 :: t55 :: t56 :: t57 :: t58 :: t59 :: t60 :: t61 :: t62 :: t63 :: t64 :: t65 :: t66 :: t67 :: t68 :: t69 :: t70 :: t71 :: t72 :: t73 :: t74 :: t75 :: t76 :: t77 :: t78 :: t79 :: t80 :: t81 :: t82 :: .int .i64 q :: t84 :: t85 :: t86 :: t87 :: t88 :: t89 :: t90 :: t91 :: t92 :: t93 :: t94 :: t95 :: t96 :: t97 :: t98 :: t99 :: t100 :: t101 :: t102 :: t103 :: t104 :: t105 :: t106 :: t107 :: t108 :: t109 :: t110 :: t111 :: t112 :: t113 :: t114 :: t115 :: t116 :: t117 :: t118 :: t119 :: t120 :: t121 :: t122 :: t123 :: t124 :: t125 :: t126 :: t127 :: t128 :: t129 :: t130 :: t131 :: t132 :: t133 :: t134 :: t135 :: t136 :: t137 :: t138 :: t139 :: t140 :: t141 :: t142 :: t143 :: t144 :: t145 :: t146 :: t147 :: t148 :: t149 :: t150 :: t151 :: t152 :: t153 :: t154 :: t155 :: t156 :: t157 :: t158 :: t159 :: t160 :: t161 :: t162 :: t163 :: t164 :: t165 :: t166 :: t167 :: t168 :: t169 :: t170 :: t171 :: t172 :: t173 :: t174 :: t175 :: t176 :: t177 :: t178 :: []), []⟩ w3 := by
  have hc' : blkOf 0 (Tryz.f65.body.getD .skip) = some _ := rfl
  rw [hc'] at hc
  injection hc with hc
  subst hc
  have HVL := Lib.hid hVL
  have HK := Lib.hid hK
  clear hVL hc' hK
  have hin : (i : Int) < (n : Int) := by omega
  go_cut [13] (fun u wx => u = .bool (fitsP q lk (GoEv.ev ⟨xk, xt, xv⟩)) ∧ w3 = wx)
  case first =>
    by_cases e5 : q = 5
    · subst e5
      have HF := Lib.hid (show fitsP 5 lk (GoEv.ev ⟨xk, xt, xv⟩) = (vl || (xk == 6)) by rw [← HVL.out]; rfl)
      cases vl
      · cases q6 : (xk == 6)
        · go_wp2
          go_meet
          case rel => exact ⟨by rw [HF.out, q6]; rfl, rfl⟩
        · go_wp2
          go_meet
          case rel => exact ⟨by rw [HF.out, q6]; rfl, rfl⟩
      · go_wp2
        go_meet
        case rel => exact ⟨by rw [HF.out]; rfl, rfl⟩
    have e5b : (q == 5) = false := by simp [e5]
    by_cases e7 : q = 7
    · subst e7
      clear e5
      by_cases l8 : lk = 8
      · subst l8
        have HF := Lib.hid (show fitsP 7 8 (GoEv.ev ⟨xk, xt, xv⟩) = vl by rw [← HVL.out]; rfl)
        go_wp2
        go_meet
        case rel => exact ⟨by first | (rw [HF.out]; done) | (rw [HF.out]; rfl), rfl⟩
      · have l8b : (lk == 8) = false := by simp [l8]
        have HF := Lib.hid (show fitsP 7 lk (GoEv.ev ⟨xk, xt, xv⟩) = ((xk == 8) || (xk == 9)) by
          unfold fitsP
          rw [if_neg (by decide), if_pos rfl, if_neg l8, Bool.eq_iff_iff]; simp [GoEv.ev]; exact decide_eq_true_iff)
        clear l8
        cases q8 : (xk == 8)
        · cases q9 : (xk == 9)
          · go_wp2
            go_meet
            case rel => exact ⟨by rw [HF.out, q8, q9]; rfl, rfl⟩
          · go_wp2
            go_meet
            case rel => exact ⟨by rw [HF.out, q8, q9]; rfl, rfl⟩
        · go_wp2
          go_meet
          case rel => exact ⟨by rw [HF.out, q8]; rfl, rfl⟩
    have e7b : (q == 7) = false := by simp [e7]
    by_cases e10 : q = 10
    · subst e10
      clear e5 e7
      have HF := Lib.hid (show fitsP 10 lk (GoEv.ev ⟨xk, xt, xv⟩) = ((xk == 10) || ((xk == 12) || (((xk == 4) && ((!xt.toList.isEmpty) && (lk != 4))) || ((xk == 11) && ((lk == 0) || (lk == 11)))))) by
        unfold fitsP
        rw [if_neg (by decide), if_neg (by decide), if_pos rfl, Bool.eq_iff_iff, ← isE_l xt]
        simp [GoEv.ev])
      cases q10 : (xk == 10)
      · cases q12 : (xk == 12)
        · cases q4 : (xk == 4)
          · cases q11 : (xk == 11)
            · go_wp2
              go_meet
              case rel => exact ⟨by rw [HF.out, q10, q12, q4, q11]; rfl, rfl⟩
            · cases l0 : (lk == 0)
              · cases l11 : (lk == 11)
                · go_wp2
                  go_meet
                  case rel => exact ⟨by rw [HF.out, q10, q12, q4, q11, l0, l11]; rfl, rfl⟩
                · go_wp2
                  go_meet
                  case rel => exact ⟨by rw [HF.out, q10, q12, q4, q11, l0, l11]; rfl, rfl⟩
              · go_wp2
                go_meet
                case rel => exact ⟨by rw [HF.out, q10, q12, q4, q11, l0]; rfl, rfl⟩
          · have q11 : (xk == 11) = false := by have : xk = 4 := by simpa using q4
                                                rw [this]; rfl
            cases he : xt.toList.isEmpty
            · cases l4 : (lk != 4)
              · go_wp2
                go_meet
                case rel => exact ⟨by rw [HF.out, q10, q12, q4, q11, he, l4]; rfl, rfl⟩
              · go_wp2
                go_meet
                case rel => exact ⟨by rw [HF.out, q10, q12, q4, q11, he, l4]; rfl, rfl⟩
            · go_wp2
              go_meet
              case rel => exact ⟨by rw [HF.out, q10, q12, q4, q11, he]; rfl, rfl⟩
        · go_wp2
          go_meet
          case rel => exact ⟨by rw [HF.out, q10, q12]; rfl, rfl⟩
      · go_wp2
        go_meet
        case rel => exact ⟨by rw [HF.out, q10]; rfl, rfl⟩
    · have e10b : (q == 10) = false := by simp [e10]
      have HF := Lib.hid (show fitsP q lk (GoEv.ev ⟨xk, xt, xv⟩) = false by unfold fitsP; rw [if_neg e5, if_neg e7, if_neg e10])
      clear e5 e7 e10
      go_wp2
      go_meet
      case rel => exact ⟨by first | (rw [HF.out]; done) | (rw [HF.out]; rfl), rfl⟩
  case rest =>
  obtain ⟨rfl, rfl⟩ := hcut
  exact HK.out _ _ _ _ _ _ _ _ _ _ _ _ _ _ _ _ _ _ _ _ _ _ _ _ _ _ _ _ _ _ _ _ _ _ _ _ _ _ _ _ _ _ _ _ _ _ _ _ _ _ _ _ _ _ _ _ _ _ _ _ _ _ _ _ _ _ _ _ _ _ _ _ _ _ _ _ _ _ _ _ _ _ _ _ _ _ _ _ _ _ _ _ _ _ _ _ _ _ _ _ _ _ _ _ _ _ _ _ _ _ _ _ _ _ _ _ _ _ _ _ _ _ _ _ _ _ _ _ _ _ _ _ _ _ _ _ _ _ _ _ _ _ _ _ _ _ _ _ _ _ _ _ _ _ _ _ _ _ _ _ _ _ _
end Go.Proofs.YtmniblcooficgaaGreatDoor
