import Derived.StillTailTactics
import Derived.Deep.RegionLaw
import Derived.IntWalk
import Derived.Deep.RegionHeld3
import Derived.Deep.AppendLies
import Derived.OwnWalk
import Derived.Laws.AppendOwn
import Derived.Test.YtmniblcooficgaaGreatDoorD14
import Derived.Test.YtmniblcooficgaaGreatDoorD05
import Derived.Test.YtmniblcooficgaaGreatDoorD04
import Derived.Test.YtmniblcooficgaaGreatDoorD01
namespace Go.Proofs.YtmniblcooficgaaGreatDoor
open Go.RowKit Num2
set_option linter.unusedSimpArgs false
set_option linter.unusedVariables false
set_option linter.unnecessarySimpa false

def RefV (l : List UInt8) (w : World) (e : Ending) (w' : World) : Prop :=
  ∃ (sg : Bool) (sv : Value) (p : Int) (d : List UInt8) (ok : Bool), e = .returned (.tuple #[.agg #[.bool sg, sv, .int .i64 p], .bool ok]) ∧ mayP l = ((sg, d, p), if ok = true then 0 else 8) ∧ Cells w' w.heap.size sv (dgI d) ∧ d.length ≤ 30 ∧ digs d ∧ -999 ≤ p ∧ p ≤ 999 ∧ Below w.heap.size w w'
theorem Cells.mono {w : World} {lo lo' : Nat} {sv : Value} {ds : List Int} (h : Cells w lo sv ds) (hl : lo' ≤ lo) : Cells w lo' sv ds := by
  obtain ⟨A, c, e, h1, h2, h3⟩ := h
  exact ⟨A, c, e, h1, h2, fun hne => by obtain ⟨b, off, a1, a2, a3⟩ := h3 hne; exact ⟨b, off, a1, Nat.le_trans hl a2, a3⟩⟩
theorem Cells.nil (w : World) (lo : Nat) : Cells w lo (.slice none 0 0) [] := ⟨none, 0, rfl, Nat.le_refl _, Nat.zero_le _, fun h => absurd rfl h⟩
theorem dg1_zero (c : UInt8) : (dg1 c == 0) = (c == 48) := by
  unfold dg1
  rw [Bool.eq_iff_iff, beq_iff_eq, beq_iff_eq]
  exact ⟨fun h => UInt8.toNat_inj.1 (by simp; omega), fun h => by rw [h]; rfl⟩
theorem drop_dgI (l : List UInt8) : (dgI l).dropWhile (· == 0) = dgI (Lib.trimLeftB l 48) := by
  unfold Lib.trimLeftB dgI
  rw [List.dropWhile_map]
  congr 2
  funext c; exact dg1_zero c
theorem strip_dgI (l : List UInt8) : stripR (dgI l) = dgI (Lib.trimRightB l 48) := by
  have h := drop_dgI l.reverse
  unfold Lib.trimLeftB at h
  unfold stripR Lib.trimRightB
  have e : (dgI l).reverse = dgI l.reverse := by simp [dgI]
  rw [e, h]; simp [dgI]
theorem refDig_len (l : List UInt8) : (refDig l).length ≤ ((parts l).1 ++ (parts l).2.1).length := by
  unfold refDig
  refine Nat.le_trans (List.dropWhile_sublist _).length_le ?_
  exact (trimR_pre _).length_le
theorem refDig_digs (l : List UInt8) (h : (may l).2 = true) : digs (refDig l) := by
  have hm := parts_made l h
  intro b hb
  have h1 : b ∈ Lib.trimRightB ((parts l).1 ++ (parts l).2.1) 48 := (List.dropWhile_sublist _).subset hb
  have h2 := (trimR_pre _).subset h1
  rcases List.mem_append.1 h2 with h2 | h2
  · exact hm.hw _ h2
  · exact hm.hp _ h2

set_option maxHeartbeats 4000000 in
set_option maxRecDepth 100000 in
theorem refRead_any (s : ByteArray) (w : World) (hs : s.size ≤ 140737488351232) (h30 : s.size ≤ 30) (h0 : 0 < s.size) (hm : (parts s.data.toList).2.2.2.2 = true) :
    Calls Tryz.prog 138 #[.string s] w (RefV s.data.toList w) := by
  have HM := Lib.hid hm; clear hm
  go_enter Tryz.func138, Tryz.ntmps138
  go_wp2_with fail
  refine (parts_any s _ hs).mono ?_
  rintro e w' ⟨W, P, T, rfl, hW, hP, hT, n, rfl⟩
  have HW := Lib.hid hW; have HP := Lib.hid hP; have HT := Lib.hid hT
  clear hW hP hT
  rw [HM.out]
  have hmm : (may s.data.toList).2 = true := by rw [may_parts]; exact HM.out
  have hwp := wp_len s.data.toList hmm
  rw [← HW.out, ← HP.out, ← HT.out] at hwp
  have e1 : W.data.toList.length = W.size := Array.length_toList
  have e2 : P.data.toList.length = P.size := Array.length_toList
  have e3 : T.data.toList.length = T.size := Array.length_toList
  have e4 : s.data.toList.length = s.size := Array.length_toList
  have hWP : W.size + P.size ≤ 30 := by omega
  have hWs : W.size ≤ 100 := by omega
  have hPs : P.size ≤ 100 := by omega
  have hTs : T.size ≤ 100 := by omega
  clear e1 e2 e3 e4
  have HMM := Lib.hid hmm; clear hwp hmm
  go_wp2_with fail
  generalize hA : W ++ P = A
  have hAs : A.size ≤ 200 := by rw [← hA, ByteArray.size_append]; omega
  have HA := Lib.hid hA; clear hA hWs
  have hs0 : 0 < s.size := h0
  have hAL : A.data.toList = (parts s.data.toList).1 ++ (parts s.data.toList).2.1 := by rw [← HA.out, ByteArray.data_append, Array.toList_append, HW.out, HP.out]
  have hD0 : digs A.data.toList := by
    rw [hAL]
    intro b hb
    rcases List.mem_append.1 hb with hb | hb
    · exact (parts_made _ HMM.out).hw _ hb
    · exact (parts_made _ HMM.out).hp _ hb
  have HAL := Lib.hid hAL; clear hAL
  have HD := Lib.hid hD0; clear hD0
  go_loopw [11] (fun v11 wr => ∃ (k : Nat) (sv : Value), v11 = .int .i64 k ∧ k ≤ A.size ∧ Rel1 w wr (w.heap.size + 1) ((s[0].toNat : Int) == 45) sv (.int .i64 0) k (dgs (A.data.toList.take k))) (fun v _ => A.size - (intOf v).toNat)
  case atStart =>
    refine ⟨0, .slice none 0 0, rfl, Nat.zero_le _, ?_, ?_, World.ownsRow_nil _ _ _ _, ?_, ?_⟩
    · exact ((three_new w _ _ _ _).drewN n).alloc _
    · have := three_new ((w.alloc (.cells #[.bool false, .slice none 0 0, .int .i64 0] 143)).drewN n) (.bool ((s[0].toNat : Int) == 45)) (.slice none 0 0) (.int .i64 0) 143
      simpa using this
    · exact (((Below.refl _ _).alloc (Nat.le_refl _) _).trans ((below_drewN _ n).mono (by simp))).alloc (by simp) _
    · simp
  case round =>
    obtain ⟨k, sv, rfl, hk, hr⟩ := hrel
    by_cases hlt : k < A.size
    · obtain ⟨hR, hV, hown, hB, hbh⟩ := hr
      have HV := Lib.hid hV
      obtain ⟨rc0, rc1, rc2, rf0, rf1, rf2, rlt⟩ := hV
      have HR := Lib.hid hR; have HB := Lib.hid hB; have HO := Lib.hid hown
      clear hR hB hown
      go_wp2_with fail
      obtain ⟨i0, hi, hz0, hz1, hz2⟩ := info_parts infoI
      have hdig := HD.out A[k] (by exact List.getElem_mem (l := A.data.toList) (n := k) (by rw [Array.length_toList]; exact hlt))
      have hc0 : 48 ≤ (A[k].toNat : Int) := by simp [dig] at hdig; omega
      have hc1 : (A[k].toNat : Int) ≤ 57 := by simp [dig] at hdig; omega
      clear hdig
      have hk0 : (0 : Int) ≤ (k : Int) := Int.natCast_nonneg _
      have hk1 : (k : Int) < (A.size : Int) := by omega
      have hne : sv.ownBlock ≠ some (w.heap.size + 1) := fun e => by have := (HO.out.lt _ e).1; omega
      have hne0 : sv.ownBlock ≠ some w.heap.size := fun e => by have := (HO.out.lt _ e).1; omega
      have hxk : A.data.toList[k]? = some A[k] := by rw [List.getElem?_eq_getElem (by rw [Array.length_toList]; exact hlt)]; rfl
      have htk : dgs (A.data.toList.take (k + 1)) = dgs (A.data.toList.take k) ++ [.int .i64 ((A[k].toNat : Int) - 48)] := by
        rw [List.take_add_one, hxk]; simp [dgs, dg1]
      have HTK := Lib.hid htk; clear htk hxk
      have hfr : ∀ o : Obj, (wr.alloc o).drew.frozen? ⟨w.heap.size + 1, 1, none⟩ = false := fun o => by
        rw [((((Below.refl wr.heap.size wr).alloc (Nat.le_refl _) o).drew)).frozen (p := ⟨w.heap.size + 1, 1, none⟩) rlt]; exact rf1
      have hfc : ∀ o : Obj, (wr.alloc o).drew.cell? ⟨w.heap.size + 1, 1, none⟩ = some sv := fun o => by
        rw [((((Below.refl wr.heap.size wr).alloc (Nat.le_refl _) o).drew)).cell (p := ⟨w.heap.size + 1, 1, none⟩) rlt]; exact rc1
      have HFR := Lib.hid hfr; have HFC := Lib.hid hfc; clear hfr hfc
      have hw1 : IntKind.u8.wrap ((A[k].toNat : Int) - 48) = (A[k].toNat : Int) - 48 := IntWalk.u8_in _ (by omega)
      have hw2 : IntKind.i64.wrap ((A[k].toNat : Int) - 48) = (A[k].toNat : Int) - 48 := IntWalk.i64_in _ (by omega)
      go_region_law? ((refine step_append_lies _ (by rfl) _ _ _ (by rfl) (w.heap.size + 2) 3 i0 _ 1 8 Tryz.underlying27 hi hz0 hz1 hz2 rfl (by omega) sv k _ (by rfl) ((HO.out.alloc _).drew) ⟨wr.heap.size, 0, none⟩ 1 1 [.int .i64 ((A[k].toNat : Int) - 48)] (by rfl) (by rfl) (World.news_of_block (cs := #[.int .i64 ((A[k].toNat : Int) - 48)]) (t := 3) (fr := (0, 0)) (heap_alloc_new wr _)) (by simp [Value.oneCell']) (by omega) (by unfold maxLen; omega) (by omega) (by simp; omega) (wr.heap.size + 1) (by simp) ?_; intro gg cap w1 hown1 hgrow hat hlt2; have hf1 : w1.frozen? ⟨w.heap.size + 1, 1, none⟩ = false := (hgrow.frozen_far _ (by simp; omega) (Ne.symm hne)).trans (HFR.out _); have hcc1 : w1.cell? ⟨w.heap.size + 1, 1, none⟩ = some sv := (hgrow.cell_far _ (by simp; omega) (Ne.symm hne)).trans (HFC.out _)))
      all_goals
        go_wp2_with fail
        go_roundw
        case rel =>
          have hb1 : Below wr.heap.size wr (wr.alloc (.cells #[.int .i64 ((A[k].toNat : Int) - 48)] 3)).drew := ((Below.refl wr.heap.size wr).alloc (Nat.le_refl _) _).drew
          have hgs := hgrow.size
          refine ⟨k + 1, .slice (some ⟨gg, 0, none⟩) (k + 1) cap, by go_num, by omega, ?_, ?_, ?_, ?_, ?_⟩
          · exact ((HR.out.below hb1).grown hgrow (Ne.symm hne0)).far (by simp) _
          · exact ((HV.out.below hb1).grown hgrow (Ne.symm hne)).set1 _
          · rw [HTK.out]
            exact ownsRow_setCell_below hown1 (by simp) _
          · exact ((HB.out.trans (hb1.mono (by have := HB.out.size; omega))).grown hgrow (by have := HB.out.size; simp; omega) (fun q hq => by have := (HO.out.lt _ hq).1; omega)).setCell (by simp) _
          · simp at hgs ⊢; omega
        case measure => simp [intOf]; omega
    · obtain rfl : k = A.size := by omega
      obtain ⟨hR, hV, hown, hB, hbh⟩ := hr
      rw [List.take_of_length_le (by rw [Array.length_toList]; exact Nat.le_refl _)] at hown
      have hcells : Cells wr (w.heap.size + 2) sv (dgI A.data.toList) := Cells.of_own (n := A.size) (e := 3) (by simpa [dgs, dgI, Function.comp_def] using hown) (by unfold maxLen; omega)
      clear hown
      have HC := Lib.hid hcells; clear hcells
      have HR := Lib.hid hR; have HV := Lib.hid hV; have HB := Lib.hid hB
      obtain ⟨rc0, rc1, rc2, rf0, rf1, rf2, rlt⟩ := hV
      clear hR hB
      go_upto_block 2 with (fail)
      have HR2 := Lib.hid (HR.out.far (a := ⟨w.heap.size + 1, 2, none⟩) (by simp) (.int .i64 (-(P.size : Int))))
      have HV2 := Lib.hid (HV.out.set2 (.int .i64 (-(P.size : Int))))
      have HC2 := Lib.hid (HC.out.setCell ⟨w.heap.size + 1, 2, none⟩ (by simp) (.int .i64 (-(P.size : Int))))
      have HB2 := Lib.hid (HB.out.setCell (p := ⟨w.heap.size + 1, 2, none⟩) (by simp) (.int .i64 (-(P.size : Int))))
      have hbh2 : w.heap.size + 2 ≤ (wr.setCell ⟨w.heap.size + 1, 2, none⟩ (.int .i64 (-(P.size : Int)))).heap.size := by simp; omega
      generalize wr.setCell ⟨w.heap.size + 1, 2, none⟩ (.int .i64 (-(P.size : Int))) = w2 at *
      clear rc0 rc1 rc2 rf0 rf1 rf2 rlt HR HV HC HB hbh HD
      go_cut [12, 13] (fun v12 v13 wc => v12 = .bool (T.data.toList.foldl scan (false, 0)).1 ∧ v13 = .int .i64 (T.data.toList.foldl scan (false, 0)).2 ∧ w2 = wc)
      case first =>
        go_wp2_with fail
        go_loop [12, 13, 14] (fun v12 v13 v14 => ∃ (k : Nat) (dn : Bool) (m : Int), k ≤ T.size ∧ v14 = .int .i64 k ∧ v12 = .bool dn ∧ v13 = .int .i64 m ∧ 0 ≤ m ∧ m ≤ 10995116277769 ∧ Hid ((T.data.toList.take k).foldl scan (false, 0) = (dn, m))) (fun _ _ v14 => T.size - (intOf v14).toNat)
        case atStart => exact ⟨0, false, 0, Nat.zero_le _, rfl, rfl, rfl, by omega, by omega, rfl⟩
        case round =>
          obtain ⟨k, dn, m, hk, rfl, rfl, rfl, hm0, hm1, hf⟩ := hrel
          by_cases hkt : k < T.size
          · have hxk : T.data.toList[k]? = some T[k] := by rw [List.getElem?_eq_getElem (by rw [Array.length_toList]; exact hkt)]; rfl
            have hnext : (T.data.toList.take (k + 1)).foldl scan (false, 0) = scan (dn, m) T[k] := by rw [List.take_add_one, hxk, List.foldl_append, hf.out]; rfl
            have HN := Lib.hid hnext; clear hnext hxk hf
            by_cases h45 : (T[k].toNat : Int) = 45
            · have hs1 : scan (dn, m) T[k] = (true, m) := by
                have e1 : T[k].toNat = 45 := by omega
                have e2 : dig T[k] = false := by simp [dig]; omega
                simp [scan, e1, e2]
              have HS := Lib.hid (HN.out.trans hs1); clear hs1 HN
              have b1 : ((T[k].toNat : Int) == 45) = true := beq_iff_eq.2 h45
              have b2 : ¬ 48 ≤ (T[k].toNat : Int) := by omega
              clear h45
              go_wp2
              go_round
              case rel => exact ⟨k + 1, true, m, by omega, by go_num, rfl, rfl, hm0, hm1, HS⟩
              case measure => simp [intOf]; omega
            · have b1 : ((T[k].toNat : Int) == 45) = false := beq_eq_false_iff_ne.2 h45
              by_cases hd : dig T[k] = true ∧ m < 1099511627776
              · have hs1 : scan (dn, m) T[k] = (dn, 10 * m + ((T[k].toNat : Int) - 48)) := by
                  have e1 : ¬ T[k].toNat = 45 := by omega
                  simp [scan, e1, hd.1, hd.2]
                have HS := Lib.hid (HN.out.trans hs1); clear hs1 HN
                have q1 : 48 ≤ (T[k].toNat : Int) := by have := hd.1; simp [dig] at this; omega
                have q2 : (T[k].toNat : Int) ≤ 57 := by have := hd.1; simp [dig] at this; omega
                have q3 := hd.2
                clear hd h45
                go_wp2
                go_round
                case rel => exact ⟨k + 1, dn, 10 * m + ((T[k].toNat : Int) - 48), by omega, by go_num, rfl, rfl, by omega, by omega, HS⟩
                case measure => simp [intOf]; omega
              · have hs1 : scan (dn, m) T[k] = (dn, m) := by
                  have e1 : ¬ T[k].toNat = 45 := by omega
                  simp only [scan, e1, decide_false, Bool.or_false]
                  rw [if_neg hd]
                have HS := Lib.hid (HN.out.trans hs1); clear hs1 HN
                by_cases q1 : 48 ≤ (T[k].toNat : Int)
                · by_cases q2 : (T[k].toNat : Int) ≤ 57
                  · have q3 : ¬ m < 1099511627776 := fun h => hd ⟨by simp [dig]; omega, h⟩
                    clear hd h45
                    go_wp2
                    go_round
                    case rel => exact ⟨k + 1, dn, m, by omega, by go_num, rfl, rfl, hm0, hm1, HS⟩
                    case measure => simp [intOf]; omega
                  · clear hd h45
                    go_wp2
                    go_round
                    case rel => exact ⟨k + 1, dn, m, by omega, by go_num, rfl, rfl, hm0, hm1, HS⟩
                    case measure => simp [intOf]; omega
                · clear hd h45
                  go_wp2
                  go_round
                  case rel => exact ⟨k + 1, dn, m, by omega, by go_num, rfl, rfl, hm0, hm1, HS⟩
                  case measure => simp [intOf]; omega
          · have hfe : T.data.toList.foldl scan (false, 0) = (dn, m) := by
              rw [← hf.out, List.take_of_length_le (by rw [Array.length_toList]; show T.size ≤ k; omega)]
            have HFE := Lib.hid hfe; clear hfe hf
            go_wp2
            go_meet
            case rel => exact ⟨by rw [HFE.out], by rw [HFE.out], rfl⟩
      case rest =>
      obtain ⟨rfl, rfl, rfl⟩ := hcut
      have hbd := scan_bd T.data.toList (false, 0) (by simp) (by simp)
      generalize hsc : T.data.toList.foldl scan (false, 0) = sc at *
      have HSC := Lib.hid hsc; clear hsc
      obtain ⟨dn, m⟩ := sc
      simp only [] at hbd
      obtain ⟨hm0, hm1⟩ := hbd
      go_upto_if 90 with (fail)
      go_cut [13] (fun v13 wc => v13 = .int .i64 (signed (dn, m)) ∧ w2 = wc)
      case first =>
        cases dn
        · go_wp2
          go_meet
          case rel => exact ⟨rfl, rfl⟩
        · go_wp2
          go_meet
          case rel => exact ⟨rfl, rfl⟩
      case rest =>
      obtain ⟨rfl, rfl⟩ := hcut
      have hx0 : -10995116277769 ≤ signed (dn, m) := by unfold signed; split <;> (simp only []; omega)
      have hx1 : signed (dn, m) ≤ 10995116277769 := by unfold signed; split <;> (simp only []; omega)
      generalize hxx : signed (dn, m) = x at *
      have HXX := Lib.hid hxx; clear hxx hm0 hm1
      obtain ⟨vc0, vc1, vc2, vf0, vf1, vf2, vlt⟩ := HV2.out
      go_upto_block 4 with (fail)
      have HR3 := Lib.hid (HR2.out.far (a := ⟨w.heap.size + 1, 2, none⟩) (by simp) (.int .i64 (-(P.size : Int) + x)))
      have HV3 := Lib.hid (HV2.out.set2 (.int .i64 (-(P.size : Int) + x)))
      have HC3 := Lib.hid (HC2.out.setCell ⟨w.heap.size + 1, 2, none⟩ (by simp) (.int .i64 (-(P.size : Int) + x)))
      have HB3 := Lib.hid (HB2.out.setCell (p := ⟨w.heap.size + 1, 2, none⟩) (by simp) (.int .i64 (-(P.size : Int) + x)))
      have hbh3 : w.heap.size + 2 ≤ (w2.setCell ⟨w.heap.size + 1, 2, none⟩ (.int .i64 (-(P.size : Int) + x))).heap.size := by simp; omega
      generalize w2.setCell ⟨w.heap.size + 1, 2, none⟩ (.int .i64 (-(P.size : Int) + x)) = w3 at *
      clear vc0 vc1 vc2 vf0 vf1 vf2 vlt HR2 HV2 HC2 HB2 hbh2
      generalize hdsg : dgI A.data.toList = ds at *
      have hdl : ds.length ≤ 200 := by rw [← hdsg, dgI, List.length_map, Array.length_toList]; exact hAs
      have HDS := Lib.hid hdsg; clear hdsg
      go_cut [13] (fun v13 wc => v13 = .int .i64 x ∧ ∃ sv', Rel2 w wc (w.heap.size + 1) ((s[0].toNat : Int) == 45) sv' (-(P.size : Int) + x + ((ds.length : Int) - (stripR ds).length)) (stripR ds))
      case first =>
        go_wp2_with fail
        go_loopg [] ds.length (fun g wq => ∃ (l : List Int) (sv' : Value), Hid (l.length = g) ∧ l.length ≤ 200 ∧ Hid (stripR l = stripR ds) ∧ Hid (Rel2 w wq (w.heap.size + 1) ((s[0].toNat : Int) == 45) sv' (-(P.size : Int) + x + ((ds.length : Int) - l.length)) l))
        case atStart => exact ⟨ds, sv, rfl, hdl, rfl, HR3.out, by have := HV3.out; simpa using this, HC3.out, HB3.out, hbh3⟩
        case round =>
          obtain ⟨l, sv', hlg, hl200, hst, hrl⟩ := hrel
          obtain ⟨hR, hV, hC, hB, hbh⟩ := hrl.out
          rcases List.eq_nil_or_concat l with rfl | ⟨l, z, rfl⟩
          · obtain ⟨vc0, vc1, vc2, vf0, vf1, vf2, vlt⟩ := hV
            obtain ⟨Aa, c, rfl, hc1, hc2, _⟩ := hC
            have HR := Lib.hid hR; have HB := Lib.hid hB
            clear hR hB
            have hdn : stripR ds = [] := by rw [← hst.out]; rfl
            have HDN := Lib.hid hdn; clear hdn hst hlg
            have HRL := Lib.hid hrl.out; clear hrl
            go_wp2_with fail
            go_meet
            case rel =>
              rw [HDN.out]
              have := HRL.out
              exact ⟨rfl, _, by simpa using this⟩
          · have hln : (l ++ [z]).length = l.length + 1 := by simp
            obtain ⟨vc0, vc1, vc2, vf0, vf1, vf2, vlt⟩ := hV
            obtain ⟨Aa, c, rfl, hc1, hc2, hcells⟩ := hC
            obtain ⟨b, off, rfl, hlo, hbl, hcell⟩ := hcells (by simp)
            have hz := hcell l.length (by simp)
            have HCELL := Lib.hid hcell; clear hcell hcells
            simp only [List.concat_eq_append, List.getElem_concat_length] at hz
            rw [List.concat_eq_append] at *
            rw [hln] at vc1 hc1 hl200
            have HLN := Lib.hid hln; clear hln
            have HR := Lib.hid hR; have HB := Lib.hid hB
            clear hR hB
            have hll : (0 : Int) ≤ (l.length : Int) := Int.natCast_nonneg _
            by_cases h0 : z = 0
            · subst h0
              have HST := Lib.hid ((stripR_zero l).symm.trans hst.out)
              have HRL := hrl
              clear hst hrl
              go_wp2_with fail
              go_roundg l.length
              case measure => have := hlg.out; rw [HLN.out] at this; omega
              case rel =>
                have hc0 : Cells wr (w.heap.size + 2) (.slice (some ⟨b, off, none⟩) l.length c) l :=
                  ⟨some ⟨b, off, none⟩, c, rfl, by omega, hc2, fun _ => ⟨b, off, rfl, hlo, hbl, fun i hi => by
                    have := HCELL.out i (by simp; omega)
                    simpa [List.getElem_append_left, hi] using this⟩⟩
                have hVV := HRL.out.2.1
                refine ⟨l, .slice (some ⟨b, off, none⟩) l.length c, rfl, by omega, HST.out, ?_, ?_, ?_, ?_, ?_⟩
                · exact (HR.out.far (by simp) _).far (by simp) _
                · have h2 := (hVV.set1 (.slice (some ⟨b, off, none⟩) l.length c)).set2 (.int .i64 (-(P.size : Int) + x + ((ds.length : Int) - l.length)))
                  have e : (-(P.size : Int) + x + ((ds.length : Int) - ((l.length : Int) + 1)) + 1) = -(P.size : Int) + x + ((ds.length : Int) - l.length) := by omega
                  rw [e]; exact h2
                · exact (hc0.setCell _ (by simp) _).setCell _ (by simp) _
                · exact (HB.out.setCell (by simp) _).setCell (by simp) _
                · simp; omega
            · have hz0 : (z == 0) = false := beq_eq_false_iff_ne.2 h0
              have HST := Lib.hid (hst.out.symm.trans (stripR_ne l h0))
              have HRL := hrl
              clear hst hrl h0
              go_wp2_with fail
              go_meet
              case rel =>
                rw [HST.out, HLN.out]
                have := HRL.out
                rw [HLN.out] at this
                exact ⟨rfl, _, this⟩
      case rest =>
      obtain ⟨rfl, sv3, hrl3⟩ := hcut
      clear HR3 HV3 HC3 HB3 hbh3
      have hdr := stripR_len ds
      generalize hr3 : stripR ds = d3 at *
      have HR3 := Lib.hid hr3; clear hr3
      generalize hp3 : -(P.size : Int) + x + ((ds.length : Int) - d3.length) = p3 at *
      have hp3a : -10995116278000 ≤ p3 := by omega
      have hp3b : p3 ≤ 10995116278000 := by omega
      have HP3 := Lib.hid hp3; clear hp3
      go_upto_block 6 with (fail)
      go_cut [13] (fun v13 wc => v13 = .int .i64 x ∧ ∃ sv', Rel2 w wc (w.heap.size + 1) ((s[0].toNat : Int) == 45) sv' p3 (d3.dropWhile (· == 0)))
      case first =>
        have HRL3 := Lib.hid hrl3; clear hrl3
        go_wp2_with fail
        go_loopg [] d3.length (fun g wq => ∃ (l : List Int) (sv' : Value), Hid (l.length = g) ∧ l.length ≤ 200 ∧ Hid (l.dropWhile (· == 0) = d3.dropWhile (· == 0)) ∧ Hid (Rel2 w wq (w.heap.size + 1) ((s[0].toNat : Int) == 45) sv' p3 l))
        case atStart => exact ⟨d3, sv3, rfl, by omega, rfl, HRL3.out⟩
        case round =>
          obtain ⟨l, sv', hlg, hl200, hst, hrl⟩ := hrel
          obtain ⟨hR, hV, hC, hB, hbh⟩ := hrl.out
          cases l with
          | nil =>
            obtain ⟨vc0, vc1, vc2, vf0, vf1, vf2, vlt⟩ := hV
            obtain ⟨Aa, c, rfl, hc1, hc2, _⟩ := hC
            have HR := Lib.hid hR; have HB := Lib.hid hB
            clear hR hB
            have HDN := Lib.hid (show d3.dropWhile (· == 0) = [] by rw [← hst.out]; rfl); clear hst hlg
            have HRL := Lib.hid hrl.out; clear hrl
            go_wp2_with fail
            go_meet
            case rel =>
              rw [HDN.out]
              exact ⟨rfl, _, HRL.out⟩
          | cons z l =>
            have hln : (z :: l).length = l.length + 1 := rfl
            obtain ⟨vc0, vc1, vc2, vf0, vf1, vf2, vlt⟩ := hV
            obtain ⟨Aa, c, rfl, hc1, hc2, hcells⟩ := hC
            obtain ⟨b, off, rfl, hlo, hbl, hcell⟩ := hcells (by simp)
            have hz : wr.cell? ⟨b, off, none⟩ = some (.int .i64 z) := by have := hcell 0 (by simp); simpa using this
            have HCELL := Lib.hid hcell; clear hcell hcells
            rw [hln] at vc1 hc1 hl200
            have HLN := Lib.hid hln; clear hln
            have HR := Lib.hid hR; have HB := Lib.hid hB
            clear hR hB
            have hll : (0 : Int) ≤ (l.length : Int) := Int.natCast_nonneg _
            by_cases h0 : z = 0
            · subst h0
              have HST := Lib.hid (show l.dropWhile (· == 0) = d3.dropWhile (· == 0) by rw [← hst.out]; simp)
              have HRL := hrl
              clear hst hrl
              by_cases hcc : c = 1
              · subst hcc
                have hl0 : l = [] := List.eq_nil_of_length_eq_zero (by omega)
                subst hl0
                go_wp2_with fail
                go_roundg 0
                case measure => have := hlg.out; rw [HLN.out] at this; omega
                case rel =>
                  refine ⟨[], .slice (some ⟨b, off, none⟩) 0 0, rfl, Nat.zero_le _, HST.out, ?_, ?_, ?_, ?_, ?_⟩
                  · exact HR.out.far (by simp) _
                  · exact HRL.out.2.1.set1 _
                  · exact (show Cells wr (w.heap.size + 2) (.slice (some ⟨b, off, none⟩) 0 0) [] from ⟨some ⟨b, off, none⟩, 0, rfl, Nat.le_refl _, Nat.zero_le _, fun h => absurd rfl h⟩).setCell _ (by simp) _
                  · exact HB.out.setCell (by simp) _
                  · simp; omega
              · have hcc2 : 1 < c := by omega
                go_wp2_with fail
                go_roundg l.length
                case measure => have := hlg.out; rw [HLN.out] at this; omega
                case rel =>
                  have hc0 : Cells wr (w.heap.size + 2) (.slice (some ⟨b, off + 1, none⟩) l.length (c - 1)) l :=
                    ⟨some ⟨b, off + 1, none⟩, c - 1, rfl, by omega, by omega, fun _ => ⟨b, off + 1, rfl, hlo, hbl, fun i hi => by
                      have := HCELL.out (i + 1) (by simp; omega)
                      rw [show off + 1 + i = off + (i + 1) from by omega]
                      simpa using this⟩⟩
                  refine ⟨l, .slice (some ⟨b, off + 1, none⟩) l.length (c - 1), rfl, by omega, HST.out, ?_, ?_, ?_, ?_, ?_⟩
                  · exact HR.out.far (by simp) _
                  · exact HRL.out.2.1.set1 _
                  · exact hc0.setCell _ (by simp) _
                  · exact HB.out.setCell (by simp) _
                  · simp; omega
            · have hz0 : (z == 0) = false := beq_eq_false_iff_ne.2 h0
              have HST := Lib.hid (show d3.dropWhile (· == 0) = z :: l by rw [← hst.out]; simp [h0])
              have HRL := hrl
              clear hst hrl h0
              go_wp2_with fail
              go_meet
              case rel =>
                rw [HST.out]
                exact ⟨rfl, _, HRL.out⟩
      case rest =>
      obtain ⟨rfl, sv4, hrl4⟩ := hcut
      have hd4 : d3.dropWhile (· == 0) = dgI (refDig s.data.toList) := by
        rw [← HR3.out, ← HDS.out, strip_dgI, drop_dgI, HAL.out]; rfl
      have hp4 : p3 = refPow s.data.toList := by
        rw [← HP3.out, ← HR3.out, ← HDS.out, strip_dgI, dgI_len, dgI_len, HAL.out, refPow, expS, ← HT.out, HSC.out, HXX.out, ← HP.out, Array.length_toList]
        rfl
      rw [hd4] at hrl4
      have hmy := ref_may s.data.toList HMM.out h30
      have hsg : decide (s.data.toList.head? = some 45) = ((s[0].toNat : Int) == 45) := by
        rw [Bool.eq_iff_iff, decide_eq_true_eq, beq_iff_eq]; exact (head45 s hs0).symm
      rw [← hp4, hsg] at hmy
      have hdl4 : (refDig s.data.toList).length ≤ 30 := by
        refine Nat.le_trans (refDig_len _) ?_
        rw [List.length_append, ← HW.out, ← HP.out, Array.length_toList, Array.length_toList]
        exact hWP
      have hdg4 := refDig_digs s.data.toList HMM.out
      generalize refDig s.data.toList = D at *
      have HMY := Lib.hid hmy
      have HDG := Lib.hid hdg4
      clear hd4 hp4 hmy hsg hdg4 HR3 HDS HXX HSC HP3
      obtain ⟨hR, hV, hC, hB, hbh⟩ := hrl4
      have HR := Lib.hid hR; have HB := Lib.hid hB; have HC := Lib.hid hC
      obtain ⟨rc0, rc1, rc2, rf0, rf1, rf2, rlt⟩ := hR
      have HV := Lib.hid hV
      obtain ⟨vc0, vc1, vc2, vf0, vf1, vf2, vlt⟩ := hV
      clear hB
      generalize ((s[0].toNat : Int) == 45) = sg at *
      obtain ⟨A4, c4, rfl, hc1, hc2, _⟩ := hC
      rw [dgI_len] at vc1 hc1
      by_cases hne : D = []
      · subst hne
        go_wp2_with fail
        refine bodyPost_ret (v := .tuple #[.agg #[.bool false, .slice none 0 0, .int .i64 0], .bool true]) ?_ rfl ?_
        · simp [results, Tryz.results138, go_sem, rc0, rc1, rc2, rf0, rf1, rf2, rlt]
        · refine ⟨false, .slice none 0 0, 0, [], true, rfl, ?_, Cells.nil _ _, by simp, by intro b hb; simp at hb, by omega, by omega, ?_⟩
          · rw [HMY.out, if_pos rfl]; rfl
          · repeat (first | exact HB.out | refine Below.setCell ?_ (by exact Nat.le_refl _) _ | refine Below.alloc ?_ (by (try simp); omega) _)
      · have hz : ((D.length : Int) == 0) = false := beq_eq_false_iff_ne.2 (by have := List.length_pos_iff.2 hne; omega)
        by_cases hp9 : 999 < p3
        · go_wp2_with fail
          refine bodyPost_ret (v := .tuple #[.agg #[.bool false, .slice none 0 0, .int .i64 0], .bool false]) ?_ rfl ?_
          · simp [results, Tryz.results138, go_sem, rc0, rc1, rc2, rf0, rf1, rf2, rlt]
          · refine ⟨false, .slice none 0 0, 0, [], false, rfl, ?_, Cells.nil _ _, by simp, by intro b hb; simp at hb, by omega, by omega, ?_⟩
            · rw [HMY.out, if_neg hne, if_pos (.inl hp9)]; rfl
            · repeat (first | exact HB.out | refine Below.setCell ?_ (by exact Nat.le_refl _) _ | refine Below.alloc ?_ (by (try simp); omega) _)
        · by_cases hp8 : p3 < -999
          · go_wp2_with fail
            refine bodyPost_ret (v := .tuple #[.agg #[.bool false, .slice none 0 0, .int .i64 0], .bool false]) ?_ rfl ?_
            · simp [results, Tryz.results138, go_sem, rc0, rc1, rc2, rf0, rf1, rf2, rlt]
            · refine ⟨false, .slice none 0 0, 0, [], false, rfl, ?_, Cells.nil _ _, by simp, by intro b hb; simp at hb, by omega, by omega, ?_⟩
              · rw [HMY.out, if_neg hne, if_pos (.inr (.inl hp8))]; rfl
              · repeat (first | exact HB.out | refine Below.setCell ?_ (by exact Nat.le_refl _) _ | refine Below.alloc ?_ (by (try simp); omega) _)
          · have HC0 := HC.out
            rw [dgI_len] at HC0
            have HC1 := Lib.hid HC0; clear HC0
            go_wp2_with fail
            refine (refForm_any sg (.slice A4 D.length c4) D p3 wc (by omega) HDG.out (HC1.out.mono (Nat.zero_le _)) (by omega) (by omega)).mono ?_
            rintro e w5 ⟨rfl, hb5⟩
            obtain ⟨fm, hfm, hfms⟩ := named (formP (sg, D, p3))
            rw [← hfm]
            have HFs := Lib.hid hfms; clear hfm hfms
            have HR5 := Lib.hid (HR.out.below hb5)
            have HV5 := Lib.hid (HV.out.below hb5)
            have HC5 := Lib.hid (HC1.out.below hb5)
            have HB5 := Lib.hid (below_then HB.out hb5)
            clear rc0 rc1 rc2 rf0 rf1 rf2 rlt vc0 vc1 vc2 vf0 vf1 vf2 vlt hb5
            obtain ⟨rc0, rc1, rc2, rf0, rf1, rf2, rlt⟩ := HR5.out
            obtain ⟨vc0, vc1, vc2, vf0, vf1, vf2, vlt⟩ := HV5.out
            by_cases hf : fm.size ≤ 30
            · have hf2 : ¬ 30 < fm.size := by omega
              go_wp2_with fail
              refine bodyPost_ret (v := .tuple #[.agg #[.bool sg, .slice A4 D.length c4, .int .i64 p3], .bool true]) ?_ rfl ?_
              · simp [results, Tryz.results138, go_sem, rc0, rc1, rc2, rf0, rf1, rf2, vc0, vc1, vc2, vf0, vf1, vf2, rlt, dgI_len]
              · refine ⟨sg, .slice A4 D.length c4, p3, D, true, rfl, ?_, ?_, hdl4, HDG.out, by omega, by omega, ?_⟩
                · rw [HMY.out, if_neg hne, if_neg (by rw [← HFs.out]; omega)]; rfl
                · exact Cells.mono (lo := w.heap.size + 2) (by repeat (first | exact HC5.out | refine Cells.setCell ?_ _ (by simp) _)) (by omega)
                · repeat (first | exact HB5.out | refine Below.setCell ?_ (by exact Nat.le_refl _) _ | refine Below.alloc ?_ (by (try simp); omega) _)
            · have hf2 : 30 < fm.size := by omega
              go_wp2_with fail
              refine bodyPost_ret (v := .tuple #[.agg #[.bool false, .slice none 0 0, .int .i64 0], .bool false]) ?_ rfl ?_
              · simp [results, Tryz.results138, go_sem, rc0, rc1, rc2, rf0, rf1, rf2, rlt]
              · refine ⟨false, .slice none 0 0, 0, [], false, rfl, ?_, Cells.nil _ _, by simp, by intro b hb; simp at hb, by omega, by omega, ?_⟩
                · rw [HMY.out, if_neg hne, if_pos (.inr (.inr (by rw [← HFs.out]; exact hf2)))]; rfl
                · repeat (first | exact HB5.out | refine Below.setCell ?_ (by exact Nat.le_refl _) _ | refine Below.alloc ?_ (by (try simp); omega) _)

theorem may_no {l : List UInt8} (h : ¬ ((may l).2 = true ∧ l.length ≤ 30)) : mayP l = ((false, [], 0), 8) := by
  unfold mayP readP
  rw [if_neg h]; rfl

set_option maxHeartbeats 1000000 in
set_option maxRecDepth 100000 in
theorem refRead_no (s : ByteArray) (w : World) (hs : s.size ≤ 140737488351232) (hno : (parts s.data.toList).2.2.2.2 = false ∨ 30 < s.size) :
    Calls Tryz.prog 138 #[.string s] w (RefV s.data.toList w) := by
  have hmy := may_no (l := s.data.toList) (by rw [may_parts]; rintro ⟨h1, h2⟩; rw [Array.length_toList] at h2; rcases hno with h | h
                                              · rw [h] at h1; cases h1
                                              · exact absurd h (Nat.not_lt.2 h2))
  have HMY := Lib.hid hmy; clear hmy
  go_enter Tryz.func138, Tryz.ntmps138
  go_wp2_with fail
  refine (parts_any s _ hs).mono ?_
  rintro e w' ⟨W, P, T, rfl, hW, hP, hT, n, rfl⟩
  have HR := Lib.hid ((three_new w (.bool false) (.slice none 0 0) (.int .i64 0) 143).drewN n)
  have HB := Lib.hid (((Below.refl _ _).alloc (Nat.le_refl _) _ : Below w.heap.size w (w.alloc (.cells #[.bool false, .slice none 0 0, .int .i64 0] 143))).trans ((below_drewN _ n).mono (by simp)))
  obtain ⟨rc0, rc1, rc2, rf0, rf1, rf2, rlt⟩ := HR.out
  generalize (w.alloc (.cells #[.bool false, .slice none 0 0, .int .i64 0] 143)).drewN n = w1 at *
  by_cases h1 : (parts s.data.toList).2.2.2.2 = false
  · rw [h1]
    clear hno h1
    go_wp2_with fail
    refine bodyPost_ret (v := .tuple #[.agg #[.bool false, .slice none 0 0, .int .i64 0], .bool false]) ?_ rfl ?_
    · simp [results, Tryz.results138, go_sem, rc0, rc1, rc2, rf0, rf1, rf2, rlt]
    · refine ⟨false, .slice none 0 0, 0, [], false, rfl, HMY.out, Cells.nil _ _, by simp, by intro b hb; simp at hb, by omega, by omega, ?_⟩
      repeat (first | exact HB.out | refine Below.setCell ?_ (by exact Nat.le_refl _) _ | refine Below.alloc ?_ (by (try simp); omega) _)
  · have h2 : (parts s.data.toList).2.2.2.2 = true := by simpa using h1
    have h3 : 30 < s.size := hno.resolve_left h1
    rw [h2]
    clear hno h1 h2
    go_wp2_with fail
    refine bodyPost_ret (v := .tuple #[.agg #[.bool false, .slice none 0 0, .int .i64 0], .bool false]) ?_ rfl ?_
    · simp [results, Tryz.results138, go_sem, rc0, rc1, rc2, rf0, rf1, rf2, rlt]
    · refine ⟨false, .slice none 0 0, 0, [], false, rfl, HMY.out, Cells.nil _ _, by simp, by intro b hb; simp at hb, by omega, by omega, ?_⟩
      repeat (first | exact HB.out | refine Below.setCell ?_ (by exact Nat.le_refl _) _ | refine Below.alloc ?_ (by (try simp); omega) _)

theorem refRead_ex (s : ByteArray) (w : World) (hs : s.size ≤ 140737488351232) :
    Calls Tryz.prog 138 #[.string s] w (RefV s.data.toList w) := by
  by_cases h : (parts s.data.toList).2.2.2.2 = true ∧ s.size ≤ 30
  · refine refRead_any s w hs h.2 ?_ h.1
    rcases Nat.eq_zero_or_pos s.size with h0 | h0
    · have : s.data.toList = [] := List.eq_nil_of_length_eq_zero (by rw [Array.length_toList]; exact h0)
      rw [this] at h
      exact absurd h.1 (by decide)
    · exact h0
  · refine refRead_no s w hs ?_
    by_cases h1 : (parts s.data.toList).2.2.2.2 = true
    · exact .inr (Nat.lt_of_not_le (fun h2 => h ⟨h1, h2⟩))
    · exact .inl (by simpa using h1)
end Go.Proofs.YtmniblcooficgaaGreatDoor
