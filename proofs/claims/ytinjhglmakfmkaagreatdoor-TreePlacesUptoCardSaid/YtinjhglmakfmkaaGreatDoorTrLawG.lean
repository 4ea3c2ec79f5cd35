/- The walk of the law TreePlaces. -/
import Derived.Test.YtinjhglmakfmkaaGreatDoorTrLawZ
import Derived.Deep.RegionHeld3
import Derived.BigQuiet
namespace Go.Proofs.YtinjhglmakfmkaaGreatDoor
open Go.RowKit Ev5
set_option linter.unusedSimpArgs false
set_option linter.unusedVariables false

/-- The call behind few: the node's box B, the box C of what stands at the places so far. -/
structure Pl (w wr : World) (C : Nat) (n m : Nd) (un u : Value) : Prop where
  bx : wr.heap[w.heap.size]? = some (.cells #[.int .i64 n.k, .string n.t, .string n.v, un] 39 (0, 0))
  cx : wr.heap[C]? = some (.cells #[.int .i64 m.k, .string m.t, .string m.v, u] 39 (0, 0))
  sl : SlIn wr (fun b => b < w.heap.size) u m.kids
  bel : Below w.heap.size w wr
  lo : w.heap.size < C
theorem Pl.below {w wr w' : World} {C : Nat} {n m : Nd} {un u : Value} (h : Pl w wr C n m un u) (hb : Below wr.heap.size wr w') : Pl w w' C n m un u :=
  ⟨(hb.block _ (lt_blk h.bx)).trans h.bx, (hb.block _ (lt_blk h.cx)).trans h.cx, h.sl.below hb, bthen h.bel hb, h.lo⟩
theorem Pl.down {w wr : World} {C : Nat} {n m x : Nd} {un u uk : Value} (h : Pl w wr C n m un u) (hk : SlIn wr (fun b => b < w.heap.size) uk x.kids) :
    Pl w ((((wr.setCell ⟨C, 0, none⟩ (.int .i64 x.k)).setCell ⟨C, 1, none⟩ (.string x.t)).setCell ⟨C, 2, none⟩ (.string x.v)).setCell ⟨C, 3, none⟩ uk) C n x un uk := by
  obtain ⟨hf, hg⟩ := fill4 (.int .i64 x.k) (.string x.t) (.string x.v) uk h.cx
  have hlo := h.lo
  refine ⟨?_, hf, ?_, ?_, h.lo⟩
  · rw [hg.block _ (lt_blk h.bx) (fun e => by injection e with e; omega)]; exact h.bx
  · exact hk.alike ⟨hg.size, fun b hb hl => hg.block b hl (fun e => by injection e with e; omega)⟩ fun b hb _ => hb
  · exact h.bel.grown hg h.bel.size (fun b hb => by injection hb; omega)

set_option maxRecDepth 1000000 in
set_option maxHeartbeats 8000000 in
theorem treePlaces_law (val : Value) (n : Nd) (pv : Value) (place : List Int) (w : World) (hE : EnvU w) (hvv : NdV w (fun b => b < w.heap.size) val n ∧ n.ok ∧ n.size ≤ 1048576) (hp : IntsIn w pv place) :
    Calls Tryz.prog 10 #[val, pv] w fun e w' => e = .returned (.bool true) ∧ Below w.heap.size w w' := by
  obtain ⟨⟨u, rfl, hs⟩, hok, hsz⟩ := hvv
  obtain ⟨ao, cap, rfl, hcap, hcm⟩ := hs.shape
  have HIP := Lib.hid hp
  obtain ⟨pa, pcap, rfl, hpc, hpm, hcells⟩ := hp.ex
  have HPC := Lib.hid hcells
  have HPO := Lib.hid hp.ok
  unfold maxLen at hcm hpm
  have HE := Lib.hid hE; have HSZ := Lib.hid hsz
  have HV := Lib.hid (show NdV w (fun b => b < w.heap.size) (.agg #[.int .i64 n.k, .string n.t, .string n.v, .slice ao n.kids.length cap]) n from ⟨_, rfl, hs⟩)
  have HS := Lib.hid hs
  have HB1 := Lib.hid (show Below w.heap.size w (w.alloc (.cells #[.int .i64 n.k, .string n.t, .string n.v, .slice ao n.kids.length cap] 39)) from (Below.refl _ _).alloc (Nat.le_refl _) _)
  have HX := Lib.hid (heap_alloc_new w (.cells #[.int .i64 n.k, .string n.t, .string n.v, .slice ao n.kids.length cap] 39))
  clear hs hE hok hsz hp hcells
  unfold ndV
  go_enter Tryz.func10, Tryz.ntmps10
  go_wp2_with fail
  refine (fewB_any n _ _ _ (HV.out.below HB1.out)).mono ?_
  rintro e w2 ⟨rfl, hb⟩
  have HX2 := Lib.hid ((hb.block _ (by simp)).trans HX.out)
  obtain ⟨x0, x1, x2, x3, y0, y1, y2, y3, hxl⟩ := nd_cells HX2.out
  have HB2 := Lib.hid (bthen HB1.out hb)
  clear hb
  by_cases hf : 0 ≤ n.few 300 20
  · have hfd : decide (0 ≤ n.few 300 20) = true := decide_eq_true hf
    rw [hfd]
    clear hf hfd
    go_wp2_with fail
    have hba : Below w2.heap.size w2 (w2.alloc (.cells #[.int .i64 n.k, .string n.t, .string n.v, .slice ao n.kids.length cap] 39)) := (Below.refl _ _).alloc (Nat.le_refl _) _
    have hP0 : Pl w (w2.alloc (.cells #[.int .i64 n.k, .string n.t, .string n.v, .slice ao n.kids.length cap] 39)) w2.heap.size n n (.slice ao n.kids.length cap) (.slice ao n.kids.length cap) :=
      ⟨(hba.block _ hxl).trans HX2.out, heap_alloc_new w2 _, (HS.out.below HB2.out).below hba, bthen HB2.out hba, by omega⟩
    have HP0 := Lib.hid hP0
    obtain ⟨C, hC⟩ : ∃ C, w2.heap.size = C := ⟨_, rfl⟩
    obtain ⟨w3, hw3⟩ : ∃ w3, w2.alloc (.cells #[.int .i64 n.k, .string n.t, .string n.v, .slice ao n.kids.length cap] 39) = w3 := ⟨_, rfl⟩
    rw [hC, hw3] at HP0
    rw [hC, hw3]
    clear hP0 hba hw3 hC x0 x1 x2 x3 y0 y1 y2 y3 hxl HX2 HB2
    go_loopw [7, 8] (fun u7 u8 wr => ∃ (ok : Bool) (i : Nat) (m : Nd) (u : Value), u7 = .bool ok ∧ u8 = .int .i64 i ∧ i ≤ place.length ∧ Hid (Pl w wr C n m (.slice ao n.kids.length cap) u) ∧ Hid (if ok = true then n.at_ place = m.at_ (place.drop i) else n.at_ place = none))
      (fun _ u8 _ => place.length - (intOf u8).toNat)
    case atStart => exact ⟨true, 0, n, _, rfl, rfl, Nat.zero_le _, HP0.out, by show (if true = true then _ else _); simp⟩
    case round =>
      obtain ⟨ok, i, m, u, rfl, rfl, hi, HP, HO⟩ := hrel
      obtain ⟨ma, mc, rfl, hmc, hmm⟩ := HP.out.sl.shape
      unfold maxLen at hmm
      obtain ⟨b0, b1, b2, b3, f0, f1, f2, f3, hbl⟩ := nd_cells HP.out.bx
      obtain ⟨r0, r1, r2, r3, s0, s1, s2, s3, hrl⟩ := nd_cells HP.out.cx
      by_cases hlt : i < place.length ∧ ok = true
      · obtain ⟨hlt, rfl⟩ := hlt
        rw [if_pos rfl] at HO
        obtain ⟨pb, po, rfl, hpc0⟩ := HPC.out i hlt
        have hpl : pb < w.heap.size := cell_lt hpc0
        have hwf := HPO.out _ (List.getElem_mem hlt)
        have HDR := Lib.hid (show place.drop i = place[i] :: place.drop (i + 1) from List.drop_eq_getElem_cons hlt)
        obtain ⟨K, hK⟩ : ∃ K, place[i] = K := ⟨_, rfl⟩
        rw [hK] at hpc0 hwf HDR
        have hpc1 : wr.cell? ⟨pb, po + i, none⟩ = some (.int .i64 K) := by rw [HP.out.bel.cell (p := ⟨pb, po + i, none⟩) hpl]; exact hpc0
        have hsz := HP.out.bel.size
        have hplr : pb < wr.heap.size := by omega
        have HWF := Lib.hid hwf
        have hil : (i : Int) < (place.length : Int) := by omega
        have HD := Lib.hid (show ∀ w' : World, Below wr.heap.size wr w' → w'.cell? ⟨pb, po + i, none⟩ = some (.int .i64 K) ∧ w'.cell? ⟨C, 3, none⟩ = some (.slice ma m.kids.length mc) from fun w' hb => by
          exact ⟨by rw [hb.cell (p := ⟨pb, po + i, none⟩) hplr]; exact hpc1, (nd_cells (HP.out.below hb).cx).c3⟩)
        clear hpc0 hK hwf
        have HPD := Lib.hid (HP.out.below (Below.refl _ wr).drew)
        by_cases hneg : K < 0
        · have hnb : ¬ (0 : Int) ≤ K := by omega
          have hnc : decide (0 ≤ K) = false := decide_eq_false hnb
          have HNO := Lib.hid (show n.at_ place = none by rw [HO.out, HDR.out]; exact at_no (fun h => absurd h.1 (Int.not_le.2 hneg)))
          go_wp2_with fail
          go_quiet (fail)
          go_wp2_with fail
          go_roundw
          case rel => exact ⟨false, i + 1, m, _, rfl, by go_num, by omega, HP.out.below (below_drewN wr _), by show (if false = true then _ else _); simp; exact HNO.out⟩
          case measure => simp [intOf]; omega
        · have hnb : (0 : Int) ≤ K := by omega
          have hnc : decide (0 ≤ K) = true := decide_eq_true hnb
          clear hneg
          by_cases hge : (m.kids.length : Int) ≤ K
          · have hgd : decide (K < (m.kids.length : Int)) = false := decide_eq_false (by omega)
            have hgn : ¬ (K < (m.kids.length : Int)) := by omega
            have HNO := Lib.hid (show n.at_ place = none by rw [HO.out, HDR.out]; exact at_no (fun h => absurd h.2 (by omega)))
            go_wp2_with fail
            go_quiet (fail)
            go_wp2_with fail
            go_roundw
            case rel => exact ⟨false, i + 1, m, _, rfl, by go_num, by omega, HP.out.below (below_drewN wr _), by show (if false = true then _ else _); simp; exact HNO.out⟩
            case measure => simp [intOf]; omega
          · obtain ⟨j, rfl⟩ : ∃ j : Nat, K = j := ⟨K.toNat, by omega⟩
            have hj : j < m.kids.length := by omega
            have hgd : decide ((j : Int) < (m.kids.length : Int)) = true := decide_eq_true (by omega)
            have HYES := Lib.hid (show n.at_ place = m.kids[j].at_ (place.drop (i + 1)) by rw [HO.out, HDR.out]; exact at_yes rfl hj)
            obtain ⟨b, o, uk, rfl, hbw, c0, c1, c2, c3, hsk⟩ := HP.out.sl.at_ j hj
            obtain ⟨x, hx⟩ : ∃ x, m.kids[j] = x := ⟨_, rfl⟩
            rw [hx] at c0 c1 c2 hsk HYES
            obtain ⟨ua, uc, rfl, _, _⟩ := hsk.shape
            have HSK := Lib.hid hsk
            clear hx hsk hge
            go_wp2_with fail
            go_quiet (fail)
            go_wp2_with fail
            generalize hwq : wr.drewN _ = wq
            have hPq : Pl w wq C n m (.slice ao n.kids.length cap) (.slice (some ⟨b, o, none⟩) m.kids.length mc) := by rw [← hwq]; exact HP.out.below (below_drewN wr _)
            have hskq : SlIn wq (fun b => b < w.heap.size) (.slice ua x.kids.length uc) x.kids := by rw [← hwq]; exact HSK.out.below (below_drewN wr _)
            have hq : ∀ (q j : Nat) (u : Value), wr.cell? ⟨q, j, none⟩ = some u → wq.cell? ⟨q, j, none⟩ = some u := fun q j u h => by rw [← hwq]; exact h
            have HPQ := Lib.hid hPq; have HSKQ := Lib.hid hskq
            have d0 := hq _ _ _ c0; have d1 := hq _ _ _ c1; have d2 := hq _ _ _ c2; have d3 := hq _ _ _ c3
            have dp := hq _ _ _ hpc1
            have hwz : wq.heap.size = wr.heap.size := by rw [← hwq]; rfl
            have HN2 := Lib.hid (HPQ.out.down hskq)
            clear c0 c1 c2 c3 hpc1 hq hPq hskq hwq b0 b1 b2 b3 f0 f1 f2 f3 hbl r0 r1 r2 r3 s0 s1 s2 s3 hrl
            obtain ⟨r0, r1, r2, r3, s0, s1, s2, s3, hrl⟩ := nd_cells HPQ.out.cx
            have hbq : b < wq.heap.size := by omega
            have hplq : pb < wq.heap.size := by omega
            have hjl : (j : Int) < (m.kids.length : Int) := by omega
            go_region
            all_goals
              go_wp2_with fail
              go_roundw
              case rel => exact ⟨true, i + 1, x, _, rfl, by go_num, by omega, HN2.out.below (Below.refl _ _).drew, by show (if true = true then _ else _); rw [if_pos rfl]; exact HYES.out⟩
              case measure => simp [intOf]; omega
      · by_cases hok : ok = true
        · subst hok
          obtain rfl : i = place.length := by have : ¬ i < place.length := fun h => hlt ⟨h, rfl⟩; omega
          rw [if_pos rfl] at HO
          have HY := Lib.hid (show n.at_ place = some m by rw [HO.out, List.drop_length]; exact at_nil m)
          clear hlt
          go_wp2_with fail
          refine (treeAt_any n wr _ _ _ place (HV.out.below HP.out.bel) (HIP.out.below HP.out.bel) HSZ.out).mono ?_
          intro e w4 hq
          rw [HY.out] at hq
          obtain ⟨hb, a4, c4, rfl, hsl⟩ := hq
          have HB4 := Lib.hid (bthen HP.out.bel hb)
          have HP4 := Lib.hid (HP.out.below hb)
          have HBA := Lib.hid (show Below w4.heap.size w4 (w4.alloc (.cells #[.int .i64 m.k, .string m.t, .string m.v, .slice a4 m.kids.length c4] 39)) from (Below.refl _ _).alloc (Nat.le_refl _) _)
          have HSL := Lib.hid (show NdV w4 _ (.agg #[.int .i64 m.k, .string m.t, .string m.v, .slice a4 m.kids.length c4]) m from ⟨_, rfl, hsl⟩)
          have HMM := Lib.hid (show NdV w4 _ (.agg #[.int .i64 m.k, .string m.t, .string m.v, .slice ma m.kids.length mc]) m from ⟨_, rfl, HP4.out.sl⟩)
          obtain ⟨g0, g1, g2, g3, _, _, _, _, hgl⟩ := nd_cells (heap_alloc_new w4 (.cells #[.int .i64 m.k, .string m.t, .string m.v, .slice a4 m.kids.length c4] 39))
          have HB5 := Lib.hid (bthen HB4.out HBA.out)
          have HP5 := Lib.hid (HP4.out.below HBA.out)
          clear hb hsl b0 b1 b2 b3 f0 f1 f2 f3 hbl r0 r1 r2 r3 s0 s1 s2 s3 hrl
          obtain ⟨r0, r1, r2, r3, _, _, _, _, hrl⟩ := nd_cells HP5.out.cx
          go_wp2_with fail
          refine (refSame_any m _ _ _ _ _ m (HSL.out.below HBA.out) (HMM.out.below HBA.out)).mono ?_
          rintro e w6 ⟨r, rfl, hr, hb⟩
          obtain rfl : r = true := hr.2 rfl
          have HB6 := Lib.hid (bthen HB5.out hb)
          clear hb hr
          go_wp2_with fail
          refine (lives_any _ (HE.out.below HB6.out)).mono ?_
          rintro e w7 ⟨rfl, hb⟩
          have HB7 := Lib.hid (bthen HB6.out hb)
          clear hb
          go_wp2_with fail
          go_ret
          exact ⟨rfl, HB7.out⟩
        · obtain rfl : ok = false := by cases ok; rfl; exact absurd rfl hok
          rw [if_neg (by simp)] at HO
          clear hlt hok
          by_cases hlt : i < place.length
          · have hil : (i : Int) < (place.length : Int) := by omega
            go_wp2_with fail
            refine (treeAt_any n wr _ _ _ place (HV.out.below HP.out.bel) (HIP.out.below HP.out.bel) HSZ.out).mono ?_
            intro e w4 hq
            rw [HO.out] at hq
            obtain ⟨hb, rfl⟩ := hq
            have HB4 := Lib.hid (bthen HP.out.bel hb)
            have HBA := Lib.hid (show Below w4.heap.size w4 (w4.alloc (.cells #[.int .i64 0, .string ⟨#[]⟩, .string ⟨#[]⟩, .slice none 0 0] 39)) from (Below.refl _ _).alloc (Nat.le_refl _) _)
            obtain ⟨g0, g1, g2, g3, _, _, _, _, hgl⟩ := nd_cells (heap_alloc_new w4 (.cells #[.int .i64 0, .string ⟨#[]⟩, .string ⟨#[]⟩, .slice none 0 0] 39))
            have HB5 := Lib.hid (bthen HB4.out HBA.out)
            clear hb b0 b1 b2 b3 f0 f1 f2 f3 hbl r0 r1 r2 r3 s0 s1 s2 s3 hrl
            go_wp2_with fail
            refine (lives_any _ (HE.out.below HB5.out)).mono ?_
            rintro e w6 ⟨rfl, hb⟩
            have HB6 := Lib.hid (bthen HB5.out hb)
            clear hb
            go_wp2_with fail
            go_ret
            exact ⟨rfl, HB6.out⟩
          · have hil : ¬ (i : Int) < (place.length : Int) := by omega
            go_wp2_with fail
            refine (treeAt_any n wr _ _ _ place (HV.out.below HP.out.bel) (HIP.out.below HP.out.bel) HSZ.out).mono ?_
            intro e w4 hq
            rw [HO.out] at hq
            obtain ⟨hb, rfl⟩ := hq
            have HB4 := Lib.hid (bthen HP.out.bel hb)
            have HBA := Lib.hid (show Below w4.heap.size w4 (w4.alloc (.cells #[.int .i64 0, .string ⟨#[]⟩, .string ⟨#[]⟩, .slice none 0 0] 39)) from (Below.refl _ _).alloc (Nat.le_refl _) _)
            obtain ⟨g0, g1, g2, g3, _, _, _, _, hgl⟩ := nd_cells (heap_alloc_new w4 (.cells #[.int .i64 0, .string ⟨#[]⟩, .string ⟨#[]⟩, .slice none 0 0] 39))
            have HB5 := Lib.hid (bthen HB4.out HBA.out)
            clear hb b0 b1 b2 b3 f0 f1 f2 f3 hbl r0 r1 r2 r3 s0 s1 s2 s3 hrl
            go_wp2_with fail
            refine (lives_any _ (HE.out.below HB5.out)).mono ?_
            rintro e w6 ⟨rfl, hb⟩
            have HB6 := Lib.hid (bthen HB5.out hb)
            clear hb
            go_wp2_with fail
            go_ret
            exact ⟨rfl, HB6.out⟩
  · have hfd : decide (0 ≤ n.few 300 20) = false := decide_eq_false hf
    rw [hfd]
    clear hf hfd
    go_wp2_with fail
    refine (lives_any w2 (HE.out.below HB2.out)).mono ?_
    rintro e w3 ⟨rfl, hb⟩
    have HB3 := Lib.hid (bthen HB2.out hb)
    clear hb
    go_wp2_with fail
    go_ret
    exact ⟨rfl, HB3.out⟩
end Go.Proofs.YtinjhglmakfmkaaGreatDoor
