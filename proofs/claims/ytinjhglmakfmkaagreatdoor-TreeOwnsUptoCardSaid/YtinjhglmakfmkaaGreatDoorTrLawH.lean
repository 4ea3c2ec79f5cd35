/- The walk of the law TreeOwns. -/
import Derived.Test.YtinjhglmakfmkaaGreatDoorTrN5
import Derived.Test.YtinjhglmakfmkaaGreatDoorTrLawZ
namespace Go.Proofs.YtinjhglmakfmkaaGreatDoor
open Go.RowKit Ev5
set_option linter.unusedSimpArgs false
set_option linter.unusedVariables false

/-- What At hands back. -/
def AtPostR (o : Option Nd) (w : World) (e : Ending) (w' : World) : Prop := Below w.heap.size w w' ∧
  match o with
  | none => e = .returned (.tuple #[.agg #[.int .i64 0, .string ⟨#[]⟩, .string ⟨#[]⟩, .slice none 0 0], .int .i64 21])
  | some m => ∃ a cap, e = .returned (.tuple #[.agg #[.int .i64 m.k, .string m.t, .string m.v, .slice a m.kids.length cap], .int .i64 0]) ∧ Rk w' (fun b => w.heap.size ≤ b) (.slice a m.kids.length cap) m.kids

set_option maxRecDepth 100000 in
set_option maxHeartbeats 8000000 in
theorem treeAtR_any (n : Nd) (w : World) (S : Nat → Prop) (val pv : Value) (place : List Int) (hv : NdV w S val n) (hp : IntsIn w pv place) (hsz : n.size ≤ 1048576) :
    Calls Tryz.prog 32 #[val, pv] w (AtPostR (n.at_ place) w) := by
  obtain ⟨u, rfl, hs⟩ := hv
  obtain ⟨pa, pcap, rfl, hpc, hpm, hcells⟩ := hp.ex
  have HPC := Lib.hid hcells
  have HPO := Lib.hid hp.ok
  obtain ⟨ao, cap, rfl, hcap, hcm⟩ := hs.shape
  have HS := Lib.hid hs
  have HSZ := Lib.hid hsz
  clear hcells hs hsz hp
  unfold maxLen at hcm hpm
  unfold ndV
  go_enter Tryz.func32, Tryz.ntmps32
  go_wp2_with fail
  have H0 := Lib.hid (show AtS w ((w.alloc (.cells #[.int .i64 n.k, .string n.t, .string n.v, .slice ao n.kids.length cap] 39)).alloc (.cells #[.int .i64 0, .string ⟨#[]⟩, .string ⟨#[]⟩, .slice none 0 0] 39)) n (.slice ao n.kids.length cap) from by
    have hb : Below w.heap.size w ((w.alloc (.cells #[.int .i64 n.k, .string n.t, .string n.v, .slice ao n.kids.length cap] 39)).alloc (.cells #[.int .i64 0, .string ⟨#[]⟩, .string ⟨#[]⟩, .slice none 0 0] 39)) := ((Below.refl _ _).alloc (Nat.le_refl _) _).alloc (by simp) _
    exact ⟨two_first _ _ _, two_last _ _ _, HS.out.alike (alike_below hb) fun b _ h => h, hb⟩)
  go_loopw [10] (fun vi wr => ∃ (i : Nat) (m : Nd) (u : Value), i ≤ place.length ∧ vi = .int .i64 i ∧ m.size ≤ 1048576 ∧ Hid (n.at_ place = m.at_ (place.drop i)) ∧ Hid (AtS w wr m u))
    (fun vi _ => place.length - (intOf vi).toNat)
  case atStart => exact ⟨0, n, _, Nat.zero_le _, rfl, HSZ.out, rfl, H0.out⟩
  case round =>
    obtain ⟨i, m, u, hi, rfl, hms, HR, HA⟩ := hrel
    have HMS := Lib.hid hms
    obtain ⟨ma, mc, rfl, hmc, hmm⟩ := HA.out.sl.shape
    unfold maxLen at hmm
    obtain ⟨b0, b1, b2, b3, f0, f1, f2, f3, hbl⟩ := nd_cells HA.out.box
    obtain ⟨r0, r1, r2, r3, s0, s1, s2, s3, hrl⟩ := nd_cells HA.out.res
    have hkl : m.kids.length ≤ 1048576 := by
      have := kids_size m
      have : m.kids.length ≤ Nd.sizes m.kids := sizes_len m.kids
      omega
    clear H0 hms
    by_cases hlt : i < place.length
    · obtain ⟨pb, po, rfl, hpc0⟩ := HPC.out i hlt
      have hwf := HPO.out _ (List.getElem_mem hlt)
      have hpl := cell_lt hpc0
      have hpc1 : wr.cell? ⟨pb, po + i, none⟩ = some (.int .i64 place[i]) := by rw [HA.out.bel.cell (p := ⟨pb, po + i, none⟩) hpl]; exact hpc0
      have hsz := HA.out.bel.size
      have hplr : pb < wr.heap.size := by (have hpl2 : pb < w.heap.size := hpl); omega
      have HD := Lib.hid (show place.drop i = place[i] :: place.drop (i + 1) from List.drop_eq_getElem_cons hlt)
      obtain ⟨K, hK⟩ : ∃ K, place[i] = K := ⟨_, rfl⟩
      rw [hK] at hpc1 hwf HD
      have HWF := Lib.hid hwf
      clear hpc0 hK hwf hpl
      by_cases hneg : K < 0
      · have hnb : decide (K < 0) = true := decide_eq_true hneg
        have HNO := Lib.hid (show n.at_ place = none by rw [HR.out, HD.out]; exact at_no (fun h => absurd h.1 (Int.not_le.2 hneg)))
        go_wp2_with fail
        obtain ⟨hf, hgr⟩ := fill4 (.int .i64 0) (.string ⟨#[]⟩) (.string ⟨#[]⟩) (.slice none 0 0) HA.out.res
        obtain ⟨q0, q1, q2, q3, _, _, _, _, hql⟩ := nd_cells hf
        refine bodyPost_ret (v := .tuple #[.agg #[.int .i64 0, .string ⟨#[]⟩, .string ⟨#[]⟩, .slice none 0 0], .int .i64 21]) (by simp [results, Tryz.results32, go_sem, q0, q1, q2, q3]) rfl ⟨HA.out.bel.grown hgr HA.out.bel.size (fun b hb => by injection hb; omega), ?_⟩
        rw [HNO.out]
      · have hnb : decide (K < 0) = false := decide_eq_false hneg
        by_cases hge : (m.kids.length : Int) ≤ K
        · have HNO := Lib.hid (show n.at_ place = none by rw [HR.out, HD.out]; exact at_no (fun h => absurd h.2 (by omega)))
          go_wp2_with fail
          obtain ⟨hf, hgr⟩ := fill4 (.int .i64 0) (.string ⟨#[]⟩) (.string ⟨#[]⟩) (.slice none 0 0) HA.out.res
          obtain ⟨q0, q1, q2, q3, _, _, _, _, hql⟩ := nd_cells hf
          refine bodyPost_ret (v := .tuple #[.agg #[.int .i64 0, .string ⟨#[]⟩, .string ⟨#[]⟩, .slice none 0 0], .int .i64 21]) (by simp [results, Tryz.results32, go_sem, q0, q1, q2, q3]) rfl ⟨HA.out.bel.grown hgr HA.out.bel.size (fun b hb => by injection hb; omega), ?_⟩
          rw [HNO.out]
        · obtain ⟨j, rfl⟩ : ∃ j : Nat, K = j := ⟨K.toNat, by omega⟩
          have hj : j < m.kids.length := by omega
          have HYES := Lib.hid (show n.at_ place = m.kids[j].at_ (place.drop (i + 1)) by rw [HR.out, HD.out]; exact at_yes rfl hj)
          obtain ⟨b, o, uk, rfl, hbw, c0, c1, c2, c3, hsk⟩ := HA.out.sl.at_ j hj
          have hxs := kid_size hj
          obtain ⟨x, hx⟩ : ∃ x, m.kids[j] = x := ⟨_, rfl⟩
          rw [hx] at c0 c1 c2 hsk hxs HYES
          have HN2 := Lib.hid (HA.out.down hsk)
          have HXS := Lib.hid (show x.size ≤ 1048576 by have := HMS.out; omega)
          obtain ⟨ua, uc, rfl, _, _⟩ := hsk.shape
          clear hx hsk hxs
          go_wp2_with fail
          go_roundw
          case rel => exact ⟨i + 1, x, _, by omega, by go_num, HXS.out, HYES.out, HN2.out⟩
          case measure => simp [intOf]; omega
    · obtain rfl : i = place.length := by omega
      have HE := Lib.hid (show n.at_ place = some m by rw [HR.out, List.drop_length]; exact at_nil m)
      go_wp2_with fail
      refine (copyR_any m wr _ _ ⟨_, rfl, HA.out.sl⟩ hkl (by have := kids_size m; have := HMS.out; omega)).mono ?_
      rintro e w2 ⟨a, c, rfl, hsl, hb⟩
      clear r0 r1 r2 r3 s0 s1 s2 s3 hrl
      have hr2 := (hb.block _ (lt_blk HA.out.res)).trans HA.out.res
      obtain ⟨r0, r1, r2, r3, s0, s1, s2, s3, hrl⟩ := nd_cells hr2
      have HR2 := Lib.hid hr2
      have HSL := Lib.hid hsl
      have HB2 := Lib.hid (bthen HA.out.bel hb)
      have HSZ2 := Lib.hid hb.size
      have HWL := Lib.hid (show w.heap.size + 2 ≤ wr.heap.size by have := lt_blk HA.out.res; omega)
      clear b0 b1 b2 b3 f0 f1 f2 f3 hr2 hsl hb hbl hlt
      go_wp2_with fail
      obtain ⟨hf, hgr⟩ := fill4 (.int .i64 m.k) (.string m.t) (.string m.v) (.slice a m.kids.length c) HR2.out
      have hbe := HB2.out.grown hgr HB2.out.size (fun b hb => by injection hb; omega)
      have hsl : Rk _ (fun b => w.heap.size ≤ b) (.slice a m.kids.length c) m.kids := HSL.out.alike ⟨hgr.size, fun b hb hl => hgr.block b hl (fun e => by injection e with e; have := HWL.out; omega)⟩ fun b hb _ => by have := HWL.out; omega
      obtain ⟨w5, hw5⟩ : ∃ w5, ((((w2.setCell ⟨w.heap.size + 1, 0, none⟩ (.int .i64 m.k)).setCell ⟨w.heap.size + 1, 1, none⟩ (.string m.t)).setCell ⟨w.heap.size + 1, 2, none⟩ (.string m.v)).setCell ⟨w.heap.size + 1, 3, none⟩ (.slice a m.kids.length c)) = w5 := ⟨_, rfl⟩
      rw [hw5] at hf hbe hsl
      rw [hw5]
      obtain ⟨q0, q1, q2, q3, _, _, _, _, hql⟩ := nd_cells hf
      refine bodyPost_ret (v := .tuple #[.agg #[.int .i64 m.k, .string m.t, .string m.v, .slice a m.kids.length c], .int .i64 0]) (by simp [results, Tryz.results32, go_sem, q0, q1, q2, q3]) rfl ⟨hbe, ?_⟩
      rw [HE.out]
      exact ⟨a, c, rfl, hsl⟩

theorem Pk.bel {S : Nat → Prop} {w w' : World} {base : Nat} (h : Pk S w w') (hS : ∀ b, S b → base ≤ b) (hb : base ≤ w.heap.size) : Below base w w' :=
  ⟨h.os, h.tape, h.output, h.size, fun b hlt => h.oth b (by omega) (fun hs => by have := hS b hs; omega)⟩

set_option maxRecDepth 1000000 in
set_option maxHeartbeats 8000000 in
theorem treeOwns_law (val : Value) (n : Nd) (pv : Value) (place : List Int) (w : World) (hE : EnvU w) (hvv : NdV w (fun b => b < w.heap.size) val n ∧ n.ok ∧ n.size ≤ 1048576) (hp : IntsIn w pv place) :
    Calls Tryz.prog 11 #[val, pv] w fun e w' => e = .returned (.bool true) ∧ Below w.heap.size w w' := by
  obtain ⟨⟨u, rfl, hs⟩, hok, hsz⟩ := hvv
  obtain ⟨ao, cap, rfl, hcap, hcm⟩ := hs.shape
  have HIP := Lib.hid hp
  obtain ⟨pa, pcap, rfl, hpc, hpm, hcells⟩ := hp.ex
  unfold maxLen at hcm hpm
  have HE := Lib.hid hE; have HSZ := Lib.hid hsz
  have HKS := Lib.hid (show n.kids.length ≤ 1048576 ∧ Nd.sizes n.kids ≤ 1048576 by have := kids_size n; have := sizes_len n.kids; omega)
  have HV := Lib.hid (show NdV w (fun b => b < w.heap.size) (.agg #[.int .i64 n.k, .string n.t, .string n.v, .slice ao n.kids.length cap]) n from ⟨_, rfl, hs⟩)
  have HB1 := Lib.hid (show Below w.heap.size w (w.alloc (.cells #[.int .i64 n.k, .string n.t, .string n.v, .slice ao n.kids.length cap] 39)) from (Below.refl _ _).alloc (Nat.le_refl _) _)
  have HX := Lib.hid (heap_alloc_new w (.cells #[.int .i64 n.k, .string n.t, .string n.v, .slice ao n.kids.length cap] 39))
  clear hs hE hok hsz hp hcells
  unfold ndV
  go_enter Tryz.func11, Tryz.ntmps11
  go_wp2_with fail
  refine (fewB_any n _ _ _ (HV.out.below HB1.out)).mono ?_
  rintro e w2 ⟨rfl, hb⟩
  have HX2 := Lib.hid ((hb.block _ (by simp)).trans HX.out)
  obtain ⟨x0, x1, x2, x3, y0, y1, y2, y3, hxl⟩ := nd_cells HX2.out
  have HB2 := Lib.hid (bthen HB1.out hb)
  clear hb
  by_cases hf : 0 ≤ n.few 300 20
  · have hfd : decide (0 ≤ n.few 300 20) = true := decide_eq_true hf
    rw [hfd]
    clear hf hfd
    go_wp2_with fail
    refine (copyR_any n w2 _ _ (HV.out.below HB2.out) HKS.out.1 HKS.out.2).mono ?_
    rintro e w3 ⟨a1, c1, rfl, hk1, hb⟩
    have HX3 := Lib.hid ((hb.block _ hxl).trans HX2.out)
    have HB3 := Lib.hid (bthen HB2.out hb)
    have HB23 := Lib.hid hb
    have HK1 := Lib.hid (show Rk w3 (fun b => w2.heap.size ≤ b ∧ b < w3.heap.size) (.slice a1 n.kids.length c1) n.kids from hk1.alike ⟨Nat.le_refl _, fun _ _ _ => rfl⟩ fun b hb hl => ⟨hb, hl⟩)
    have hA2 : w.heap.size < w2.heap.size := hxl
    have h23 := hb.size
    clear hb hk1 x0 x1 x2 x3 y0 y1 y2 y3 hxl
    have HBA := Lib.hid (show Below w3.heap.size w3 (w3.alloc (.cells #[.int .i64 n.k, .string n.t, .string n.v, .slice a1 n.kids.length c1] 39)) from (Below.refl _ _).alloc (Nat.le_refl _) _)
    have HX4 := Lib.hid ((HBA.out.block _ (lt_blk HX3.out)).trans HX3.out)
    have HY4 := Lib.hid (heap_alloc_new w3 (.cells #[.int .i64 n.k, .string n.t, .string n.v, .slice a1 n.kids.length c1] 39))
    obtain ⟨x0, x1, x2, x3, y0, y1, y2, y3, hxl⟩ := nd_cells HX4.out
    go_wp2_with fail
    have HB4 := Lib.hid (bthen HB3.out HBA.out)
    have HS4 : (w3.alloc (.cells #[.int .i64 n.k, .string n.t, .string n.v, .slice a1 n.kids.length c1] 39)).heap.size = w3.heap.size + 1 := by simp
    have HK14 := Lib.hid (HK1.out.below HBA.out)
    obtain ⟨w4, hw4⟩ : ∃ w4, w3.alloc (.cells #[.int .i64 n.k, .string n.t, .string n.v, .slice a1 n.kids.length c1] 39) = w4 := ⟨_, rfl⟩
    rw [hw4] at HX4 HY4 HB4 HS4 HK14 x0 x1 x2 x3 y0 y1 y2 y3 hxl
    rw [hw4]
    clear hw4 HBA
    refine (copyR_any n w4 _ _ (HV.out.below HB4.out) HKS.out.1 HKS.out.2).mono ?_
    rintro e w5 ⟨a2, c2, rfl, hk2, hb⟩
    have HX5 := Lib.hid ((hb.block _ hxl).trans HX4.out)
    have HY5 := Lib.hid ((hb.block _ (by omega)).trans HY4.out)
    have HB5 := Lib.hid (bthen HB4.out hb)
    have HK15 := Lib.hid (HK14.out.below hb)
    have HK2 := Lib.hid (show SlIn w5 (fun b => w4.heap.size ≤ b ∧ b < w5.heap.size) (.slice a2 n.kids.length c2) n.kids from hk2.1.alike ⟨Nat.le_refl _, fun _ _ _ => rfl⟩ fun b hb hl => ⟨hb, hl⟩)
    have h45 := hb.size
    clear hb hk2 x0 x1 x2 x3 y0 y1 y2 y3 hxl
    have HBA := Lib.hid (show Below w5.heap.size w5 (w5.alloc (.cells #[.int .i64 n.k, .string n.t, .string n.v, .slice a2 n.kids.length c2] 39)) from (Below.refl _ _).alloc (Nat.le_refl _) _)
    have HX6 := Lib.hid ((HBA.out.block _ (lt_blk HX5.out)).trans HX5.out)
    have HY6 := Lib.hid ((HBA.out.block _ (lt_blk HY5.out)).trans HY5.out)
    have HZ6 := Lib.hid (heap_alloc_new w5 (.cells #[.int .i64 n.k, .string n.t, .string n.v, .slice a2 n.kids.length c2] 39))
    have HB6 := Lib.hid (bthen HB5.out HBA.out)
    have HS6 : (w5.alloc (.cells #[.int .i64 n.k, .string n.t, .string n.v, .slice a2 n.kids.length c2] 39)).heap.size = w5.heap.size + 1 := by simp
    have HK16 := Lib.hid (HK15.out.below HBA.out)
    have HK26 := Lib.hid (HK2.out.below HBA.out)
    obtain ⟨x0, x1, x2, x3, _, _, _, _, hxl⟩ := nd_cells HX6.out
    obtain ⟨y0, y1, y2, y3, _, _, _, _, hyl⟩ := nd_cells HY6.out
    go_wp2_with fail
    obtain ⟨w6, hw6⟩ : ∃ w6, w5.alloc (.cells #[.int .i64 n.k, .string n.t, .string n.v, .slice a2 n.kids.length c2] 39) = w6 := ⟨_, rfl⟩
    rw [hw6] at HX6 HY6 HZ6 HB6 HS6 HK16 HK26 x0 x1 x2 x3 hxl y0 y1 y2 y3 hyl
    rw [hw6]
    clear hw6 HBA
    refine (refSame_any n _ _ _ _ _ n (NdV.mk (u := .slice a1 n.kids.length c1) HK16.out.1) (HV.out.below HB6.out)).mono ?_
    rintro e w7 ⟨r, rfl, hr, hb⟩
    obtain rfl : r = true := hr.2 rfl
    have HX7 := Lib.hid ((hb.block _ hxl).trans HX6.out)
    have HY7 := Lib.hid ((hb.block _ hyl).trans HY6.out)
    have HZ7 := Lib.hid ((hb.block _ (by omega)).trans HZ6.out)
    have HB7 := Lib.hid (bthen HB6.out hb)
    have HK17 := Lib.hid (HK16.out.below hb)
    have HK27 := Lib.hid (HK26.out.below hb)
    have h67 := hb.size
    clear hb hr x0 x1 x2 x3 y0 y1 y2 y3 hxl hyl
    obtain ⟨y0, y1, y2, y3, _, _, _, _, hyl⟩ := nd_cells HY7.out
    go_wp2_with fail
    refine (spoil_any _ w7 _ _ _ _ _ HK17.out.2 (fun b hb => by omega)).mono ?_
    rintro e w8 ⟨⟨r, rfl⟩, hpk⟩
    have HX8 := Lib.hid ((hpk.oth _ (by omega) (fun h => by omega)).trans HX7.out)
    have HZ8 := Lib.hid ((hpk.oth _ (by omega) (fun h => by omega)).trans HZ7.out)
    have HB8 := Lib.hid (HB7.out.trans (hpk.bel (base := w.heap.size) (fun b hb => by omega) (by omega)))
    have HK28 := Lib.hid (HK27.out.alike ⟨hpk.size, fun b hb hl => hpk.oth b hl (fun h => by omega)⟩ fun b hb _ => hb)
    have h78 := hpk.size
    clear hpk y0 y1 y2 y3 hyl
    obtain ⟨x0, x1, x2, x3, _, _, _, _, hxl⟩ := nd_cells HX8.out
    go_wp2_with fail
    refine (treeAtR_any n w8 _ _ _ place (HV.out.below HB8.out) (HIP.out.below HB8.out) HSZ.out).mono ?_
    rintro e w9 ⟨hb, hq⟩
    have HX9 := Lib.hid ((hb.block _ hxl).trans HX8.out)
    have HZ9 := Lib.hid ((hb.block _ (by omega)).trans HZ8.out)
    have HB9 := Lib.hid (bthen HB8.out hb)
    have HK29 := Lib.hid (HK28.out.below hb)
    have h89 := hb.size
    clear hb x0 x1 x2 x3 hxl
    cases hat : n.at_ place with
    | none =>
      rw [hat] at hq
      obtain rfl := hq
      clear hat
      have HBA := Lib.hid (show Below w9.heap.size w9 (w9.alloc (.cells #[.int .i64 0, .string ⟨#[]⟩, .string ⟨#[]⟩, .slice none 0 0] 39)) from (Below.refl _ _).alloc (Nat.le_refl _) _)
      have HB10 := Lib.hid (bthen HB9.out HBA.out)
      obtain ⟨x0, x1, x2, x3, _, _, _, _, hxl⟩ := nd_cells ((HBA.out.block _ (lt_blk HX9.out)).trans HX9.out)
      obtain ⟨y0, y1, y2, y3, _, _, _, _, hyl⟩ := nd_cells ((HBA.out.block _ (lt_blk HZ9.out)).trans HZ9.out)
      go_wp2_with fail
      refine (refSame_any n _ _ _ _ _ n (NdV.mk (u := .slice a2 n.kids.length c2) (HK29.out.below HBA.out)) (HV.out.below HB10.out)).mono ?_
      rintro e w11 ⟨r, rfl, hr, hb⟩
      obtain rfl : r = true := hr.2 rfl
      have HB11 := Lib.hid (bthen HB10.out hb)
      clear hb hr
      go_wp2_with fail
      refine (lives_any _ (HE.out.below HB11.out)).mono ?_
      rintro e w12 ⟨rfl, hb⟩
      have HB12 := Lib.hid (bthen HB11.out hb)
      clear hb
      go_wp2_with fail
      go_ret
      exact ⟨rfl, HB12.out⟩
    | some m =>
      rw [hat] at hq
      obtain ⟨a3, c3, rfl, hk3⟩ := hq
      clear hat
      have HBA := Lib.hid (show Below w9.heap.size w9 (w9.alloc (.cells #[.int .i64 m.k, .string m.t, .string m.v, .slice a3 m.kids.length c3] 39)) from (Below.refl _ _).alloc (Nat.le_refl _) _)
      have HB10 := Lib.hid (bthen HB9.out HBA.out)
      have HK3 := Lib.hid ((show Rk w9 (fun b => w8.heap.size ≤ b ∧ b < w9.heap.size) (.slice a3 m.kids.length c3) m.kids from hk3.alike ⟨Nat.le_refl _, fun _ _ _ => rfl⟩ fun b hb hl => ⟨hb, hl⟩).below HBA.out)
      have HX10 := Lib.hid ((HBA.out.block _ (lt_blk HX9.out)).trans HX9.out)
      have HZ10 := Lib.hid ((HBA.out.block _ (lt_blk HZ9.out)).trans HZ9.out)
      obtain ⟨g0, g1, g2, g3, _, _, _, _, hgl⟩ := nd_cells (heap_alloc_new w9 (.cells #[.int .i64 m.k, .string m.t, .string m.v, .slice a3 m.kids.length c3] 39))
      have HK210 := Lib.hid (HK29.out.below HBA.out)
      have hs10 : (w9.alloc (.cells #[.int .i64 m.k, .string m.t, .string m.v, .slice a3 m.kids.length c3] 39)).heap.size = w9.heap.size + 1 := by simp
      clear hk3
      go_wp2_with fail
      refine (spoil_any _ _ _ _ _ _ _ HK3.out.2 (fun b hb => by rw [hs10]; omega)).mono ?_
      rintro e w11 ⟨⟨r, rfl⟩, hpk⟩
      have HX11 := Lib.hid ((hpk.oth _ (by rw [hs10]; omega) (fun h => by omega)).trans HX10.out)
      have HZ11 := Lib.hid ((hpk.oth _ (by rw [hs10]; omega) (fun h => by omega)).trans HZ10.out)
      have HB11 := Lib.hid (HB10.out.trans (hpk.bel (base := w.heap.size) (fun b hb => by omega) (by rw [hs10]; omega)))
      have HK211 := Lib.hid (HK210.out.alike ⟨hpk.size, fun b hb hl => hpk.oth b hl (fun h => by omega)⟩ fun b hb _ => hb)
      clear hpk g0 g1 g2 g3 hgl
      obtain ⟨x0, x1, x2, x3, _, _, _, _, hxl⟩ := nd_cells HX11.out
      obtain ⟨y0, y1, y2, y3, _, _, _, _, hyl⟩ := nd_cells HZ11.out
      go_wp2_with fail
      refine (refSame_any n _ _ _ _ _ n (NdV.mk (u := .slice a2 n.kids.length c2) HK211.out) (HV.out.below HB11.out)).mono ?_
      rintro e w12 ⟨r, rfl, hr, hb⟩
      obtain rfl : r = true := hr.2 rfl
      have HB12 := Lib.hid (bthen HB11.out hb)
      clear hb hr
      go_wp2_with fail
      refine (lives_any _ (HE.out.below HB12.out)).mono ?_
      rintro e w13 ⟨rfl, hb⟩
      have HB13 := Lib.hid (bthen HB12.out hb)
      clear hb
      go_wp2_with fail
      go_ret
      exact ⟨rfl, HB13.out⟩
  · have hfd : decide (0 ≤ n.few 300 20) = false := decide_eq_false hf
    rw [hfd]
    clear hf hfd
    go_wp2_with fail
    refine (lives_any w2 (HE.out.below HB2.out)).mono ?_
    rintro e w3 ⟨rfl, hb⟩
    have HB3 := Lib.hid (bthen HB2.out hb)
    clear hb
    go_wp2_with fail
    go_ret
    exact ⟨rfl, HB3.out⟩
end Go.Proofs.YtinjhglmakfmkaaGreatDoor
