import Derived.Test.YtdaamiihldbekaaGreatDoorPaN3
import Derived.Deep.QuietTactic
import Derived.Deep.Upon
/- The reference of layer 23: At. -/
namespace Go.Proofs.YtdaamiihldbekaaGreatDoor
open Go.RowKit Ev5
set_option linter.unusedSimpArgs false
set_option linter.unusedVariables false

/-- What the reference's At hands back. -/
def RefAtPost (S : Nat → Prop) (o : Option Nd) (w : World) (e : Ending) (w' : World) : Prop := Below w.heap.size w w' ∧
  match o with
  | none => e = .returned (.tuple #[.agg #[.int .i64 0, .string ⟨#[]⟩, .string ⟨#[]⟩, .slice none 0 0], .bool false])
  | some m => ∃ a cap, e = .returned (.tuple #[.agg #[.int .i64 m.k, .string m.t, .string m.v, .slice a m.kids.length cap], .bool true]) ∧ SlIn w' S (.slice a m.kids.length cap) m.kids
/-- A call of At: the node's box, the result's block; the rows lie in S. -/
structure AtT (S : Nat → Prop) (w wr : World) (m : Nd) (u : Value) : Prop where
  box : wr.heap[w.heap.size]? = some (.cells #[.int .i64 m.k, .string m.t, .string m.v, u] 24 (0, 0))
  res : wr.heap[w.heap.size + 1]? = some (.cells #[.int .i64 0, .string ⟨#[]⟩, .string ⟨#[]⟩, .slice none 0 0] 24 (0, 0))
  sl : SlIn wr S u m.kids
  bel : Below w.heap.size w wr
theorem AtT.down {S : Nat → Prop} {w wr : World} {m x : Nd} {u uk : Value} (hS : ∀ b, S b → b < w.heap.size) (h : AtT S w wr m u) (hk : SlIn wr S uk x.kids) :
    AtT S w ((((wr.setCell ⟨w.heap.size, 0, none⟩ (.int .i64 x.k)).setCell ⟨w.heap.size, 1, none⟩ (.string x.t)).setCell ⟨w.heap.size, 2, none⟩ (.string x.v)).setCell ⟨w.heap.size, 3, none⟩ uk) x uk := by
  obtain ⟨hf, hg⟩ := fill4 (.int .i64 x.k) (.string x.t) (.string x.v) uk h.box
  refine ⟨hf, ?_, ?_, ?_⟩
  · rw [hg.block _ (lt_blk h.res) (fun e => by injection e with e; omega)]; exact h.res
  · exact hk.alike ⟨hg.size, fun b hb hl => hg.block b hl (fun e => by injection e with e; have := hS b hb; omega)⟩ fun b hb _ => hb
  · exact h.bel.grown hg h.bel.size (fun b hb => by injection hb; omega)
theorem AtT.below {S : Nat → Prop} {w wr w' : World} {m : Nd} {u : Value} (h : AtT S w wr m u) (hb : Below wr.heap.size wr w') : AtT S w w' m u :=
  ⟨(hb.block _ (lt_blk h.box)).trans h.box, (hb.block _ (lt_blk h.res)).trans h.res, h.sl.below hb, bthen h.bel hb⟩

set_option maxRecDepth 100000 in
set_option maxHeartbeats 8000000 in
theorem ref23At_any (n : Nd) (w : World) (S : Nat → Prop) (val pv : Value) (place : List Int) (hv : NdV w S val n) (hp : IntsIn w pv place) (hsz : n.size ≤ 1048576) (hS : ∀ b, S b → b < w.heap.size) :
    Calls Tryz.prog 21 #[val, pv] w (RefAtPost S (n.at_ place) w) := by
  obtain ⟨u, rfl, hs⟩ := hv
  obtain ⟨pa, pcap, rfl, hpc, hpm, hcells⟩ := hp.ex
  have HPC := Lib.hid hcells
  have HPO := Lib.hid hp.ok
  obtain ⟨ao, cap, rfl, hcap, hcm⟩ := hs.shape
  have HS := Lib.hid hs
  have HSS := Lib.hid hS
  have HSZ := Lib.hid hsz
  clear hcells hs hsz hp hS
  unfold maxLen at hcm hpm
  unfold ndV
  go_enter Tryz.func21, Tryz.ntmps21
  go_wp2_with fail
  have H0 := Lib.hid (show AtT S w ((w.alloc (.cells #[.int .i64 n.k, .string n.t, .string n.v, .slice ao n.kids.length cap] 24)).alloc (.cells #[.int .i64 0, .string ⟨#[]⟩, .string ⟨#[]⟩, .slice none 0 0] 24)) n (.slice ao n.kids.length cap) from by
    have hb : Below w.heap.size w ((w.alloc (.cells #[.int .i64 n.k, .string n.t, .string n.v, .slice ao n.kids.length cap] 24)).alloc (.cells #[.int .i64 0, .string ⟨#[]⟩, .string ⟨#[]⟩, .slice none 0 0] 24)) := ((Below.refl _ _).alloc (Nat.le_refl _) _).alloc (by simp) _
    exact ⟨two_first _ _ _, two_last _ _ _, HS.out.below hb, hb⟩)
  go_loopw [6] (fun vi wr => ∃ (i : Nat) (m : Nd) (u : Value), i ≤ place.length ∧ vi = .int .i64 i ∧ m.size ≤ 1048576 ∧ Hid (n.at_ place = m.at_ (place.drop i)) ∧ Hid (AtT S w wr m u))
    (fun vi _ => place.length - (intOf vi).toNat)
  case atStart => exact ⟨0, n, _, Nat.zero_le _, rfl, HSZ.out, rfl, H0.out⟩
  case round =>
    obtain ⟨i, m, u, hi, rfl, hms, HR, HA⟩ := hrel
    have HMS := Lib.hid hms
    obtain ⟨ma, mc, rfl, hmc, hmm⟩ := HA.out.sl.shape
    unfold maxLen at hmm
    have hkl : m.kids.length ≤ 1048576 := by
      have := kids_size m
      have : m.kids.length ≤ Nd.sizes m.kids := sizes_len m.kids
      omega
    clear H0 hms
    by_cases hlt : i < place.length
    · obtain ⟨pb, po, rfl, hpc0⟩ := HPC.out i hlt
      have hwf := HPO.out _ (List.getElem_mem hlt)
      have hpl := cell_lt hpc0
      have hpc1 : wr.cell? ⟨pb, po + i, none⟩ = some (.int .i64 place[i]) := by rw [HA.out.bel.cell (p := ⟨pb, po + i, none⟩) hpl]; exact hpc0
      have HD := Lib.hid (show place.drop i = place[i] :: place.drop (i + 1) from List.drop_eq_getElem_cons hlt)
      obtain ⟨K, hK⟩ : ∃ K, place[i] = K := ⟨_, rfl⟩
      rw [hK] at hpc1 hwf HD
      have HWF := Lib.hid hwf
      have HF := Lib.hid (show ∀ W', Below wr.heap.size wr W' → W'.cell? ⟨pb, po + i, none⟩ = some (.int .i64 K) ∧ pb < W'.heap.size ∧ NdCells W' w.heap.size m.k m.t m.v (.slice ma m.kids.length mc) ∧ NdCells W' (w.heap.size + 1) 0 ⟨#[]⟩ ⟨#[]⟩ (.slice none 0 0) from fun W' hb => by
        have hl : pb < wr.heap.size := by (have : pb < w.heap.size := hpl); have := HA.out.bel.size; omega
        exact ⟨by rw [hb.cell (p := ⟨pb, po + i, none⟩) hl]; exact hpc1, Nat.lt_of_lt_of_le hl hb.size, nd_cells (HA.out.below hb).box, nd_cells (HA.out.below hb).res⟩)
      obtain ⟨hq0, hq1, ⟨b0, b1, b2, b3, f0, f1, f2, f3, hbl⟩, r0, r1, r2, r3, s0, s1, s2, s3, hrl⟩ := HF.out wr (Below.refl _ _)
      have hil : (i : Int) < (place.length : Int) := by omega
      clear hpc0 hK hwf hpl hpc1
      by_cases hneg : K < 0
      · have hnb : decide (K < 0) = true := decide_eq_true hneg
        have HNO := Lib.hid (show n.at_ place = none by rw [HR.out, HD.out]; exact at_no (fun h => absurd h.1 (Int.not_le.2 hneg)))
        go_wp2_with fail
        go_quiet (fail)
        generalize hwq : wr.drewN _ = wq
        have hbq : Below wr.heap.size wr wq := by rw [← hwq]; exact below_drewN _ _
        have HAQ := Lib.hid (HA.out.below hbq)
        clear hwq hq0 hq1 b0 b1 b2 b3 f0 f1 f2 f3 hbl r0 r1 r2 r3 s0 s1 s2 s3 hrl
        obtain ⟨r0, r1, r2, r3, s0, s1, s2, s3, hrl⟩ := nd_cells HAQ.out.res
        clear hbq
        go_wp2_with fail
        obtain ⟨hf, hgr⟩ := fill4 (.int .i64 0) (.string ⟨#[]⟩) (.string ⟨#[]⟩) (.slice none 0 0) HAQ.out.res
        obtain ⟨q0, q1, q2, q3, _, _, _, _, hql⟩ := nd_cells hf
        refine bodyPost_ret (v := .tuple #[.agg #[.int .i64 0, .string ⟨#[]⟩, .string ⟨#[]⟩, .slice none 0 0], .bool false]) (by simp [results, Tryz.results21, go_sem, q0, q1, q2, q3]) rfl ⟨HAQ.out.bel.grown hgr HAQ.out.bel.size (fun b hb => by injection hb; omega), ?_⟩
        rw [HNO.out]
      · have hnb : decide (K < 0) = false := decide_eq_false hneg
        by_cases hge : (m.kids.length : Int) ≤ K
        · have HNO := Lib.hid (show n.at_ place = none by rw [HR.out, HD.out]; exact at_no (fun h => absurd h.2 (by omega)))
          go_wp2_with fail
          go_quiet (fail)
          generalize hwq : wr.drewN _ = wq
          have hbq : Below wr.heap.size wr wq := by rw [← hwq]; exact below_drewN _ _
          have HAQ := Lib.hid (HA.out.below hbq)
          clear hwq hq0 hq1 b0 b1 b2 b3 f0 f1 f2 f3 hbl r0 r1 r2 r3 s0 s1 s2 s3 hrl
          obtain ⟨r0, r1, r2, r3, s0, s1, s2, s3, hrl⟩ := nd_cells HAQ.out.res
          clear hbq
          go_wp2_with fail
          obtain ⟨hf, hgr⟩ := fill4 (.int .i64 0) (.string ⟨#[]⟩) (.string ⟨#[]⟩) (.slice none 0 0) HAQ.out.res
          obtain ⟨q0, q1, q2, q3, _, _, _, _, hql⟩ := nd_cells hf
          refine bodyPost_ret (v := .tuple #[.agg #[.int .i64 0, .string ⟨#[]⟩, .string ⟨#[]⟩, .slice none 0 0], .bool false]) (by simp [results, Tryz.results21, go_sem, q0, q1, q2, q3]) rfl ⟨HAQ.out.bel.grown hgr HAQ.out.bel.size (fun b hb => by injection hb; omega), ?_⟩
          rw [HNO.out]
        · obtain ⟨j, rfl⟩ : ∃ j : Nat, K = j := ⟨K.toNat, by omega⟩
          have hj : j < m.kids.length := by omega
          have hgd : ¬ ((m.kids.length : Int) ≤ (j : Int)) := by omega
          have hjI : (j : Int) < (m.kids.length : Int) := by omega
          have HYES := Lib.hid (show n.at_ place = m.kids[j].at_ (place.drop (i + 1)) by rw [HR.out, HD.out]; exact at_yes rfl hj)
          go_wp2_with fail
          go_quiet (fail)
          generalize hwq : wr.drewN _ = wq
          have hbq : Below wr.heap.size wr wq := by rw [← hwq]; exact below_drewN _ _
          have HAQ := Lib.hid ((HA.out.below hbq).below (Below.refl _ _).drew)
          have hF := HF.out wq.drew (bthen hbq (Below.refl _ _).drew)
          have hF2 := HF.out wq hbq
          clear hwq hq0 hq1 b0 b1 b2 b3 f0 f1 f2 f3 hbl r0 r1 r2 r3 s0 s1 s2 s3 hrl hbq
          obtain ⟨hq0, hq1, ⟨b0, b1, b2, b3, f0, f1, f2, f3, hbl⟩, r0, r1, r2, r3, s0, s1, s2, s3, hrl⟩ := hF
          obtain ⟨hq0', hq1', ⟨b0', b1', b2', b3', f0', f1', f2', f3', hbl'⟩, r0', r1', r2', r3', s0', s1', s2', s3', hrl'⟩ := hF2
          obtain ⟨b, o, uk, rfl, hbw, c0, c1, c2, c3, hsk⟩ := HAQ.out.sl.at_ j hj
          have hxs := kid_size hj
          obtain ⟨x, hx⟩ : ∃ x, m.kids[j] = x := ⟨_, rfl⟩
          rw [hx] at c0 c1 c2 hsk hxs HYES
          have c0' : wq.cell? ⟨b, o + j * 4, none⟩ = some (.int .i64 x.k) := c0
          have c1' : wq.cell? ⟨b, o + j * 4 + 1, none⟩ = some (.string x.t) := c1
          have c2' : wq.cell? ⟨b, o + j * 4 + 2, none⟩ = some (.string x.v) := c2
          have c3' : wq.cell? ⟨b, o + j * 4 + 3, none⟩ = some uk := c3
          have HN2 := Lib.hid (AtT.down HSS.out HAQ.out hsk)
          have HXS := Lib.hid (show x.size ≤ 1048576 by have := HMS.out; omega)
          obtain ⟨ua, uc, rfl, _, _⟩ := hsk.shape
          clear hx hsk hxs
          go_wp2_with fail
          go_region
          all_goals
            go_wp2_with fail
            go_roundw
            case rel => exact ⟨i + 1, x, _, by omega, by go_num, HXS.out, HYES.out, HN2.out⟩
            case measure => simp [intOf]; omega
    · obtain rfl : i = place.length := by omega
      have HE := Lib.hid (show n.at_ place = some m by rw [HR.out, List.drop_length]; exact at_nil m)
      obtain ⟨b0, b1, b2, b3, f0, f1, f2, f3, hbl⟩ := nd_cells HA.out.box
      obtain ⟨r0, r1, r2, r3, s0, s1, s2, s3, hrl⟩ := nd_cells HA.out.res
      go_wp2_with fail
      obtain ⟨hf, hgr⟩ := fill4 (.int .i64 m.k) (.string m.t) (.string m.v) (.slice ma m.kids.length mc) HA.out.res
      have hbe := HA.out.bel.grown hgr HA.out.bel.size (fun b hb => by injection hb; omega)
      have hsl : SlIn _ S (.slice ma m.kids.length mc) m.kids := HA.out.sl.alike ⟨hgr.size, fun b hb hl => hgr.block b hl (fun e => by injection e with e; have := HSS.out b hb; omega)⟩ fun b hb _ => hb
      obtain ⟨w5, hw5⟩ : ∃ w5, ((((wr.setCell ⟨w.heap.size + 1, 0, none⟩ (.int .i64 m.k)).setCell ⟨w.heap.size + 1, 1, none⟩ (.string m.t)).setCell ⟨w.heap.size + 1, 2, none⟩ (.string m.v)).setCell ⟨w.heap.size + 1, 3, none⟩ (.slice ma m.kids.length mc)) = w5 := ⟨_, rfl⟩
      rw [hw5] at hf hbe hsl
      rw [hw5]
      obtain ⟨q0, q1, q2, q3, _, _, _, _, hql⟩ := nd_cells hf
      refine bodyPost_ret (v := .tuple #[.agg #[.int .i64 m.k, .string m.t, .string m.v, .slice ma m.kids.length mc], .bool true]) (by simp [results, Tryz.results21, go_sem, q0, q1, q2, q3]) rfl ⟨hbe, ?_⟩
      rw [HE.out]
      exact ⟨ma, mc, rfl, hsl⟩
end Go.Proofs.YtdaamiihldbekaaGreatDoor

/- The reference of layer 23: Put. -/
namespace Go.Proofs.YtdaamiihldbekaaGreatDoor
open Go.RowKit Ev5
set_option linter.unusedSimpArgs false
set_option linter.unusedVariables false

/-- Rows that lie in S or behind M. -/
def Gap (S : Nat → Prop) (M : Nat) (b : Nat) : Prop := S b ∨ M ≤ b
/-- A row of nodes of the call's own, the nodes' kids' rows anywhere but in it and in the call's two boxes. -/
structure OwnS (w : World) (L : Nat → Prop) (lo : Nat) (v : Value) (ps : List (Nd × Value)) : Prop where
  row : w.ownsRow (lo + 2) 24 4 v ps.length (ndRow ps)
  kids : ∀ p ∈ ps, SlIn w (fun b => Gap L (lo + 2) b ∧ v.ownBlock ≠ some b) p.2 p.1.kids
theorem OwnS.nil (w : World) (L : Nat → Prop) (lo : Nat) : OwnS w L lo (.slice none 0 0) [] := ⟨World.ownsRow_nil _ _ _ _, fun p hp => by cases hp⟩
theorem OwnS.below {w w' : World} {L : Nat → Prop} {lo : Nat} {v : Value} {ps : List (Nd × Value)} (h : OwnS w L lo v ps) (hb : Below w.heap.size w w') : OwnS w' L lo v ps :=
  ⟨h.row.kept (row := none) ⟨hb.os, hb.tape, hb.output, hb.size, fun k hk _ => hb.block k hk⟩ (by cases hv : v.ownBlock <;> simp), fun p hp => (h.kids p hp).below hb⟩
theorem OwnS.shape {w : World} {L : Nat → Prop} {lo : Nat} {v : Value} {ps : List (Nd × Value)} (h : OwnS w L lo v ps) : ∃ a cap, v = .slice a ps.length cap ∧ ps.length ≤ cap ∧ cap ≤ maxLen := by
  rcases h.row.2 with ⟨rfl, h0⟩ | ⟨g, cap, cur, rfl, _, _, h6, h7, _⟩
  · exact ⟨none, 0, by rw [h0], by omega, by decide⟩
  · exact ⟨_, _, rfl, h6, h7⟩
/-- Nodes have been appended. -/
theorem OwnS.app {w w' : World} {L : Nat → Prop} {lo : Nat} {v v' : Value} {ps qs : List (Nd × Value)} (h : OwnS w L lo v ps) (hq : ∀ p ∈ qs, SlIn w (fun b => Gap L (lo + 2) b ∧ v.ownBlock ≠ some b) p.2 p.1.kids)
    (hown : w'.ownsRow (lo + 2) 24 4 v' (ps.length + qs.length) (ndRow ps ++ ndRow qs)) (hg : w.grownBy w' v.ownBlock) (hat : v'.ownBlock = v.ownBlock ∨ ∀ b, v'.ownBlock = some b → w.heap.size ≤ b) : OwnS w' L lo v' (ps ++ qs) := by
  refine ⟨by rw [ndRow_app, List.length_append]; exact hown, fun p hp => ?_⟩
  have al : SlIn w (fun b => Gap L (lo + 2) b ∧ v.ownBlock ≠ some b) p.2 p.1.kids := by
    rcases List.mem_append.1 hp with hp | hp
    · exact h.kids p hp
    · exact hq p hp
  refine al.alike ⟨hg.size, fun b hb hl => hg.block b hl (fun e => hb.2 e.symm)⟩ fun b hb hl => ⟨hb.1, ?_⟩
  rcases hat with e | e
  · rw [e]; exact hb.2
  · intro e2; have := e b e2; omega
/-- The row as a slice. -/
theorem OwnS.slIn {w : World} {L : Nat → Prop} {lo : Nat} {v : Value} {ps : List (Nd × Value)} (h : OwnS w L lo v ps) : SlIn w (Gap L (lo + 2)) v (ps.map (·.1)) := by
  rcases h.row.2 with ⟨rfl, h0⟩ | ⟨g, cap, cur, rfl, hb, hg, hc, hm, hs, ht⟩
  · obtain rfl : ps = [] := List.eq_nil_of_length_eq_zero h0
    exact ⟨none, 0, rfl, Nat.le_refl _, by decide, .inl rfl⟩
  · refine ⟨some ⟨g, 0, none⟩, cap, by rw [List.length_map], by rw [List.length_map]; exact hc, hm, .inr ⟨g, 0, rfl, .inr hb, lt_blk hg, ?_⟩⟩
    rw [kidsIn_iff]
    intro i hi
    have hi' : i < ps.length := by rw [List.length_map] at hi; exact hi
    obtain ⟨r0, r1, r2, r3⟩ := owns_cells (w := w) (base := 0) (g := g) (cap := cap) ht i hi'
    have cc : ∀ j u, cur[j]? = some u → w.cell? ⟨g, j, none⟩ = some u := fun j u hu => by rw [cell_of_row w g j _ _ _ hg]; exact hu
    rw [List.getElem_map, Nat.zero_add]
    exact ndAt_iff.2 ⟨cc _ _ r0, cc _ _ r1, cc _ _ r2, _, cc _ _ r3, (h.kids _ (List.getElem_mem hi')).alike ⟨Nat.le_refl _, fun _ _ _ => rfl⟩ fun b hb _ => hb.1⟩
/-- A call's two boxes, and its row. -/
structure Pt (w wr : World) (L : Nat → Prop) (n : Nd) (u v : Value) (ps : List (Nd × Value)) : Prop where
  box : wr.heap[w.heap.size]? = some (.cells #[.int .i64 n.k, .string n.t, .string n.v, u] 24 (0, 0))
  res : wr.heap[w.heap.size + 1]? = some (.cells #[.int .i64 0, .string ⟨#[]⟩, .string ⟨#[]⟩, .slice none 0 0] 24 (0, 0))
  own : OwnS wr L w.heap.size v ps
  bel : Below w.heap.size w wr
theorem Pt.below {w wr w' : World} {L : Nat → Prop} {n : Nd} {u v : Value} {ps : List (Nd × Value)} (h : Pt w wr L n u v ps) (hb : Below wr.heap.size wr w') : Pt w w' L n u v ps :=
  ⟨(hb.block _ (lt_blk h.box)).trans h.box, (hb.block _ (lt_blk h.res)).trans h.res, h.own.below hb, bthen h.bel hb⟩
theorem Pt.app {w wr w' : World} {L : Nat → Prop} {n : Nd} {u v v' : Value} {ps qs : List (Nd × Value)} (h : Pt w wr L n u v ps) (hq : ∀ p ∈ qs, SlIn wr (fun b => Gap L (w.heap.size + 2) b ∧ v.ownBlock ≠ some b) p.2 p.1.kids)
    (hown : w'.ownsRow (w.heap.size + 2) 24 4 v' (ps.length + qs.length) (ndRow ps ++ ndRow qs)) (hg : wr.grownBy w' v.ownBlock) (hat : v'.ownBlock = v.ownBlock ∨ ∀ b, v'.ownBlock = some b → wr.heap.size ≤ b) : Pt w w' L n u v' (ps ++ qs) := by
  have hne : ∀ b, b < w.heap.size + 2 → some b ≠ v.ownBlock := fun b hb e => by have := (h.own.row.lt b e.symm).1; omega
  refine ⟨(hg.block _ (lt_blk h.box) (hne _ (by omega))).trans h.box, (hg.block _ (lt_blk h.res) (hne _ (by omega))).trans h.res, h.own.app hq hown hg hat, ?_⟩
  exact h.bel.grown hg h.bel.size (fun b hb => by have := (h.own.row.lt b hb).1; omega)

/-- What Put hands back. -/
def PutPost (L : Nat → Prop) (r : Nd) (w : World) (e : Ending) (w' : World) : Prop := ∃ a cap, e = .returned (.agg #[.int .i64 r.k, .string r.t, .string r.v, .slice a r.kids.length cap]) ∧ SlIn w' (Gap L w.heap.size) (.slice a r.kids.length cap) r.kids ∧ Below w.heap.size w w'
def PutOf (place : List Int) : Prop := ∀ (n : Nd) (w : World) (L : Nat → Prop) (val pv lv : Value) (ls : List Nd), NdV w L val n → IntsIn w pv place → SlIn w L lv ls → (∀ b, L b → b < w.heap.size) → (place = [] → ls ≠ []) → n.size ≤ 100000 → ls.length ≤ 100000 →
  Calls Tryz.prog 22 #[val, pv, lv] w (PutPost L (n.put place ls) w)
/-- Nodes are appended. -/
theorem append_nodes (w : World) (base : Nat) (v : Value) (ps : List (Nd × Value)) (hown : w.ownsRow base 24 4 v ps.length (ndRow ps)) (S : Nat → Prop) (x : Value) (ls : List Nd) (hx : SlIn w S x ls) (hlen : ps.length + ls.length ≤ 1048576) (hbase : base ≤ w.heap.size) :
    ∃ qs v' w', qs.map (·.1) = ls ∧ (∀ p ∈ qs, SlIn w S p.2 p.1.kids) ∧ (Builtin.append_ #[22, 22] 22 #[v, x]).run Tryz.prog w = .ok v' w' ∧ w'.ownsRow base 24 4 v' (ps.length + qs.length) (ndRow ps ++ ndRow qs) ∧ w.grownBy w' v.ownBlock ∧ (v'.ownBlock = v.ownBlock ∨ ∀ b, v'.ownBlock = some b → w.heap.size ≤ b) := by
  obtain ⟨xo, xc, rfl, hxc, hxm⟩ := hx.shape
  obtain ⟨qs, hq, hk, hc⟩ := hx.pairs
  obtain ⟨i0, hinf, hz0, hz1, hz2⟩ := info_parts infoN
  have hql : qs.length = ls.length := by rw [← hq, List.length_map]
  cases xo with
  | none =>
    have hl : ls = [] := by
      rcases hc with h | ⟨b, o, e, _⟩
      · exact h
      · cases e
    subst hl
    have hq0 : qs = [] := List.eq_nil_of_length_eq_zero hql
    subst hq0
    obtain ⟨a, cap, rfl, hcap⟩ : ∃ a cap, v = .slice a ps.length cap ∧ ps.length ≤ cap := by
      rcases hown.2 with ⟨rfl, h0⟩ | ⟨g, cap, cur, rfl, _, _, h6, _⟩
      · exact ⟨none, 0, by rw [h0], by omega⟩
      · exact ⟨_, _, rfl, h6⟩
    refine ⟨[], _, w, rfl, fun p hp => (by cases hp), run_append_nothing w _ _ _ _ i0 Tryz.underlying22 hinf a ps.length cap hcap _ (Src.ofNil w Tryz.underlying22 xc), ?_, ⟨rfl, rfl, rfl, Nat.le_refl _, fun _ _ _ => rfl⟩, .inl rfl⟩
    simpa [ndRow] using hown
  | some a =>
    have hcell : ∀ j u, (ndRow qs)[j]? = some u → w.cell? (a.add j) = some u := by
      rcases hc with h | ⟨b, o, e, _, _, h⟩
      · subst h
        have hq0 : qs = [] := List.eq_nil_of_length_eq_zero hql
        subst hq0
        intro j u hj; simp [ndRow] at hj
      · injection e with e; subst e
        intro j u hj
        rw [Addr.add_lit]; exact h j u hj
    obtain ⟨v', w', h1, h2, h3, _, h5⟩ := run_append_own_at (P := Tryz.prog) w base 22 22 24 i0 _ 4 64 Tryz.underlying22 hinf hz0 hz1 hz2 rfl (by omega) v ps.length (ndRow ps) hown a ls.length xc (ndRow qs) (by rw [ndRow_len, hql]) hcell (ndRow_one qs fun p hp => (hk p hp).one) (by unfold maxLen; omega) (by omega) hbase
    exact ⟨qs, v', w', hq, hk, h1, by rw [hql]; exact h2, h3, h5.imp id fun e b hb => by rw [e] at hb; injection hb; omega⟩
/-- What Put lays for the kid at a place. -/
def putG (n : Nd) (K : Int) (r : List Int) (ls : List Nd) (j : Nat) : List Nd := if (j : Int) ≠ K then [n.kids.getD j n] else if r = [] then ls else [(n.kids.getD j n).put r ls]
def putF (n : Nd) (K : Int) (r : List Int) (ls : List Nd) (i : Nat) : List Nd := (List.range i).flatMap (putG n K r ls)
theorem putF_succ (n : Nd) (K : Int) (r : List Int) (ls : List Nd) (i : Nat) : putF n K r ls (i + 1) = putF n K r ls i ++ putG n K r ls i := by
  unfold putF; rw [List.range_succ, List.flatMap_append]; simp
theorem putF_take {n : Nd} {K : Int} {r : List Int} {ls : List Nd} : ∀ (i : Nat), i ≤ n.kids.length → (∀ j : Nat, j < i → (j : Int) ≠ K) → putF n K r ls i = n.kids.take i
  | 0, _, _ => by simp [putF]
  | i + 1, hi, h => by
    rw [putF_succ, putF_take i (by omega) fun j hj => h j (by omega), List.take_add_one, List.getElem?_eq_getElem (by omega)]
    unfold putG
    rw [if_pos (h i (by omega)), List.getD_eq_getElem?_getD, List.getElem?_eq_getElem (by omega)]
    rfl
theorem putF_past {n : Nd} {k : Nat} {r : List Int} {ls : List Nd} (hk : k < n.kids.length) : ∀ (i : Nat), k + 1 + i ≤ n.kids.length → putF n k r ls (k + 1 + i) = n.kids.take k ++ (if r = [] then ls else [n.kids[k].put r ls]) ++ (n.kids.drop (k + 1)).take i
  | 0, _ => by
    rw [Nat.add_zero, putF_succ, putF_take k (by omega) fun j hj => by omega]
    unfold putG
    rw [if_neg (by simp), List.getD_eq_getElem?_getD, List.getElem?_eq_getElem hk]
    simp
  | i + 1, hi => by
    rw [show k + 1 + (i + 1) = k + 1 + i + 1 by omega, putF_succ, putF_past hk i (by omega)]
    unfold putG
    rw [if_pos (show ((k + 1 + i : Nat) : Int) ≠ (k : Int) by omega), List.take_add_one, List.getElem?_drop, List.getElem?_eq_getElem (by omega), List.getD_eq_getElem?_getD, List.getElem?_eq_getElem (by omega)]
    simp
theorem putF_all (n : Nd) (K : Int) (r : List Int) (ls : List Nd) : Nd.mk n.k n.t n.v (putF n K r ls n.kids.length) = n.put (K :: r) ls := by
  by_cases h : 0 ≤ K ∧ K < n.kids.length
  · obtain ⟨k, rfl⟩ : ∃ k : Nat, K = k := ⟨K.toNat, by omega⟩
    have hk : k < n.kids.length := by omega
    rw [put_yes rfl hk]
    have := putF_past (n := n) (r := r) (ls := ls) hk (n.kids.length - (k + 1)) (by omega)
    rw [show k + 1 + (n.kids.length - (k + 1)) = n.kids.length by omega, List.take_of_length_le (l := n.kids.drop (k + 1)) (by rw [List.length_drop]; omega)] at this
    rw [this]
  · rw [put_no h, putF_take _ (Nat.le_refl _) fun j hj => by omega, List.take_length, nd_eta]
theorem putF_len (n : Nd) (K : Int) (r : List Int) (ls : List Nd) : ∀ i, (putF n K r ls i).length ≤ i + ls.length
  | 0 => by simp [putF]
  | i + 1 => by
    by_cases hK : K = (i : Int)
    · -- what stood ahead is one for one
      by_cases hil : i ≤ n.kids.length
      · rw [putF_succ, putF_take i hil fun j hj => by omega, List.length_append, List.length_take]
        unfold putG
        rw [if_neg (by omega)]
        split
        · omega
        · simp; omega
      · have h1 := putF_len n K r ls i
        have h2 : (putF n K r ls i).length = i := by
          unfold putF
          rw [List.length_flatMap]
          have : ∀ l : List Nat, (∀ j ∈ l, (j : Int) ≠ K) → (l.map fun j => (putG n K r ls j).length).sum = l.length := by
            intro l
            induction l with
            | nil => intro _; rfl
            | cons x q ih =>
              intro h
              rw [List.map_cons, List.sum_cons, ih fun j hj => h j (by simp [hj]), List.length_cons]
              unfold putG
              rw [if_pos (h x (by simp))]
              simp only [List.length_cons, List.length_nil]; omega
          rw [this _ fun j hj => by have := List.mem_range.1 hj; omega, List.length_range]
        rw [putF_succ, List.length_append, h2]
        unfold putG
        rw [if_neg (by omega)]
        split
        · omega
        · simp only [List.length_cons, List.length_nil]; omega
    · have h1 := putF_len n K r ls i
      rw [putF_succ, List.length_append]
      unfold putG
      rw [if_pos (fun e => hK e.symm)]
      simp only [List.length_cons, List.length_nil]; omega
theorem IntsIn.tail {w : World} {pb po n cap : Nat} {K : Int} {r : List Int} (h : IntsIn w (.slice (some ⟨pb, po, none⟩) n cap) (K :: r)) (a : Option Addr) (ha : cap = 1 ∨ a = some ⟨pb, po + 1, none⟩) : IntsIn w (.slice a r.length (cap - 1)) r := by
  obtain ⟨ao, c, e, h1, h2, h3⟩ := h.ex
  injection e with e1 e2 e3
  subst e1; subst e3
  simp only [List.length_cons] at h1
  refine ⟨⟨a, cap - 1, rfl, by omega, by omega, fun i hi => ?_⟩, fun x hx => h.ok x (by simp [hx])⟩
  rcases ha with rfl | rfl
  · omega
  · obtain ⟨b, o, e, hc⟩ := h3 (i + 1) (by simp; omega)
    injection e with e; injection e with e1 e2
    subst e1; subst e2
    exact ⟨pb, po + 1, rfl, by rw [show po + 1 + i = po + (i + 1) by omega]; simpa using hc⟩
end Go.Proofs.YtdaamiihldbekaaGreatDoor

/- The walk of the reference's Put. -/
namespace Go.Proofs.YtdaamiihldbekaaGreatDoor
open Go.RowKit Ev5
set_option linter.unusedSimpArgs false
set_option linter.unusedVariables false

set_option maxRecDepth 100000 in
set_option maxHeartbeats 16000000 in
theorem put_any : ∀ place : List Int, PutOf place := by
  intro place
  induction place with
  | nil =>
    intro n w L val pv lv ls hv hp hl hL hne hsz hll
    obtain ⟨u, rfl, hs⟩ := hv
    obtain ⟨ao, cap, rfl, hcap, hcm⟩ := hs.shape
    obtain ⟨pa, pcap, rfl, _, _, _⟩ := hp.ex
    have hl0 : 0 < ls.length := List.length_pos_iff.2 (hne rfl)
    obtain ⟨la, lc, rfl, hlc, hlm⟩ := hl.shape
    obtain ⟨b, o, ux, rfl, hbw, c0, c1, c2, c3, hsx⟩ := hl.at_ 0 hl0
    obtain ⟨x, hx⟩ : ∃ x, ls[0] = x := ⟨_, rfl⟩
    have HPX := Lib.hid (show n.put [] ls = x by
      rw [Nd.put, ← hx]
      cases ls with
      | nil => simp at hl0
      | cons a r => rfl)
    rw [hx] at c0 c1 c2 hsx
    simp only [Nat.zero_mul, Nat.add_zero] at c0 c1 c2 c3
    obtain ⟨xa, xc, rfl, _, _⟩ := hsx.shape
    have HSX := Lib.hid hsx
    have hb2 : Below w.heap.size w ((w.alloc (.cells #[.int .i64 n.k, .string n.t, .string n.v, .slice ao n.kids.length cap] 24)).alloc (.cells #[.int .i64 0, .string ⟨#[]⟩, .string ⟨#[]⟩, .slice none 0 0] 24)) := ((Below.refl _ _).alloc (Nat.le_refl _) _).alloc (by simp) _
    have hr2 := two_last w (.cells #[.int .i64 n.k, .string n.t, .string n.v, .slice ao n.kids.length cap] 24) (.cells #[.int .i64 0, .string ⟨#[]⟩, .string ⟨#[]⟩, .slice none 0 0] 24)
    have HB2 := Lib.hid hb2; have HR2 := Lib.hid hr2
    have hl0I : (0 : Int) < (ls.length : Int) := by omega
    clear hs hp hl hx hsx hb2 hr2 hne
    unfold ndV
    go_enter Tryz.func22, Tryz.ntmps22
    go_wp2_with fail
    have hr5 := two_last w (.cells #[.int .i64 n.k, .string n.t, .string n.v, .slice ao n.kids.length cap] 24) (.cells #[.int .i64 x.k, .string x.t, .string x.v, .slice xa x.kids.length xc] 24)
    have hb5 : Below w.heap.size w ((w.alloc (.cells #[.int .i64 n.k, .string n.t, .string n.v, .slice ao n.kids.length cap] 24)).alloc (.cells #[.int .i64 x.k, .string x.t, .string x.v, .slice xa x.kids.length xc] 24)) := ((Below.refl _ _).alloc (Nat.le_refl _) _).alloc (by simp) _
    obtain ⟨w5, hw5⟩ : ∃ w5, (w.alloc (.cells #[.int .i64 n.k, .string n.t, .string n.v, .slice ao n.kids.length cap] 24)).alloc (.cells #[.int .i64 x.k, .string x.t, .string x.v, .slice xa x.kids.length xc] 24) = w5 := ⟨_, rfl⟩
    rw [hw5] at hr5 hb5
    rw [hw5]
    obtain ⟨q0, q1, q2, q3, _, _, _, _, hql⟩ := nd_cells hr5
    refine bodyPost_ret (v := .agg #[.int .i64 x.k, .string x.t, .string x.v, .slice xa x.kids.length xc]) (by simp [results, Tryz.results22, go_sem, q0, q1, q2, q3]) rfl ?_
    rw [HPX.out]
    exact ⟨xa, xc, rfl, HSX.out.alike (alike_below hb5) fun b h _ => .inl h, hb5⟩
  | cons K r ih =>
    intro n w L val pv lv ls hv hp hl hL hne hsz hll
    obtain ⟨u, rfl, hs⟩ := hv
    obtain ⟨ao, cap, rfl, hcap, hcm⟩ := hs.shape
    obtain ⟨pa, pcap, rfl, hpc, hpm, hpcells⟩ := hp.ex
    obtain ⟨pb, po, rfl, hk0⟩ := hpcells 0 (by simp)
    rw [List.getElem_cons_zero, Nat.add_zero] at hk0
    obtain ⟨la, lc, rfl, hlc, hlm⟩ := hl.shape
    have hwf := hp.ok K (by simp)
    have HIH := Lib.hid ih; have HL := Lib.hid hl; have HS := Lib.hid hs; have HSZ := Lib.hid hsz; have HLW := Lib.hid hL; have HWF := Lib.hid hwf
    have HK0 := Lib.hid hk0
    have hpin := hp
    have hnl : n.kids.length ≤ 100000 := by have := kids_size n; have := sizes_len n.kids; omega
    have hb2 : Below w.heap.size w ((w.alloc (.cells #[.int .i64 n.k, .string n.t, .string n.v, .slice ao n.kids.length cap] 24)).alloc (.cells #[.int .i64 0, .string ⟨#[]⟩, .string ⟨#[]⟩, .slice none 0 0] 24)) := ((Below.refl _ _).alloc (Nat.le_refl _) _).alloc (by simp) _
    have H0 := Lib.hid (show Pt w ((w.alloc (.cells #[.int .i64 n.k, .string n.t, .string n.v, .slice ao n.kids.length cap] 24)).alloc (.cells #[.int .i64 0, .string ⟨#[]⟩, .string ⟨#[]⟩, .slice none 0 0] 24)) L n (.slice ao n.kids.length cap) (.slice none 0 0) [] from
      ⟨two_first _ _ _, two_last _ _ _, OwnS.nil _ _ _, hb2⟩)
    simp only [List.length_cons] at hpc
    unfold maxLen at hcm hpm hlm
    clear ih hl hs hp hk0 hpcells hsz hL hwf hb2 hne
    have hp1 : (1 : Int) ≤ (pcap : Int) := by omega
    by_cases hr : r = []
    · subst hr
      clear hpin
      unfold ndV
      go_enter Tryz.func22, Tryz.ntmps22
      go_wp2_with fail
      go_loopw [7, 8] (fun vv vi wr => ∃ (i : Nat) (ps : List (Nd × Value)), i ≤ n.kids.length ∧ vi = .int .i64 i ∧ Hid (ps.map (·.1) = putF n K [] ls i) ∧ Hid (Pt w wr L n (.slice ao n.kids.length cap) vv ps))
        (fun _ vi _ => n.kids.length - (intOf vi).toNat)
      case atStart => exact ⟨0, [], Nat.zero_le _, rfl, rfl, H0.out⟩
      case round =>
        obtain ⟨i, ps, hi, rfl, HP, HA⟩ := hrel
        obtain ⟨va, vc, rfl, hvc, hvm⟩ := HA.out.own.shape
        have hpl : ps.length ≤ 200000 := by
          have h1 := congrArg List.length HP.out
          have h2 := putF_len n K [] ls i
          rw [List.length_map] at h1
          omega
        have hk1 : wr.cell? ⟨pb, po, none⟩ = some (.int .i64 K) := by rw [HA.out.bel.cell (p := ⟨pb, po, none⟩) (cell_lt HK0.out)]; exact HK0.out
        have hk2 : pb < wr.heap.size := Nat.lt_of_lt_of_le (cell_lt HK0.out) HA.out.bel.size
        obtain ⟨b0, b1, b2, b3, f0, f1, f2, f3, hbl⟩ := nd_cells HA.out.box
        obtain ⟨r0, r1, r2, r3, s0, s1, s2, s3, hrl⟩ := nd_cells HA.out.res
        unfold maxLen at hvm
        by_cases hlt : i < n.kids.length
        · obtain ⟨b, o, ux, rfl, hbw, c0, c1, c2, c3, hsx⟩ := HS.out.at_ i hlt
          have HSUC := Lib.hid (putF_succ n K [] ls i)
          have HGD := Lib.hid (show n.kids.getD i n = n.kids[i] by rw [List.getD_eq_getElem?_getD, List.getElem?_eq_getElem hlt]; rfl)
          have hxs := kid_size hlt
          obtain ⟨x, hx⟩ : ∃ x, n.kids[i] = x := ⟨_, rfl⟩
          rw [hx] at c0 c1 c2 hsx HGD hxs
          obtain ⟨xa, xc, rfl, _, _⟩ := hsx.shape
          have hB := HA.out.bel
          have d0 : wr.cell? ⟨b, o + i * 4, none⟩ = some (.int .i64 x.k) := by rw [hB.cell (p := ⟨b, o + i * 4, none⟩) hbw]; exact c0
          have d1 : wr.cell? ⟨b, o + i * 4 + 1, none⟩ = some (.string x.t) := by rw [hB.cell (p := ⟨b, o + i * 4 + 1, none⟩) hbw]; exact c1
          have d2 : wr.cell? ⟨b, o + i * 4 + 2, none⟩ = some (.string x.v) := by rw [hB.cell (p := ⟨b, o + i * 4 + 2, none⟩) hbw]; exact c2
          have d3 : wr.cell? ⟨b, o + i * 4 + 3, none⟩ = some (.slice xa x.kids.length xc) := by rw [hB.cell (p := ⟨b, o + i * 4 + 3, none⟩) hbw]; exact c3
          have hbr : b < wr.heap.size := by have := hB.size; omega
          have HSX := Lib.hid (hsx.below hB)
          have HXS := Lib.hid (show x.size ≤ 100000 by have := HSZ.out; omega)
          have hiI : (i : Int) < (n.kids.length : Int) := by omega
          have HLT := Lib.hid (show ∀ b, L b → Gap L (w.heap.size + 2) b ∧ (Value.slice va ps.length vc).ownBlock ≠ some b from fun b hb => ⟨.inl hb, fun e => by have := (HA.out.own.row.lt b e).1; have := HLW.out b hb; omega⟩)
          clear c0 c1 c2 c3 hsx hx hB hxs
          by_cases hK : K = (i : Int)
          · subst hK
            have hKb : ((i : Int) != (i : Int)) = false := by simp
            have HPF := Lib.hid (show putG n (i : Int) [] ls i = ls by unfold putG; rw [if_neg (by simp), if_pos rfl])
            obtain ⟨qs, v', w', hq, hqk, hrun, hown, hgr, hat⟩ := append_nodes wr (w.heap.size + 2) _ ps HA.out.own.row _ (.slice la ls.length lc) ls (HL.out.below HA.out.bel) (by omega) (by have := lt_blk HA.out.res; omega)
            have HAN := Lib.hid (HA.out.app (fun p hp => (hqk p hp).alike ⟨Nat.le_refl _, fun _ _ _ => rfl⟩ fun b hb _ => HLT.out b hb) hown hgr hat)
            have HQ := Lib.hid hq; have HRUN := Lib.hid hrun
            clear hq hqk hrun hown hgr hat d0 d1 d2 d3
            go_wp2_with (at_builtin; refine Lib.wpList_append_run _ rfl _ _ _ _ rfl _ _ rfl rfl _ _ HRUN.out ?_)
            go_roundw
            case rel => exact ⟨i + 1, ps ++ qs, by omega, by go_num, by show _ = _; rw [List.map_append, HP.out, HQ.out, HSUC.out, HPF.out], HAN.out⟩
            case measure => simp [intOf]; omega
          · have hKb : ((i : Int) != K) = true := by simp; omega
            have hKc : ¬ ((i : Int) = K) := by omega
            have HPF := Lib.hid (show putG n K [] ls i = [x] by unfold putG; rw [if_pos (by omega), HGD.out])
            obtain ⟨i0, hinf, hz0, hz1, hz2⟩ := info_parts infoN
            have HI := Lib.hid hinf
            have hbz : w.heap.size + 2 ≤ (wr.alloc (.cells #[.int .i64 x.k, .string x.t, .string x.v, .slice xa x.kids.length xc] 24)).heap.size := by have := lt_blk HA.out.res; simp; omega
            have HW1 := Lib.hid (show Pt w (wr.alloc (.cells #[.int .i64 x.k, .string x.t, .string x.v, .slice xa x.kids.length xc] 24)) L n (.slice (some ⟨b, o, none⟩) n.kids.length cap) (.slice va ps.length vc) ps from HA.out.below ((Below.refl _ _).alloc (Nat.le_refl _) _))
            have HS1 := Lib.hid (HSX.out.below ((Below.refl wr.heap.size wr).alloc (Nat.le_refl _) (.cells #[.int .i64 x.k, .string x.t, .string x.v, .slice xa x.kids.length xc] 24)))
            clear hinf
            go_wp2_with (at_builtin; refine wpList_append_own_at _ rfl _ _ 22 rfl (w.heap.size + 2) 24 i0 _ 4 64 Tryz.underlying22 HI.out hz0 hz1 hz2 rfl (by omega) _ ps.length (ndRow ps) (by rfl) HW1.out.own.row ⟨wr.heap.size, 0, none⟩ 1 1 (ndL x (.slice xa x.kids.length xc)) (by rfl) (by rfl) (World.news_of_block (heap_alloc_new wr _)) nd_one (by unfold maxLen; omega) (by omega) hbz ?_; intro v' w' hown hgrow _ hat)
            have HAN := Lib.hid (HW1.out.app (qs := [(x, .slice xa x.kids.length xc)]) (fun p hp => by obtain rfl := List.mem_singleton.1 hp; exact HS1.out.alike ⟨Nat.le_refl _, fun _ _ _ => rfl⟩ fun b hb _ => HLT.out b hb) (by simpa [ndRow] using hown) hgrow (hat.imp id fun e b hb => by rw [e] at hb; injection hb; omega))
            clear hown hgrow hat
            go_wp2_with fail
            go_roundw
            case rel => exact ⟨i + 1, _, by omega, by go_num, by show _ = _; rw [List.map_append, HP.out, HSUC.out, HPF.out]; rfl, HAN.out⟩
            case measure => simp [intOf]; omega
        · obtain rfl : i = n.kids.length := by omega
          have HALL := Lib.hid (show n.put (K :: []) ls = .mk n.k n.t n.v (ps.map (·.1)) by rw [HP.out, putF_all])
          clear hlt
          have hsl := HA.out.own.slIn
          have HSL := Lib.hid hsl
          clear hsl
          go_wp2_with fail
          have hr4' : (wr.setCell ⟨w.heap.size, 3, none⟩ (.slice va ps.length vc)).heap[w.heap.size + 1]? = _ := (set_other (by omega)).trans HA.out.res
          obtain ⟨hf, hgr⟩ := fill4 (.int .i64 n.k) (.string n.t) (.string n.v) (.slice va ps.length vc) hr4'
          have hg0 := grown_set wr w.heap.size 3 (.slice va ps.length vc)
          obtain ⟨w5, hw5⟩ : ∃ w5, (((((wr.setCell ⟨w.heap.size, 3, none⟩ (.slice va ps.length vc)).setCell ⟨w.heap.size + 1, 0, none⟩ (.int .i64 n.k)).setCell ⟨w.heap.size + 1, 1, none⟩ (.string n.t)).setCell ⟨w.heap.size + 1, 2, none⟩ (.string n.v)).setCell ⟨w.heap.size + 1, 3, none⟩ (.slice va ps.length vc)) = w5 := ⟨_, rfl⟩
          rw [hw5] at hf hgr
          rw [hw5]
          obtain ⟨q0, q1, q2, q3, _, _, _, _, hql⟩ := nd_cells hf
          refine bodyPost_ret (v := .agg #[.int .i64 n.k, .string n.t, .string n.v, .slice va ps.length vc]) (by simp [results, Tryz.results22, go_sem, q0, q1, q2, q3]) rfl ?_
          rw [HALL.out]
          refine ⟨va, vc, by simp only [k_mk, t_mk, v_mk, kids_mk, List.length_map], ?_, (HA.out.bel.grown hg0 HA.out.bel.size (fun b hb => by injection hb; omega)).grown hgr (by simp; omega) (fun b hb => by injection hb; omega)⟩
          simp only [kids_mk, List.length_map]
          exact (HSL.out.alike (S' := Gap L (w.heap.size + 2)) ⟨hg0.size, fun b hb hl => hg0.block b hl (fun e => by injection e with e; rcases hb with hb | hb; have := HLW.out b hb; omega; omega)⟩ fun b h _ => h).alike ⟨hgr.size, fun b hb hl => hgr.block b hl (fun e => by injection e with e; rcases hb with hb | hb; have := HLW.out b hb; omega; omega)⟩ fun b hb _ => hb.imp id fun h => by omega
    · have hr1 : 0 < r.length := List.length_pos_iff.2 hr
      have HPT := Lib.hid (hpin.tail (some ⟨pb, po + 1, none⟩) (.inr rfl))
      have hp2 : (1 : Int) ≤ (r.length : Int) + 1 := by omega
      have hp3 : ¬ ((r.length : Int) + 1 = 0) := by omega
      have hp4 : (((r.length : Int) + 1) == 0) = false := by simp; omega
      have hp5 : (0 : Int) < (r.length : Int) + 1 := by omega
      have hr2 : ¬ ((r.length : Int) + 1 = 1) := by omega
      have hr3 : (((r.length : Int) + 1) == 1) = false := by simp; omega
      have hr4 : ¬ (r.length = 0) := by omega
      have hpc1 : ¬ (pcap = 1) := by omega
      have HRN := Lib.hid hr
      clear hr hpin
      unfold ndV
      go_enter Tryz.func22, Tryz.ntmps22
      go_wp2_with fail
      go_loopw [7, 8] (fun vv vi wr => ∃ (i : Nat) (ps : List (Nd × Value)), i ≤ n.kids.length ∧ vi = .int .i64 i ∧ Hid (ps.map (·.1) = putF n K r ls i) ∧ Hid (Pt w wr L n (.slice ao n.kids.length cap) vv ps))
        (fun _ vi _ => n.kids.length - (intOf vi).toNat)
      case atStart => exact ⟨0, [], Nat.zero_le _, rfl, rfl, H0.out⟩
      case round =>
        obtain ⟨i, ps, hi, rfl, HP, HA⟩ := hrel
        obtain ⟨va, vc, rfl, hvc, hvm⟩ := HA.out.own.shape
        have hpl : ps.length ≤ 200000 := by
          have h1 := congrArg List.length HP.out
          have h2 := putF_len n K r ls i
          rw [List.length_map] at h1
          omega
        have hk1 : wr.cell? ⟨pb, po, none⟩ = some (.int .i64 K) := by rw [HA.out.bel.cell (p := ⟨pb, po, none⟩) (cell_lt HK0.out)]; exact HK0.out
        have hk2 : pb < wr.heap.size := Nat.lt_of_lt_of_le (cell_lt HK0.out) HA.out.bel.size
        obtain ⟨b0, b1, b2, b3, f0, f1, f2, f3, hbl⟩ := nd_cells HA.out.box
        obtain ⟨r0, r1, r2, r3, s0, s1, s2, s3, hrl⟩ := nd_cells HA.out.res
        unfold maxLen at hvm
        by_cases hlt : i < n.kids.length
        · obtain ⟨b, o, ux, rfl, hbw, c0, c1, c2, c3, hsx⟩ := HS.out.at_ i hlt
          have HSUC := Lib.hid (putF_succ n K r ls i)
          have HGD := Lib.hid (show n.kids.getD i n = n.kids[i] by rw [List.getD_eq_getElem?_getD, List.getElem?_eq_getElem hlt]; rfl)
          have hxs := kid_size hlt
          obtain ⟨x, hx⟩ : ∃ x, n.kids[i] = x := ⟨_, rfl⟩
          rw [hx] at c0 c1 c2 hsx HGD hxs
          obtain ⟨xa, xc, rfl, _, _⟩ := hsx.shape
          have hB := HA.out.bel
          have d0 : wr.cell? ⟨b, o + i * 4, none⟩ = some (.int .i64 x.k) := by rw [hB.cell (p := ⟨b, o + i * 4, none⟩) hbw]; exact c0
          have d1 : wr.cell? ⟨b, o + i * 4 + 1, none⟩ = some (.string x.t) := by rw [hB.cell (p := ⟨b, o + i * 4 + 1, none⟩) hbw]; exact c1
          have d2 : wr.cell? ⟨b, o + i * 4 + 2, none⟩ = some (.string x.v) := by rw [hB.cell (p := ⟨b, o + i * 4 + 2, none⟩) hbw]; exact c2
          have d3 : wr.cell? ⟨b, o + i * 4 + 3, none⟩ = some (.slice xa x.kids.length xc) := by rw [hB.cell (p := ⟨b, o + i * 4 + 3, none⟩) hbw]; exact c3
          have hbr : b < wr.heap.size := by have := hB.size; omega
          have HSX := Lib.hid (hsx.below hB)
          have HXS := Lib.hid (show x.size ≤ 100000 by have := HSZ.out; omega)
          have hiI : (i : Int) < (n.kids.length : Int) := by omega
          have HLT := Lib.hid (show ∀ b, L b → Gap L (w.heap.size + 2) b ∧ (Value.slice va ps.length vc).ownBlock ≠ some b from fun b hb => ⟨.inl hb, fun e => by have := (HA.out.own.row.lt b e).1; have := HLW.out b hb; omega⟩)
          clear c0 c1 c2 c3 hsx hx hB hxs
          by_cases hK : K = (i : Int)
          · subst hK
            have hKb : ((i : Int) != (i : Int)) = false := by simp
            have HPF := Lib.hid (show putG n (i : Int) r ls i = [x.put r ls] by unfold putG; rw [if_neg (by simp), if_neg HRN.out, HGD.out])
            obtain ⟨i0, hinf, hz0, hz1, hz2⟩ := info_parts infoN
            have HI := Lib.hid hinf
            have HBN := Lib.hid (show w.heap.size + 2 ≤ wr.heap.size by have := lt_blk HA.out.res; omega)
            clear hinf
            go_upto_region 7 with (fail)
            have e0 : wr.drew.cell? ⟨b, o + i * 4, none⟩ = some (.int .i64 x.k) := d0
            have e1 : wr.drew.cell? ⟨b, o + i * 4 + 1, none⟩ = some (.string x.t) := d1
            have e2 : wr.drew.cell? ⟨b, o + i * 4 + 2, none⟩ = some (.string x.v) := d2
            have e3 : wr.drew.cell? ⟨b, o + i * 4 + 3, none⟩ = some (.slice xa x.kids.length xc) := d3
            obtain ⟨b0', b1', b2', b3', _, _, _, _, hbl'⟩ := nd_cells (HA.out.below (Below.refl _ _).drew).box
            have hbd : Below wr.heap.size wr wr.drew := (Below.refl _ _).drew
            have HBD := Lib.hid hbd
            clear hbd
            go_region_law ((first
              | (go_simp; go_at_call 22; refine (HIH.out x wr.drew L _ _ _ ls ⟨_, rfl, HSX.out.below HBD.out⟩ ((HPT.out.below HA.out.bel).below HBD.out) ((HL.out.below HA.out.bel).below HBD.out) (fun b hb => Nat.lt_of_lt_of_le (HLW.out b hb) HA.out.bel.size) (fun h => absurd h HRN.out) HXS.out hll).mono ?_; rintro e w2 ⟨a2, c2', rfl, hsl2, hb2⟩; have hb3 : Below wr.heap.size wr w2 := bthen HBD.out hb2)
              | (refine step_append_lies _ (by rfl) _ _ _ (by rfl) (w.heap.size + 2) 24 i0 _ 4 64 Tryz.underlying22 HI.out hz0 hz1 hz2 rfl (by omega) _ ps.length _ (by rfl) ((HA.out.below (bthen hb3 ((Below.refl _ _).alloc (Nat.le_refl _) _))).own.row) ⟨w2.heap.size, 0, none⟩ 1 1 (ndL (x.put r ls) (.slice a2 (x.put r ls).kids.length c2')) (by rfl) (by rfl) (World.news_of_block (heap_alloc_new w2 _)) nd_one (by omega) (by unfold maxLen; omega) (by omega) (by have := HBN.out; have := hb3.size; simp; omega) (w2.heap.size + 1) (by simp) ?_; intro gg cap' w5 hown1 hgrow hat hlt2)))
            all_goals
              have HAN := Lib.hid ((HA.out.below (bthen hb3 ((Below.refl _ _).alloc (Nat.le_refl _) (.cells #[.int .i64 (x.put r ls).k, .string (x.put r ls).t, .string (x.put r ls).v, .slice a2 (x.put r ls).kids.length c2'] 24)))).app (v' := .slice (some ⟨gg, 0, none⟩) (ps.length + 1) cap') (qs := [(x.put r ls, .slice a2 (x.put r ls).kids.length c2')]) (fun p hp => by
                obtain rfl := List.mem_singleton.1 hp
                refine (hsl2.below ((Below.refl _ _).alloc (Nat.le_refl _) _)).alike ⟨Nat.le_refl _, fun _ _ _ => rfl⟩ fun b hb _ => ⟨hb.imp id fun h => Nat.le_trans HBN.out h, fun e => ?_⟩
                have h1 := HA.out.own.row.lt b e
                rcases hb with hb | hb
                · exact (HLT.out b hb).2 e
                · have hb' : wr.heap.size ≤ b := hb
                  omega) (by simpa [ndRow] using hown1) hgrow (hat.imp (fun e => e.symm) fun e b hb => by simp [Value.ownBlock] at hb; simp; omega))
              clear hsl2 hb2 hb3 hown1 hgrow hat
              go_wp2_with fail
              go_roundw
              case rel => exact ⟨i + 1, _, by omega, by go_num, by show _ = _; rw [List.map_append, HP.out, HSUC.out, HPF.out]; rfl, HAN.out⟩
              case measure => simp [intOf]; omega
          · have hKb : ((i : Int) != K) = true := by simp; omega
            have hKc : ¬ ((i : Int) = K) := by omega
            have HPF := Lib.hid (show putG n K r ls i = [x] by unfold putG; rw [if_pos (by omega), HGD.out])
            obtain ⟨i0, hinf, hz0, hz1, hz2⟩ := info_parts infoN
            have HI := Lib.hid hinf
            have hbz : w.heap.size + 2 ≤ (wr.alloc (.cells #[.int .i64 x.k, .string x.t, .string x.v, .slice xa x.kids.length xc] 24)).heap.size := by have := lt_blk HA.out.res; simp; omega
            have HW1 := Lib.hid (show Pt w (wr.alloc (.cells #[.int .i64 x.k, .string x.t, .string x.v, .slice xa x.kids.length xc] 24)) L n (.slice (some ⟨b, o, none⟩) n.kids.length cap) (.slice va ps.length vc) ps from HA.out.below ((Below.refl _ _).alloc (Nat.le_refl _) _))
            have HS1 := Lib.hid (HSX.out.below ((Below.refl wr.heap.size wr).alloc (Nat.le_refl _) (.cells #[.int .i64 x.k, .string x.t, .string x.v, .slice xa x.kids.length xc] 24)))
            clear hinf
            go_wp2_with (at_builtin; refine wpList_append_own_at _ rfl _ _ 22 rfl (w.heap.size + 2) 24 i0 _ 4 64 Tryz.underlying22 HI.out hz0 hz1 hz2 rfl (by omega) _ ps.length (ndRow ps) (by rfl) HW1.out.own.row ⟨wr.heap.size, 0, none⟩ 1 1 (ndL x (.slice xa x.kids.length xc)) (by rfl) (by rfl) (World.news_of_block (heap_alloc_new wr _)) nd_one (by unfold maxLen; omega) (by omega) hbz ?_; intro v' w' hown hgrow _ hat)
            have HAN := Lib.hid (HW1.out.app (qs := [(x, .slice xa x.kids.length xc)]) (fun p hp => by obtain rfl := List.mem_singleton.1 hp; exact HS1.out.alike ⟨Nat.le_refl _, fun _ _ _ => rfl⟩ fun b hb _ => HLT.out b hb) (by simpa [ndRow] using hown) hgrow (hat.imp id fun e b hb => by rw [e] at hb; injection hb; omega))
            clear hown hgrow hat
            go_wp2_with fail
            go_roundw
            case rel => exact ⟨i + 1, _, by omega, by go_num, by show _ = _; rw [List.map_append, HP.out, HSUC.out, HPF.out]; rfl, HAN.out⟩
            case measure => simp [intOf]; omega
        · obtain rfl : i = n.kids.length := by omega
          have HALL := Lib.hid (show n.put (K :: r) ls = .mk n.k n.t n.v (ps.map (·.1)) by rw [HP.out, putF_all])
          clear hlt
          have hsl := HA.out.own.slIn
          have HSL := Lib.hid hsl
          clear hsl
          go_wp2_with fail
          have hr4' : (wr.setCell ⟨w.heap.size, 3, none⟩ (.slice va ps.length vc)).heap[w.heap.size + 1]? = _ := (set_other (by omega)).trans HA.out.res
          obtain ⟨hf, hgr⟩ := fill4 (.int .i64 n.k) (.string n.t) (.string n.v) (.slice va ps.length vc) hr4'
          have hg0 := grown_set wr w.heap.size 3 (.slice va ps.length vc)
          obtain ⟨w5, hw5⟩ : ∃ w5, (((((wr.setCell ⟨w.heap.size, 3, none⟩ (.slice va ps.length vc)).setCell ⟨w.heap.size + 1, 0, none⟩ (.int .i64 n.k)).setCell ⟨w.heap.size + 1, 1, none⟩ (.string n.t)).setCell ⟨w.heap.size + 1, 2, none⟩ (.string n.v)).setCell ⟨w.heap.size + 1, 3, none⟩ (.slice va ps.length vc)) = w5 := ⟨_, rfl⟩
          rw [hw5] at hf hgr
          rw [hw5]
          obtain ⟨q0, q1, q2, q3, _, _, _, _, hql⟩ := nd_cells hf
          refine bodyPost_ret (v := .agg #[.int .i64 n.k, .string n.t, .string n.v, .slice va ps.length vc]) (by simp [results, Tryz.results22, go_sem, q0, q1, q2, q3]) rfl ?_
          rw [HALL.out]
          refine ⟨va, vc, by simp only [k_mk, t_mk, v_mk, kids_mk, List.length_map], ?_, (HA.out.bel.grown hg0 HA.out.bel.size (fun b hb => by injection hb; omega)).grown hgr (by simp; omega) (fun b hb => by injection hb; omega)⟩
          simp only [kids_mk, List.length_map]
          exact (HSL.out.alike (S' := Gap L (w.heap.size + 2)) ⟨hg0.size, fun b hb hl => hg0.block b hl (fun e => by injection e with e; rcases hb with hb | hb; have := HLW.out b hb; omega; omega)⟩ fun b h _ => h).alike ⟨hgr.size, fun b hb hl => hgr.block b hl (fun e => by injection e with e; rcases hb with hb | hb; have := HLW.out b hb; omega; omega)⟩ fun b hb _ => hb.imp id fun h => by omega
end Go.Proofs.YtdaamiihldbekaaGreatDoor

/- The reference's one: what its branches share; an operation of no kind, and those on what stands at a place. -/
namespace Go.Proofs.YtdaamiihldbekaaGreatDoor
open Go.RowKit Ev5
set_option linter.unusedSimpArgs false
set_option linter.unusedVariables false

/-- What the reference's one hands back. -/
def OneRP (S : Nat → Prop) (r : Nd × Int) (w : World) (e : Ending) (w' : World) : Prop := ∃ a cap, e = .returned (.tuple #[.agg #[.int .i64 r.1.k, .string r.1.t, .string r.1.v, .slice a r.1.kids.length cap], .int .i64 r.2]) ∧ SlIn w' (Gap S w.heap.size) (.slice a r.1.kids.length cap) r.1.kids ∧ Below w.heap.size w w'
/-- A call's three boxes. -/
structure OneS (w wr : World) (n : Nd) (u : Value) (o : GoOp) (pv uo : Value) : Prop where
  b0 : wr.heap[w.heap.size]? = some (.cells #[.int .i64 n.k, .string n.t, .string n.v, u] 24 (0, 0))
  b1 : wr.heap[w.heap.size + 1]? = some (.cells (opL o pv uo) 45 (0, 0))
  b2 : wr.heap[w.heap.size + 1 + 1]? = some (.cells #[.int .i64 0, .string ⟨#[]⟩, .string ⟨#[]⟩, .slice none 0 0] 24 (0, 0))
  bel : Below w.heap.size w wr
theorem OneS.below {w wr w' : World} {n : Nd} {u : Value} {o : GoOp} {pv uo : Value} (h : OneS w wr n u o pv uo) (hb : Below wr.heap.size wr w') : OneS w w' n u o pv uo :=
  ⟨(hb.block _ (lt_blk h.b0)).trans h.b0, (hb.block _ (lt_blk h.b1)).trans h.b1, (hb.block _ (lt_blk h.b2)).trans h.b2, bthen h.bel hb⟩
theorem oneS_new (w : World) (n : Nd) (u : Value) (o : GoOp) (pv uo : Value) : OneS w (((w.alloc (.cells #[.int .i64 n.k, .string n.t, .string n.v, u] 24)).alloc (.cells #[.int .i64 o.k, pv, .int .i64 o.node.k, .string o.node.t, .string o.node.v, uo, .string o.t] 45)).alloc (.cells #[.int .i64 0, .string ⟨#[]⟩, .string ⟨#[]⟩, .slice none 0 0] 24)) n u o pv uo := by
  obtain ⟨g1, g2, g3, gb⟩ := three_allocs w (.cells #[.int .i64 n.k, .string n.t, .string n.v, u] 24) (.cells #[.int .i64 o.k, pv, .int .i64 o.node.k, .string o.node.t, .string o.node.v, uo, .string o.t] 45) (.cells #[.int .i64 0, .string ⟨#[]⟩, .string ⟨#[]⟩, .slice none 0 0] 24)
  exact ⟨g1, g2, g3, gb⟩
/-- The result is laid. -/
theorem OneS.fin {S : Nat → Prop} {w wr : World} {n : Nd} {u : Value} {o : GoOp} {pv uo : Value} (h : OneS w wr n u o pv uo) (hS : ∀ b, S b → b < w.heap.size) (r : Nd) (a : Option Addr) (c : Nat) (hs : SlIn wr (Gap S (w.heap.size + 3)) (.slice a r.kids.length c) r.kids) (E : Int) :
    ∃ W, ((((wr.setCell ⟨w.heap.size + 1 + 1, 0, none⟩ (.int .i64 r.k)).setCell ⟨w.heap.size + 1 + 1, 1, none⟩ (.string r.t)).setCell ⟨w.heap.size + 1 + 1, 2, none⟩ (.string r.v)).setCell ⟨w.heap.size + 1 + 1, 3, none⟩ (.slice a r.kids.length c)) = W ∧
      W.heap[w.heap.size + 1 + 1]? = some (.cells #[.int .i64 r.k, .string r.t, .string r.v, .slice a r.kids.length c] 24 (0, 0)) ∧
      OneRP S (r, E) w (.returned (.tuple #[.agg #[.int .i64 r.k, .string r.t, .string r.v, .slice a r.kids.length c], .int .i64 E])) W := by
  obtain ⟨hf, hgr⟩ := fill4 (.int .i64 r.k) (.string r.t) (.string r.v) (.slice a r.kids.length c) h.b2
  refine ⟨_, rfl, hf, a, c, rfl, hs.alike ⟨hgr.size, fun b hb hl => hgr.block b hl (fun e => by injection e with e; rcases hb with hb | hb; have := hS b hb; omega; omega)⟩ fun b hb _ => hb.imp id fun h => by omega, h.bel.grown hgr h.bel.size (fun b hb => by injection hb; omega)⟩
/-- The result is laid, and a box made behind it. -/
theorem OneS.finA {S : Nat → Prop} {w wr : World} {n : Nd} {u : Value} {o : GoOp} {pv uo : Value} (h : OneS w wr n u o pv uo) (hS : ∀ b, S b → b < w.heap.size) (r : Nd) (a : Option Addr) (c : Nat) (hs : SlIn wr (Gap S (w.heap.size + 3)) (.slice a r.kids.length c) r.kids) (E : Int) (ob : Obj) :
    ∃ W, (((((wr.setCell ⟨w.heap.size + 1 + 1, 0, none⟩ (.int .i64 r.k)).setCell ⟨w.heap.size + 1 + 1, 1, none⟩ (.string r.t)).setCell ⟨w.heap.size + 1 + 1, 2, none⟩ (.string r.v)).setCell ⟨w.heap.size + 1 + 1, 3, none⟩ (.slice a r.kids.length c)).alloc ob) = W ∧
      W.heap[w.heap.size + 1 + 1]? = some (.cells #[.int .i64 r.k, .string r.t, .string r.v, .slice a r.kids.length c] 24 (0, 0)) ∧
      OneRP S (r, E) w (.returned (.tuple #[.agg #[.int .i64 r.k, .string r.t, .string r.v, .slice a r.kids.length c], .int .i64 E])) W := by
  obtain ⟨W, hW, hf, a', c', he, hsl, hb⟩ := h.fin hS r a c hs E
  rw [hW]
  have hb2 : Below W.heap.size W (W.alloc ob) := (Below.refl _ _).alloc (Nat.le_refl _) _
  exact ⟨_, rfl, (hb2.block _ (lt_blk hf)).trans hf, a', c', he, hsl.below hb2, bthen hb hb2⟩
theorem SlIn.lt2 {w : World} {S : Nat → Prop} {u : Value} {ks : List Nd} (h : SlIn w S u ks) : SlIn w (fun b => S b ∧ b < w.heap.size) u ks := h.alike ⟨Nat.le_refl _, fun _ _ _ => rfl⟩ fun _ hs hl => ⟨hs, hl⟩
theorem SlIn.to {w : World} {S S' : Nat → Prop} {u : Value} {ks : List Nd} (h : SlIn w S u ks) (hs : ∀ b, S b → S' b) : SlIn w S' u ks := h.alike ⟨Nat.le_refl _, fun _ _ _ => rfl⟩ fun b hb _ => hs b hb
/-- A row of one node, made by the call. -/
theorem one_row {w : World} {X : Nat} {S : Nat → Prop} {x : Nd} {u : Value} (h : w.heap[X]? = some (.cells #[.int .i64 x.k, .string x.t, .string x.v, u] 24 (0, 0))) (hX : S X) (hu : SlIn w S u x.kids) : SlIn w S (.slice (some ⟨X, 0, none⟩) 1 1) [x] := by
  have c := fun j hj => (blk_cell h j hj).1
  exact ⟨some ⟨X, 0, none⟩, 1, rfl, Nat.le_refl _, by decide, .inr ⟨X, 0, rfl, hX, lt_blk h, kidsIn_cons.2 ⟨ndAt_iff.2 ⟨c 0 (by simp), c 1 (by simp), c 2 (by simp), u, c 3 (by simp), hu⟩, kidsIn_nil⟩⟩⟩

section
variable (S : Nat → Prop) (n : Nd) (o : GoOp) (w : World) (val pv uo : Value)
set_option maxRecDepth 100000 in
set_option maxHeartbeats 8000000 in
theorem refOne0_any (hv : NdV w S val n) (hS : ∀ b, S b → b < w.heap.size) (hp : IntsIn w pv o.place) (ho : SlIn w S uo o.node.kids) (hk : o.k < 1 ∨ 5 < o.k) : Calls Tryz.prog 39 #[val, opV o pv uo] w (OneRP S (oneP n o) w) := by
  obtain ⟨u, rfl, hs⟩ := hv
  obtain ⟨ao, cap, rfl, hcap, hcm⟩ := hs.shape
  obtain ⟨pa, pcap, rfl, hpc, hpm, _⟩ := hp.ex
  obtain ⟨na, nc, rfl, hnc, hnm⟩ := ho.shape
  have H1 := Lib.hid (one_none (n := n) (o := o) hk)
  obtain ⟨g1, g2, g3, gb⟩ := three_allocs w (.cells #[.int .i64 n.k, .string n.t, .string n.v, .slice ao n.kids.length cap] 24) (.cells #[.int .i64 o.k, .slice pa o.place.length pcap, .int .i64 o.node.k, .string o.node.t, .string o.node.v, .slice na o.node.kids.length nc, .string o.t] 45) (.cells #[.int .i64 n.k, .string n.t, .string n.v, .slice ao n.kids.length cap] 24)
  have HG := Lib.hid (And.intro g3 gb); have HS := Lib.hid hs
  obtain ⟨q1, q2⟩ : (decide (o.k < 1) = true ∨ decide (o.k < 1) = false ∧ decide (5 < o.k) = true) ∧ True := ⟨by by_cases h : o.k < 1; exact .inl (decide_eq_true h); exact .inr ⟨decide_eq_false h, decide_eq_true (by omega)⟩, trivial⟩
  clear hs hp ho g1 g2 g3 gb q2
  unfold ndV opV
  rcases q1 with q1 | ⟨q1, q2⟩
  · have h1 : o.k < 1 := by simpa using q1
    go_enter Tryz.func39, Tryz.ntmps39
    go_wp2_with fail
    obtain ⟨W, hW⟩ : ∃ W, (((w.alloc (.cells #[.int .i64 n.k, .string n.t, .string n.v, .slice ao n.kids.length cap] 24)).alloc (.cells #[.int .i64 o.k, .slice pa o.place.length pcap, .int .i64 o.node.k, .string o.node.t, .string o.node.v, .slice na o.node.kids.length nc, .string o.t] 45)).alloc (.cells #[.int .i64 n.k, .string n.t, .string n.v, .slice ao n.kids.length cap] 24)) = W := ⟨_, rfl⟩
    rw [hW] at HG
    rw [hW]
    obtain ⟨x0, x1, x2, x3, _, _, _, _, hxl⟩ := nd_cells HG.out.1
    refine bodyPost_ret (v := .tuple #[.agg #[.int .i64 n.k, .string n.t, .string n.v, .slice ao n.kids.length cap], .int .i64 1]) (by simp [results, Tryz.results39, go_sem, x0, x1, x2, x3]) rfl ?_
    rw [H1.out]
    exact ⟨ao, cap, rfl, (HS.out.below HG.out.2).to fun b h => .inl h, HG.out.2⟩
  · have h1 : ¬ o.k < 1 := by simpa using q1
    have h2 : 5 < o.k := by simpa using q2
    go_enter Tryz.func39, Tryz.ntmps39
    go_wp2_with fail
    obtain ⟨W, hW⟩ : ∃ W, (((w.alloc (.cells #[.int .i64 n.k, .string n.t, .string n.v, .slice ao n.kids.length cap] 24)).alloc (.cells #[.int .i64 o.k, .slice pa o.place.length pcap, .int .i64 o.node.k, .string o.node.t, .string o.node.v, .slice na o.node.kids.length nc, .string o.t] 45)).alloc (.cells #[.int .i64 n.k, .string n.t, .string n.v, .slice ao n.kids.length cap] 24)) = W := ⟨_, rfl⟩
    rw [hW] at HG
    rw [hW]
    obtain ⟨x0, x1, x2, x3, _, _, _, _, hxl⟩ := nd_cells HG.out.1
    refine bodyPost_ret (v := .tuple #[.agg #[.int .i64 n.k, .string n.t, .string n.v, .slice ao n.kids.length cap], .int .i64 1]) (by simp [results, Tryz.results39, go_sem, x0, x1, x2, x3]) rfl ?_
    rw [H1.out]
    exact ⟨ao, cap, rfl, (HS.out.below HG.out.2).to fun b h => .inl h, HG.out.2⟩
end
end Go.Proofs.YtdaamiihldbekaaGreatDoor

/- The walk of the reference's one: the operations on what stands at a place. -/
namespace Go.Proofs.YtdaamiihldbekaaGreatDoor
open Go.RowKit Ev5
set_option linter.unusedSimpArgs false
set_option linter.unusedVariables false

theorem SlIn.toL {w : World} {S : Nat → Prop} {M : Nat} {u : Value} {ks : List Nd} (h : SlIn w S u ks) : SlIn w (fun b => Gap S M b ∧ b < w.heap.size) u ks := h.lt2.to fun b h => ⟨.inl h.1, h.2⟩
theorem SlIn.fromL {w w' : World} {S : Nat → Prop} {M : Nat} {u : Value} {ks : List Nd} (h : SlIn w' (Gap (fun b => Gap S M b ∧ b < w.heap.size) w.heap.size) u ks) (hM : M ≤ w.heap.size) : SlIn w' (Gap S M) u ks := h.to fun b h => by
  rcases h with h | h
  · exact h.1
  · exact .inr (Nat.le_trans hM h)
section
variable (S : Nat → Prop) (n : Nd) (o : GoOp) (w : World) (val pv uo : Value)

set_option maxRecDepth 100000 in
set_option maxHeartbeats 16000000 in
theorem refOne2_any (hv : NdV w S val n) (hS : ∀ b, S b → b < w.heap.size) (hp : IntsIn w pv o.place) (ho : SlIn w S uo o.node.kids) (hk : o.k = 2) (hsz : n.size ≤ 100000) (hsz2 : o.node.size ≤ 100000) : Calls Tryz.prog 39 #[val, opV o pv uo] w (OneRP S (oneP n o) w) := by
  obtain ⟨u, rfl, hs⟩ := hv
  obtain ⟨ao, cap, rfl, hcap, hcm⟩ := hs.shape
  obtain ⟨pa, pcap, rfl, hpc, hpm, _⟩ := hp.ex
  obtain ⟨na, nc, rfl, hnc, hnm⟩ := ho.shape
  have HK := Lib.hid hk
  have HS := Lib.hid hs; have HSS := Lib.hid hS; have HP := Lib.hid hp; have HO := Lib.hid ho; have HSZ := Lib.hid hsz; have HSZ2 := Lib.hid hsz2
  have H0 := Lib.hid (oneS_new w n (.slice ao n.kids.length cap) o (.slice pa o.place.length pcap) (.slice na o.node.kids.length nc))
  have f1 : ¬ o.k < 1 := by omega
  have f2 : ¬ 5 < o.k := by omega
  have f3 : decide (o.k < 1) = false := decide_eq_false f1
  have f4 : decide (5 < o.k) = false := decide_eq_false f2
  obtain ⟨g1a, g1b, g1c⟩ := eqb_no (show o.k ≠ 1 by omega)
  obtain ⟨g2a, g2b⟩ := eqb_yes hk
  clear hs hS hp ho hk hsz hsz2
  unfold ndV opV
  go_enter Tryz.func39, Tryz.ntmps39
  go_wp2_with fail
  refine (ref23At_any n _ S _ _ o.place ⟨_, rfl, HS.out.below H0.out.bel⟩ (HP.out.below H0.out.bel) (by have := HSZ.out; omega) (fun b hb => Nat.lt_of_lt_of_le (HSS.out b hb) H0.out.bel.size)).mono ?_
  rintro e w2 ⟨hb, hcase⟩
  have H2 := Lib.hid (H0.out.below hb)
  clear hb
  cases hat : n.at_ o.place with
  | none =>
    rw [hat] at hcase
    have he : e = .returned (.tuple #[.agg #[.int .i64 0, .string ⟨#[]⟩, .string ⟨#[]⟩, .slice none 0 0], .bool false]) := hcase
    subst he
    have HR := Lib.hid (show oneP n o = (n, 21) by unfold oneP; rw [if_neg (by have := HK.out; omega), if_neg (by have := HK.out; omega), hat])
    clear hcase hat
    have hb4 : Below w2.heap.size w2 (w2.alloc (.cells #[.int .i64 0, .string ⟨#[]⟩, .string ⟨#[]⟩, .slice none 0 0] 24)) := (Below.refl _ _).alloc (Nat.le_refl _) _
    have H4 := Lib.hid (H2.out.below hb4)
    clear hb4
    obtain ⟨x0, x1, x2, x3, _, _, _, _, hxl⟩ := nd_cells H2.out.b0
    obtain ⟨p0, p1, p2, p3, p4, p5, p6, hpl⟩ := op_cells H2.out.b1
    obtain ⟨r0, r1, r2, r3, s0, s1, s2, s3, hrl⟩ := nd_cells H2.out.b2
    go_wp2_with fail
    obtain ⟨W, hW, hf, hpost⟩ := H2.out.finA HSS.out n ao cap ((HS.out.below H2.out.bel).to fun b h => .inl h) 21 (.cells #[.int .i64 0, .string ⟨#[]⟩, .string ⟨#[]⟩, .slice none 0 0] 24)
    rw [hW]
    obtain ⟨q0, q1, q2, q3, _, _, _, _, hql⟩ := nd_cells hf
    refine bodyPost_ret (v := .tuple #[.agg #[.int .i64 n.k, .string n.t, .string n.v, .slice ao n.kids.length cap], .int .i64 21]) (by simp [results, Tryz.results39, go_sem, q0, q1, q2, q3]) rfl ?_
    rw [HR.out]
    exact hpost
  | some x =>
    rw [hat] at hcase
    obtain ⟨xa, xc, he, hsx⟩ := hcase
    subst he
    have hone : oneP n o = if o.place = [] then (n, 21) else (n.put o.place [], 0) := by unfold oneP; rw [if_neg (by have := HK.out; omega), if_neg (by have := HK.out; omega), hat]; simp only []; rw [if_pos HK.out]
    have HR := Lib.hid hone
    have HAT := Lib.hid hat
    have HXZ := Lib.hid (at_size hat)
    have hb4 : Below w2.heap.size w2 (w2.alloc (.cells #[.int .i64 x.k, .string x.t, .string x.v, .slice xa x.kids.length xc] 24)) := (Below.refl _ _).alloc (Nat.le_refl _) _
    have hx4 := heap_alloc_new w2 (.cells #[.int .i64 x.k, .string x.t, .string x.v, .slice xa x.kids.length xc] 24)
    have H4 := Lib.hid (H2.out.below hb4)
    have HX4 := Lib.hid hx4
    have HSX := Lib.hid (hsx.below hb4)
    have HSX2 := Lib.hid hsx
    have HB4 := Lib.hid hb4
    have HRL := Lib.hid (lt_blk H2.out.b2)
    clear hb4 hx4 hone hat hsx
    obtain ⟨x0, x1, x2, x3, _, _, _, _, hxl⟩ := nd_cells H2.out.b0
    obtain ⟨p0, p1, p2, p3, p4, p5, p6, hpl⟩ := op_cells H2.out.b1
    obtain ⟨r0, r1, r2, r3, s0, s1, s2, s3, hrl⟩ := nd_cells H2.out.b2
    by_cases hpe : o.place = []
    · have HR2 := HR
      clear HR
      have HR := Lib.hid (show oneP n o = (n, 21) by rw [HR2.out, if_pos hpe])
      have hz : o.place.length = 0 := by rw [hpe]; rfl
      have hz1 : ((o.place.length : Int) == 0) = true := by simp [hz]
      clear HR2 hpe
      go_wp2_with fail
      obtain ⟨W, hW, hf, hpost⟩ := H2.out.finA HSS.out n ao cap ((HS.out.below H2.out.bel).to fun b h => .inl h) 21 (.cells #[.int .i64 x.k, .string x.t, .string x.v, .slice xa x.kids.length xc] 24)
      rw [hW]
      obtain ⟨q0, q1, q2, q3, _, _, _, _, hql⟩ := nd_cells hf
      refine bodyPost_ret (v := .tuple #[.agg #[.int .i64 n.k, .string n.t, .string n.v, .slice ao n.kids.length cap], .int .i64 21]) (by simp [results, Tryz.results39, go_sem, q0, q1, q2, q3]) rfl ?_
      rw [HR.out]
      exact hpost
    · have HR2 := HR
      clear HR
      have HR := Lib.hid (show oneP n o = (n.put o.place [], 0) by rw [HR2.out, if_neg hpe])
      have hz : ¬ o.place.length = 0 := fun h => hpe (List.eq_nil_of_length_eq_zero h)
      have hz1 : ((o.place.length : Int) == 0) = false := by simpa using hpe
      have hz2 : ¬ ((o.place.length : Int) = 0) := by omega
      have HPE := Lib.hid hpe
      clear HR2 hpe
      go_wp2_with fail
      refine (put_any o.place n _ (fun b => Gap S (w.heap.size + 3) b ∧ b < (w2.alloc (.cells #[.int .i64 x.k, .string x.t, .string x.v, .slice xa x.kids.length xc] 24)).heap.size) _ _ _ [] ⟨_, rfl, (HS.out.below H4.out.bel).toL⟩ (HP.out.below H4.out.bel) ⟨none, 0, rfl, Nat.le_refl _, by decide, .inl rfl⟩ (fun b hb => hb.2) (fun h => absurd h HPE.out) HSZ.out (by simp)).mono ?_
      rintro e w6 ⟨ra, rc, he, hsr, hb⟩
      obtain ⟨R, hR⟩ : ∃ R, n.put o.place [] = R := ⟨_, rfl⟩
      rw [hR] at he hsr
      subst he
      have H6 := Lib.hid (H4.out.below hb)
      have HSR := Lib.hid (hsr.fromL (M := w.heap.size + 3) (by have := HRL.out; simp; omega))
      have HRE := Lib.hid hR
      clear hb hsr hR x0 x1 x2 x3 hxl p0 p1 p2 p3 p4 p5 p6 hpl r0 r1 r2 r3 s0 s1 s2 s3 hrl
      obtain ⟨r0, r1, r2, r3, s0, s1, s2, s3, hrl⟩ := nd_cells H6.out.b2
      go_wp2_with fail
      obtain ⟨W, hW, hf, hpost⟩ := H6.out.fin HSS.out R ra rc HSR.out 0
      rw [hW]
      obtain ⟨q0, q1, q2, q3, _, _, _, _, hql⟩ := nd_cells hf
      refine bodyPost_ret (v := .tuple #[.agg #[.int .i64 R.k, .string R.t, .string R.v, .slice ra R.kids.length rc], .int .i64 0]) (by simp [results, Tryz.results39, go_sem, q0, q1, q2, q3]) rfl ?_
      rw [HR.out, HRE.out]
      exact hpost

set_option maxRecDepth 100000 in
set_option maxHeartbeats 16000000 in
theorem refOne3_any (hv : NdV w S val n) (hS : ∀ b, S b → b < w.heap.size) (hp : IntsIn w pv o.place) (ho : SlIn w S uo o.node.kids) (hk : o.k = 3) (hsz : n.size ≤ 100000) (hsz2 : o.node.size ≤ 100000) : Calls Tryz.prog 39 #[val, opV o pv uo] w (OneRP S (oneP n o) w) := by
  obtain ⟨u, rfl, hs⟩ := hv
  obtain ⟨ao, cap, rfl, hcap, hcm⟩ := hs.shape
  obtain ⟨pa, pcap, rfl, hpc, hpm, _⟩ := hp.ex
  obtain ⟨na, nc, rfl, hnc, hnm⟩ := ho.shape
  have HK := Lib.hid hk
  have HS := Lib.hid hs; have HSS := Lib.hid hS; have HP := Lib.hid hp; have HO := Lib.hid ho; have HSZ := Lib.hid hsz; have HSZ2 := Lib.hid hsz2
  have H0 := Lib.hid (oneS_new w n (.slice ao n.kids.length cap) o (.slice pa o.place.length pcap) (.slice na o.node.kids.length nc))
  have f1 : ¬ o.k < 1 := by omega
  have f2 : ¬ 5 < o.k := by omega
  have f3 : decide (o.k < 1) = false := decide_eq_false f1
  have f4 : decide (5 < o.k) = false := decide_eq_false f2
  obtain ⟨g1a, g1b, g1c⟩ := eqb_no (show o.k ≠ 1 by omega)
  obtain ⟨g2a, g2b, g2c⟩ := eqb_no (show o.k ≠ 2 by omega)
  obtain ⟨g3a, g3b⟩ := eqb_yes hk
  clear hs hS hp ho hk hsz hsz2
  unfold ndV opV
  go_enter Tryz.func39, Tryz.ntmps39
  go_wp2_with fail
  refine (ref23At_any n _ S _ _ o.place ⟨_, rfl, HS.out.below H0.out.bel⟩ (HP.out.below H0.out.bel) (by have := HSZ.out; omega) (fun b hb => Nat.lt_of_lt_of_le (HSS.out b hb) H0.out.bel.size)).mono ?_
  rintro e w2 ⟨hb, hcase⟩
  have H2 := Lib.hid (H0.out.below hb)
  clear hb
  cases hat : n.at_ o.place with
  | none =>
    rw [hat] at hcase
    have he : e = .returned (.tuple #[.agg #[.int .i64 0, .string ⟨#[]⟩, .string ⟨#[]⟩, .slice none 0 0], .bool false]) := hcase
    subst he
    have HR := Lib.hid (show oneP n o = (n, 21) by unfold oneP; rw [if_neg (by have := HK.out; omega), if_neg (by have := HK.out; omega), hat])
    clear hcase hat
    have hb4 : Below w2.heap.size w2 (w2.alloc (.cells #[.int .i64 0, .string ⟨#[]⟩, .string ⟨#[]⟩, .slice none 0 0] 24)) := (Below.refl _ _).alloc (Nat.le_refl _) _
    have H4 := Lib.hid (H2.out.below hb4)
    clear hb4
    obtain ⟨x0, x1, x2, x3, _, _, _, _, hxl⟩ := nd_cells H2.out.b0
    obtain ⟨p0, p1, p2, p3, p4, p5, p6, hpl⟩ := op_cells H2.out.b1
    obtain ⟨r0, r1, r2, r3, s0, s1, s2, s3, hrl⟩ := nd_cells H2.out.b2
    go_wp2_with fail
    obtain ⟨W, hW, hf, hpost⟩ := H2.out.finA HSS.out n ao cap ((HS.out.below H2.out.bel).to fun b h => .inl h) 21 (.cells #[.int .i64 0, .string ⟨#[]⟩, .string ⟨#[]⟩, .slice none 0 0] 24)
    rw [hW]
    obtain ⟨q0, q1, q2, q3, _, _, _, _, hql⟩ := nd_cells hf
    refine bodyPost_ret (v := .tuple #[.agg #[.int .i64 n.k, .string n.t, .string n.v, .slice ao n.kids.length cap], .int .i64 21]) (by simp [results, Tryz.results39, go_sem, q0, q1, q2, q3]) rfl ?_
    rw [HR.out]
    exact hpost
  | some x =>
    rw [hat] at hcase
    obtain ⟨xa, xc, he, hsx⟩ := hcase
    subst he
    have hone : oneP n o = (n.put o.place [o.node], 0) := by unfold oneP; rw [if_neg (by have := HK.out; omega), if_neg (by have := HK.out; omega), hat]; simp only []; rw [if_neg (by have := HK.out; omega), if_pos HK.out]
    have HR := Lib.hid hone
    have HAT := Lib.hid hat
    have HXZ := Lib.hid (at_size hat)
    have hb4 : Below w2.heap.size w2 (w2.alloc (.cells #[.int .i64 x.k, .string x.t, .string x.v, .slice xa x.kids.length xc] 24)) := (Below.refl _ _).alloc (Nat.le_refl _) _
    have hx4 := heap_alloc_new w2 (.cells #[.int .i64 x.k, .string x.t, .string x.v, .slice xa x.kids.length xc] 24)
    have H4 := Lib.hid (H2.out.below hb4)
    have HX4 := Lib.hid hx4
    have HSX := Lib.hid (hsx.below hb4)
    have HSX2 := Lib.hid hsx
    have HB4 := Lib.hid hb4
    have HRL := Lib.hid (lt_blk H2.out.b2)
    clear hb4 hx4 hone hat hsx
    obtain ⟨x0, x1, x2, x3, _, _, _, _, hxl⟩ := nd_cells H2.out.b0
    obtain ⟨p0, p1, p2, p3, p4, p5, p6, hpl⟩ := op_cells H2.out.b1
    obtain ⟨r0, r1, r2, r3, s0, s1, s2, s3, hrl⟩ := nd_cells H2.out.b2
    go_wp2_with fail
    have hb5 : Below (w2.alloc (.cells #[.int .i64 x.k, .string x.t, .string x.v, .slice xa x.kids.length xc] 24)).heap.size (w2.alloc (.cells #[.int .i64 x.k, .string x.t, .string x.v, .slice xa x.kids.length xc] 24)) ((w2.alloc (.cells #[.int .i64 x.k, .string x.t, .string x.v, .slice xa x.kids.length xc] 24)).alloc (.cells #[.int .i64 o.node.k, .string o.node.t, .string o.node.v, .slice na o.node.kids.length nc] 24)) := (Below.refl _ _).alloc (Nat.le_refl _) _
    have hr5 := heap_alloc_new (w2.alloc (.cells #[.int .i64 x.k, .string x.t, .string x.v, .slice xa x.kids.length xc] 24)) (.cells #[.int .i64 o.node.k, .string o.node.t, .string o.node.v, .slice na o.node.kids.length nc] 24)
    have H5 := Lib.hid (H4.out.below hb5)
    refine (put_any o.place n _ (fun b => Gap S (w.heap.size + 3) b ∧ b < ((w2.alloc (.cells #[.int .i64 x.k, .string x.t, .string x.v, .slice xa x.kids.length xc] 24)).alloc (.cells #[.int .i64 o.node.k, .string o.node.t, .string o.node.v, .slice na o.node.kids.length nc] 24)).heap.size) _ _ (.slice (some ⟨w2.heap.size + 1, 0, none⟩) 1 1) [o.node] ⟨_, rfl, (HS.out.below H5.out.bel).toL⟩ (HP.out.below H5.out.bel) (one_row (by simpa using hr5) ⟨.inr (by have := HRL.out; omega), by simp⟩ ((HO.out.below H5.out.bel).toL)) (fun b hb => hb.2) (fun _ => by simp) HSZ.out (by simp)).mono ?_
    clear hb5 hr5
    rintro e w6 ⟨ra, rc, he, hsr, hb⟩
    obtain ⟨R, hR⟩ : ∃ R, n.put o.place [o.node] = R := ⟨_, rfl⟩
    rw [hR] at he hsr
    subst he
    have H6 := Lib.hid (H5.out.below hb)
    have HSR := Lib.hid (hsr.fromL (M := w.heap.size + 3) (by have := HRL.out; simp; omega))
    have HRE := Lib.hid hR
    clear hb hsr hR x0 x1 x2 x3 hxl p0 p1 p2 p3 p4 p5 p6 hpl r0 r1 r2 r3 s0 s1 s2 s3 hrl
    obtain ⟨r0, r1, r2, r3, s0, s1, s2, s3, hrl⟩ := nd_cells H6.out.b2
    go_wp2_with fail
    obtain ⟨W, hW, hf, hpost⟩ := H6.out.fin HSS.out R ra rc HSR.out 0
    rw [hW]
    obtain ⟨q0, q1, q2, q3, _, _, _, _, hql⟩ := nd_cells hf
    refine bodyPost_ret (v := .tuple #[.agg #[.int .i64 R.k, .string R.t, .string R.v, .slice ra R.kids.length rc], .int .i64 0]) (by simp [results, Tryz.results39, go_sem, q0, q1, q2, q3]) rfl ?_
    rw [HR.out, HRE.out]
    exact hpost

set_option maxRecDepth 100000 in
set_option maxHeartbeats 16000000 in
open Classical in
theorem refOne4_any (hv : NdV w S val n) (hS : ∀ b, S b → b < w.heap.size) (hp : IntsIn w pv o.place) (ho : SlIn w S uo o.node.kids) (hk : o.k = 4) (hsz : n.size ≤ 100000) (hsz2 : o.node.size ≤ 100000) : Calls Tryz.prog 39 #[val, opV o pv uo] w (OneRP S (oneP n o) w) := by
  obtain ⟨u, rfl, hs⟩ := hv
  obtain ⟨ao, cap, rfl, hcap, hcm⟩ := hs.shape
  obtain ⟨pa, pcap, rfl, hpc, hpm, _⟩ := hp.ex
  obtain ⟨na, nc, rfl, hnc, hnm⟩ := ho.shape
  have HK := Lib.hid hk
  have HS := Lib.hid hs; have HSS := Lib.hid hS; have HP := Lib.hid hp; have HO := Lib.hid ho; have HSZ := Lib.hid hsz; have HSZ2 := Lib.hid hsz2
  have H0 := Lib.hid (oneS_new w n (.slice ao n.kids.length cap) o (.slice pa o.place.length pcap) (.slice na o.node.kids.length nc))
  have f1 : ¬ o.k < 1 := by omega
  have f2 : ¬ 5 < o.k := by omega
  have f3 : decide (o.k < 1) = false := decide_eq_false f1
  have f4 : decide (5 < o.k) = false := decide_eq_false f2
  obtain ⟨g1a, g1b, g1c⟩ := eqb_no (show o.k ≠ 1 by omega)
  obtain ⟨g2a, g2b, g2c⟩ := eqb_no (show o.k ≠ 2 by omega)
  obtain ⟨g3a, g3b, g3c⟩ := eqb_no (show o.k ≠ 3 by omega)
  obtain ⟨g4a, g4b⟩ := eqb_yes hk
  clear hs hS hp ho hk hsz hsz2
  unfold ndV opV
  go_enter Tryz.func39, Tryz.ntmps39
  go_wp2_with fail
  refine (ref23At_any n _ S _ _ o.place ⟨_, rfl, HS.out.below H0.out.bel⟩ (HP.out.below H0.out.bel) (by have := HSZ.out; omega) (fun b hb => Nat.lt_of_lt_of_le (HSS.out b hb) H0.out.bel.size)).mono ?_
  rintro e w2 ⟨hb, hcase⟩
  have H2 := Lib.hid (H0.out.below hb)
  clear hb
  cases hat : n.at_ o.place with
  | none =>
    rw [hat] at hcase
    have he : e = .returned (.tuple #[.agg #[.int .i64 0, .string ⟨#[]⟩, .string ⟨#[]⟩, .slice none 0 0], .bool false]) := hcase
    subst he
    have HR := Lib.hid (show oneP n o = (n, 21) by unfold oneP; rw [if_neg (by have := HK.out; omega), if_neg (by have := HK.out; omega), hat])
    clear hcase hat
    have hb4 : Below w2.heap.size w2 (w2.alloc (.cells #[.int .i64 0, .string ⟨#[]⟩, .string ⟨#[]⟩, .slice none 0 0] 24)) := (Below.refl _ _).alloc (Nat.le_refl _) _
    have H4 := Lib.hid (H2.out.below hb4)
    clear hb4
    obtain ⟨x0, x1, x2, x3, _, _, _, _, hxl⟩ := nd_cells H2.out.b0
    obtain ⟨p0, p1, p2, p3, p4, p5, p6, hpl⟩ := op_cells H2.out.b1
    obtain ⟨r0, r1, r2, r3, s0, s1, s2, s3, hrl⟩ := nd_cells H2.out.b2
    go_wp2_with fail
    obtain ⟨W, hW, hf, hpost⟩ := H2.out.finA HSS.out n ao cap ((HS.out.below H2.out.bel).to fun b h => .inl h) 21 (.cells #[.int .i64 0, .string ⟨#[]⟩, .string ⟨#[]⟩, .slice none 0 0] 24)
    rw [hW]
    obtain ⟨q0, q1, q2, q3, _, _, _, _, hql⟩ := nd_cells hf
    refine bodyPost_ret (v := .tuple #[.agg #[.int .i64 n.k, .string n.t, .string n.v, .slice ao n.kids.length cap], .int .i64 21]) (by simp [results, Tryz.results39, go_sem, q0, q1, q2, q3]) rfl ?_
    rw [HR.out]
    exact hpost
  | some x =>
    rw [hat] at hcase
    obtain ⟨xa, xc, he, hsx⟩ := hcase
    subst he
    have hone : oneP n o = (if x = o.node then (n, 0) else (n, 31)) := by unfold oneP; rw [if_neg (by have := HK.out; omega), if_neg (by have := HK.out; omega), hat]; simp only []; rw [if_neg (by have := HK.out; omega), if_neg (by have := HK.out; omega), if_pos HK.out]
    have HR := Lib.hid hone
    have HAT := Lib.hid hat
    have HXZ := Lib.hid (at_size hat)
    have hb4 : Below w2.heap.size w2 (w2.alloc (.cells #[.int .i64 x.k, .string x.t, .string x.v, .slice xa x.kids.length xc] 24)) := (Below.refl _ _).alloc (Nat.le_refl _) _
    have hx4 := heap_alloc_new w2 (.cells #[.int .i64 x.k, .string x.t, .string x.v, .slice xa x.kids.length xc] 24)
    have H4 := Lib.hid (H2.out.below hb4)
    have HX4 := Lib.hid hx4
    have HSX := Lib.hid (hsx.below hb4)
    have HSX2 := Lib.hid hsx
    have HB4 := Lib.hid hb4
    have HRL := Lib.hid (lt_blk H2.out.b2)
    clear hb4 hx4 hone hat hsx
    obtain ⟨x0, x1, x2, x3, _, _, _, _, hxl⟩ := nd_cells H2.out.b0
    obtain ⟨p0, p1, p2, p3, p4, p5, p6, hpl⟩ := op_cells H2.out.b1
    obtain ⟨r0, r1, r2, r3, s0, s1, s2, s3, hrl⟩ := nd_cells H2.out.b2
    obtain ⟨y0, y1, y2, y3, _, _, _, _, hyl⟩ := nd_cells HX4.out
    go_wp2_with fail
    refine (refSame_any x _ _ _ _ _ o.node (NdV.mk HSX.out) (NdV.mk (HO.out.below H4.out.bel))).mono ?_
    rintro e w6 ⟨q, rfl, hq, hb⟩
    have H6 := Lib.hid (H4.out.below hb)
    have HQ := Lib.hid hq
    clear hb hq x0 x1 x2 x3 hxl p0 p1 p2 p3 p4 p5 p6 hpl r0 r1 r2 r3 s0 s1 s2 s3 hrl y0 y1 y2 y3 hyl
    obtain ⟨r0, r1, r2, r3, s0, s1, s2, s3, hrl⟩ := nd_cells H6.out.b2
    obtain ⟨x0, x1, x2, x3, _, _, _, _, hxl⟩ := nd_cells H6.out.b0
    have HR2 := HR
    clear HR
    cases q
    · have HR := Lib.hid (show oneP n o = (n, 31) by rw [HR2.out, if_neg (fun h => absurd (HQ.out.2 h) (by simp))])
      go_wp2_with fail
      obtain ⟨W, hW, hf, hpost⟩ := H6.out.fin HSS.out n ao cap ((HS.out.below H6.out.bel).to fun b h => .inl h) 31
      rw [hW]
      obtain ⟨q0, q1, q2, q3, _, _, _, _, hql⟩ := nd_cells hf
      refine bodyPost_ret (v := .tuple #[.agg #[.int .i64 n.k, .string n.t, .string n.v, .slice ao n.kids.length cap], .int .i64 31]) (by simp [results, Tryz.results39, go_sem, q0, q1, q2, q3]) rfl ?_
      rw [HR.out]
      exact hpost
    · have HR := Lib.hid (show oneP n o = (n, 0) by rw [HR2.out, if_pos (HQ.out.1 (by trivial))])
      go_wp2_with fail
      obtain ⟨W, hW, hf, hpost⟩ := H6.out.fin HSS.out n ao cap ((HS.out.below H6.out.bel).to fun b h => .inl h) 0
      rw [hW]
      obtain ⟨q0, q1, q2, q3, _, _, _, _, hql⟩ := nd_cells hf
      refine bodyPost_ret (v := .tuple #[.agg #[.int .i64 n.k, .string n.t, .string n.v, .slice ao n.kids.length cap], .int .i64 0]) (by simp [results, Tryz.results39, go_sem, q0, q1, q2, q3]) rfl ?_
      rw [HR.out]
      exact hpost

set_option maxRecDepth 100000 in
set_option maxHeartbeats 16000000 in
theorem refOne5_any (hv : NdV w S val n) (hS : ∀ b, S b → b < w.heap.size) (hp : IntsIn w pv o.place) (ho : SlIn w S uo o.node.kids) (hk : o.k = 5) (hsz : n.size ≤ 100000) (hsz2 : o.node.size ≤ 100000) : Calls Tryz.prog 39 #[val, opV o pv uo] w (OneRP S (oneP n o) w) := by
  obtain ⟨u, rfl, hs⟩ := hv
  obtain ⟨ao, cap, rfl, hcap, hcm⟩ := hs.shape
  obtain ⟨pa, pcap, rfl, hpc, hpm, _⟩ := hp.ex
  obtain ⟨na, nc, rfl, hnc, hnm⟩ := ho.shape
  have HK := Lib.hid hk
  have HS := Lib.hid hs; have HSS := Lib.hid hS; have HP := Lib.hid hp; have HO := Lib.hid ho; have HSZ := Lib.hid hsz; have HSZ2 := Lib.hid hsz2
  have H0 := Lib.hid (oneS_new w n (.slice ao n.kids.length cap) o (.slice pa o.place.length pcap) (.slice na o.node.kids.length nc))
  have f1 : ¬ o.k < 1 := by omega
  have f2 : ¬ 5 < o.k := by omega
  have f3 : decide (o.k < 1) = false := decide_eq_false f1
  have f4 : decide (5 < o.k) = false := decide_eq_false f2
  obtain ⟨g1a, g1b, g1c⟩ := eqb_no (show o.k ≠ 1 by omega)
  obtain ⟨g2a, g2b, g2c⟩ := eqb_no (show o.k ≠ 2 by omega)
  obtain ⟨g3a, g3b, g3c⟩ := eqb_no (show o.k ≠ 3 by omega)
  obtain ⟨g4a, g4b, g4c⟩ := eqb_no (show o.k ≠ 4 by omega)
  obtain ⟨g5a, g5b⟩ := eqb_yes hk
  clear hs hS hp ho hk hsz hsz2
  unfold ndV opV
  go_enter Tryz.func39, Tryz.ntmps39
  go_wp2_with fail
  refine (ref23At_any n _ S _ _ o.place ⟨_, rfl, HS.out.below H0.out.bel⟩ (HP.out.below H0.out.bel) (by have := HSZ.out; omega) (fun b hb => Nat.lt_of_lt_of_le (HSS.out b hb) H0.out.bel.size)).mono ?_
  rintro e w2 ⟨hb, hcase⟩
  have H2 := Lib.hid (H0.out.below hb)
  clear hb
  cases hat : n.at_ o.place with
  | none =>
    rw [hat] at hcase
    have he : e = .returned (.tuple #[.agg #[.int .i64 0, .string ⟨#[]⟩, .string ⟨#[]⟩, .slice none 0 0], .bool false]) := hcase
    subst he
    have HR := Lib.hid (show oneP n o = (n, 21) by unfold oneP; rw [if_neg (by have := HK.out; omega), if_neg (by have := HK.out; omega), hat])
    clear hcase hat
    have hb4 : Below w2.heap.size w2 (w2.alloc (.cells #[.int .i64 0, .string ⟨#[]⟩, .string ⟨#[]⟩, .slice none 0 0] 24)) := (Below.refl _ _).alloc (Nat.le_refl _) _
    have H4 := Lib.hid (H2.out.below hb4)
    clear hb4
    obtain ⟨x0, x1, x2, x3, _, _, _, _, hxl⟩ := nd_cells H2.out.b0
    obtain ⟨p0, p1, p2, p3, p4, p5, p6, hpl⟩ := op_cells H2.out.b1
    obtain ⟨r0, r1, r2, r3, s0, s1, s2, s3, hrl⟩ := nd_cells H2.out.b2
    go_wp2_with fail
    obtain ⟨W, hW, hf, hpost⟩ := H2.out.finA HSS.out n ao cap ((HS.out.below H2.out.bel).to fun b h => .inl h) 21 (.cells #[.int .i64 0, .string ⟨#[]⟩, .string ⟨#[]⟩, .slice none 0 0] 24)
    rw [hW]
    obtain ⟨q0, q1, q2, q3, _, _, _, _, hql⟩ := nd_cells hf
    refine bodyPost_ret (v := .tuple #[.agg #[.int .i64 n.k, .string n.t, .string n.v, .slice ao n.kids.length cap], .int .i64 21]) (by simp [results, Tryz.results39, go_sem, q0, q1, q2, q3]) rfl ?_
    rw [HR.out]
    exact hpost
  | some x =>
    rw [hat] at hcase
    obtain ⟨xa, xc, he, hsx⟩ := hcase
    subst he
    have hone : oneP n o = (if x.k = 8 ∨ x.k = 10 ∨ x.k = 11 then (n.put o.place [.mk x.k o.t x.v x.kids], 0) else (n, 22)) := by unfold oneP; rw [if_neg (by have := HK.out; omega), if_neg (by have := HK.out; omega), hat]; simp only []; rw [if_neg (by have := HK.out; omega), if_neg (by have := HK.out; omega), if_neg (by have := HK.out; omega)]
    have HR := Lib.hid hone
    have HAT := Lib.hid hat
    have HXZ := Lib.hid (at_size hat)
    have hb4 : Below w2.heap.size w2 (w2.alloc (.cells #[.int .i64 x.k, .string x.t, .string x.v, .slice xa x.kids.length xc] 24)) := (Below.refl _ _).alloc (Nat.le_refl _) _
    have hx4 := heap_alloc_new w2 (.cells #[.int .i64 x.k, .string x.t, .string x.v, .slice xa x.kids.length xc] 24)
    have H4 := Lib.hid (H2.out.below hb4)
    have HX4 := Lib.hid hx4
    have HSX := Lib.hid (hsx.below hb4)
    have HSX2 := Lib.hid hsx
    have HB4 := Lib.hid hb4
    have HRL := Lib.hid (lt_blk H2.out.b2)
    clear hb4 hx4 hone hat hsx
    obtain ⟨x0, x1, x2, x3, _, _, _, _, hxl⟩ := nd_cells H2.out.b0
    obtain ⟨p0, p1, p2, p3, p4, p5, p6, hpl⟩ := op_cells H2.out.b1
    obtain ⟨r0, r1, r2, r3, s0, s1, s2, s3, hrl⟩ := nd_cells H2.out.b2
    obtain ⟨XK, hXK⟩ : ∃ XK, x.k = XK := ⟨_, rfl⟩
    have HXK := Lib.hid hXK
    by_cases hkk : XK = 8 ∨ XK = 10 ∨ XK = 11
    · have HR2 := HR
      clear HR
      have HR := Lib.hid (show oneP n o = (n.put o.place [.mk x.k o.t x.v x.kids], 0) by rw [HR2.out, HXK.out, if_pos hkk])
      clear HR2
      rw [hXK] at H4 HSX HX4 HB4 ⊢
      clear hXK
      have HKK := Lib.hid hkk
      rcases hkk with rfl | rfl | rfl
      · go_wp2_with fail
        have hb5 : Below w2.heap.size w2 ((w2.alloc (.cells #[.int .i64 8, .string o.t, .string x.v, .slice xa x.kids.length xc] 24)).alloc (.cells #[.int .i64 8, .string o.t, .string x.v, .slice xa x.kids.length xc] 24)) := ((Below.refl _ _).alloc (Nat.le_refl _) _).alloc (by simp) _
        have hr5 := two_last w2 (.cells #[.int .i64 8, .string o.t, .string x.v, .slice xa x.kids.length xc] 24) (.cells #[.int .i64 8, .string o.t, .string x.v, .slice xa x.kids.length xc] 24)
        have H5 := Lib.hid (H2.out.below hb5)
        refine (put_any o.place n _ (fun b => Gap S (w.heap.size + 3) b ∧ b < ((w2.alloc (.cells #[.int .i64 8, .string o.t, .string x.v, .slice xa x.kids.length xc] 24)).alloc (.cells #[.int .i64 8, .string o.t, .string x.v, .slice xa x.kids.length xc] 24)).heap.size) _ _ (.slice (some ⟨w2.heap.size + 1, 0, none⟩) 1 1) [.mk x.k o.t x.v x.kids] ⟨_, rfl, (HS.out.below H5.out.bel).toL⟩ (HP.out.below H5.out.bel) (one_row (by show _ = some (Obj.cells #[.int .i64 x.k, .string o.t, .string x.v, .slice xa x.kids.length xc] 24 (0, 0)); rw [HXK.out]; exact hr5) ⟨.inr (by have := HRL.out; omega), by simp⟩ ((HSX2.out.below hb5).toL)) (fun b hb => hb.2) (fun _ => by simp) HSZ.out (by simp)).mono ?_
        clear hb5 hr5
        rintro e w6 ⟨ra, rc, he, hsr, hb⟩
        obtain ⟨R, hR⟩ : ∃ R, n.put o.place [.mk x.k o.t x.v x.kids] = R := ⟨_, rfl⟩
        rw [hR] at he hsr
        subst he
        have H6 := Lib.hid (H5.out.below hb)
        have HSR := Lib.hid (hsr.fromL (M := w.heap.size + 3) (by have := HRL.out; simp; omega))
        have HRE := Lib.hid hR
        clear hb hsr hR x0 x1 x2 x3 hxl p0 p1 p2 p3 p4 p5 p6 hpl r0 r1 r2 r3 s0 s1 s2 s3 hrl
        obtain ⟨r0, r1, r2, r3, s0, s1, s2, s3, hrl⟩ := nd_cells H6.out.b2
        go_wp2_with fail
        obtain ⟨W, hW, hf, hpost⟩ := H6.out.fin HSS.out R ra rc HSR.out 0
        rw [hW]
        obtain ⟨q0, q1, q2, q3, _, _, _, _, hql⟩ := nd_cells hf
        refine bodyPost_ret (v := .tuple #[.agg #[.int .i64 R.k, .string R.t, .string R.v, .slice ra R.kids.length rc], .int .i64 0]) (by simp [results, Tryz.results39, go_sem, q0, q1, q2, q3]) rfl ?_
        rw [HR.out, HRE.out]
        exact hpost
      · go_wp2_with fail
        have hb5 : Below w2.heap.size w2 ((w2.alloc (.cells #[.int .i64 10, .string o.t, .string x.v, .slice xa x.kids.length xc] 24)).alloc (.cells #[.int .i64 10, .string o.t, .string x.v, .slice xa x.kids.length xc] 24)) := ((Below.refl _ _).alloc (Nat.le_refl _) _).alloc (by simp) _
        have hr5 := two_last w2 (.cells #[.int .i64 10, .string o.t, .string x.v, .slice xa x.kids.length xc] 24) (.cells #[.int .i64 10, .string o.t, .string x.v, .slice xa x.kids.length xc] 24)
        have H5 := Lib.hid (H2.out.below hb5)
        refine (put_any o.place n _ (fun b => Gap S (w.heap.size + 3) b ∧ b < ((w2.alloc (.cells #[.int .i64 10, .string o.t, .string x.v, .slice xa x.kids.length xc] 24)).alloc (.cells #[.int .i64 10, .string o.t, .string x.v, .slice xa x.kids.length xc] 24)).heap.size) _ _ (.slice (some ⟨w2.heap.size + 1, 0, none⟩) 1 1) [.mk x.k o.t x.v x.kids] ⟨_, rfl, (HS.out.below H5.out.bel).toL⟩ (HP.out.below H5.out.bel) (one_row (by show _ = some (Obj.cells #[.int .i64 x.k, .string o.t, .string x.v, .slice xa x.kids.length xc] 24 (0, 0)); rw [HXK.out]; exact hr5) ⟨.inr (by have := HRL.out; omega), by simp⟩ ((HSX2.out.below hb5).toL)) (fun b hb => hb.2) (fun _ => by simp) HSZ.out (by simp)).mono ?_
        clear hb5 hr5
        rintro e w6 ⟨ra, rc, he, hsr, hb⟩
        obtain ⟨R, hR⟩ : ∃ R, n.put o.place [.mk x.k o.t x.v x.kids] = R := ⟨_, rfl⟩
        rw [hR] at he hsr
        subst he
        have H6 := Lib.hid (H5.out.below hb)
        have HSR := Lib.hid (hsr.fromL (M := w.heap.size + 3) (by have := HRL.out; simp; omega))
        have HRE := Lib.hid hR
        clear hb hsr hR x0 x1 x2 x3 hxl p0 p1 p2 p3 p4 p5 p6 hpl r0 r1 r2 r3 s0 s1 s2 s3 hrl
        obtain ⟨r0, r1, r2, r3, s0, s1, s2, s3, hrl⟩ := nd_cells H6.out.b2
        go_wp2_with fail
        obtain ⟨W, hW, hf, hpost⟩ := H6.out.fin HSS.out R ra rc HSR.out 0
        rw [hW]
        obtain ⟨q0, q1, q2, q3, _, _, _, _, hql⟩ := nd_cells hf
        refine bodyPost_ret (v := .tuple #[.agg #[.int .i64 R.k, .string R.t, .string R.v, .slice ra R.kids.length rc], .int .i64 0]) (by simp [results, Tryz.results39, go_sem, q0, q1, q2, q3]) rfl ?_
        rw [HR.out, HRE.out]
        exact hpost
      · go_wp2_with fail
        have hb5 : Below w2.heap.size w2 ((w2.alloc (.cells #[.int .i64 11, .string o.t, .string x.v, .slice xa x.kids.length xc] 24)).alloc (.cells #[.int .i64 11, .string o.t, .string x.v, .slice xa x.kids.length xc] 24)) := ((Below.refl _ _).alloc (Nat.le_refl _) _).alloc (by simp) _
        have hr5 := two_last w2 (.cells #[.int .i64 11, .string o.t, .string x.v, .slice xa x.kids.length xc] 24) (.cells #[.int .i64 11, .string o.t, .string x.v, .slice xa x.kids.length xc] 24)
        have H5 := Lib.hid (H2.out.below hb5)
        refine (put_any o.place n _ (fun b => Gap S (w.heap.size + 3) b ∧ b < ((w2.alloc (.cells #[.int .i64 11, .string o.t, .string x.v, .slice xa x.kids.length xc] 24)).alloc (.cells #[.int .i64 11, .string o.t, .string x.v, .slice xa x.kids.length xc] 24)).heap.size) _ _ (.slice (some ⟨w2.heap.size + 1, 0, none⟩) 1 1) [.mk x.k o.t x.v x.kids] ⟨_, rfl, (HS.out.below H5.out.bel).toL⟩ (HP.out.below H5.out.bel) (one_row (by show _ = some (Obj.cells #[.int .i64 x.k, .string o.t, .string x.v, .slice xa x.kids.length xc] 24 (0, 0)); rw [HXK.out]; exact hr5) ⟨.inr (by have := HRL.out; omega), by simp⟩ ((HSX2.out.below hb5).toL)) (fun b hb => hb.2) (fun _ => by simp) HSZ.out (by simp)).mono ?_
        clear hb5 hr5
        rintro e w6 ⟨ra, rc, he, hsr, hb⟩
        obtain ⟨R, hR⟩ : ∃ R, n.put o.place [.mk x.k o.t x.v x.kids] = R := ⟨_, rfl⟩
        rw [hR] at he hsr
        subst he
        have H6 := Lib.hid (H5.out.below hb)
        have HSR := Lib.hid (hsr.fromL (M := w.heap.size + 3) (by have := HRL.out; simp; omega))
        have HRE := Lib.hid hR
        clear hb hsr hR x0 x1 x2 x3 hxl p0 p1 p2 p3 p4 p5 p6 hpl r0 r1 r2 r3 s0 s1 s2 s3 hrl
        obtain ⟨r0, r1, r2, r3, s0, s1, s2, s3, hrl⟩ := nd_cells H6.out.b2
        go_wp2_with fail
        obtain ⟨W, hW, hf, hpost⟩ := H6.out.fin HSS.out R ra rc HSR.out 0
        rw [hW]
        obtain ⟨q0, q1, q2, q3, _, _, _, _, hql⟩ := nd_cells hf
        refine bodyPost_ret (v := .tuple #[.agg #[.int .i64 R.k, .string R.t, .string R.v, .slice ra R.kids.length rc], .int .i64 0]) (by simp [results, Tryz.results39, go_sem, q0, q1, q2, q3]) rfl ?_
        rw [HR.out, HRE.out]
        exact hpost
    · have HR2 := HR
      clear HR
      have HR := Lib.hid (show oneP n o = (n, 22) by rw [HR2.out, HXK.out, if_neg hkk])
      have h1 : (XK != 8) = true := by simp; omega
      have h2 : (XK != 10) = true := by simp; omega
      have h3 : (XK != 11) = true := by simp; omega
      have h4 : ¬ XK = 8 := by omega
      have h5 : ¬ XK = 10 := by omega
      have h6 : ¬ XK = 11 := by omega
      rw [hXK] at H4 HSX HX4 HB4 ⊢
      clear HR2 hkk hXK
      go_wp2_with fail
      obtain ⟨W, hW, hf, hpost⟩ := H2.out.finA HSS.out n ao cap ((HS.out.below H2.out.bel).to fun b h => .inl h) 22 (.cells #[.int .i64 XK, .string x.t, .string x.v, .slice xa x.kids.length xc] 24)
      rw [hW]
      obtain ⟨q0, q1, q2, q3, _, _, _, _, hql⟩ := nd_cells hf
      refine bodyPost_ret (v := .tuple #[.agg #[.int .i64 n.k, .string n.t, .string n.v, .slice ao n.kids.length cap], .int .i64 22]) (by simp [results, Tryz.results39, go_sem, q0, q1, q2, q3]) rfl ?_
      rw [HR.out]
      exact hpost
end
end Go.Proofs.YtdaamiihldbekaaGreatDoor

/- The walk of the reference's one: something is added. -/
namespace Go.Proofs.YtdaamiihldbekaaGreatDoor
open Go.RowKit Ev5
set_option linter.unusedSimpArgs false
set_option linter.unusedVariables false

theorem SlIn.cutK {w : World} {S : Nat → Prop} {a : Option Addr} {n c : Nat} {ks : List Nd} (h : SlIn w S (.slice a n c) ks) (k : Nat) (hk : k ≤ ks.length) : SlIn w S (.slice a k c) (ks.take k) := by
  obtain ⟨a', c', e, h1, h2, h3⟩ := h
  injection e with e1 e2 e3
  subst e1; subst e3
  have hl : (ks.take k).length = k := by rw [List.length_take]; omega
  refine ⟨a, c, by rw [hl], by omega, h2, ?_⟩
  rcases h3 with rfl | ⟨b, o, e, hs, hb, hc⟩
  · left; simp
  · refine .inr ⟨b, o, e, hs, hb, kidsIn_iff.2 fun i hi => ?_⟩
    have := kidsIn_iff.1 hc i (by omega)
    rw [List.getElem_take]; exact this
theorem SlIn.dropK {w : World} {S : Nat → Prop} {b o n c : Nat} {ks : List Nd} (h : SlIn w S (.slice (some ⟨b, o, none⟩) n c) ks) (k : Nat) (hk : k ≤ ks.length) (a' : Option Addr) (ha : c = k ∨ a' = some ⟨b, o + k * 4, none⟩) : SlIn w S (.slice a' (n - k) (c - k)) (ks.drop k) := by
  obtain ⟨a2, c', e, h1, h2, h3⟩ := h
  injection e with e1 e2 e3
  subst e1; subst e3; subst e2
  have hl : (ks.drop k).length = ks.length - k := List.length_drop
  refine ⟨a', c - k, by rw [hl], by omega, by omega, ?_⟩
  rcases h3 with rfl | ⟨b2, o2, e, hs, hb, hc⟩
  · left; simp
  · injection e with e; injection e with e1 e2; subst e1; subst e2
    rcases ha with rfl | rfl
    · left; exact List.eq_nil_of_length_eq_zero (by omega)
    · refine .inr ⟨b, o + k * 4, rfl, hs, hb, kidsIn_iff.2 fun i hi => ?_⟩
      have := kidsIn_iff.1 hc (k + i) (by omega)
      rw [List.getElem_drop, show o + k * 4 + i * 4 = o + (k + i) * 4 by omega]; exact this
theorem SlIn.cut0 {w : World} {S : Nat → Prop} {u : Value} {ks : List Nd} (h : SlIn w S u ks) (he : ks = []) (a : Option Addr) (c : Nat) (_hc : 0 ≤ c) (hm : c ≤ 2 ^ 63 - 1) : SlIn w S (.slice a 0 c) [] := ⟨a, c, rfl, by simp, by unfold maxLen; exact hm, .inl rfl⟩
theorem OneS.grown {w wr w' : World} {n : Nd} {u : Value} {o : GoOp} {pv uo : Value} (h : OneS w wr n u o pv uo) {Y : Nat} (hg : wr.grownBy w' (some Y)) (hY : w.heap.size + 3 ≤ Y) : OneS w w' n u o pv uo :=
  ⟨(hg.block _ (lt_blk h.b0) (fun e => by injection e with e; omega)).trans h.b0, (hg.block _ (lt_blk h.b1) (fun e => by injection e with e; omega)).trans h.b1, (hg.block _ (lt_blk h.b2) (fun e => by injection e with e; omega)).trans h.b2, h.bel.grown hg h.bel.size (fun b hb => by injection hb; omega)⟩
theorem split_key {F P : World → Nat → Option Addr → Nat → Prop} {G : Prop} (main : (∀ W Y a c, F W Y a c → P W Y a c) → G) (key : ∀ W Y a c, F W Y a c → P W Y a c) : G := main key
theorem split_key2 {F P : World → Nat → Prop} {G : Prop} (main : (∀ W Y, F W Y → P W Y) → G) (key : ∀ W Y, F W Y → P W Y) : G := main key
/-- A row of the call's own as a slice: the nodes' kids' rows lie in S. -/
theorem owns_slIn {w : World} {base : Nat} {S : Nat → Prop} {v : Value} {ps : List (Nd × Value)} (h : w.ownsRow base 24 4 v ps.length (ndRow ps)) (hk : ∀ p ∈ ps, SlIn w S p.2 p.1.kids) : SlIn w (fun b => S b ∨ base ≤ b) v (ps.map (·.1)) := by
  rcases h.2 with ⟨rfl, h0⟩ | ⟨g, cap, cur, rfl, hb, hg, hc, hm, hs, ht⟩
  · obtain rfl : ps = [] := List.eq_nil_of_length_eq_zero h0
    exact ⟨none, 0, rfl, Nat.le_refl _, by decide, .inl rfl⟩
  · refine ⟨some ⟨g, 0, none⟩, cap, by rw [List.length_map], by rw [List.length_map]; exact hc, hm, .inr ⟨g, 0, rfl, .inr hb, lt_blk hg, ?_⟩⟩
    rw [kidsIn_iff]
    intro i hi
    have hi' : i < ps.length := by rw [List.length_map] at hi; exact hi
    obtain ⟨r0, r1, r2, r3⟩ := owns_cells (w := w) (base := 0) (g := g) (cap := cap) ht i hi'
    have cc : ∀ j u, cur[j]? = some u → w.cell? ⟨g, j, none⟩ = some u := fun j u hu => by rw [cell_of_row w g j _ _ _ hg]; exact hu
    rw [List.getElem_map, Nat.zero_add]
    exact ndAt_iff.2 ⟨cc _ _ r0, cc _ _ r1, cc _ _ r2, _, cc _ _ r3, (hk _ (List.getElem_mem hi')).to fun b h => .inl h⟩
/-- Three appends: what stood ahead, the new node, what stood behind. -/
theorem three_app (w : World) (S : Nat → Prop) (hS : ∀ b, S b → b < w.heap.size) (xa xb : Value) (la lb : List Nd) (x : Nd) (ux : Value) (ha : SlIn w S xa la) (hb : SlIn w S xb lb) (hx : SlIn w S ux x.kids) (hl : la.length + lb.length ≤ 200000) :
    ∃ v1 w1 v2 w2 v3 w3, (Builtin.append_ #[22, 22] 22 #[.slice none 0 0, xa]).run Tryz.prog w = .ok v1 w1 ∧
      (Builtin.append_ #[22, 22] 22 #[v1, .slice (some ⟨w1.heap.size, 0, none⟩) 1 1]).run Tryz.prog (w1.alloc (.cells #[.int .i64 x.k, .string x.t, .string x.v, ux] 24)) = .ok v2 w2 ∧
      (Builtin.append_ #[22, 22] 22 #[v2, xb]).run Tryz.prog w2 = .ok v3 w3 ∧
      SlIn w3 (fun b => S b ∨ w.heap.size ≤ b) v3 (la ++ x :: lb) ∧ Below w.heap.size w w1 ∧ Below w.heap.size w w2 ∧ Below w.heap.size w w3 := by
  obtain ⟨q1, v1, w1, m1, k1, r1, o1, g1, t1⟩ := append_nodes w w.heap.size (.slice none 0 0) [] (World.ownsRow_nil _ _ _ _) S xa la ha (by simp; omega) (Nat.le_refl _)
  have b1 : Below w.heap.size w w1 := (Below.refl _ _).grown g1 (Nat.le_refl _) (fun k hk => by simp [Value.ownBlock] at hk)
  simp only [List.length_nil, Nat.zero_add, ndRow, List.flatMap_nil, List.nil_append] at o1
  have hl1 : q1.length = la.length := by rw [← m1, List.length_map]
  obtain ⟨w1', hw1⟩ : ∃ w1', w1.alloc (.cells #[.int .i64 x.k, .string x.t, .string x.v, ux] 24) = w1' := ⟨_, rfl⟩
  have bz : Below w1.heap.size w1 w1' := by rw [← hw1]; exact (Below.refl _ _).alloc (Nat.le_refl _) _
  have hx1 : w1'.heap[w1.heap.size]? = some (.cells #[.int .i64 x.k, .string x.t, .string x.v, ux] 24 (0, 0)) := by rw [← hw1]; exact heap_alloc_new w1 _
  have b1' : Below w.heap.size w w1' := b1.trans (bz.mono b1.size)
  have al : ∀ {w' : World} {u : Value} {ks : List Nd}, Below w.heap.size w w' → SlIn w S u ks → SlIn w' S u ks := fun hb h => h.below hb
  obtain ⟨q2, v2, w2, m2, k2, r2, o2, g2, t2⟩ := append_nodes w1' w.heap.size v1 q1 (o1.kept (row := none) ⟨bz.os, bz.tape, bz.output, bz.size, fun k hk _ => bz.block k hk⟩ (by cases hv : v1.ownBlock <;> simp)) (fun b => S b ∨ b = w1.heap.size) (.slice (some ⟨w1.heap.size, 0, none⟩) 1 1) [x] (one_row hx1 (.inr rfl) ((al b1' hx).to fun b h => .inl h)) (by simp; omega) (by have := b1'.size; omega)
  have b2 : Below w.heap.size w w2 := b1'.grown g2 b1'.size (fun k hk => (o1.lt k hk).1)
  have hl2 : q2.length = 1 := by have := congrArg List.length m2; simpa using this
  rw [← ndRow_app, ← List.length_append] at o2
  obtain ⟨q3, v3, w3, m3, k3, r3, o3, g3, t3⟩ := append_nodes w2 w.heap.size v2 (q1 ++ q2) o2 S xb lb (al b2 hb) (by rw [List.length_append]; omega) (by have := b2.size; omega)
  have b3 : Below w.heap.size w w3 := b2.grown g3 b2.size (fun k hk => (o2.lt k hk).1)
  rw [← ndRow_app, ← List.length_append] at o3
  refine ⟨v1, w1, v2, w2, v3, w3, r1, by rw [hw1]; exact r2, r3, ?_, b1, b2, b3⟩
  have hs1' : w1'.heap.size = w1.heap.size + 1 := by rw [← hw1]; simp
  have ob1 : ∀ b, v1.ownBlock = some b → w.heap.size ≤ b ∧ b < w1.heap.size := fun b h => o1.lt b h
  have ob2 : ∀ b, v2.ownBlock = some b → w.heap.size ≤ b ∧ b ≠ w1.heap.size := fun b h => by
    refine ⟨(o2.lt b h).1, ?_⟩
    rcases t2 with e | e
    · have := ob1 b (by rw [← e]; exact h); omega
    · have := e b h; omega
  have hfin := owns_slIn (S := fun b => S b ∨ w.heap.size ≤ b) o3 fun p hp => by
    rcases List.mem_append.1 hp with hp | hp
    · rcases List.mem_append.1 hp with hp | hp
      · exact (al b3 (k1 p hp)).to fun b h => .inl h
      · have h1 : SlIn w2 (fun b => S b ∨ b = w1.heap.size) p.2 p.1.kids := (k2 p hp).alike ⟨g2.size, fun b hb hl => g2.block b hl (fun e => by have := ob1 b e.symm; rcases hb with hb | hb; have := hS b hb; omega; omega)⟩ fun b h _ => h
        have h2 : SlIn w3 (fun b => S b ∨ b = w1.heap.size) p.2 p.1.kids := h1.alike ⟨g3.size, fun b hb hl => g3.block b hl (fun e => by have := ob2 b e.symm; rcases hb with hb | hb; have := hS b hb; omega; omega)⟩ fun b h _ => h
        exact h2.to fun b h => h.imp id fun h => by have := b1.size; omega
    · exact ((k3 p hp).alike ⟨g3.size, fun b hb hl => g3.block b hl (fun e => by have := (o2.lt b e.symm).1; have := hS b hb; omega)⟩ fun b h _ => h).to fun b h => .inl h
  rw [List.map_append, List.map_append, m1, m2, m3] at hfin
  have hfin2 := hfin.to (S' := fun b => S b ∨ w.heap.size ≤ b) fun b h => by rcases h with h | h; exact h; exact .inr h
  simpa using hfin2
section
variable (S : Nat → Prop) (n : Nd) (o : GoOp) (w : World) (val pv uo : Value)
set_option maxRecDepth 100000 in
set_option maxHeartbeats 16000000 in
theorem refOne1n_any (hv : NdV w S val n) (hS : ∀ b, S b → b < w.heap.size) (hp : IntsIn w pv o.place) (ho : SlIn w S uo o.node.kids) (hk : o.k = 1) (hpe : o.place = []) : Calls Tryz.prog 39 #[val, opV o pv uo] w (OneRP S (oneP n o) w) := by
  obtain ⟨u, rfl, hs⟩ := hv
  obtain ⟨ao, cap, rfl, hcap, hcm⟩ := hs.shape
  obtain ⟨pa, pcap, rfl, hpc, hpm, _⟩ := hp.ex
  obtain ⟨na, nc, rfl, hnc, hnm⟩ := ho.shape
  have HR := Lib.hid (show oneP n o = (n, 21) by rw [one_add hk]; unfold withinP; rw [if_pos hpe])
  have hpl : o.place.length = 0 := by rw [hpe]; rfl
  rw [hpl]
  obtain ⟨g1, g2, g3, gb⟩ := three_allocs w (.cells #[.int .i64 n.k, .string n.t, .string n.v, .slice ao n.kids.length cap] 24) (.cells #[.int .i64 o.k, .slice pa 0 pcap, .int .i64 o.node.k, .string o.node.t, .string o.node.v, .slice na o.node.kids.length nc, .string o.t] 45) (.cells #[.int .i64 n.k, .string n.t, .string n.v, .slice ao n.kids.length cap] 24)
  have HG := Lib.hid (And.intro g3 gb); have HS := Lib.hid hs
  have f1 : ¬ o.k < 1 := by omega
  have f2 : ¬ 5 < o.k := by omega
  have f3 : decide (o.k < 1) = false := decide_eq_false f1
  have f4 : decide (5 < o.k) = false := decide_eq_false f2
  obtain ⟨f5, f6⟩ := eqb_yes hk
  clear hs hp ho g1 g2 g3 gb hpe hpl hk
  unfold ndV opV
  go_enter Tryz.func39, Tryz.ntmps39
  go_wp2_with fail
  obtain ⟨W, hW⟩ : ∃ W, (((w.alloc (.cells #[.int .i64 n.k, .string n.t, .string n.v, .slice ao n.kids.length cap] 24)).alloc (.cells #[.int .i64 o.k, .slice pa 0 pcap, .int .i64 o.node.k, .string o.node.t, .string o.node.v, .slice na o.node.kids.length nc, .string o.t] 45)).alloc (.cells #[.int .i64 n.k, .string n.t, .string n.v, .slice ao n.kids.length cap] 24)) = W := ⟨_, rfl⟩
  rw [hW] at HG
  rw [hW]
  obtain ⟨x0, x1, x2, x3, _, _, _, _, hxl⟩ := nd_cells HG.out.1
  refine bodyPost_ret (v := .tuple #[.agg #[.int .i64 n.k, .string n.t, .string n.v, .slice ao n.kids.length cap], .int .i64 21]) (by simp [results, Tryz.results39, go_sem, x0, x1, x2, x3]) rfl ?_
  rw [HR.out]
  exact ⟨ao, cap, rfl, (HS.out.below HG.out.2).to fun b h => .inl h, HG.out.2⟩

set_option maxRecDepth 100000 in
set_option maxHeartbeats 32000000 in
theorem refOne1_any (hv : NdV w S val n) (hS : ∀ b, S b → b < w.heap.size) (hp : IntsIn w pv o.place) (ho : SlIn w S uo o.node.kids) (hk : o.k = 1) (q : List Int) (p : Int) (hpl : o.place = q ++ [p]) (hsz : n.size ≤ 100000) (hsz2 : o.node.size ≤ 100000) : Calls Tryz.prog 39 #[val, opV o pv uo] w (OneRP S (oneP n o) w) := by
  obtain ⟨u, rfl, hs⟩ := hv
  obtain ⟨ao, cap, rfl, hcap, hcm⟩ := hs.shape
  obtain ⟨pa, pcap, rfl, hpc, hpm, hpcells⟩ := hp.ex
  obtain ⟨na, nc, rfl, hnc, hnm⟩ := ho.shape
  have hone : oneP n o = atP n q (inP p 1 (insK o.node)) := by rw [one_add hk]; unfold withinP; rw [if_neg (by rw [hpl]; simp), hpl, List.dropLast_concat]; simp
  have hln : o.place.length = q.length + 1 := by rw [hpl]; simp
  have hpq := hp.cut q.length (by rw [hln]; omega)
  rw [hpl, List.take_left] at hpq
  obtain ⟨pb, po, rfl, hpc0⟩ := hpcells q.length (by rw [hln]; omega)
  have hpp : o.place[q.length]'(by rw [hln]; omega) = p := by simp [hpl]
  rw [hpp] at hpc0
  have hwf := hp.ok p (by rw [hpl]; simp)
  have HONE := Lib.hid hone
  have H0 := Lib.hid (oneS_new w n (.slice ao n.kids.length cap) o (.slice (some ⟨pb, po, none⟩) o.place.length pcap) (.slice na o.node.kids.length nc))
  rw [hln] at H0 hpc ⊢
  have HS := Lib.hid hs; have HSS := Lib.hid hS; have HPQ := Lib.hid hpq; have HO := Lib.hid ho; have HSZ := Lib.hid hsz; have HSZ2 := Lib.hid hsz2; have HPC := Lib.hid hpc0; have HWF := Lib.hid hwf
  have f1 : ¬ o.k < 1 := by omega
  have f2 : ¬ 5 < o.k := by omega
  have f3 : decide (o.k < 1) = false := decide_eq_false f1
  have f4 : decide (5 < o.k) = false := decide_eq_false f2
  obtain ⟨f5, f6⟩ := eqb_yes hk
  have f7 : (q.length : Int) ≤ (pcap : Int) := by omega
  have f8 : q.length ≤ pcap := by omega
  have f9 : (q.length : Int) < (q.length : Int) + 1 := by omega
  unfold maxLen at hcm hpm hnm
  clear hs hS hp ho hk hpl hsz hsz2 hone hpcells hpq hpc0 hpp hwf hln
  unfold ndV opV
  go_enter Tryz.func39, Tryz.ntmps39
  go_upto_region 7 with (fail)
  obtain ⟨W3, hW3⟩ : ∃ W3, (((w.alloc (.cells #[.int .i64 n.k, .string n.t, .string n.v, .slice ao n.kids.length cap] 24)).alloc (.cells #[.int .i64 o.k, .slice (some ⟨pb, po, none⟩) (q.length + 1) pcap, .int .i64 o.node.k, .string o.node.t, .string o.node.v, .slice na o.node.kids.length nc, .string o.t] 45)).alloc (.cells #[.int .i64 0, .string ⟨#[]⟩, .string ⟨#[]⟩, .slice none 0 0] 24)) = W3 := ⟨_, rfl⟩
  rw [hW3] at H0
  rw [hW3]
  clear hW3
  have hbd : Below W3.heap.size W3 W3.drew := (Below.refl _ _).drew
  have hbz : Below W3.heap.size W3 (W3.alloc (.cells #[.int .i64 0, .string ⟨#[]⟩, .string ⟨#[]⟩, .slice none 0 0] 24)).drew := ((Below.refl _ _).alloc (Nat.le_refl _) _).drew
  have hz6 : (W3.alloc (.cells #[.int .i64 0, .string ⟨#[]⟩, .string ⟨#[]⟩, .slice none 0 0] 24)).drew.heap[W3.heap.size]? = some (.cells #[.int .i64 0, .string ⟨#[]⟩, .string ⟨#[]⟩, .slice none 0 0] 24 (0, 0)) := heap_alloc_new W3 _
  have HRL := Lib.hid (show w.heap.size + 3 ≤ W3.heap.size from lt_blk H0.out.b2)
  obtain ⟨x0, x1, x2, x3, _, _, _, _, hxl⟩ := nd_cells (H0.out.below hbd).b0
  obtain ⟨p0, p1, p2, p3, p4, p5, p6, hpl⟩ := op_cells (H0.out.below hbd).b1
  obtain ⟨x0', x1', x2', x3', _, _, _, _, hxl'⟩ := nd_cells (H0.out.below hbz).b0
  obtain ⟨p0', p1', p2', p3', p4', p5', p6', hpl'⟩ := op_cells (H0.out.below hbz).b1
  cases hat : n.at_ q with
  | none =>
    have HR := Lib.hid (show oneP n o = (n, 21) by rw [HONE.out, atP_none hat])
    have HAT := Lib.hid hat
    clear hat
    apply split_key2 (F := fun W Y => OneS w W n (.slice ao n.kids.length cap) o (.slice (some ⟨pb, po, none⟩) (q.length + 1) pcap) (.slice na o.node.kids.length nc) ∧ W.heap[Y]? = some (.cells #[.int .i64 0, .string ⟨#[]⟩, .string ⟨#[]⟩, .slice none 0 0] 24 (0, 0)) ∧ w.heap.size + 3 ≤ Y)
    case main =>
      intro key
      go_region_law ((go_simp; go_at_call 21; (first
      | (refine (ref23At_any n W3.drew S _ _ q ⟨_, rfl, HS.out.below (bthen H0.out.bel hbd)⟩ (HPQ.out.below (bthen H0.out.bel hbd)) (by have := HSZ.out; omega) (fun b hb => Nat.lt_of_lt_of_le (HSS.out b hb) (bthen H0.out.bel hbd).size)).mono ?_; rintro e w2 ⟨hb, he⟩; have hb8 : Below W3.heap.size W3 w2 := bthen hbd hb)
      | (refine (ref23At_any n (W3.alloc (.cells #[.int .i64 0, .string ⟨#[]⟩, .string ⟨#[]⟩, .slice none 0 0] 24)).drew S _ _ q ⟨_, rfl, HS.out.below (bthen H0.out.bel hbz)⟩ (HPQ.out.below (bthen H0.out.bel hbz)) (by have := HSZ.out; omega) (fun b hb => Nat.lt_of_lt_of_le (HSS.out b hb) (bthen H0.out.bel hbz).size)).mono ?_; rintro e w2 ⟨hb, he⟩; have hb8 : Below W3.heap.size W3 w2 := bthen hbz hb; have hz7 := (hb.block _ (lt_blk hz6)).trans hz6; obtain ⟨z0, z1, z2, z3, v0, v1, v2, v3, hzl⟩ := nd_cells hz7)); rw [HAT.out] at he; have he8 : e = .returned (.tuple #[.agg #[.int .i64 0, .string ⟨#[]⟩, .string ⟨#[]⟩, .slice none 0 0], .bool false]) := he; subst he8; clear he))
      all_goals
        first
        | (obtain ⟨hf, hgr⟩ := fill4 (.int .i64 0) (.string ⟨#[]⟩) (.string ⟨#[]⟩) (.slice none 0 0) hz7
           have hb9 := hb8.grown hgr hb8.size (fun b hb => by injection hb; omega)
           obtain ⟨W9, hW9⟩ : ∃ W9, ((((w2.setCell ⟨W3.heap.size, 0, none⟩ (.int .i64 0)).setCell ⟨W3.heap.size, 1, none⟩ (.string ⟨#[]⟩)).setCell ⟨W3.heap.size, 2, none⟩ (.string ⟨#[]⟩)).setCell ⟨W3.heap.size, 3, none⟩ (.slice none 0 0)) = W9 := ⟨_, rfl⟩
           obtain ⟨Y, hY⟩ : ∃ Y, W3.heap.size = Y := ⟨_, rfl⟩
           rw [hW9] at hf hgr hb9
           rw [hW9]
           skip
           rw [hY] at hf ⊢
           have hYl : w.heap.size + 3 ≤ Y := by have := HRL.out; omega
           exact key W9 Y ⟨H0.out.below hb9, hf, hYl⟩)
        | (have hb9 := hb8.alloc hb8.size (.cells #[.int .i64 0, .string ⟨#[]⟩, .string ⟨#[]⟩, .slice none 0 0] 24)
           have hf := heap_alloc_new w2 (.cells #[.int .i64 0, .string ⟨#[]⟩, .string ⟨#[]⟩, .slice none 0 0] 24)
           have hba : Below w2.heap.size w2 (w2.alloc (.cells #[.int .i64 0, .string ⟨#[]⟩, .string ⟨#[]⟩, .slice none 0 0] 24)) := (Below.refl _ _).alloc (Nat.le_refl _) _
           obtain ⟨W9, hW9⟩ : ∃ W9, w2.alloc (.cells #[.int .i64 0, .string ⟨#[]⟩, .string ⟨#[]⟩, .slice none 0 0] 24) = W9 := ⟨_, rfl⟩
           obtain ⟨Y, hY⟩ : ∃ Y, w2.heap.size = Y := ⟨_, rfl⟩
           rw [hW9] at hf hb9 hba
           rw [hW9]
           skip
           rw [hY] at hf ⊢
           have hYl : w.heap.size + 3 ≤ Y := by have := HRL.out; have := hb8.size; omega
           exact key W9 Y ⟨H0.out.below hb9, hf, hYl⟩)
    case key =>
      rintro W9 Y ⟨h9, hf, hYl⟩
      have H9 := Lib.hid h9
      have HY := Lib.hid hf
      have HYL := Lib.hid hYl
      clear x0 x1 x2 x3 hxl p0 p1 p2 p3 p4 p5 p6 hpl x0' x1' x2' x3' hxl' p0' p1' p2' p3' p4' p5' p6' hpl' hbd hbz hz6 hf hYl
      have hpc9 : W9.cell? ⟨pb, po + q.length, none⟩ = some (.int .i64 p) := by rw [H9.out.bel.cell (p := ⟨pb, po + q.length, none⟩) (cell_lt HPC.out)]; exact HPC.out
      have hpbl : pb < W9.heap.size := Nat.lt_of_lt_of_le (cell_lt HPC.out) H9.out.bel.size
      obtain ⟨x0, x1, x2, x3, _, _, _, _, hxl⟩ := nd_cells H9.out.b0
      obtain ⟨p0, p1, p2, p3, p4, p5, p6, hpl⟩ := op_cells H9.out.b1
      obtain ⟨y0, y1, y2, y3, y4, y5, y6, y7, hyl⟩ := nd_cells HY.out
      obtain ⟨r0, r1, r2, r3, s0, s1, s2, s3, hrl⟩ := nd_cells H9.out.b2
      go_wp2_with fail
      obtain ⟨W, hW, hf, hpost⟩ := H9.out.fin HSS.out n ao cap ((HS.out.below H9.out.bel).to fun b h => .inl h) 21
      rw [hW]
      obtain ⟨z0, z1, z2, z3, _, _, _, _, hzl⟩ := nd_cells hf
      refine bodyPost_ret (v := .tuple #[.agg #[.int .i64 n.k, .string n.t, .string n.v, .slice ao n.kids.length cap], .int .i64 21]) (by simp [results, Tryz.results39, go_sem, z0, z1, z2, z3]) rfl ?_
      rw [HR.out]
      exact hpost
  | some up =>
    have HAT := Lib.hid hat
    have HUZ := Lib.hid (at_size hat)
    have hone2 : oneP n o = if (inP p 1 (insK o.node) up).2 = 0 then (n.put q [(inP p 1 (insK o.node) up).1], 0) else (n, (inP p 1 (insK o.node) up).2) := by rw [HONE.out, atP_some hat]
    have HONE2 := Lib.hid hone2
    clear hat hone2
    apply split_key (F := fun W Y ya yc => OneS w W n (.slice ao n.kids.length cap) o (.slice (some ⟨pb, po, none⟩) (q.length + 1) pcap) (.slice na o.node.kids.length nc) ∧ W.heap[Y]? = some (.cells #[.int .i64 up.k, .string up.t, .string up.v, .slice ya up.kids.length yc] 24 (0, 0)) ∧ w.heap.size + 3 ≤ Y ∧ SlIn W S (.slice ya up.kids.length yc) up.kids)
    case main =>
      intro key
      go_region_law ((go_simp; go_at_call 21; (first
      | (refine (ref23At_any n W3.drew S _ _ q ⟨_, rfl, HS.out.below (bthen H0.out.bel hbd)⟩ (HPQ.out.below (bthen H0.out.bel hbd)) (by have := HSZ.out; omega) (fun b hb => Nat.lt_of_lt_of_le (HSS.out b hb) (bthen H0.out.bel hbd).size)).mono ?_; rintro e w2 ⟨hb, hcase⟩; have hb8 : Below W3.heap.size W3 w2 := bthen hbd hb)
      | (refine (ref23At_any n (W3.alloc (.cells #[.int .i64 0, .string ⟨#[]⟩, .string ⟨#[]⟩, .slice none 0 0] 24)).drew S _ _ q ⟨_, rfl, HS.out.below (bthen H0.out.bel hbz)⟩ (HPQ.out.below (bthen H0.out.bel hbz)) (by have := HSZ.out; omega) (fun b hb => Nat.lt_of_lt_of_le (HSS.out b hb) (bthen H0.out.bel hbz).size)).mono ?_; rintro e w2 ⟨hb, hcase⟩; have hb8 : Below W3.heap.size W3 w2 := bthen hbz hb; have hz7 := (hb.block _ (lt_blk hz6)).trans hz6; obtain ⟨z0, z1, z2, z3, v0, v1, v2, v3, hzl⟩ := nd_cells hz7)); rw [HAT.out] at hcase; obtain ⟨ya, yc, he, hsy⟩ := hcase; subst he))
      all_goals
        first
        | (obtain ⟨hf, hgr⟩ := fill4 (.int .i64 up.k) (.string up.t) (.string up.v) (.slice ya up.kids.length yc) hz7
           have hb9 := hb8.grown hgr hb8.size (fun b hb => by injection hb; omega)
           obtain ⟨W9, hW9⟩ : ∃ W9, ((((w2.setCell ⟨W3.heap.size, 0, none⟩ (.int .i64 up.k)).setCell ⟨W3.heap.size, 1, none⟩ (.string up.t)).setCell ⟨W3.heap.size, 2, none⟩ (.string up.v)).setCell ⟨W3.heap.size, 3, none⟩ (.slice ya up.kids.length yc)) = W9 := ⟨_, rfl⟩
           obtain ⟨Y, hY⟩ : ∃ Y, W3.heap.size = Y := ⟨_, rfl⟩
           rw [hW9] at hf hgr hb9
           rw [hW9]
           have hsy9 : SlIn W9 S (.slice ya up.kids.length yc) up.kids := hsy.alike ⟨hgr.size, fun b hb hl => hgr.block b hl (fun e => by injection e with e; have := HSS.out b hb; have := HRL.out; omega)⟩ fun b h _ => h
           rw [hY] at hf ⊢
           have hYl : w.heap.size + 3 ≤ Y := by have := HRL.out; omega
           exact key W9 Y ya yc ⟨H0.out.below hb9, hf, hYl, hsy9⟩)
        | (have hb9 := hb8.alloc hb8.size (.cells #[.int .i64 up.k, .string up.t, .string up.v, .slice ya up.kids.length yc] 24)
           have hf := heap_alloc_new w2 (.cells #[.int .i64 up.k, .string up.t, .string up.v, .slice ya up.kids.length yc] 24)
           have hba : Below w2.heap.size w2 (w2.alloc (.cells #[.int .i64 up.k, .string up.t, .string up.v, .slice ya up.kids.length yc] 24)) := (Below.refl _ _).alloc (Nat.le_refl _) _
           obtain ⟨W9, hW9⟩ : ∃ W9, w2.alloc (.cells #[.int .i64 up.k, .string up.t, .string up.v, .slice ya up.kids.length yc] 24) = W9 := ⟨_, rfl⟩
           obtain ⟨Y, hY⟩ : ∃ Y, w2.heap.size = Y := ⟨_, rfl⟩
           rw [hW9] at hf hb9 hba
           rw [hW9]
           have hsy9 := hsy.below hba
           rw [hY] at hf ⊢
           have hYl : w.heap.size + 3 ≤ Y := by have := HRL.out; have := hb8.size; omega
           exact key W9 Y ya yc ⟨H0.out.below hb9, hf, hYl, hsy9⟩)
    case key =>
      rintro W9 Y ya yc ⟨h9, hf, hYl, hsy⟩
      have H9 := Lib.hid h9
      have HY := Lib.hid hf
      have HYL := Lib.hid hYl
      clear x0 x1 x2 x3 hxl p0 p1 p2 p3 p4 p5 p6 hpl x0' x1' x2' x3' hxl' p0' p1' p2' p3' p4' p5' p6' hpl' hbd hbz hz6 hf hYl
      have hpc9 : W9.cell? ⟨pb, po + q.length, none⟩ = some (.int .i64 p) := by rw [H9.out.bel.cell (p := ⟨pb, po + q.length, none⟩) (cell_lt HPC.out)]; exact HPC.out
      have hpbl : pb < W9.heap.size := Nat.lt_of_lt_of_le (cell_lt HPC.out) H9.out.bel.size
      obtain ⟨x0, x1, x2, x3, _, _, _, _, hxl⟩ := nd_cells H9.out.b0
      obtain ⟨p0, p1, p2, p3, p4, p5, p6, hpl⟩ := op_cells H9.out.b1
      obtain ⟨y0, y1, y2, y3, y4, y5, y6, y7, hyl⟩ := nd_cells HY.out
      have HSY := Lib.hid hsy
      clear hsy
      obtain ⟨hyc, hym⟩ : up.kids.length ≤ yc ∧ yc ≤ maxLen := by obtain ⟨a2, c2, e2, h1, h2⟩ := HSY.out.shape; injection e2 with _ _ e3; subst e3; exact ⟨h1, h2⟩
      unfold maxLen at hym
      have hul : up.kids.length ≤ 100000 := by have := kids_size up; have := sizes_len up.kids; have := HUZ.out; have := HSZ.out; omega
      by_cases hneg : p < 0
      · have hnb : decide (p < 0) = true := decide_eq_true hneg
        have HR := Lib.hid (show oneP n o = (n, 21) by rw [HONE2.out, inP_no (by omega)]; rfl)
        obtain ⟨r0, r1, r2, r3, s0, s1, s2, s3, hrl⟩ := nd_cells H9.out.b2
        go_wp2_with fail
        obtain ⟨W, hW, hf, hpost⟩ := H9.out.fin HSS.out n ao cap ((HS.out.below H9.out.bel).to fun b h => .inl h) 21
        rw [hW]
        obtain ⟨z0, z1, z2, z3, _, _, _, _, hzl⟩ := nd_cells hf
        refine bodyPost_ret (v := .tuple #[.agg #[.int .i64 n.k, .string n.t, .string n.v, .slice ao n.kids.length cap], .int .i64 21]) (by simp [results, Tryz.results39, go_sem, z0, z1, z2, z3]) rfl ?_
        rw [HR.out]
        exact hpost
      · have hnb : decide (p < 0) = false := decide_eq_false hneg
        by_cases hge : (up.kids.length : Int) < p
        · have hgd : decide ((up.kids.length : Int) < p) = true := decide_eq_true hge
          have HR := Lib.hid (show oneP n o = (n, 21) by rw [HONE2.out, inP_no (by omega)]; rfl)
          obtain ⟨r0, r1, r2, r3, s0, s1, s2, s3, hrl⟩ := nd_cells H9.out.b2
          go_wp2_with fail
          obtain ⟨W, hW, hf, hpost⟩ := H9.out.fin HSS.out n ao cap ((HS.out.below H9.out.bel).to fun b h => .inl h) 21
          rw [hW]
          obtain ⟨z0, z1, z2, z3, _, _, _, _, hzl⟩ := nd_cells hf
          refine bodyPost_ret (v := .tuple #[.agg #[.int .i64 n.k, .string n.t, .string n.v, .slice ao n.kids.length cap], .int .i64 21]) (by simp [results, Tryz.results39, go_sem, z0, z1, z2, z3]) rfl ?_
          rw [HR.out]
          exact hpost
        · obtain ⟨i, rfl⟩ : ∃ i : Nat, p = i := ⟨p.toNat, by omega⟩
          have hil : i ≤ up.kids.length := by omega
          have HR := Lib.hid (show oneP n o = (n.put q [.mk up.k up.t up.v (up.kids.take i ++ o.node :: up.kids.drop i)], 0) by rw [HONE2.out, inP_yes (by omega)]; rfl)
          have hgd : decide ((up.kids.length : Int) < (i : Int)) = false := decide_eq_false (by omega)
          have hilI : (i : Int) ≤ (up.kids.length : Int) := by omega
          have hiyI : (i : Int) ≤ (yc : Int) := by omega
          have hiy : i ≤ yc := by omega
          have hSW : ∀ b, S b → b < W9.heap.size := fun b hb => Nat.lt_of_lt_of_le (HSS.out b hb) H9.out.bel.size
          by_cases hek : up.kids = []
          · have hi0 : i = 0 := by rw [hek] at hil; simpa using hil
            subst hi0
            have hl0 : up.kids.length = 0 := by rw [hek]; rfl
            have HEK := Lib.hid hek
            rw [hl0] at hil hge hgd hilI hyc HSY HY y3
            try rw [hl0]
            have HR2 := HR
            clear HR
            have HR := Lib.hid (show oneP n o = (n.put q [.mk up.k up.t up.v ([] ++ o.node :: [])], 0) by rw [HR2.out, HEK.out]; simp)
            clear hek HR2
            cases ya with
            | none =>
              obtain ⟨v1, w1, v2, w2', v3, w3, hr1, hr2, hr3, hsl3, hb1, hb2, hb3⟩ := three_app W9 S hSW _ _ _ _ o.node (.slice na o.node.kids.length nc) (HSY.out.cut0 HEK.out none yc (by omega) hym) (HSY.out.cut0 HEK.out none yc (by omega) hym) (HO.out.below H9.out.bel) (by simp only [List.length_take, List.length_drop, List.length_nil]; omega)
              obtain ⟨KS, hKS⟩ : ∃ KS, [] ++ o.node :: [] = KS := ⟨_, rfl⟩
              rw [hKS] at hsl3 HR
              obtain ⟨va, vc, rfl, _, _⟩ := hsl3.shape
              have HR1 := Lib.hid hr1; have HR2 := Lib.hid hr2; have HR3 := Lib.hid hr3; have HSL3 := Lib.hid hsl3; have HB3 := Lib.hid hb3
              obtain ⟨e0, e1, e2, e3, e4, e5, e6, hel⟩ := op_cells (H9.out.below hb1).b1
              obtain ⟨_, _, _, k3, _, _, _, _, hkl⟩ := nd_cells ((hb2.block _ hyl).trans HY.out)
              have HY3 := Lib.hid ((hb3.block _ hyl).trans HY.out)
              obtain ⟨m0, m1, m2, m3, m4, m5, m6, m7, hml⟩ := nd_cells HY3.out
              clear hr1 hr2 hr3 hsl3 hb1 hb2 hb3 hKS
              go_upto_region 16 with (first
                | (at_builtin; refine Lib.wpList_append_run _ rfl _ _ _ _ rfl _ _ rfl rfl _ _ HR1.out ?_)
                | (at_builtin; refine Lib.wpList_append_run _ rfl _ _ _ _ rfl _ _ rfl rfl _ _ HR2.out ?_)
                | (at_builtin; refine Lib.wpList_append_run _ rfl _ _ _ _ rfl _ _ rfl rfl _ _ HR3.out ?_))
              have hg15 := grown_set w3 Y 3 (.slice va KS.length vc)
              have hY15 := heap_set4 (u := .slice va KS.length vc) HY3.out
              obtain ⟨W15, hW15⟩ : ∃ W15, w3.setCell ⟨Y, 3, none⟩ (.slice va KS.length vc) = W15 := ⟨_, rfl⟩
              rw [hW15] at hg15 hY15
              rw [hW15]
              have HRL9 := Lib.hid (show w.heap.size + 3 ≤ Y ∧ Y < W9.heap.size ∧ W9.heap.size ≤ W15.heap.size from ⟨HYL.out, hyl, Nat.le_trans HB3.out.size hg15.size⟩)
              have H15 := Lib.hid ((H9.out.below HB3.out).grown hg15 HYL.out)
              have HS15 := Lib.hid (show SlIn W15 (Gap S (w.heap.size + 3)) (.slice va KS.length vc) KS from HSL3.out.alike ⟨hg15.size, fun b hb hl => hg15.block b hl (fun e => by injection e with e; rcases hb with hb | hb; have := HSS.out b hb; have := HYL.out; omega; omega)⟩ fun b hb _ => hb.imp id fun h => by have := HYL.out; omega)
              have HN16 := Lib.hid (heap_alloc_new W15 (.cells #[.int .i64 up.k, .string up.t, .string up.v, .slice va KS.length vc] 24))
              have HB16 := Lib.hid (show Below W15.heap.size W15 (W15.alloc (.cells #[.int .i64 up.k, .string up.t, .string up.v, .slice va KS.length vc] 24)).drew from ((Below.refl _ _).alloc (Nat.le_refl _) _).drew)
              clear hW15 hg15 HSY HB3 HR1 HR2 HR3 HSL3 HY3 HY e0 e1 e2 e3 e4 e5 e6 hel k3 hkl m0 m1 m2 m3 m4 m5 m6 m7 hml x0 x1 x2 x3 hxl p0 p1 p2 p3 p4 p5 p6 hpl y0 y1 y2 y3 y4 y5 y6 y7 hyl hpc9 hpbl
              obtain ⟨x0, x1, x2, x3, _, _, _, _, hxl⟩ := nd_cells H15.out.b0
              obtain ⟨p0, p1, p2, p3, p4, p5, p6, hpl⟩ := op_cells H15.out.b1
              obtain ⟨y0, y1, y2, y3, _, _, _, _, hyl⟩ := nd_cells hY15
              clear hY15
              have x0' : W15.drew.cell? ⟨w.heap.size, 0, none⟩ = _ := x0
              have x1' : W15.drew.cell? ⟨w.heap.size, 1, none⟩ = _ := x1
              have x2' : W15.drew.cell? ⟨w.heap.size, 2, none⟩ = _ := x2
              have x3' : W15.drew.cell? ⟨w.heap.size, 3, none⟩ = _ := x3
              have p1' : W15.drew.cell? ⟨w.heap.size + 1, 1, none⟩ = _ := p1
              have y0' : W15.drew.cell? ⟨Y, 0, none⟩ = _ := y0
              have y1' : W15.drew.cell? ⟨Y, 1, none⟩ = _ := y1
              have y2' : W15.drew.cell? ⟨Y, 2, none⟩ = _ := y2
              have y3' : W15.drew.cell? ⟨Y, 3, none⟩ = _ := y3
              go_region_law ((go_simp; go_at_call 22; refine (put_any q n (W15.alloc (.cells #[.int .i64 up.k, .string up.t, .string up.v, .slice va KS.length vc] 24)).drew (fun b => Gap S (w.heap.size + 3) b ∧ b < (W15.alloc (.cells #[.int .i64 up.k, .string up.t, .string up.v, .slice va KS.length vc] 24)).drew.heap.size) _ _ _ [.mk up.k up.t up.v KS] ⟨_, rfl, (HS.out.below (bthen H15.out.bel HB16.out)).toL⟩ (HPQ.out.below (bthen H15.out.bel HB16.out)) (one_row (x := .mk up.k up.t up.v KS) HN16.out ⟨.inr (by have := HRL9.out; omega), by show W15.heap.size < _; simp⟩ ((HS15.out.below HB16.out).lt2)) (fun b hb => hb.2) (fun _ => by simp) HSZ.out (by simp)).mono ?_; rintro e w6 ⟨ra, rc, he, hsr, hb⟩; obtain ⟨R, hRR⟩ : ∃ R, n.put q [.mk up.k up.t up.v KS] = R := ⟨_, rfl⟩; rw [hRR] at he hsr; subst he; have H6 := Lib.hid ((H15.out.below HB16.out).below hb); have HSR := Lib.hid (hsr.fromL (M := w.heap.size + 3) (Nat.le_trans (by have := HRL9.out; omega) HB16.out.size)); obtain ⟨r0, r1, r2, r3, s0, s1, s2, s3, hrl⟩ := nd_cells H6.out.b2))
              all_goals
                go_wp2_with fail
                obtain ⟨W, hW, hf, hpost⟩ := H6.out.fin HSS.out R ra rc HSR.out 0
                rw [hW]
                obtain ⟨z0, z1, z2, z3, _, _, _, _, hzl⟩ := nd_cells hf
                refine bodyPost_ret (v := .tuple #[.agg #[.int .i64 R.k, .string R.t, .string R.v, .slice ra R.kids.length rc], .int .i64 0]) (by simp [results, Tryz.results39, go_sem, z0, z1, z2, z3]) rfl ?_
                rw [HR.out, hRR]
                exact hpost
            | some a4 =>
              obtain ⟨v1, w1, v2, w2', v3, w3, hr1, hr2, hr3, hsl3, hb1, hb2, hb3⟩ := three_app W9 S hSW _ _ _ _ o.node (.slice na o.node.kids.length nc) (HSY.out.cut0 HEK.out (some a4) yc (by omega) hym) (HSY.out.cut0 HEK.out (some a4) yc (by omega) hym) (HO.out.below H9.out.bel) (by simp only [List.length_take, List.length_drop, List.length_nil]; omega)
              obtain ⟨KS, hKS⟩ : ∃ KS, [] ++ o.node :: [] = KS := ⟨_, rfl⟩
              rw [hKS] at hsl3 HR
              obtain ⟨va, vc, rfl, _, _⟩ := hsl3.shape
              have HR1 := Lib.hid hr1; have HR2 := Lib.hid hr2; have HR3 := Lib.hid hr3; have HSL3 := Lib.hid hsl3; have HB3 := Lib.hid hb3
              obtain ⟨e0, e1, e2, e3, e4, e5, e6, hel⟩ := op_cells (H9.out.below hb1).b1
              obtain ⟨_, _, _, k3, _, _, _, _, hkl⟩ := nd_cells ((hb2.block _ hyl).trans HY.out)
              have HY3 := Lib.hid ((hb3.block _ hyl).trans HY.out)
              obtain ⟨m0, m1, m2, m3, m4, m5, m6, m7, hml⟩ := nd_cells HY3.out
              clear hr1 hr2 hr3 hsl3 hb1 hb2 hb3 hKS
              go_upto_region 16 with (first
                | (at_builtin; refine Lib.wpList_append_run _ rfl _ _ _ _ rfl _ _ rfl rfl _ _ HR1.out ?_)
                | (at_builtin; refine Lib.wpList_append_run _ rfl _ _ _ _ rfl _ _ rfl rfl _ _ HR2.out ?_)
                | (at_builtin; refine Lib.wpList_append_run _ rfl _ _ _ _ rfl _ _ rfl rfl _ _ HR3.out ?_))
              have hg15 := grown_set w3 Y 3 (.slice va KS.length vc)
              have hY15 := heap_set4 (u := .slice va KS.length vc) HY3.out
              obtain ⟨W15, hW15⟩ : ∃ W15, w3.setCell ⟨Y, 3, none⟩ (.slice va KS.length vc) = W15 := ⟨_, rfl⟩
              rw [hW15] at hg15 hY15
              rw [hW15]
              have HRL9 := Lib.hid (show w.heap.size + 3 ≤ Y ∧ Y < W9.heap.size ∧ W9.heap.size ≤ W15.heap.size from ⟨HYL.out, hyl, Nat.le_trans HB3.out.size hg15.size⟩)
              have H15 := Lib.hid ((H9.out.below HB3.out).grown hg15 HYL.out)
              have HS15 := Lib.hid (show SlIn W15 (Gap S (w.heap.size + 3)) (.slice va KS.length vc) KS from HSL3.out.alike ⟨hg15.size, fun b hb hl => hg15.block b hl (fun e => by injection e with e; rcases hb with hb | hb; have := HSS.out b hb; have := HYL.out; omega; omega)⟩ fun b hb _ => hb.imp id fun h => by have := HYL.out; omega)
              have HN16 := Lib.hid (heap_alloc_new W15 (.cells #[.int .i64 up.k, .string up.t, .string up.v, .slice va KS.length vc] 24))
              have HB16 := Lib.hid (show Below W15.heap.size W15 (W15.alloc (.cells #[.int .i64 up.k, .string up.t, .string up.v, .slice va KS.length vc] 24)).drew from ((Below.refl _ _).alloc (Nat.le_refl _) _).drew)
              clear hW15 hg15 HSY HB3 HR1 HR2 HR3 HSL3 HY3 HY e0 e1 e2 e3 e4 e5 e6 hel k3 hkl m0 m1 m2 m3 m4 m5 m6 m7 hml x0 x1 x2 x3 hxl p0 p1 p2 p3 p4 p5 p6 hpl y0 y1 y2 y3 y4 y5 y6 y7 hyl hpc9 hpbl
              obtain ⟨x0, x1, x2, x3, _, _, _, _, hxl⟩ := nd_cells H15.out.b0
              obtain ⟨p0, p1, p2, p3, p4, p5, p6, hpl⟩ := op_cells H15.out.b1
              obtain ⟨y0, y1, y2, y3, _, _, _, _, hyl⟩ := nd_cells hY15
              clear hY15
              have x0' : W15.drew.cell? ⟨w.heap.size, 0, none⟩ = _ := x0
              have x1' : W15.drew.cell? ⟨w.heap.size, 1, none⟩ = _ := x1
              have x2' : W15.drew.cell? ⟨w.heap.size, 2, none⟩ = _ := x2
              have x3' : W15.drew.cell? ⟨w.heap.size, 3, none⟩ = _ := x3
              have p1' : W15.drew.cell? ⟨w.heap.size + 1, 1, none⟩ = _ := p1
              have y0' : W15.drew.cell? ⟨Y, 0, none⟩ = _ := y0
              have y1' : W15.drew.cell? ⟨Y, 1, none⟩ = _ := y1
              have y2' : W15.drew.cell? ⟨Y, 2, none⟩ = _ := y2
              have y3' : W15.drew.cell? ⟨Y, 3, none⟩ = _ := y3
              go_region_law ((go_simp; go_at_call 22; refine (put_any q n (W15.alloc (.cells #[.int .i64 up.k, .string up.t, .string up.v, .slice va KS.length vc] 24)).drew (fun b => Gap S (w.heap.size + 3) b ∧ b < (W15.alloc (.cells #[.int .i64 up.k, .string up.t, .string up.v, .slice va KS.length vc] 24)).drew.heap.size) _ _ _ [.mk up.k up.t up.v KS] ⟨_, rfl, (HS.out.below (bthen H15.out.bel HB16.out)).toL⟩ (HPQ.out.below (bthen H15.out.bel HB16.out)) (one_row (x := .mk up.k up.t up.v KS) HN16.out ⟨.inr (by have := HRL9.out; omega), by show W15.heap.size < _; simp⟩ ((HS15.out.below HB16.out).lt2)) (fun b hb => hb.2) (fun _ => by simp) HSZ.out (by simp)).mono ?_; rintro e w6 ⟨ra, rc, he, hsr, hb⟩; obtain ⟨R, hRR⟩ : ∃ R, n.put q [.mk up.k up.t up.v KS] = R := ⟨_, rfl⟩; rw [hRR] at he hsr; subst he; have H6 := Lib.hid ((H15.out.below HB16.out).below hb); have HSR := Lib.hid (hsr.fromL (M := w.heap.size + 3) (Nat.le_trans (by have := HRL9.out; omega) HB16.out.size)); obtain ⟨r0, r1, r2, r3, s0, s1, s2, s3, hrl⟩ := nd_cells H6.out.b2))
              all_goals
                go_wp2_with fail
                obtain ⟨W, hW, hf, hpost⟩ := H6.out.fin HSS.out R ra rc HSR.out 0
                rw [hW]
                obtain ⟨z0, z1, z2, z3, _, _, _, _, hzl⟩ := nd_cells hf
                refine bodyPost_ret (v := .tuple #[.agg #[.int .i64 R.k, .string R.t, .string R.v, .slice ra R.kids.length rc], .int .i64 0]) (by simp [results, Tryz.results39, go_sem, z0, z1, z2, z3]) rfl ?_
                rw [HR.out, hRR]
                exact hpost
          · obtain ⟨b4, o4, rfl⟩ : ∃ b4 o4, ya = some ⟨b4, o4, none⟩ := by
              obtain ⟨a2, c2, e2, _, _, h3⟩ := HSY.out
              injection e2 with e3 e4 e5
              rcases h3 with h3 | ⟨b4, o4, e6, _⟩
              · exact absurd h3 hek
              · exact ⟨b4, o4, e3.trans e6⟩
            clear hek
            by_cases hyi : yc = i
            · subst hyi
              have HYC := Lib.hid hyc
              clear hyc
              obtain ⟨v1, w1, v2, w2', v3, w3, hr1, hr2, hr3, hsl3, hb1, hb2, hb3⟩ := three_app W9 S hSW _ _ _ _ o.node (.slice na o.node.kids.length nc) (HSY.out.cutK yc hil) (HSY.out.dropK yc hil (some ⟨b4, o4, none⟩) (.inl rfl)) (HO.out.below H9.out.bel) (by simp only [List.length_take, List.length_drop, List.length_nil]; omega)
              obtain ⟨KS, hKS⟩ : ∃ KS, up.kids.take yc ++ o.node :: up.kids.drop yc = KS := ⟨_, rfl⟩
              rw [hKS] at hsl3 HR
              obtain ⟨va, vc, rfl, _, _⟩ := hsl3.shape
              have HR1 := Lib.hid hr1; have HR2 := Lib.hid hr2; have HR3 := Lib.hid hr3; have HSL3 := Lib.hid hsl3; have HB3 := Lib.hid hb3
              obtain ⟨e0, e1, e2, e3, e4, e5, e6, hel⟩ := op_cells (H9.out.below hb1).b1
              obtain ⟨_, _, _, k3, _, _, _, _, hkl⟩ := nd_cells ((hb2.block _ hyl).trans HY.out)
              have HY3 := Lib.hid ((hb3.block _ hyl).trans HY.out)
              obtain ⟨m0, m1, m2, m3, m4, m5, m6, m7, hml⟩ := nd_cells HY3.out
              clear hr1 hr2 hr3 hsl3 hb1 hb2 hb3 hKS
              go_upto_region 16 with (first
                | (at_builtin; refine Lib.wpList_append_run _ rfl _ _ _ _ rfl _ _ rfl rfl _ _ HR1.out ?_)
                | (at_builtin; refine Lib.wpList_append_run _ rfl _ _ _ _ rfl _ _ rfl rfl _ _ HR2.out ?_)
                | (at_builtin; refine Lib.wpList_append_run _ rfl _ _ _ _ rfl _ _ rfl rfl _ _ HR3.out ?_))
              have hg15 := grown_set w3 Y 3 (.slice va KS.length vc)
              have hY15 := heap_set4 (u := .slice va KS.length vc) HY3.out
              obtain ⟨W15, hW15⟩ : ∃ W15, w3.setCell ⟨Y, 3, none⟩ (.slice va KS.length vc) = W15 := ⟨_, rfl⟩
              rw [hW15] at hg15 hY15
              rw [hW15]
              have HRL9 := Lib.hid (show w.heap.size + 3 ≤ Y ∧ Y < W9.heap.size ∧ W9.heap.size ≤ W15.heap.size from ⟨HYL.out, hyl, Nat.le_trans HB3.out.size hg15.size⟩)
              have H15 := Lib.hid ((H9.out.below HB3.out).grown hg15 HYL.out)
              have HS15 := Lib.hid (show SlIn W15 (Gap S (w.heap.size + 3)) (.slice va KS.length vc) KS from HSL3.out.alike ⟨hg15.size, fun b hb hl => hg15.block b hl (fun e => by injection e with e; rcases hb with hb | hb; have := HSS.out b hb; have := HYL.out; omega; omega)⟩ fun b hb _ => hb.imp id fun h => by have := HYL.out; omega)
              have HN16 := Lib.hid (heap_alloc_new W15 (.cells #[.int .i64 up.k, .string up.t, .string up.v, .slice va KS.length vc] 24))
              have HB16 := Lib.hid (show Below W15.heap.size W15 (W15.alloc (.cells #[.int .i64 up.k, .string up.t, .string up.v, .slice va KS.length vc] 24)).drew from ((Below.refl _ _).alloc (Nat.le_refl _) _).drew)
              clear hW15 hg15 HSY HB3 HR1 HR2 HR3 HSL3 HY3 HY e0 e1 e2 e3 e4 e5 e6 hel k3 hkl m0 m1 m2 m3 m4 m5 m6 m7 hml x0 x1 x2 x3 hxl p0 p1 p2 p3 p4 p5 p6 hpl y0 y1 y2 y3 y4 y5 y6 y7 hyl hpc9 hpbl
              obtain ⟨x0, x1, x2, x3, _, _, _, _, hxl⟩ := nd_cells H15.out.b0
              obtain ⟨p0, p1, p2, p3, p4, p5, p6, hpl⟩ := op_cells H15.out.b1
              obtain ⟨y0, y1, y2, y3, _, _, _, _, hyl⟩ := nd_cells hY15
              clear hY15
              have x0' : W15.drew.cell? ⟨w.heap.size, 0, none⟩ = _ := x0
              have x1' : W15.drew.cell? ⟨w.heap.size, 1, none⟩ = _ := x1
              have x2' : W15.drew.cell? ⟨w.heap.size, 2, none⟩ = _ := x2
              have x3' : W15.drew.cell? ⟨w.heap.size, 3, none⟩ = _ := x3
              have p1' : W15.drew.cell? ⟨w.heap.size + 1, 1, none⟩ = _ := p1
              have y0' : W15.drew.cell? ⟨Y, 0, none⟩ = _ := y0
              have y1' : W15.drew.cell? ⟨Y, 1, none⟩ = _ := y1
              have y2' : W15.drew.cell? ⟨Y, 2, none⟩ = _ := y2
              have y3' : W15.drew.cell? ⟨Y, 3, none⟩ = _ := y3
              go_region_law ((go_simp; go_at_call 22; refine (put_any q n (W15.alloc (.cells #[.int .i64 up.k, .string up.t, .string up.v, .slice va KS.length vc] 24)).drew (fun b => Gap S (w.heap.size + 3) b ∧ b < (W15.alloc (.cells #[.int .i64 up.k, .string up.t, .string up.v, .slice va KS.length vc] 24)).drew.heap.size) _ _ _ [.mk up.k up.t up.v KS] ⟨_, rfl, (HS.out.below (bthen H15.out.bel HB16.out)).toL⟩ (HPQ.out.below (bthen H15.out.bel HB16.out)) (one_row (x := .mk up.k up.t up.v KS) HN16.out ⟨.inr (by have := HRL9.out; omega), by show W15.heap.size < _; simp⟩ ((HS15.out.below HB16.out).lt2)) (fun b hb => hb.2) (fun _ => by simp) HSZ.out (by simp)).mono ?_; rintro e w6 ⟨ra, rc, he, hsr, hb⟩; obtain ⟨R, hRR⟩ : ∃ R, n.put q [.mk up.k up.t up.v KS] = R := ⟨_, rfl⟩; rw [hRR] at he hsr; subst he; have H6 := Lib.hid ((H15.out.below HB16.out).below hb); have HSR := Lib.hid (hsr.fromL (M := w.heap.size + 3) (Nat.le_trans (by have := HRL9.out; omega) HB16.out.size)); obtain ⟨r0, r1, r2, r3, s0, s1, s2, s3, hrl⟩ := nd_cells H6.out.b2))
              all_goals
                go_wp2_with fail
                obtain ⟨W, hW, hf, hpost⟩ := H6.out.fin HSS.out R ra rc HSR.out 0
                rw [hW]
                obtain ⟨z0, z1, z2, z3, _, _, _, _, hzl⟩ := nd_cells hf
                refine bodyPost_ret (v := .tuple #[.agg #[.int .i64 R.k, .string R.t, .string R.v, .slice ra R.kids.length rc], .int .i64 0]) (by simp [results, Tryz.results39, go_sem, z0, z1, z2, z3]) rfl ?_
                rw [HR.out, hRR]
                exact hpost
            · skip
              obtain ⟨v1, w1, v2, w2', v3, w3, hr1, hr2, hr3, hsl3, hb1, hb2, hb3⟩ := three_app W9 S hSW _ _ _ _ o.node (.slice na o.node.kids.length nc) (HSY.out.cutK i hil) (HSY.out.dropK i hil (some ⟨b4, o4 + i * 4, none⟩) (.inr rfl)) (HO.out.below H9.out.bel) (by simp only [List.length_take, List.length_drop, List.length_nil]; omega)
              obtain ⟨KS, hKS⟩ : ∃ KS, up.kids.take i ++ o.node :: up.kids.drop i = KS := ⟨_, rfl⟩
              rw [hKS] at hsl3 HR
              obtain ⟨va, vc, rfl, _, _⟩ := hsl3.shape
              have HR1 := Lib.hid hr1; have HR2 := Lib.hid hr2; have HR3 := Lib.hid hr3; have HSL3 := Lib.hid hsl3; have HB3 := Lib.hid hb3
              obtain ⟨e0, e1, e2, e3, e4, e5, e6, hel⟩ := op_cells (H9.out.below hb1).b1
              obtain ⟨_, _, _, k3, _, _, _, _, hkl⟩ := nd_cells ((hb2.block _ hyl).trans HY.out)
              have HY3 := Lib.hid ((hb3.block _ hyl).trans HY.out)
              obtain ⟨m0, m1, m2, m3, m4, m5, m6, m7, hml⟩ := nd_cells HY3.out
              clear hr1 hr2 hr3 hsl3 hb1 hb2 hb3 hKS
              go_upto_region 16 with (first
                | (at_builtin; refine Lib.wpList_append_run _ rfl _ _ _ _ rfl _ _ rfl rfl _ _ HR1.out ?_)
                | (at_builtin; refine Lib.wpList_append_run _ rfl _ _ _ _ rfl _ _ rfl rfl _ _ HR2.out ?_)
                | (at_builtin; refine Lib.wpList_append_run _ rfl _ _ _ _ rfl _ _ rfl rfl _ _ HR3.out ?_))
              have hg15 := grown_set w3 Y 3 (.slice va KS.length vc)
              have hY15 := heap_set4 (u := .slice va KS.length vc) HY3.out
              obtain ⟨W15, hW15⟩ : ∃ W15, w3.setCell ⟨Y, 3, none⟩ (.slice va KS.length vc) = W15 := ⟨_, rfl⟩
              rw [hW15] at hg15 hY15
              rw [hW15]
              have HRL9 := Lib.hid (show w.heap.size + 3 ≤ Y ∧ Y < W9.heap.size ∧ W9.heap.size ≤ W15.heap.size from ⟨HYL.out, hyl, Nat.le_trans HB3.out.size hg15.size⟩)
              have H15 := Lib.hid ((H9.out.below HB3.out).grown hg15 HYL.out)
              have HS15 := Lib.hid (show SlIn W15 (Gap S (w.heap.size + 3)) (.slice va KS.length vc) KS from HSL3.out.alike ⟨hg15.size, fun b hb hl => hg15.block b hl (fun e => by injection e with e; rcases hb with hb | hb; have := HSS.out b hb; have := HYL.out; omega; omega)⟩ fun b hb _ => hb.imp id fun h => by have := HYL.out; omega)
              have HN16 := Lib.hid (heap_alloc_new W15 (.cells #[.int .i64 up.k, .string up.t, .string up.v, .slice va KS.length vc] 24))
              have HB16 := Lib.hid (show Below W15.heap.size W15 (W15.alloc (.cells #[.int .i64 up.k, .string up.t, .string up.v, .slice va KS.length vc] 24)).drew from ((Below.refl _ _).alloc (Nat.le_refl _) _).drew)
              clear hW15 hg15 HSY HB3 HR1 HR2 HR3 HSL3 HY3 HY e0 e1 e2 e3 e4 e5 e6 hel k3 hkl m0 m1 m2 m3 m4 m5 m6 m7 hml x0 x1 x2 x3 hxl p0 p1 p2 p3 p4 p5 p6 hpl y0 y1 y2 y3 y4 y5 y6 y7 hyl hpc9 hpbl
              obtain ⟨x0, x1, x2, x3, _, _, _, _, hxl⟩ := nd_cells H15.out.b0
              obtain ⟨p0, p1, p2, p3, p4, p5, p6, hpl⟩ := op_cells H15.out.b1
              obtain ⟨y0, y1, y2, y3, _, _, _, _, hyl⟩ := nd_cells hY15
              clear hY15
              have x0' : W15.drew.cell? ⟨w.heap.size, 0, none⟩ = _ := x0
              have x1' : W15.drew.cell? ⟨w.heap.size, 1, none⟩ = _ := x1
              have x2' : W15.drew.cell? ⟨w.heap.size, 2, none⟩ = _ := x2
              have x3' : W15.drew.cell? ⟨w.heap.size, 3, none⟩ = _ := x3
              have p1' : W15.drew.cell? ⟨w.heap.size + 1, 1, none⟩ = _ := p1
              have y0' : W15.drew.cell? ⟨Y, 0, none⟩ = _ := y0
              have y1' : W15.drew.cell? ⟨Y, 1, none⟩ = _ := y1
              have y2' : W15.drew.cell? ⟨Y, 2, none⟩ = _ := y2
              have y3' : W15.drew.cell? ⟨Y, 3, none⟩ = _ := y3
              go_region_law ((go_simp; go_at_call 22; refine (put_any q n (W15.alloc (.cells #[.int .i64 up.k, .string up.t, .string up.v, .slice va KS.length vc] 24)).drew (fun b => Gap S (w.heap.size + 3) b ∧ b < (W15.alloc (.cells #[.int .i64 up.k, .string up.t, .string up.v, .slice va KS.length vc] 24)).drew.heap.size) _ _ _ [.mk up.k up.t up.v KS] ⟨_, rfl, (HS.out.below (bthen H15.out.bel HB16.out)).toL⟩ (HPQ.out.below (bthen H15.out.bel HB16.out)) (one_row (x := .mk up.k up.t up.v KS) HN16.out ⟨.inr (by have := HRL9.out; omega), by show W15.heap.size < _; simp⟩ ((HS15.out.below HB16.out).lt2)) (fun b hb => hb.2) (fun _ => by simp) HSZ.out (by simp)).mono ?_; rintro e w6 ⟨ra, rc, he, hsr, hb⟩; obtain ⟨R, hRR⟩ : ∃ R, n.put q [.mk up.k up.t up.v KS] = R := ⟨_, rfl⟩; rw [hRR] at he hsr; subst he; have H6 := Lib.hid ((H15.out.below HB16.out).below hb); have HSR := Lib.hid (hsr.fromL (M := w.heap.size + 3) (Nat.le_trans (by have := HRL9.out; omega) HB16.out.size)); obtain ⟨r0, r1, r2, r3, s0, s1, s2, s3, hrl⟩ := nd_cells H6.out.b2))
              all_goals
                go_wp2_with fail
                obtain ⟨W, hW, hf, hpost⟩ := H6.out.fin HSS.out R ra rc HSR.out 0
                rw [hW]
                obtain ⟨z0, z1, z2, z3, _, _, _, _, hzl⟩ := nd_cells hf
                refine bodyPost_ret (v := .tuple #[.agg #[.int .i64 R.k, .string R.t, .string R.v, .slice ra R.kids.length rc], .int .i64 0]) (by simp [results, Tryz.results39, go_sem, z0, z1, z2, z3]) rfl ?_
                rw [HR.out, hRR]
                exact hpost
end
end Go.Proofs.YtdaamiihldbekaaGreatDoor

/- The walk of the reference's Apply. -/
namespace Go.Proofs.YtdaamiihldbekaaGreatDoor
open Go.RowKit Ev5
set_option linter.unusedSimpArgs false
set_option linter.unusedVariables false

theorem refOne_any (S : Nat → Prop) (n : Nd) (o : GoOp) (w : World) (val pv uo : Value) (hv : NdV w S val n) (hS : ∀ b, S b → b < w.heap.size) (hp : IntsIn w pv o.place) (ho : SlIn w S uo o.node.kids) (hsz : n.size ≤ 100000) (hsz2 : o.node.size ≤ 100000) :
    Calls Tryz.prog 39 #[val, opV o pv uo] w (OneRP S (oneP n o) w) := by
  by_cases h : o.k < 1 ∨ 5 < o.k
  · exact refOne0_any S n o w val pv uo hv hS hp ho h
  · rcases show o.k = 1 ∨ o.k = 2 ∨ o.k = 3 ∨ o.k = 4 ∨ o.k = 5 by omega with hk | hk | hk | hk | hk
    · rcases List.eq_nil_or_concat o.place with hpl | ⟨q, p, hpl⟩
      · exact refOne1n_any S n o w val pv uo hv hS hp ho hk hpl
      · exact refOne1_any S n o w val pv uo hv hS hp ho hk q p (by rw [hpl]; simp) hsz hsz2
    · exact refOne2_any S n o w val pv uo hv hS hp ho hk hsz hsz2
    · exact refOne3_any S n o w val pv uo hv hS hp ho hk hsz hsz2
    · exact refOne4_any S n o w val pv uo hv hS hp ho hk hsz hsz2
    · exact refOne5_any S n o w val pv uo hv hS hp ho hk hsz hsz2
/-- What the reference's Apply hands back. -/
def RefApPost (r : Nd × Nat × Int) (w : World) (e : Ending) (w' : World) : Prop := ∃ a cap, e = .returned (.tuple #[.agg #[.int .i64 r.1.k, .string r.1.t, .string r.1.v, .slice a r.1.kids.length cap], .int .i64 r.2.1, .int .i64 r.2.2]) ∧
  SlIn w' (fun b => b < w'.heap.size) (.slice a r.1.kids.length cap) r.1.kids ∧ Below w.heap.size w w'
/-- Where a tree's rows lie in a call of it: not in its boxes. -/
def RaT (m X b : Nat) : Prop := (b < m ∨ m + 2 ≤ b) ∧ b ≠ X
/-- Behind some operations: three boxes. -/
structure Ra (w wr : World) (n : Nd) (u : Value) (X : Nat) (y : Nd) (uy : Value) : Prop where
  box : wr.heap[w.heap.size]? = some (.cells #[.int .i64 n.k, .string n.t, .string n.v, u] 24 (0, 0))
  res : wr.heap[w.heap.size + 1]? = some (.cells #[.int .i64 0, .string ⟨#[]⟩, .string ⟨#[]⟩, .slice none 0 0] 24 (0, 0))
  x : wr.heap[X]? = some (.cells #[.int .i64 y.k, .string y.t, .string y.v, uy] 24 (0, 0))
  ks : SlIn wr (RaT w.heap.size X) uy y.kids
  lo : w.heap.size + 2 ≤ X
  bel : Below w.heap.size w wr
theorem Ra.below {w wr w' : World} {n : Nd} {u : Value} {X : Nat} {y : Nd} {uy : Value} (h : Ra w wr n u X y uy) (hb : Below wr.heap.size wr w') : Ra w w' n u X y uy :=
  ⟨(hb.block _ (lt_blk h.box)).trans h.box, (hb.block _ (lt_blk h.res)).trans h.res, (hb.block _ (lt_blk h.x)).trans h.x, h.ks.below hb, h.lo, bthen h.bel hb⟩
/-- The tree's box is laid anew. -/
theorem Ra.lay {w wr : World} {n : Nd} {u : Value} {X : Nat} {y : Nd} {uy : Value} (h : Ra w wr n u X y uy) (z : Nd) (uz : Value) (hz : SlIn wr (RaT w.heap.size X) uz z.kids) :
    Ra w ((((wr.setCell ⟨X, 0, none⟩ (.int .i64 z.k)).setCell ⟨X, 1, none⟩ (.string z.t)).setCell ⟨X, 2, none⟩ (.string z.v)).setCell ⟨X, 3, none⟩ uz) n u X z uz := by
  obtain ⟨hf, hgr⟩ := fill4 (.int .i64 z.k) (.string z.t) (.string z.v) uz h.x
  have hlo := h.lo
  exact ⟨(hgr.block _ (lt_blk h.box) (fun e => by injection e with e; omega)).trans h.box, (hgr.block _ (lt_blk h.res) (fun e => by injection e with e; omega)).trans h.res, hf, hz.alike ⟨hgr.size, fun b hb hl => hgr.block b hl (fun e => by injection e with e; exact hb.2 (by omega))⟩ fun b hb _ => hb, h.lo, h.bel.grown hgr h.bel.size (fun b hb => by injection hb; omega)⟩
/-- The result is laid. -/
theorem Ra.fin {w wr : World} {n : Nd} {u : Value} {X : Nat} {y : Nd} {uy : Value} (h : Ra w wr n u X y uy) (r : Nd) (a : Option Addr) (c : Nat) (i : Nat) (E : Int) (hs : SlIn wr (RaT w.heap.size X) (.slice a r.kids.length c) r.kids) :
    ∃ W, ((((wr.setCell ⟨w.heap.size + 1, 0, none⟩ (.int .i64 r.k)).setCell ⟨w.heap.size + 1, 1, none⟩ (.string r.t)).setCell ⟨w.heap.size + 1, 2, none⟩ (.string r.v)).setCell ⟨w.heap.size + 1, 3, none⟩ (.slice a r.kids.length c)) = W ∧
      W.heap[w.heap.size + 1]? = some (.cells #[.int .i64 r.k, .string r.t, .string r.v, .slice a r.kids.length c] 24 (0, 0)) ∧
      RefApPost (r, i, E) w (.returned (.tuple #[.agg #[.int .i64 r.k, .string r.t, .string r.v, .slice a r.kids.length c], .int .i64 i, .int .i64 E])) W := by
  obtain ⟨hf, hgr⟩ := fill4 (.int .i64 r.k) (.string r.t) (.string r.v) (.slice a r.kids.length c) h.res
  refine ⟨_, rfl, hf, a, c, rfl, ?_, h.bel.grown hgr h.bel.size (fun b hb => by injection hb; omega)⟩
  exact hs.alike ⟨hgr.size, fun b hb hl => hgr.block b hl (fun e => by injection e with e; have := hb.1; omega)⟩ fun b hb hl => Nat.lt_of_lt_of_le hl hgr.size

set_option maxRecDepth 100000 in
set_option maxHeartbeats 32000000 in
theorem refApply_any (w : World) (S : Nat → Prop) (val lv : Value) (n : Nd) (l : List GoOp) (hv : NdV w S val n) (hl : OpsIn w lv l) (hok : n.ok) (hlok : ∀ o ∈ l, o.ok) (hsz : n.size + opsSize l ≤ 40000) :
    Calls Tryz.prog 17 #[val, lv] w (RefApPost (applyP n l) w) := by
  obtain ⟨u, rfl, hs⟩ := hv
  obtain ⟨ua, uc, rfl, huc, hum⟩ := hs.shape
  obtain ⟨la, lc, rfl, hlc, hlm, hcells⟩ := hl.ex
  have HS := Lib.hid hs.lt; have HL := Lib.hid hl; have HOK := Lib.hid hok; have HLO := Lib.hid hlok; have HSZ := Lib.hid hsz
  have hwl : n.walk.length ≤ 450000 := by have := walk_len n; omega
  have HWL := Lib.hid hwl
  clear hs hl hok hlok hsz hcells hwl
  unfold maxLen at hum hlm
  unfold ndV
  go_enter Tryz.func17, Tryz.ntmps17
  go_wp2_with fail
  have HB := Lib.hid (show Below w.heap.size w ((w.alloc (.cells #[.int .i64 n.k, .string n.t, .string n.v, .slice ua n.kids.length uc] 24)).alloc (.cells #[.int .i64 0, .string ⟨#[]⟩, .string ⟨#[]⟩, .slice none 0 0] 24)) from ((Below.refl _ _).alloc (Nat.le_refl _) _).alloc (by simp) _)
  have HT := Lib.hid (And.intro (two_first w (.cells #[.int .i64 n.k, .string n.t, .string n.v, .slice ua n.kids.length uc] 24) (.cells #[.int .i64 0, .string ⟨#[]⟩, .string ⟨#[]⟩, .slice none 0 0] 24)) (two_last w (.cells #[.int .i64 n.k, .string n.t, .string n.v, .slice ua n.kids.length uc] 24) (.cells #[.int .i64 0, .string ⟨#[]⟩, .string ⟨#[]⟩, .slice none 0 0] 24)))
  refine (refTreeWalk_any n _ (fun b => b < w.heap.size) _ ⟨_, rfl, HS.out.below HB.out⟩ (fun b hb => Nat.lt_of_lt_of_le hb HB.out.size) HOK.out HWL.out).mono ?_
  rintro e w2 ⟨rv, rfl, hb, _, _⟩
  have HB2 := Lib.hid (bthen HB.out hb)
  have hx1 := (hb.block w.heap.size (by simp; omega)).trans HT.out.1
  have hr1 := (hb.block (w.heap.size + 1) (by simp)).trans HT.out.2
  have HX1 := Lib.hid hx1; have HR1 := Lib.hid hr1
  obtain ⟨x0, x1, x2, x3, y0, y1, y2, y3, hxl⟩ := nd_cells hx1
  obtain ⟨r0, r1, r2, r3, s0, s1, s2, s3, hrl⟩ := nd_cells hr1
  clear hb hx1 hr1 HT HB
  obtain ⟨E, hEq⟩ : ∃ E, (wholeP RP (n.walk.map GoEv.ev)).2 = E := ⟨_, rfl⟩
  have HEQ := Lib.hid (show n.wh = E from hEq)
  rw [hEq]
  clear hEq
  by_cases hz : E = 0
  · subst hz
    have hR4 : Ra w (w2.alloc (.cells #[.int .i64 n.k, .string n.t, .string n.v, .slice ua n.kids.length uc] 24)) n (.slice ua n.kids.length uc) w2.heap.size n (.slice ua n.kids.length uc) := by
      have hb4 : Below w2.heap.size w2 (w2.alloc (.cells #[.int .i64 n.k, .string n.t, .string n.v, .slice ua n.kids.length uc] 24)) := (Below.refl _ _).alloc (Nat.le_refl _) _
      have hl2 := lt_blk HR1.out
      exact ⟨(hb4.block _ (lt_blk HX1.out)).trans HX1.out, (hb4.block _ hl2).trans HR1.out, heap_alloc_new w2 _, ((HS.out.below HB2.out).below hb4).to fun b hb => ⟨.inl hb, by omega⟩, by omega, bthen HB2.out hb4⟩
    have HR4 := Lib.hid hR4
    clear hR4 HX1 HR1
    go_wp2_with fail
    obtain ⟨X, hX⟩ : ∃ X, w2.heap.size = X := ⟨_, rfl⟩
    rw [hX] at HR4
    rw [hX]
    clear hX x0 x1 x2 x3 y0 y1 y2 y3 hxl r0 r1 r2 r3 s0 s1 s2 s3 hrl
    go_loopw [10] (fun vi wr => ∃ (i : Nat) (y : Nd) (uy : Value), i ≤ l.length ∧ vi = .int .i64 i ∧ Hid (playP n (l.take i) = (y, i, 0)) ∧ Hid (Ra w wr n (.slice ua n.kids.length uc) X y uy))
      (fun vi _ => l.length - (intOf vi).toNat)
    case atStart => exact ⟨0, n, _, Nat.zero_le _, rfl, by show _ = _; rw [List.take_zero]; rfl, HR4.out⟩
    case round =>
      obtain ⟨i, y, uy, hi, rfl, HPL, HA⟩ := hrel
      have HY := Lib.hid (show y.ok ∧ y.size ≤ 40000 from by
        have h1 := play_ok n (l.take i) HOK.out fun o ho => HLO.out o (List.mem_of_mem_take ho)
        have h2 := play_size n (l.take i)
        rw [HPL.out] at h1 h2
        exact ⟨h1, by have := ops_take l i; have := HSZ.out; simp only [] at h2; omega⟩)
      obtain ⟨ya, yc, rfl, hyc, hym⟩ := HA.out.ks.shape
      unfold maxLen at hym
      obtain ⟨x0, x1, x2, x3, y0, y1, y2, y3, hxl⟩ := nd_cells HA.out.box
      obtain ⟨r0, r1, r2, r3, s0, s1, s2, s3, hrl⟩ := nd_cells HA.out.res
      obtain ⟨z0, z1, z2, z3, v0, v1, v2, v3, hzl⟩ := nd_cells HA.out.x
      by_cases hlt : i < l.length
      · obtain ⟨la', lc', e', _, _, hcells⟩ := HL.out.ex
        injection e' with e1 e2 e3
        subst e1; subst e3
        obtain ⟨b, o, pv, uo, rfl, hat0⟩ := hcells i hlt
        obtain ⟨pa, pcap, rfl, hpc, hpm, _⟩ := hat0.place.ex
        obtain ⟨na, ncap, rfl, hnc, hnm⟩ := hat0.node.shape
        have hat := hat0.below HA.out.bel
        have HPI := Lib.hid (hat0.place.below HA.out.bel); have HNO := Lib.hid (hat0.node.below HA.out.bel)
        have HNZ := Lib.hid (show l[i].node.size ≤ 100000 by have := ops_mem (List.getElem_mem hlt); have := HSZ.out; omega)
        have HPS := Lib.hid (fun E hE h1 => play_stop HPL.out hlt E hE h1)
        have HPN := Lib.hid (fun h1 h2 => play_next HPL.out hlt h1 h2)
        have HO1 := Lib.hid (show (oneP y l[i]).1.ok ∧ (oneP y l[i]).1.size ≤ 40000 from by
          refine ⟨one_ok HY.out.1 (HLO.out _ (List.getElem_mem hlt)), ?_⟩
          have h1 := one_size y l[i]
          have h2 := play_size n (l.take i)
          rw [HPL.out] at h2
          have h3 : opsSize l = opsSize (l.take i) + (l[i].node.size + opsSize (l.drop (i + 1))) := by
            conv => lhs; rw [← List.take_append_drop i l, List.drop_eq_getElem_cons hlt]
            unfold opsSize
            rw [List.map_append, List.sum_append, List.map_cons, List.sum_cons]
          have := HSZ.out
          simp only [] at h2
          omega)
        obtain ⟨P, hP⟩ : ∃ P, l[i] = P := ⟨_, rfl⟩
        rw [hP] at hat HPI HNO HNZ HPS HPN HO1 hpc hnc
        obtain ⟨R, hR⟩ : ∃ R, (oneP y P).1 = R := ⟨_, rfl⟩
        obtain ⟨E1, hE1⟩ : ∃ E1, (oneP y P).2 = E1 := ⟨_, rfl⟩
        rw [hR] at HPS HPN HO1
        rw [hE1] at HPS HPN
        have HRE := Lib.hid (And.intro hR hE1)
        obtain ⟨d0, d1, d2, d3, d4, d5, d6, hdl, _, _⟩ := hat
        unfold maxLen at hpm hnm
        have hbd : Below wr.heap.size wr wr.drew := (Below.refl _ _).drew
        have hbz : Below wr.heap.size wr (wr.alloc (.cells #[.int .i64 0, .string ⟨#[]⟩, .string ⟨#[]⟩, .slice none 0 0] 24)).drew := ((Below.refl _ _).alloc (Nat.le_refl _) _).drew
        have hz6 : (wr.alloc (.cells #[.int .i64 0, .string ⟨#[]⟩, .string ⟨#[]⟩, .slice none 0 0] 24)).drew.heap[wr.heap.size]? = some (.cells #[.int .i64 0, .string ⟨#[]⟩, .string ⟨#[]⟩, .slice none 0 0] 24 (0, 0)) := heap_alloc_new wr _
        have d0' : wr.drew.cell? ⟨b, o + i * 7, none⟩ = some (.int .i64 P.k) := by rw [hbd.cell (p := ⟨b, o + i * 7, none⟩) hdl]; exact d0
        have d1' : wr.drew.cell? ⟨b, o + i * 7 + 1, none⟩ = some (.slice pa P.place.length pcap) := by rw [hbd.cell (p := ⟨b, o + i * 7 + 1, none⟩) hdl]; exact d1
        have d2' : wr.drew.cell? ⟨b, o + i * 7 + 2, none⟩ = some (.int .i64 P.node.k) := by rw [hbd.cell (p := ⟨b, o + i * 7 + 2, none⟩) hdl]; exact d2
        have d3' : wr.drew.cell? ⟨b, o + i * 7 + 3, none⟩ = some (.string P.node.t) := by rw [hbd.cell (p := ⟨b, o + i * 7 + 3, none⟩) hdl]; exact d3
        have d4' : wr.drew.cell? ⟨b, o + i * 7 + 4, none⟩ = some (.string P.node.v) := by rw [hbd.cell (p := ⟨b, o + i * 7 + 4, none⟩) hdl]; exact d4
        have d5' : wr.drew.cell? ⟨b, o + i * 7 + 5, none⟩ = some (.slice na P.node.kids.length ncap) := by rw [hbd.cell (p := ⟨b, o + i * 7 + 5, none⟩) hdl]; exact d5
        have d6' : wr.drew.cell? ⟨b, o + i * 7 + 6, none⟩ = some (.string P.t) := by rw [hbd.cell (p := ⟨b, o + i * 7 + 6, none⟩) hdl]; exact d6
        have d0'' : (wr.alloc (.cells #[.int .i64 0, .string ⟨#[]⟩, .string ⟨#[]⟩, .slice none 0 0] 24)).drew.cell? ⟨b, o + i * 7, none⟩ = some (.int .i64 P.k) := by rw [hbz.cell (p := ⟨b, o + i * 7, none⟩) hdl]; exact d0
        have d1'' : (wr.alloc (.cells #[.int .i64 0, .string ⟨#[]⟩, .string ⟨#[]⟩, .slice none 0 0] 24)).drew.cell? ⟨b, o + i * 7 + 1, none⟩ = some (.slice pa P.place.length pcap) := by rw [hbz.cell (p := ⟨b, o + i * 7 + 1, none⟩) hdl]; exact d1
        have d2'' : (wr.alloc (.cells #[.int .i64 0, .string ⟨#[]⟩, .string ⟨#[]⟩, .slice none 0 0] 24)).drew.cell? ⟨b, o + i * 7 + 2, none⟩ = some (.int .i64 P.node.k) := by rw [hbz.cell (p := ⟨b, o + i * 7 + 2, none⟩) hdl]; exact d2
        have d3'' : (wr.alloc (.cells #[.int .i64 0, .string ⟨#[]⟩, .string ⟨#[]⟩, .slice none 0 0] 24)).drew.cell? ⟨b, o + i * 7 + 3, none⟩ = some (.string P.node.t) := by rw [hbz.cell (p := ⟨b, o + i * 7 + 3, none⟩) hdl]; exact d3
        have d4'' : (wr.alloc (.cells #[.int .i64 0, .string ⟨#[]⟩, .string ⟨#[]⟩, .slice none 0 0] 24)).drew.cell? ⟨b, o + i * 7 + 4, none⟩ = some (.string P.node.v) := by rw [hbz.cell (p := ⟨b, o + i * 7 + 4, none⟩) hdl]; exact d4
        have d5'' : (wr.alloc (.cells #[.int .i64 0, .string ⟨#[]⟩, .string ⟨#[]⟩, .slice none 0 0] 24)).drew.cell? ⟨b, o + i * 7 + 5, none⟩ = some (.slice na P.node.kids.length ncap) := by rw [hbz.cell (p := ⟨b, o + i * 7 + 5, none⟩) hdl]; exact d5
        have d6'' : (wr.alloc (.cells #[.int .i64 0, .string ⟨#[]⟩, .string ⟨#[]⟩, .slice none 0 0] 24)).drew.cell? ⟨b, o + i * 7 + 6, none⟩ = some (.string P.t) := by rw [hbz.cell (p := ⟨b, o + i * 7 + 6, none⟩) hdl]; exact d6
        obtain ⟨z0', z1', z2', z3', _, _, _, _, hzl'⟩ := nd_cells ((hbd.block _ hzl).trans HA.out.x)
        obtain ⟨z0'', z1'', z2'', z3'', _, _, _, _, hzl''⟩ := nd_cells ((hbz.block _ hzl).trans HA.out.x)
        clear hcells hR hE1 hP hat0 x0 x1 x2 x3 y0 y1 y2 y3 hxl r0 r1 r2 r3 s0 s1 s2 s3 hrl d0 d1 d2 d3 d4 d5 d6
        go_upto_region 8 with (fail)
        apply split_key (F := fun W9 Y a c => Ra w W9 n (.slice ua n.kids.length uc) X y (.slice ya y.kids.length yc) ∧ W9.heap[Y]? = some (.cells #[.int .i64 R.k, .string R.t, .string R.v, .slice a R.kids.length c] 24 (0, 0)) ∧ X < Y ∧ SlIn W9 (fun b => RaT w.heap.size X b ∧ b ≠ Y) (.slice a R.kids.length c) R.kids)
        case main =>
          intro key
          go_region_law ((go_simp; go_at_call 39; (first
          | (refine (refOne_any (fun b => RaT w.heap.size X b ∧ b < wr.heap.size) y P wr.drew _ _ _ ⟨_, rfl, HA.out.ks.lt2.below hbd⟩ (fun b hb => Nat.lt_of_lt_of_le hb.2 (hbd).size) (HPI.out.below hbd) ((HNO.out.below hbd).to fun b hb => ⟨⟨.inl hb, by have := HA.out.lo; have hb2 : b < w.heap.size := hb; omega⟩, by have := HA.out.bel.size; have hb2 : b < w.heap.size := hb; omega⟩) (by have := HY.out.2; omega) HNZ.out).mono ?_; rintro e w2 ⟨a, c, he, hsl, hb⟩; rw [HRE.out.1] at he hsl; rw [HRE.out.2] at he; subst he; have hb8 : Below wr.heap.size wr w2 := bthen hbd hb)
          | (refine (refOne_any (fun b => RaT w.heap.size X b ∧ b < wr.heap.size) y P (wr.alloc (.cells #[.int .i64 0, .string ⟨#[]⟩, .string ⟨#[]⟩, .slice none 0 0] 24)).drew _ _ _ ⟨_, rfl, HA.out.ks.lt2.below hbz⟩ (fun b hb => Nat.lt_of_lt_of_le hb.2 (hbz).size) (HPI.out.below hbz) ((HNO.out.below hbz).to fun b hb => ⟨⟨.inl hb, by have := HA.out.lo; have hb2 : b < w.heap.size := hb; omega⟩, by have := HA.out.bel.size; have hb2 : b < w.heap.size := hb; omega⟩) (by have := HY.out.2; omega) HNZ.out).mono ?_; rintro e w2 ⟨a, c, he, hsl, hb⟩; rw [HRE.out.1] at he hsl; rw [HRE.out.2] at he; subst he; have hb8 : Below wr.heap.size wr w2 := bthen hbz hb; have hz7 := (hb.block _ (lt_blk hz6)).trans hz6; obtain ⟨f0, f1, f2, f3, g0, g1, g2, g3, hgl⟩ := nd_cells hz7))))
          all_goals
            first
            | (obtain ⟨hf, hgr⟩ := fill4 (.int .i64 R.k) (.string R.t) (.string R.v) (.slice a R.kids.length c) hz7
               have hb9 := hb8.grown hgr hb8.size (fun b hb => by injection hb; omega)
               obtain ⟨W9, hW9⟩ : ∃ W9, ((((w2.setCell ⟨wr.heap.size, 0, none⟩ (.int .i64 R.k)).setCell ⟨wr.heap.size, 1, none⟩ (.string R.t)).setCell ⟨wr.heap.size, 2, none⟩ (.string R.v)).setCell ⟨wr.heap.size, 3, none⟩ (.slice a R.kids.length c)) = W9 := ⟨_, rfl⟩
               rw [hW9] at hf hgr hb9
               rw [hW9]
               have hsl9 : SlIn W9 (fun b => RaT w.heap.size X b ∧ b ≠ wr.heap.size) (.slice a R.kids.length c) R.kids := hsl.alike ⟨hgr.size, fun b hb hl => hgr.block b hl (fun e => by injection e with e; rcases hb with hb | hb; have := hb.2; omega; have hb' : wr.heap.size + 1 ≤ b := (by simpa using hb); omega)⟩ fun b hb _ => by
                 rcases hb with hb | hb
                 · exact ⟨hb.1, by have := hb.2; omega⟩
                 · have hb' : wr.heap.size + 1 ≤ b := by simpa using hb
                   have := HA.out.lo; have := lt_blk HA.out.x
                   exact ⟨⟨.inr (by omega), by omega⟩, by omega⟩
               have hXY := lt_blk HA.out.x
               have h9 := HA.out.below hb9
               obtain ⟨Y, hY⟩ : ∃ Y, wr.heap.size = Y := ⟨_, rfl⟩
               rw [hY] at hf hsl9 hXY ⊢
               exact key W9 Y a c ⟨h9, hf, hXY, hsl9⟩)
            | (have hb9 := hb8.alloc hb8.size (.cells #[.int .i64 R.k, .string R.t, .string R.v, .slice a R.kids.length c] 24)
               have hf := heap_alloc_new w2 (.cells #[.int .i64 R.k, .string R.t, .string R.v, .slice a R.kids.length c] 24)
               have hba : Below w2.heap.size w2 (w2.alloc (.cells #[.int .i64 R.k, .string R.t, .string R.v, .slice a R.kids.length c] 24)) := (Below.refl _ _).alloc (Nat.le_refl _) _
               obtain ⟨W9, hW9⟩ : ∃ W9, w2.alloc (.cells #[.int .i64 R.k, .string R.t, .string R.v, .slice a R.kids.length c] 24) = W9 := ⟨_, rfl⟩
               rw [hW9] at hf hb9 hba
               rw [hW9]
               have hsl9 : SlIn W9 (fun b => RaT w.heap.size X b ∧ b ≠ w2.heap.size) (.slice a R.kids.length c) R.kids := (hsl.lt2.below hba).to fun b hb => by
                 obtain ⟨hb, hl⟩ := hb
                 refine ⟨?_, by omega⟩
                 rcases hb with hb | hb
                 · exact hb.1
                 · have hb' : wr.heap.size ≤ b := hb
                   have := HA.out.lo; have := lt_blk HA.out.x
                   exact ⟨.inr (by omega), by omega⟩
               have hXY := Nat.lt_of_lt_of_le (lt_blk HA.out.x) hb8.size
               have h9 := HA.out.below hb9
               obtain ⟨Y, hY⟩ : ∃ Y, w2.heap.size = Y := ⟨_, rfl⟩
               rw [hY] at hf hsl9 hXY ⊢
               exact key W9 Y a c ⟨h9, hf, hXY, hsl9⟩)
        case key =>
          rintro W9 Y a c ⟨h9, hf, hXY, hsl⟩
          have H9 := Lib.hid h9; have HY9 := Lib.hid hf; have HSL := Lib.hid hsl; have HXY := Lib.hid hXY
          clear h9 hf hsl hXY hbd hbz hz6 z0 z1 z2 z3 v0 v1 v2 v3 hzl z0' z1' z2' z3' hzl' z0'' z1'' z2'' z3'' hzl'' d0' d1' d2' d3' d4' d5' d6' d0'' d1'' d2'' d3'' d4'' d5'' d6'' hdl
          obtain ⟨x0, x1, x2, x3, y0, y1, y2, y3, hxl⟩ := nd_cells H9.out.box
          obtain ⟨r0, r1, r2, r3, s0, s1, s2, s3, hrl⟩ := nd_cells H9.out.res
          obtain ⟨k0, k1, k2, k3, _, _, _, _, hkl⟩ := nd_cells HY9.out
          by_cases hz1 : E1 = 0
          · subst hz1
            go_wp2_with fail
            refine (refTreeWalk_any R W9 _ _ ⟨_, rfl, HSL.out.lt2⟩ (fun b hb => hb.2) HO1.out.1 (by have := walk_len R; have := HO1.out.2; omega)).mono ?_
            rintro e w10 ⟨rv2, rfl, hb, _, _⟩
            obtain ⟨E2, hE2⟩ : ∃ E2, (wholeP RP (R.walk.map GoEv.ev)).2 = E2 := ⟨_, rfl⟩
            have HE2 := Lib.hid (show R.wh = E2 from hE2)
            rw [hE2]
            have H10 := Lib.hid (H9.out.below hb)
            have HY10 := Lib.hid ((hb.block _ hkl).trans HY9.out)
            have HSL10 := Lib.hid (HSL.out.below hb)
            clear hb hE2 x0 x1 x2 x3 y0 y1 y2 y3 hxl r0 r1 r2 r3 s0 s1 s2 s3 hrl k0 k1 k2 k3 hkl
            obtain ⟨x0, x1, x2, x3, y0, y1, y2, y3, hxl⟩ := nd_cells H10.out.box
            obtain ⟨r0, r1, r2, r3, s0, s1, s2, s3, hrl⟩ := nd_cells H10.out.res
            obtain ⟨z0, z1, z2, z3, v0, v1, v2, v3, hzl⟩ := nd_cells H10.out.x
            obtain ⟨k0, k1, k2, k3, _, _, _, _, hkl⟩ := nd_cells HY10.out
            by_cases hz2 : E2 = 0
            · subst hz2
              have HNX := Lib.hid (HPN.out trivial HE2.out)
              have HAN := Lib.hid (H10.out.lay R (.slice a R.kids.length c) (HSL10.out.to fun b hb => hb.1))
              go_wp2_with fail
              go_roundw
              case rel => exact ⟨i + 1, R, _, by omega, by go_num, HNX.out, HAN.out⟩
              case measure => simp [intOf]; omega
            · have hzb : (E2 != 0) = true := by simp [hz2]
              have HAPP := Lib.hid (show applyP n l = (n, i, E2) by
                have hp := HPS.out E2 hz2 (.inr ⟨trivial, HE2.out⟩)
                unfold applyP
                rw [if_neg (by rw [HEQ.out]; simp), hp, if_pos hz2])
              clear hz2
              go_wp2_with fail
              obtain ⟨W, hW, hf, hpost⟩ := H10.out.fin n ua uc i E2 ((HS.out.below H10.out.bel).to fun b hb => ⟨.inl hb, by have := H10.out.lo; have hb2 : b < w.heap.size := hb; omega⟩)
              rw [hW]
              obtain ⟨q0, q1, q2, q3, _, _, _, _, hql⟩ := nd_cells hf
              refine bodyPost_ret (v := .tuple #[.agg #[.int .i64 n.k, .string n.t, .string n.v, .slice ua n.kids.length uc], .int .i64 i, .int .i64 E2]) (by simp [results, Tryz.results17, go_sem, q0, q1, q2, q3]) rfl ?_
              rw [HAPP.out]
              exact hpost
          · have hzb : (E1 != 0) = true := by simp [hz1]
            have hzd : (E1 == 0) = false := by simp [hz1]
            have HAPP := Lib.hid (show applyP n l = (n, i, E1) by
              have hp := HPS.out E1 hz1 (.inl rfl)
              unfold applyP
              rw [if_neg (by rw [HEQ.out]; simp), hp, if_pos hz1])
            clear hz1
            go_wp2_with fail
            obtain ⟨W, hW, hf, hpost⟩ := H9.out.fin n ua uc i E1 ((HS.out.below H9.out.bel).to fun b hb => ⟨.inl hb, by have := H9.out.lo; have hb2 : b < w.heap.size := hb; omega⟩)
            rw [hW]
            obtain ⟨q0, q1, q2, q3, _, _, _, _, hql⟩ := nd_cells hf
            refine bodyPost_ret (v := .tuple #[.agg #[.int .i64 n.k, .string n.t, .string n.v, .slice ua n.kids.length uc], .int .i64 i, .int .i64 E1]) (by simp [results, Tryz.results17, go_sem, q0, q1, q2, q3]) rfl ?_
            rw [HAPP.out]
            exact hpost
      · obtain rfl : i = l.length := by omega
        have hpl := HPL.out
        rw [List.take_length] at hpl
        have HAPP := Lib.hid (show applyP n l = (y, l.length, 0) by
          unfold applyP
          rw [if_neg (by rw [HEQ.out]; simp), hpl, if_neg (by simp)])
        clear hpl hlt
        go_wp2_with fail
        obtain ⟨W, hW, hf, hpost⟩ := HA.out.fin y ya yc l.length 0 HA.out.ks
        rw [hW]
        obtain ⟨q0, q1, q2, q3, _, _, _, _, hql⟩ := nd_cells hf
        refine bodyPost_ret (v := .tuple #[.agg #[.int .i64 y.k, .string y.t, .string y.v, .slice ya y.kids.length yc], .int .i64 l.length, .int .i64 0]) (by simp [results, Tryz.results17, go_sem, q0, q1, q2, q3]) rfl ?_
        rw [HAPP.out]
        exact hpost
  · have hzb : (E != 0) = true := by simp [hz]
    have HZ := Lib.hid hz
    clear hz
    go_wp2_with fail
    obtain ⟨hf, hgr⟩ := fill4 (.int .i64 0) (.string ⟨#[]⟩) (.string ⟨#[]⟩) (.slice none 0 0) HR1.out
    obtain ⟨w8, hw8⟩ : ∃ w8, ((((w2.setCell ⟨w.heap.size + 1, 0, none⟩ (.int .i64 0)).setCell ⟨w.heap.size + 1, 1, none⟩ (.string ⟨#[]⟩)).setCell ⟨w.heap.size + 1, 2, none⟩ (.string ⟨#[]⟩)).setCell ⟨w.heap.size + 1, 3, none⟩ (.slice none 0 0)) = w8 := ⟨_, rfl⟩
    rw [hw8] at hf hgr
    rw [hw8]
    obtain ⟨q0, q1, q2, q3, _, _, _, _, hql⟩ := nd_cells hf
    refine bodyPost_ret (v := .tuple #[.agg #[.int .i64 0, .string ⟨#[]⟩, .string ⟨#[]⟩, .slice none 0 0], .int .i64 0, .int .i64 E]) (by simp [results, Tryz.results17, go_sem, q0, q1, q2, q3]) rfl ?_
    have happ : applyP n l = (zeroNd, 0, E) := by unfold applyP; rw [HEQ.out, if_pos HZ.out]
    rw [happ]
    exact ⟨none, 0, rfl, ⟨none, 0, rfl, Nat.le_refl _, by decide, .inl rfl⟩, HB2.out.grown hgr HB2.out.size (fun b hb => by injection hb; omega)⟩
end Go.Proofs.YtdaamiihldbekaaGreatDoor
