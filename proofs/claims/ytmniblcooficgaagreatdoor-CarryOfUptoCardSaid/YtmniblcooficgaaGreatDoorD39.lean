import Derived.Deep.DeepCutAuto
import Derived.Deep.CutBlock
import Derived.Deep.RegionHeld3
import Derived.Test.YtmniblcooficgaaGreatDoorD38
namespace Go.Proofs.YtmniblcooficgaaGreatDoor
open Go.RowKit Ev5
set_option linter.unusedSimpArgs false
set_option linter.unusedVariables false

theorem below_setF {b j B : Nat} {y : Value} {w w' : World} (h : Below B w w') (hb : B ≤ b) : Below B w (w'.setCell ⟨b, j, none⟩ y) :=
  ⟨h.os, h.tape, h.output, by simp; exact h.size, fun k hk => (set_other (by omega)).trans (h.block k hk)⟩
theorem lk_setD {w : World} {B X D j : Nat} {v y : Value} {p : List Int} (h : Lk w B X v p) (hDX : D ≠ X) (hDv : v.ownBlock ≠ some D) : Lk (w.setCell ⟨D, j, none⟩ y) B X v p :=
  ⟨(set_other (fun e => hDX e.symm)).trans h.blk, h.row.kept (row := some D) ⟨rfl, rfl, rfl, by simp, fun k _ hk => set_other (fun e => hk (by rw [e]))⟩ (.inr hDv), h.ne, h.lo, h.ok⟩
theorem farD_set {w w5 : World} {X D j : Nat} {v y : Value} (h : Below w.heap.size w w5) : LkFarD D X v w (w5.setCell ⟨D, j, none⟩ y) :=
  ⟨h.os, h.tape, h.output, by simp; exact h.size, fun k hk _ hkD _ => (set_other hkD).trans (h.block k hk)⟩
theorem endD_of {D B X : Nat} {d : Bool} {v : Value} {p : List Int} {o : Option (List Int)} {w w6 w' : World} {e : Ending} (h6 : LkFarD D X v w w6) (hD : w6.heap[D]? = some (.cells #[.bool d] 4 (0, 0))) (hDX : D ≠ X) (hDv : v.ownBlock ≠ some D) (he : LkEnd B X v p o w6 e w') : LkEndD D d B X v p o w e w' := by
  cases o with
  | none =>
    obtain ⟨hr, v', hp⟩ := he
    refine ⟨hr, ⟨v', hp.lk, h6.trans (.inl rfl) (hp.far.toD D), ?_⟩, (hp.far.oth D (lt_blk hD) hDX hDv).trans hD⟩
    rcases hp.at_ with e | e
    · exact .inl e
    · exact .inr fun g hg => Nat.le_trans h6.size (e g hg)
  | some q =>
    obtain ⟨hfar, a, c, he, hi⟩ := he
    exact ⟨h6.trans (.inl rfl) (hfar.toD D), a, c, he, hi.mono h6.size⟩
def TableAt (n : Nd) (way : List Nd) : Prop := ∀ (q : List UInt8), tabS (way ++ [n]) = some q → PathK way q → pathL way q + 2000000 * n.size ≤ 900000000000 → ∀ (W : World) (B X : Nat) (v : Value) (p : List Int) (S : Nat → Prop) (u : Value), (∀ W', Below B W W' → EnvU W') → Lk W B X v p → NdV W S (ndV n u) n → (∀ b, S b → b < B) → B ≤ W.heap.size → p.length + n.size ≤ 100000 →
  Calls Tryz.prog 32 #[.pointer (some ⟨X, 0, none⟩), ndV n u, .int .i64 ((pathL way q : Nat) : Int)] W (LkEnd B X v p (firstP tpS way n p) W)
set_option maxRecDepth 100000 in
set_option maxHeartbeats 16000000 in
theorem tableF_any (n f x : Nd) (way : List Nd) (q : List UInt8) (dI : Bool) (hq : tabS (way ++ [n]) = some q) (hp : PathK way q) (hq2 : dotE q f ≠ []) (h8 : f.k = 8) (hfk : f.kids = [x]) (hxw : x.wh = 0) (hah : aheadS n f = dI) (hok : f.ok) (hsz : f.size ≤ 50000) (hP : pathL way q + 2000000 * (f.size + 1) ≤ 900000000000)
    (hT7 : x.k = 7 → TableAt x (way ++ [n] ++ [f])) (hTR : rowsS x = true → ∀ r ∈ x.kids, TableAt r (way ++ [n] ++ [f] ++ [x]))
    (W : World) (pb db lb X B : Nat) (v : Value) (p : List Int) (S : Nat → Prop) (u : Value) (i : Int) (hE : ∀ W', Below B W W' → EnvU W')
    (hpb : W.heap[pb]? = some (.cells #[.int .i64 ((pathL way q : Nat) : Int)] 3 (0, 0))) (hdb : W.heap[db]? = some (.cells #[.bool dI] 4 (0, 0))) (hlb : W.heap[lb]? = some (.cells #[.pointer (some ⟨X, 0, none⟩)] 41 (0, 0)))
    (hne : ∀ b, b = pb ∨ b = db ∨ b = lb → b ≠ X ∧ v.ownBlock ≠ some b) (hdl : db ≠ lb ∧ db ≠ pb) (hDB : B ≤ db)
    (hlk : Lk W B X v p) (hv : NdV W S (ndV f u) f) (hSB : ∀ b, S b → b < B) (hB : B ≤ W.heap.size) (hl : p.length + f.size ≤ 100000) :
    Calls Tryz.prog 58 #[.int .i64 i, ndV f u, .pointer (some ⟨pb, 0, none⟩), .pointer (some ⟨db, 0, none⟩), .pointer (some ⟨lb, 0, none⟩)] W (LkEndD db (dI || deepS f) B X v p (firstP tpS (way ++ [n]) f p) W) := by
  obtain ⟨u2, e2, hs⟩ := hv
  obtain rfl : u = u2 := by simpa [ndV] using e2
  clear e2
  obtain ⟨ao, cap, rfl, hcap, hcm⟩ := hs.shape
  have hmf : ∀ (fn : Fn) (first cap : Array Value) (w : World), (Instr.makeFunc fn first cap).run Tryz.prog w = .ok (.func fn first cap) w := fun _ _ _ _ => rfl
  have hft : f.t.size ≤ 1048576 := by
    cases f with
    | mk a b c d => rw [ok_mk] at hok; exact hok.1.t
  obtain ⟨kb, ko, kx, hko, hkw, k0, k1, k2, k3, hkx⟩ := hs.at_ 0 (by rw [hfk]; simp)
  obtain ⟨ay, cy, rfl, hy1, hy2⟩ := hkx.shape
  clear hy1 hy2
  subst hko
  have hget : f.kids[0]'(by rw [hfk]; simp) = x := by
    have h := List.getElem_of_eq hfk (i := 0) (by rw [hfk]; simp)
    rw [h]; rfl
  rw [hget] at k0 k1 k2 k3 hkx
  rw [Nat.zero_mul, Nat.add_zero] at k0 k1 k2 k3
  have hB0 : Below W.heap.size W (W.alloc (.cells #[.int .i64 f.k, .string f.t, .string f.v, .slice (some ⟨kb, ko, none⟩) f.kids.length cap] 24)) := (Below.refl _ _).alloc (Nat.le_refl _) _
  have d0 := (hB0.cell (p := ⟨kb, ko, none⟩) hkw).trans k0
  have d1 := (hB0.cell (p := ⟨kb, ko + 1, none⟩) hkw).trans k1
  have d2 := (hB0.cell (p := ⟨kb, ko + 2, none⟩) hkw).trans k2
  have d3 := (hB0.cell (p := ⟨kb, ko + 3, none⟩) hkw).trans k3
  have hkl := Nat.lt_of_lt_of_le hkw hB0.size
  have hl1 : (0 : Int) < (f.kids.length : Int) := by rw [hfk]; simp
  obtain ⟨W1, hW1⟩ : ∃ W1, (W.alloc (.cells #[.int .i64 f.k, .string f.t, .string f.v, .slice (some ⟨kb, ko, none⟩) f.kids.length cap] 24)).alloc (.cells #[.int .i64 x.k, .string x.t, .string x.v, .slice ay x.kids.length cy] 24) = W1 := ⟨_, rfl⟩
  have HB1 := Lib.hid (show Below W.heap.size W W1 from hW1 ▸ hB0.alloc (by simp) _)
  have HFB := Lib.hid (show W1.heap[W.heap.size]? = some (.cells #[.int .i64 f.k, .string f.t, .string f.v, .slice (some ⟨kb, ko, none⟩) f.kids.length cap] 24 (0, 0)) from hW1 ▸ two_first W _ _)
  have HVB := Lib.hid (show W1.heap[W.heap.size + 1]? = some (.cells #[.int .i64 x.k, .string x.t, .string x.v, .slice ay x.kids.length cy] 24 (0, 0)) from hW1 ▸ two_last W _ _)
  have HPB := Lib.hid ((HB1.out.block _ (lt_blk hpb)).trans hpb)
  have HDB := Lib.hid ((HB1.out.block _ (lt_blk hdb)).trans hdb)
  have HLB := Lib.hid ((HB1.out.block _ (lt_blk hlb)).trans hlb)
  have HXV := Lib.hid (show NdV W _ (.agg #[.int .i64 x.k, .string x.t, .string x.v, .slice ay x.kids.length cy]) x from NdV.mk hkx.ltC)
  have HFV := Lib.hid (show NdV W _ (.agg #[.int .i64 f.k, .string f.t, .string f.v, .slice (some ⟨kb, ko, none⟩) f.kids.length cap]) f from NdV.mk hs.ltC)
  have H := Lib.hid hlk; have HS := Lib.hid hs; have HSB := Lib.hid hSB; have HBB := Lib.hid hB; have HE := Lib.hid hE; have HNE := Lib.hid hne; have HDL := Lib.hid hdl; have HDBB := Lib.hid hDB
  have HQ := Lib.hid hq; have HPK := Lib.hid hp; have HQ2 := Lib.hid hq2; have HXW := Lib.hid hxw; have HAH := Lib.hid hah; have HOK := Lib.hid hok; have HSZ := Lib.hid hsz; have HT7 := Lib.hid hT7; have HTR := Lib.hid hTR; have HFK := Lib.hid hfk; have H8 := Lib.hid h8; have HL2 := Lib.hid hl
  obtain ⟨P, hPP⟩ : ∃ P, pathL way q = P := ⟨_, rfl⟩
  rw [hPP] at HPB hP
  have HPP := Lib.hid hPP
  have HWD := Lib.hid (fun (w' : World) (h : EnvU w') => wordS_any f.t w' h hft)
  obtain ⟨Q, hQ⟩ : ∃ Q, (wordP f.t).1 = Q := ⟨_, rfl⟩
  have hQs : Q.size ≤ 1048576 := by have := word_len f.t hft; rw [hQ] at this; exact this
  rw [hQ] at HWD
  have HQW := Lib.hid hQ
  have HW1 := Lib.hid hW1
  have HDLT := Lib.hid (lt_blk hdb)
  have HPB2 := Lib.hid hP
  have hP0 : P ≤ 900000000000 := by omega
  clear hs hE hok hsz hlk hSB hB hne hdl hDB hq hp hq2 hxw hah hT7 hTR hfk h8 hget hkx k0 k1 k2 k3 hB0 hpb hdb hlb hPP hQ hW1 hft hP hl
  obtain ⟨o, ho⟩ : ∃ o, firstP tpS (way ++ [n]) f p = o := ⟨_, rfl⟩
  rw [ho]
  have HO := Lib.hid ho
  obtain ⟨dd, hdd⟩ : ∃ dd, (dI || deepS f) = dd := ⟨_, rfl⟩
  rw [hdd]
  have HDDN := Lib.hid hdd
  clear ho hdd
  unfold ndV
  unfold maxLen at *
  go_enter Tryz.func58, Tryz.ntmps58
  go_upto_region 2 with (fail)
  rw [HW1.out]
  clear d0 d1 d2 d3 hkl
  go_cut [8] (fun v8 wx => ∃ ob : Nat, v8 = .pointer (some ⟨ob, 0, none⟩) ∧ Hid (Below W1.heap.size W1 wx) ∧ Hid (wx.heap[ob]? = some (.cells #[.int .i64 ((P + Q.size : Nat) : Int)] 3 (0, 0))) ∧ Hid (W1.heap.size ≤ ob))
  case first =>
    have hbr : Below W1.heap.size W1 W1.drew := (Below.refl _ _).drew
    have HDC := Lib.hid (show ∀ w' : World, Below W1.heap.size W1 w' → w'.cell? ⟨pb, 0, none⟩ = some (.int .i64 (P : Int)) ∧ w'.cell? ⟨W.heap.size, 1, none⟩ = some (.string f.t) from fun w' hb => by
      obtain ⟨x0, x1, x2, x3, _⟩ := nd_cells ((hb.block _ (lt_blk HFB.out)).trans HFB.out)
      exact ⟨(blk_cell ((hb.block _ (lt_blk HPB.out)).trans HPB.out) 0 (by simp)).1, x1⟩)
    have e1 : IntKind.i64.wrap ((P : Int) + (Q.size : Int)) = (P : Int) + (Q.size : Int) := IntWalk.i64_in _ (by omega)
    obtain ⟨c0, c1⟩ := HDC.out _ hbr
    have hEW : ∀ W', Below W1.heap.size W1 W' → EnvU W' := fun W' h => HE.out _ ((HB1.out.mono HBB.out).trans (h.mono (Nat.le_trans HBB.out HB1.out.size)))
    have HEW := Lib.hid hEW
    have hbA : Below W1.heap.size W1 (W1.alloc (.cells #[.int .i64 0] 3)).drew := ((Below.refl _ _).alloc (Nat.le_refl _) _).drew
    have hAA : (W1.alloc (.cells #[.int .i64 0] 3)).drew.heap[W1.heap.size]? = some (.cells #[.int .i64 0] 3 (0, 0)) := heap_alloc_new W1 _
    have HPQ := Lib.hid (show (P : Int) + (Q.size : Int) = ((P + Q.size : Nat) : Int) by omega)
    clear hEW
    go_region_held3 (fun w' => w'.cell? ⟨pb, 0, none⟩ = some (.int .i64 (P : Int)) ∧ w'.cell? ⟨W.heap.size, 1, none⟩ = some (.string f.t)) (first | exact HDC.out _ hbr | exact HDC.out _ hbA | exact HDC.out _ hbq | exact HDC.out _ (hbq.alloc hbq.size _) | exact HDC.out _ (below_setF hbq (Nat.le_refl _)) | go_keep) ((first
      | (go_at_call 42
         first
           | with_reducible refine (HWD.out _ (HEW.out _ hbr)).mono ?_
             rintro e wq ⟨rfl, hbn⟩
             have hbq := bthen hbr hbn
             clear hbn
           | with_reducible refine (HWD.out _ (HEW.out _ hbA)).mono ?_
             rintro e wq ⟨rfl, hbn⟩
             have hAB := (hbn.block _ (lt_blk hAA)).trans hAA
             obtain ⟨z0, z1⟩ := blk_cell hAB 0 (by simp)
             have z2 := lt_blk hAB
             have hbq := bthen hbA hbn
             clear hbn)))
    all_goals
      go_wp2_with fail
      go_meet
      case rel =>
        first
          | exact ⟨_, rfl, hbq.alloc hbq.size _, by rw [← HPQ.out]; exact heap_alloc_new wq _, hbq.size⟩
          | exact ⟨_, rfl, below_setF hbq (Nat.le_refl _), by rw [← HPQ.out]; exact heap_set1 hAB, Nat.le_refl _⟩
  case rest =>
  obtain ⟨ob, rfl, hBX, hOX, hobl⟩ := hcut
  have HBX := Lib.hid (bthen HB1.out hBX.out)
  have HF3 := Lib.hid ((hBX.out.block _ (lt_blk HFB.out)).trans HFB.out)
  have HV3 := Lib.hid ((hBX.out.block _ (lt_blk HVB.out)).trans HVB.out)
  have HD3 := Lib.hid ((hBX.out.block _ (lt_blk HDB.out)).trans HDB.out)
  have HL3B := Lib.hid ((hBX.out.block _ (lt_blk HLB.out)).trans HLB.out)
  have HO3 := Lib.hid hOX.out
  obtain ⟨OW, hOW⟩ : ∃ OW, P + Q.size = OW := ⟨_, rfl⟩
  rw [hOW] at HO3
  have hOWb : OW ≤ 900001048576 := by omega
  have HOWE := Lib.hid hOW
  clear hOW
  have HOW := Lib.hid (show W.heap.size ≤ ob from Nat.le_trans HB1.out.size hobl.out)
  have HOV := Lib.hid (show W.heap.size + 1 < ob from Nat.lt_of_lt_of_le (lt_blk HVB.out) hobl.out)
  clear hBX hOX hobl
  obtain ⟨x0, x1, x2, x3, _, _, _, _, hxl⟩ := nd_cells HV3.out
  have hxk : x.kids.length ≤ 50000 := by
    have h1 := HSZ.out
    have h2 := size_mem (x := x) (l := f.kids) (by rw [HFK.out]; simp)
    have h3 := kids_size f
    have h4 := kids_size x
    have h5 := sizes_len x.kids
    omega
  have HRO := Lib.hid (fun (W' : World) (h : Below W.heap.size W W') => rows_any x W' _ _ (HXV.out.below h) (by omega))
  obtain ⟨RB, hRB⟩ : ∃ RB, rowsS x = RB := ⟨_, rfl⟩
  rw [hRB] at HRO
  have HRB := Lib.hid hRB
  have HV0 := Lib.hid (show v0 f = x by unfold v0; rw [HFK.out]; rfl)
  have HGET := Lib.hid (show f.kids[0]'(by rw [HFK.out]; simp) = x by
    have h := List.getElem_of_eq HFK.out (i := 0) (by rw [HFK.out]; simp)
    rw [h]; rfl)
  have HXS := Lib.hid (show x.size + 1 ≤ f.size by
    have h2 := size_mem (x := x) (l := f.kids) (by rw [HFK.out]; simp)
    have h3 := kids_size f
    omega)
  have HL4 := Lib.hid (show p.length + f.size ≤ 100000 from HL2.out)
  have HL3 := Lib.hid (show p.length + f.kids.length ≤ 100000 by have h1 := HL2.out; have h2 := kids_size f; have h3 := sizes_len f.kids; omega)
  have hpl : p.length ≤ 100000 := by have := HL2.out; omega
  have HNED := Lib.hid (HNE.out db (.inr (.inl rfl)))
  clear hRB
  go_wp2_with fail
  refine (HRO.out _ HBX.out).mono ?_
  rintro e w4 ⟨rfl, hb⟩
  have HB4 := Lib.hid (bthen HBX.out hb)
  go_upto_region 4 with (fail)
  obtain ⟨w5, hw5⟩ : ∃ w5, w4.alloc (.cells #[.bool RB] 4) = w5 := ⟨_, rfl⟩
  rw [hw5]
  have HB5 := Lib.hid (show Below W.heap.size W w5 from hw5 ▸ HB4.out.alloc HB4.out.size _)
  have hb5 : Below wc.heap.size wc w5 := hw5 ▸ bthen hb ((Below.refl _ _).alloc (Nat.le_refl _) _)
  have HM4 := Lib.hid (show W.heap.size ≤ w4.heap.size from HB4.out.size)
  have HM5 := Lib.hid (show w5.heap[w4.heap.size]? = some (.cells #[.bool RB] 4 (0, 0)) from hw5 ▸ heap_alloc_new w4 (.cells #[.bool RB] 4))
  have HF5 := Lib.hid ((hb5.block _ (lt_blk HF3.out)).trans HF3.out)
  have HV5 := Lib.hid ((hb5.block _ (lt_blk HV3.out)).trans HV3.out)
  have HD5 := Lib.hid ((hb5.block _ (lt_blk HD3.out)).trans HD3.out)
  have HL5 := Lib.hid ((hb5.block _ (lt_blk HL3B.out)).trans HL3B.out)
  have HO5 := Lib.hid ((hb5.block _ (lt_blk HO3.out)).trans HO3.out)
  have HLK5 := Lib.hid (H.out.below HB5.out)
  have HDW := Lib.hid HDLT.out
  have HMD := Lib.hid (show w4.heap.size ≠ db by have := HM4.out; have := HDLT.out; omega)
  have HOD := Lib.hid (show ob ≠ db by have := HOW.out; have := HDLT.out; omega)
  have HVD := Lib.hid (show W.heap.size + 1 ≠ db by have := HDLT.out; omega)
  have HFD := Lib.hid (show W.heap.size ≠ db by have := HDLT.out; omega)
  clear hb hb5 hw5 x0 x1 x2 x3 hxl
  obtain ⟨x0, x1, x2, x3, _, _, _, _, hxl⟩ := nd_cells HV5.out
  cases RB with
  | true =>
    have HDE := Lib.hid (show deepS f = true by unfold deepS; rw [HV0.out, HRB.out]; rfl)
    have HRT := Lib.hid (show tpS (way ++ [n] ++ [f]) = decide (OW + 4 ≤ 160) by
      rw [tpS_field HQ.out H8.out, field_deep HPK.out HDE.out, HPP.out, HQW.out, HV0.out, HRB.out, HOWE.out]; rfl)
    have HDT := Lib.hid (show (dI || deepS f) = true by rw [HDE.out, Bool.or_true])
    obtain rfl : dd = true := by rw [← HDDN.out]; exact HDT.out
    obtain ⟨r0, r1⟩ := blk_cell HD5.out 0 (by simp)
    have r2 := lt_blk HD5.out
    obtain ⟨q0, q1⟩ := blk_cell HM5.out 0 (by simp)
    go_upto_region 6 with (fail)
    obtain ⟨w6, hw6⟩ : ∃ w6, (w5.setCell ⟨db, 0, none⟩ (.bool true)) = w6 := ⟨_, rfl⟩
    rw [hw6]
    have HLK6 := Lib.hid (show Lk w6 B X v p from hw6 ▸ lk_setD (HLK5.out) HNED.out.1 HNED.out.2)
    have HFAR6 := Lib.hid (show LkFarD db X v W w6 from hw6 ▸ farD_set HB5.out)
    have HDC6 := Lib.hid (show w6.heap[db]? = some (.cells #[.bool true] 4 (0, 0)) from hw6 ▸ heap_set1 HD5.out)
    have HBB6 := Lib.hid (show Below B W w6 from hw6 ▸ below_setF (HB5.out.mono HBB.out) HDBB.out)
    have HMB6 := Lib.hid (show w6.heap[w4.heap.size]? = some (.cells #[.bool true] 4 (0, 0)) from hw6 ▸ (set_other HMD.out).trans HM5.out)
    have HOB6 := Lib.hid (show w6.heap[ob]? = _ from hw6 ▸ (set_other HOD.out).trans HO5.out)
    have HLB6 := Lib.hid (show w6.heap[lb]? = _ from hw6 ▸ (set_other (fun e => HDL.out.1 e.symm)).trans HL5.out)
    have HVB6 := Lib.hid (show w6.heap[W.heap.size + 1]? = _ from hw6 ▸ (set_other HVD.out).trans HV5.out)
    have HFB6 := Lib.hid (show w6.heap[W.heap.size]? = _ from hw6 ▸ (set_other HFD.out).trans HF5.out)
    clear r0 r1 r2 q0 q1 hw6 x0 x1 x2 x3 hxl
    have t2 := lt_blk HLB6.out
    obtain ⟨t0', t1'⟩ := blk_cell HLB6.out 0 (by simp)
    obtain ⟨s0', s1'⟩ := blk_cell HOB6.out 0 (by simp)
    obtain ⟨q0', q1'⟩ := blk_cell HMB6.out 0 (by simp)
    obtain ⟨y0', y1', y2', y3', _, _, _, _, hyl'⟩ := nd_cells HFB6.out
    have HLEN := Lib.hid (show f.kids.length = 1 by rw [HFK.out]; rfl)
    by_cases g1 : 160 < OW + 4
    · obtain rfl : o = some p := by rw [← HO.out]; exact firstP_no (by rw [HRT.out]; exact decide_eq_false (by omega))
      have g2 : (160 : Int) < (OW : Int) + 4 := by omega
      go_wp2_with fail
      refine (fails_any _ B X v p HLK6.out (by omega)).mono ?_
      intro e w9 he
      have heD : LkEndD db true B X v p (some p) W e w9 := endD_of HFAR6.out HDC6.out HNED.out.1 HNED.out.2 he
      obtain ⟨hfar, a, c, rfl, hints⟩ := heD
      have HF2 := Lib.hid hfar; have HI := Lib.hid hints
      clear hfar hints he
      go_wp2_with fail
      exact ⟨rfl, HF2.out, a, c, rfl, HI.out⟩
    · have HR := Lib.hid (show kidsO (fun j => if hj : j < f.kids.length then firstP tpS (way ++ [n] ++ [f]) f.kids[j] (p ++ [(j : Int)]) else none) f.kids.length = o by
        rw [← HO.out]; exact (firstP_kids (by rw [HRT.out]; exact decide_eq_true (by omega))).symm)
      have g2 : ¬ (160 : Int) < (OW : Int) + 4 := by omega
      have g3 : ¬ (160 : Int) < (OW : Int) + 2 := by omega
      go_wp2_with fail
      have hk9 := kids_any 61 #[.pointer (some ⟨w4.heap.size, 0, none⟩), .pointer (some ⟨lb, 0, none⟩), .pointer (some ⟨ob, 0, none⟩)] (fun args w => by rfl) w6 B X v p S f (.agg #[.int .i64 f.k, .string f.t, .string f.v, .slice (some ⟨kb, ko, none⟩) f.kids.length cap]) (fun j => if hj : j < f.kids.length then firstP tpS (way ++ [n] ++ [f]) f.kids[j] (p ++ [(j : Int)]) else none) HLK6.out ⟨_, rfl, HS.out.alike ⟨HBB6.out.size, fun b hb hl => HBB6.out.block b (HSB.out b hb)⟩ fun b h _ => h⟩ HSB.out (Nat.le_trans HBB.out HBB6.out.size) (by have := HL3.out; omega) (by have := HL3.out; omega) (fun W' v' j hj uu hfar hat hlkW hnW => by
        have hj1 : j = 0 := by have := HLEN.out; omega
        subst hj1
        rw [dif_pos hj]
        have hbB : Below B W W' := HBB6.out.trans (hfar.below H.out.lo (fun g e => (H.out.row.lt g e).1) (Nat.le_trans HBB.out HBB6.out.size))
        have hxw := lt_blk H.out.blk
        have hvw : ∀ g, v.ownBlock = some g → g < W.heap.size := fun g e => (H.out.row.lt g e).2
        have keep : ∀ b, W.heap.size ≤ b → b < (w6).heap.size → W'.heap[b]? = (w6).heap[b]? := fun b h1 h2 => hfar.oth b h2 (by omega) (fun e => by have := hvw b e; omega)
        have hmb := (keep w4.heap.size HM4.out (lt_blk HMB6.out)).trans HMB6.out
        have hob2 := (keep ob HOW.out (lt_blk HOB6.out)).trans HOB6.out
        have hlb2 := (hfar.oth lb (lt_blk HLB6.out) (HNE.out lb (.inr (.inr rfl))).1 (HNE.out lb (.inr (.inr rfl))).2).trans HLB6.out
        have hnv : ∀ b, b = lb ∨ b = ob → b ≠ X ∧ v'.ownBlock ≠ some b := fun b hb => by
          have h1 : b ≠ X ∧ v.ownBlock ≠ some b := by
            rcases hb with rfl | rfl
            · exact HNE.out _ (.inr (.inr rfl))
            · exact ⟨by have := HOW.out; omega, fun e => by have := hvw _ e; have := HOW.out; omega⟩
          refine ⟨h1.1, ?_⟩
          rcases hat with e | e
          · rw [e]; exact h1.2
          · intro e2
            have h2 := e b e2
            have h3 : b < (w6).heap.size := by
              rcases hb with rfl | rfl
              · exact lt_blk HLB6.out
              · exact lt_blk HOB6.out
            omega
        have hgx : f.kids[0]'hj = x := HGET.out
        have hnx : NdV W' S (ndV x uu) x := by rw [hgx] at hnW; exact hnW
        have hcs : (dotE q f).length = OW := by rw [path_len HPK.out f, HPP.out, HQW.out, HOWE.out]
        have hxsz : x.size + 1 ≤ f.size := HXS.out
        have hll := HL4.out
        have hpp := HPB2.out
        have hoe := HOWE.out
        rw [hgx]
        have h5 : x.k = 5 := by
          have h := HRB.out
          unfold rowsS at h
          simp only [Bool.and_eq_true, decide_eq_true_eq] at h
          exact h.1
        have hfx := firstP_kids (tp := tpS) (way := way ++ [n] ++ [f]) (n := x) (p := p ++ [((0 : Nat) : Int)]) (tpS_list h5 (by simp))
        rw [hfx]
        refine tableV1_any x OW (fun i => if hi : i < x.kids.length then firstP tpS (way ++ [n] ++ [f] ++ [x]) x.kids[i] (p ++ [((0 : Nat) : Int)] ++ [(i : Int)]) else none) (by omega) W' w4.heap.size lb ob X B v' _ S uu _ hmb hlb2 hob2 hnv hlkW hnx HSB.out (Nat.le_trans HBB.out hbB.size) (by rw [List.length_append, List.length_singleton]; omega) (fun W2 v2 j hj2 u2 hb2 hlk2 hn2 => ?_)
        rw [dif_pos hj2]
        have hxk := kid_size (n := x) hj2
        have h9 := HTR.out HRB.out x.kids[j] (List.getElem_mem hj2) (dotE q f) (tabS_rows HQ.out (by rw [HV0.out]; exact HRB.out)) (.inr ⟨by simp, HQ2.out⟩) (by rw [pathL_next (by simp), hcs]; omega) W2 B X v2 (p ++ [((0 : Nat) : Int)] ++ [(j : Int)]) S u2 (fun W3 h3 => HE.out _ ((hbB.trans hb2).trans h3)) hlk2 hn2 HSB.out (Nat.le_trans HBB.out (Nat.le_trans hbB.size hb2.size)) (by simp only [List.length_append, List.length_singleton]; omega)
        rw [pathL_next (by simp), hcs] at h9
        exact h9)
      rw [HR.out] at hk9
      refine hk9.mono ?_
      clear hk9
      intro e w9 he
      have heD : LkEndD db true B X v p o W e w9 := endD_of HFAR6.out HDC6.out HNED.out.1 HNED.out.2 he
      cases o with
      | none =>
        obtain ⟨⟨rr, rfl⟩, hpo, hdd⟩ := heD
        have HPO := Lib.hid hpo; have HDD := Lib.hid hdd
        clear hpo hdd he
        go_wp2_with fail
        go_end0
        exact ⟨⟨_, rfl⟩, HPO.out, HDD.out⟩
      | some q =>
        obtain ⟨hfar, a, c, rfl, hints⟩ := heD
        have HF2 := Lib.hid hfar; have HI := Lib.hid hints
        clear hfar hints he
        go_wp2_with fail
        exact ⟨rfl, HF2.out, a, c, rfl, HI.out⟩
  | false =>
    by_cases h7 : x.k = 7
    · have h7b : (x.k == 7) = true := by simp [h7]
      have H7 := Lib.hid h7
      have HDE := Lib.hid (show deepS f = true by unfold deepS; rw [HV0.out, decide_eq_true h7, Bool.or_true])
      clear h7
      have HRT := Lib.hid (show tpS (way ++ [n] ++ [f]) = decide (OW + 2 ≤ 160) by
        rw [tpS_field HQ.out H8.out, field_deep HPK.out HDE.out, HPP.out, HQW.out, HV0.out, HRB.out, HOWE.out]; rfl)
      have HDT := Lib.hid (show (dI || deepS f) = true by rw [HDE.out, Bool.or_true])
      obtain rfl : dd = true := by rw [← HDDN.out]; exact HDT.out
      obtain ⟨r0, r1⟩ := blk_cell HD5.out 0 (by simp)
      have r2 := lt_blk HD5.out
      obtain ⟨q0, q1⟩ := blk_cell HM5.out 0 (by simp)
      go_upto_region 6 with (fail)
      obtain ⟨w6, hw6⟩ : ∃ w6, (w5.setCell ⟨db, 0, none⟩ (.bool true)) = w6 := ⟨_, rfl⟩
      rw [hw6]
      have HLK6 := Lib.hid (show Lk w6 B X v p from hw6 ▸ lk_setD (HLK5.out) HNED.out.1 HNED.out.2)
      have HFAR6 := Lib.hid (show LkFarD db X v W w6 from hw6 ▸ farD_set HB5.out)
      have HDC6 := Lib.hid (show w6.heap[db]? = some (.cells #[.bool true] 4 (0, 0)) from hw6 ▸ heap_set1 HD5.out)
      have HBB6 := Lib.hid (show Below B W w6 from hw6 ▸ below_setF (HB5.out.mono HBB.out) HDBB.out)
      have HMB6 := Lib.hid (show w6.heap[w4.heap.size]? = some (.cells #[.bool false] 4 (0, 0)) from hw6 ▸ (set_other HMD.out).trans HM5.out)
      have HOB6 := Lib.hid (show w6.heap[ob]? = _ from hw6 ▸ (set_other HOD.out).trans HO5.out)
      have HLB6 := Lib.hid (show w6.heap[lb]? = _ from hw6 ▸ (set_other (fun e => HDL.out.1 e.symm)).trans HL5.out)
      have HVB6 := Lib.hid (show w6.heap[W.heap.size + 1]? = _ from hw6 ▸ (set_other HVD.out).trans HV5.out)
      have HFB6 := Lib.hid (show w6.heap[W.heap.size]? = _ from hw6 ▸ (set_other HFD.out).trans HF5.out)
      clear r0 r1 r2 q0 q1 hw6 x0 x1 x2 x3 hxl
      have t2 := lt_blk HLB6.out
      obtain ⟨t0', t1'⟩ := blk_cell HLB6.out 0 (by simp)
      obtain ⟨s0', s1'⟩ := blk_cell HOB6.out 0 (by simp)
      obtain ⟨q0', q1'⟩ := blk_cell HMB6.out 0 (by simp)
      obtain ⟨y0', y1', y2', y3', _, _, _, _, hyl'⟩ := nd_cells HFB6.out
      have HLEN := Lib.hid (show f.kids.length = 1 by rw [HFK.out]; rfl)
      by_cases g1 : 160 < OW + 2
      · obtain rfl : o = some p := by rw [← HO.out]; exact firstP_no (by rw [HRT.out]; exact decide_eq_false (by omega))
        have g2 : (160 : Int) < (OW : Int) + 2 := by omega
        go_wp2_with fail
        refine (fails_any _ B X v p HLK6.out (by omega)).mono ?_
        intro e w9 he
        have heD : LkEndD db true B X v p (some p) W e w9 := endD_of HFAR6.out HDC6.out HNED.out.1 HNED.out.2 he
        obtain ⟨hfar, a, c, rfl, hints⟩ := heD
        have HF2 := Lib.hid hfar; have HI := Lib.hid hints
        clear hfar hints he
        go_wp2_with fail
        exact ⟨rfl, HF2.out, a, c, rfl, HI.out⟩
      · have HR := Lib.hid (show kidsO (fun j => if hj : j < f.kids.length then firstP tpS (way ++ [n] ++ [f]) f.kids[j] (p ++ [(j : Int)]) else none) f.kids.length = o by
          rw [← HO.out]; exact (firstP_kids (by rw [HRT.out]; exact decide_eq_true (by omega))).symm)
        have g2 : ¬ (160 : Int) < (OW : Int) + 2 := by omega
        have g3 : ¬ (160 : Int) < (OW : Int) + 2 := by omega
        go_wp2_with fail
        have hk9 := kids_any 61 #[.pointer (some ⟨w4.heap.size, 0, none⟩), .pointer (some ⟨lb, 0, none⟩), .pointer (some ⟨ob, 0, none⟩)] (fun args w => by rfl) w6 B X v p S f (.agg #[.int .i64 f.k, .string f.t, .string f.v, .slice (some ⟨kb, ko, none⟩) f.kids.length cap]) (fun j => if hj : j < f.kids.length then firstP tpS (way ++ [n] ++ [f]) f.kids[j] (p ++ [(j : Int)]) else none) HLK6.out ⟨_, rfl, HS.out.alike ⟨HBB6.out.size, fun b hb hl => HBB6.out.block b (HSB.out b hb)⟩ fun b h _ => h⟩ HSB.out (Nat.le_trans HBB.out HBB6.out.size) (by have := HL3.out; omega) (by have := HL3.out; omega) (fun W' v' j hj uu hfar hat hlkW hnW => by
          have hj1 : j = 0 := by have := HLEN.out; omega
          subst hj1
          rw [dif_pos hj]
          have hbB : Below B W W' := HBB6.out.trans (hfar.below H.out.lo (fun g e => (H.out.row.lt g e).1) (Nat.le_trans HBB.out HBB6.out.size))
          have hxw := lt_blk H.out.blk
          have hvw : ∀ g, v.ownBlock = some g → g < W.heap.size := fun g e => (H.out.row.lt g e).2
          have keep : ∀ b, W.heap.size ≤ b → b < (w6).heap.size → W'.heap[b]? = (w6).heap[b]? := fun b h1 h2 => hfar.oth b h2 (by omega) (fun e => by have := hvw b e; omega)
          have hmb := (keep w4.heap.size HM4.out (lt_blk HMB6.out)).trans HMB6.out
          have hob2 := (keep ob HOW.out (lt_blk HOB6.out)).trans HOB6.out
          have hlb2 := (hfar.oth lb (lt_blk HLB6.out) (HNE.out lb (.inr (.inr rfl))).1 (HNE.out lb (.inr (.inr rfl))).2).trans HLB6.out
          have hnv : ∀ b, b = lb ∨ b = ob → b ≠ X ∧ v'.ownBlock ≠ some b := fun b hb => by
            have h1 : b ≠ X ∧ v.ownBlock ≠ some b := by
              rcases hb with rfl | rfl
              · exact HNE.out _ (.inr (.inr rfl))
              · exact ⟨by have := HOW.out; omega, fun e => by have := hvw _ e; have := HOW.out; omega⟩
            refine ⟨h1.1, ?_⟩
            rcases hat with e | e
            · rw [e]; exact h1.2
            · intro e2
              have h2 := e b e2
              have h3 : b < (w6).heap.size := by
                rcases hb with rfl | rfl
                · exact lt_blk HLB6.out
                · exact lt_blk HOB6.out
              omega
          have hgx : f.kids[0]'hj = x := HGET.out
          have hnx : NdV W' S (ndV x uu) x := by rw [hgx] at hnW; exact hnW
          have hcs : (dotE q f).length = OW := by rw [path_len HPK.out f, HPP.out, HQW.out, HOWE.out]
          have hxsz : x.size + 1 ≤ f.size := HXS.out
          have hll := HL4.out
          have hpp := HPB2.out
          have hoe := HOWE.out
          rw [hgx]
          refine tableV2_any x OW _ (by omega) H7.out W' w4.heap.size lb ob X B v' _ uu _ (by obtain ⟨u2, e2, h2⟩ := hnx; obtain ⟨a2, c2, h3, _⟩ := h2.shape; exact ⟨a2, _, c2, (show uu = u2 by simpa [ndV] using e2).trans h3⟩) hmb hlb2 hob2 (fun W2 hb2 => ?_)
          have h9 := HT7.out H7.out (dotE q f) (tabS_map HQ.out (by rw [HV0.out]; exact HRB.out) (by rw [HV0.out]; exact H7.out)) (.inr ⟨by simp, HQ2.out⟩) (by rw [pathL_next (by simp), hcs]; omega) W2 B X v' (p ++ [((0 : Nat) : Int)]) S uu (fun W3 h3 => HE.out _ ((hbB.trans (hb2.mono (Nat.le_trans HBB.out hbB.size))).trans h3)) (hlkW.below hb2) (hnx.below hb2) HSB.out (Nat.le_trans HBB.out (Nat.le_trans hbB.size hb2.size)) (by rw [List.length_append, List.length_singleton]; omega)
          rw [pathL_next (by simp), hcs] at h9
          exact h9)
        rw [HR.out] at hk9
        refine hk9.mono ?_
        clear hk9
        intro e w9 he
        have heD : LkEndD db true B X v p o W e w9 := endD_of HFAR6.out HDC6.out HNED.out.1 HNED.out.2 he
        cases o with
        | none =>
          obtain ⟨⟨rr, rfl⟩, hpo, hdd⟩ := heD
          have HPO := Lib.hid hpo; have HDD := Lib.hid hdd
          clear hpo hdd he
          go_wp2_with fail
          go_end0
          exact ⟨⟨_, rfl⟩, HPO.out, HDD.out⟩
        | some q =>
          obtain ⟨hfar, a, c, rfl, hints⟩ := heD
          have HF2 := Lib.hid hfar; have HI := Lib.hid hints
          clear hfar hints he
          go_wp2_with fail
          exact ⟨rfl, HF2.out, a, c, rfl, HI.out⟩
    · have h7b : (x.k == 7) = false := by simp [h7]
      have H7 := Lib.hid h7
      have HDE := Lib.hid (show deepS f = false by unfold deepS; rw [HV0.out, HRB.out, decide_eq_false h7]; rfl)
      clear h7
      have HRT := Lib.hid (show tpS (way ++ [n] ++ [f]) = (!dI && (f.elems || decide ((f.txt rowF).length ≤ 160))) by
        rw [tpS_field HQ.out H8.out]
        unfold fieldS
        rw [if_neg (by rw [HDE.out]; simp), HAH.out])
      have HDT := Lib.hid (show (dI || deepS f) = dI by rw [HDE.out, Bool.or_false])
      obtain rfl : dI = dd := by rw [← HDDN.out]; exact HDT.out.symm
      have HFAR5 := Lib.hid (show LkFarD db X v W w5 from LkFarD.of HB5.out)
      obtain ⟨t0, t1⟩ := blk_cell HL5.out 0 (by simp)
      have t2 := lt_blk HL5.out
      obtain ⟨r0, r1⟩ := blk_cell HD5.out 0 (by simp)
      have r2 := lt_blk HD5.out
      obtain ⟨q0, q1⟩ := blk_cell HM5.out 0 (by simp)
      obtain ⟨y0, y1, y2, y3, _, _, _, _, hyl⟩ := nd_cells HF5.out
      have HLEN := Lib.hid (show f.kids.length = 1 by rw [HFK.out]; rfl)
      cases dI with
      | true =>
        obtain rfl : o = some p := by rw [← HO.out]; exact firstP_no (by rw [HRT.out]; rfl)
        go_wp2_with fail
        refine (fails_any _ B X v p HLK5.out (by omega)).mono ?_
        intro e w9 he
        have heD : LkEndD db true B X v p (some p) W e w9 := endD_of HFAR5.out HD5.out HNED.out.1 HNED.out.2 he
        obtain ⟨hfar, a, c, rfl, hints⟩ := heD
        have HF2 := Lib.hid hfar; have HI := Lib.hid hints
        clear hfar hints he
        go_wp2_with fail
        exact ⟨rfl, HF2.out, a, c, rfl, HI.out⟩
      | false =>
        have HFI := Lib.hid (fun (W' : World) (h1 : EnvU W') (h2 : NdV W' (fun b => b < W.heap.size) (.agg #[.int .i64 f.k, .string f.t, .string f.v, .slice (some ⟨kb, ko, none⟩) f.kids.length cap]) f) => show Calls Tryz.prog 60 #[.pointer (some ⟨X, 0, none⟩), .agg #[.int .i64 f.k, .string f.t, .string f.v, .slice (some ⟨kb, ko, none⟩) f.kids.length cap]] W' _ from fits_any f x HFK.out H8.out HXW.out HOK.out HSZ.out W' _ X (.slice (some ⟨kb, ko, none⟩) f.kids.length cap) h1 h2)
        obtain ⟨FB, hFB⟩ : ∃ FB, (f.elems || decide ((f.txt rowF).length ≤ 160)) = FB := ⟨_, rfl⟩
        rw [hFB] at HRT HFI
        clear hFB
        go_wp2_with fail
        refine (HFI.out _ (HE.out _ (HB5.out.mono HBB.out)) (HFV.out.below HB5.out)).mono ?_
        rintro e w6 ⟨rfl, hb⟩
        have HB6 := Lib.hid (bthen HB5.out hb)
        have HLK6 := Lib.hid (HLK5.out.below hb)
        have HFAR6 := Lib.hid (show LkFarD db X v W w6 from LkFarD.of HB6.out)
        have HD6 := Lib.hid ((hb.block _ (lt_blk HD5.out)).trans HD5.out)
        have HBB6 := Lib.hid (show Below B W w6 from HB6.out.mono HBB.out)
        have HMB6 := Lib.hid ((hb.block _ (lt_blk HM5.out)).trans HM5.out)
        have HOB6 := Lib.hid ((hb.block _ (lt_blk HO5.out)).trans HO5.out)
        have HLB6 := Lib.hid ((hb.block _ (lt_blk HL5.out)).trans HL5.out)
        have HFB6 := Lib.hid ((hb.block _ (lt_blk HF5.out)).trans HF5.out)
        clear hb t0 t1 t2 r0 r1 r2 q0 q1 y0 y1 y2 y3 hyl
        obtain ⟨t0, t1⟩ := blk_cell HLB6.out 0 (by simp)
        have t2 := lt_blk HLB6.out
        obtain ⟨y0, y1, y2, y3, _, _, _, _, hyl⟩ := nd_cells HFB6.out
        cases FB with
        | false =>
          obtain rfl : o = some p := by rw [← HO.out]; exact firstP_no (by rw [HRT.out]; rfl)
          go_wp2_with fail
          refine (fails_any _ B X v p HLK6.out (by omega)).mono ?_
          intro e w9 he
          have heD : LkEndD db false B X v p (some p) W e w9 := endD_of HFAR6.out HD6.out HNED.out.1 HNED.out.2 he
          obtain ⟨hfar, a, c, rfl, hints⟩ := heD
          have HF2 := Lib.hid hfar; have HI := Lib.hid hints
          clear hfar hints he
          go_wp2_with fail
          exact ⟨rfl, HF2.out, a, c, rfl, HI.out⟩
        | true =>
          have HR := Lib.hid (show kidsO (fun j => if hj : j < f.kids.length then firstP tpS (way ++ [n] ++ [f]) f.kids[j] (p ++ [(j : Int)]) else none) f.kids.length = o by
            rw [← HO.out]; exact (firstP_kids (by rw [HRT.out]; rfl)).symm)
          go_wp2_with fail
          have hk9 := kids_any 61 #[.pointer (some ⟨w4.heap.size, 0, none⟩), .pointer (some ⟨lb, 0, none⟩), .pointer (some ⟨ob, 0, none⟩)] (fun args w => by rfl) w6 B X v p S f (.agg #[.int .i64 f.k, .string f.t, .string f.v, .slice (some ⟨kb, ko, none⟩) f.kids.length cap]) (fun j => if hj : j < f.kids.length then firstP tpS (way ++ [n] ++ [f]) f.kids[j] (p ++ [(j : Int)]) else none) HLK6.out ⟨_, rfl, HS.out.alike ⟨HBB6.out.size, fun b hb hl => HBB6.out.block b (HSB.out b hb)⟩ fun b h _ => h⟩ HSB.out (Nat.le_trans HBB.out HBB6.out.size) (by have := HL3.out; omega) (by have := HL3.out; omega) (fun W' v' j hj uu hfar hat hlkW hnW => by
            have hj1 : j = 0 := by have := HLEN.out; omega
            subst hj1
            rw [dif_pos hj]
            have hbB : Below B W W' := HBB6.out.trans (hfar.below H.out.lo (fun g e => (H.out.row.lt g e).1) (Nat.le_trans HBB.out HBB6.out.size))
            have hxw := lt_blk H.out.blk
            have hvw : ∀ g, v.ownBlock = some g → g < W.heap.size := fun g e => (H.out.row.lt g e).2
            have keep : ∀ b, W.heap.size ≤ b → b < (w6).heap.size → W'.heap[b]? = (w6).heap[b]? := fun b h1 h2 => hfar.oth b h2 (by omega) (fun e => by have := hvw b e; omega)
            have hmb := (keep w4.heap.size HM4.out (lt_blk HMB6.out)).trans HMB6.out
            have hob2 := (keep ob HOW.out (lt_blk HOB6.out)).trans HOB6.out
            have hlb2 := (hfar.oth lb (lt_blk HLB6.out) (HNE.out lb (.inr (.inr rfl))).1 (HNE.out lb (.inr (.inr rfl))).2).trans HLB6.out
            have hnv : ∀ b, b = lb ∨ b = ob → b ≠ X ∧ v'.ownBlock ≠ some b := fun b hb => by
              have h1 : b ≠ X ∧ v.ownBlock ≠ some b := by
                rcases hb with rfl | rfl
                · exact HNE.out _ (.inr (.inr rfl))
                · exact ⟨by have := HOW.out; omega, fun e => by have := hvw _ e; have := HOW.out; omega⟩
              refine ⟨h1.1, ?_⟩
              rcases hat with e | e
              · rw [e]; exact h1.2
              · intro e2
                have h2 := e b e2
                have h3 : b < (w6).heap.size := by
                  rcases hb with rfl | rfl
                  · exact lt_blk HLB6.out
                  · exact lt_blk HOB6.out
                omega
            have hgx : f.kids[0]'hj = x := HGET.out
            have hnx : NdV W' S (ndV x uu) x := by rw [hgx] at hnW; exact hnW
            have hcs : (dotE q f).length = OW := by rw [path_len HPK.out f, HPP.out, HQW.out, HOWE.out]
            have hxsz : x.size + 1 ≤ f.size := HXS.out
            have hll := HL4.out
            have hpp := HPB2.out
            have hoe := HOWE.out
            rw [hgx]
            refine tableV3_any x _ H7.out W' w4.heap.size lb ob X B v' _ uu _ (by obtain ⟨u2, e2, h2⟩ := hnx; obtain ⟨a2, c2, h3, _⟩ := h2.shape; exact ⟨a2, _, c2, (show uu = u2 by simpa [ndV] using e2).trans h3⟩) hmb hlb2 (fun W2 hb2 => ?_)
            exact plain_any tpS x.size x (way ++ [n] ++ [f]) (Nat.le_refl _) (fun l y => tpS_flat HQ.out (by rw [HV0.out]; exact HRB.out) (by rw [HV0.out]; exact H7.out) l y) W2 B X v' _ S uu (hlkW.below hb2) (hnx.below hb2) HSB.out (Nat.le_trans HBB.out (Nat.le_trans hbB.size hb2.size)) (by rw [List.length_append, List.length_singleton]; omega))
          rw [HR.out] at hk9
          refine hk9.mono ?_
          clear hk9
          intro e w9 he
          have heD : LkEndD db false B X v p o W e w9 := endD_of HFAR6.out HD6.out HNED.out.1 HNED.out.2 he
          cases o with
          | none =>
            obtain ⟨⟨rr, rfl⟩, hpo, hdd⟩ := heD
            have HPO := Lib.hid hpo; have HDD := Lib.hid hdd
            clear hpo hdd he
            go_wp2_with fail
            go_end0
            exact ⟨⟨_, rfl⟩, HPO.out, HDD.out⟩
          | some q =>
            obtain ⟨hfar, a, c, rfl, hints⟩ := heD
            have HF2 := Lib.hid hfar; have HI := Lib.hid hints
            clear hfar hints he
            go_wp2_with fail
            exact ⟨rfl, HF2.out, a, c, rfl, HI.out⟩
end Go.Proofs.YtmniblcooficgaaGreatDoor
namespace Go.Proofs.YtmniblcooficgaaGreatDoor
open Go.RowKit Ev5
set_option linter.unusedSimpArgs false
set_option linter.unusedVariables false

theorem end_ofD {D B X : Nat} {d : Bool} {v : Value} {p : List Int} {o : Option (List Int)} {w w4 w' : World} {e : Ending} (hb : Below w.heap.size w w4) (hD : w.heap.size ≤ D) (he : LkEndD D d B X v p o w4 e w') : LkEnd B X v p o w e w' := by
  have hf : ∀ w', LkFarD D X v w4 w' → LkFar X v w w' := fun w' h => ⟨h.os.trans hb.os, h.tape.trans hb.tape, h.output.trans hb.output, Nat.le_trans hb.size h.size, fun k hk hX hv => (h.oth k (Nat.lt_of_lt_of_le hk hb.size) hX (by omega) hv).trans (hb.block k hk)⟩
  cases o with
  | none =>
    obtain ⟨hr, ⟨v', hp⟩, _⟩ := he
    refine ⟨hr, v', hp.lk, hf _ hp.far, ?_⟩
    rcases hp.at_ with e | e
    · exact .inl e
    · exact .inr fun g hg => Nat.le_trans hb.size (e g hg)
  | some q =>
    obtain ⟨hfar, a, c, he, hi⟩ := he
    exact ⟨hf _ hfar, a, c, he, hi.mono hb.size⟩
theorem anyN_step {l : List Nd} {i : Nat} (h : i < l.length) (g : Nd → Bool) : (l.take (i + 1)).any g = ((l.take i).any g || g l[i]) := by
  rw [List.take_add_one, List.getElem?_eq_getElem h, List.any_append]; simp
theorem four_C (w : World) (o1 o2 o3 o4 : Obj) : (((((w.alloc o1).alloc o2).alloc o3).alloc o4).heap[w.heap.size]? = some o1 ∧ ((((w.alloc o1).alloc o2).alloc o3).alloc o4).heap[w.heap.size + 1]? = some o2 ∧ ((((w.alloc o1).alloc o2).alloc o3).alloc o4).heap[w.heap.size + 1 + 1]? = some o3 ∧
    ((((w.alloc o1).alloc o2).alloc o3).alloc o4).heap[w.heap.size + 1 + 1 + 1]? = some o4) ∧ Below w.heap.size w ((((w.alloc o1).alloc o2).alloc o3).alloc o4) := by
  obtain ⟨g1, g2, g3, gb⟩ := threeC w o1 o2 o3
  have hb : Below (((w.alloc o1).alloc o2).alloc o3).heap.size (((w.alloc o1).alloc o2).alloc o3) ((((w.alloc o1).alloc o2).alloc o3).alloc o4) := (Below.refl _ _).alloc (Nat.le_refl _) _
  have hn := heap_alloc_new (((w.alloc o1).alloc o2).alloc o3) o4
  have hs : (((w.alloc o1).alloc o2).alloc o3).heap.size = w.heap.size + 1 + 1 + 1 := by simp
  rw [hs] at hn
  refine ⟨⟨(hb.block _ (by rw [hs]; omega)).trans g1, (hb.block _ (by rw [hs]; omega)).trans g2, (hb.block _ (by rw [hs]; omega)).trans g3, hn⟩, bthen gb hb⟩
set_option maxRecDepth 100000 in
set_option maxHeartbeats 8000000 in
theorem table_any : ∀ (N : Nat) (n : Nd) (way : List Nd), n.size ≤ N → n.k = 7 → n.wh = 0 → n.ok → n.size ≤ 50000 → TableAt n way := by
  intro N
  induction N with
  | zero => intro n way hn; have := kids_size n; omega
  | succ N ih =>
  intro n way hn h7 hw hok hsz q hq hp hP W B X v p S u hE hlk hv hSB hB hl
  obtain ⟨u2, e2, hs⟩ := hv
  obtain rfl : u = u2 := by simpa [ndV] using e2
  clear e2
  obtain ⟨ao, cap, rfl, hcap, hcm⟩ := hs.shape
  have hmf : ∀ (fn : Fn) (first cap : Array Value) (w : World), (Instr.makeFunc fn first cap).run Tryz.prog w = .ok (.func fn first cap) w := fun _ _ _ _ => rfl
  obtain ⟨hnd, hfs⟩ := map_wh hw h7
  have htf := (tf_wh hw).1
  have hkk : ∀ x ∈ n.kids, x.ok := by
    cases n with
    | mk a b c d => rw [ok_mk] at hok; exact (oks_iff _).1 hok.2
  obtain ⟨P, hPP⟩ : ∃ P, pathL way q = P := ⟨_, rfl⟩
  have h4 := four_C W (.cells #[.pointer (some ⟨X, 0, none⟩)] 41) (.cells #[.int .i64 n.k, .string n.t, .string n.v, .slice ao n.kids.length cap] 24) (.cells #[.int .i64 (P : Int)] 3) (.cells #[.bool false] 4)
  obtain ⟨⟨hL, hN, hPb, hDb⟩, hB4⟩ := h4
  have HL := Lib.hid hL; have HN := Lib.hid hN; have HPB := Lib.hid hPb; have HDB := Lib.hid hDb; have HB4 := Lib.hid hB4
  have H := Lib.hid hlk; have HS := Lib.hid hs; have HSB := Lib.hid hSB; have HBB := Lib.hid hB; have HE := Lib.hid hE; have HQ := Lib.hid hq; have HPK := Lib.hid hp
  have HR := Lib.hid (firstP_kids (tp := tpS) (way := way) (n := n) (p := p) (tpS_map h7))
  have HPP := Lib.hid hPP
  have HND := Lib.hid hnd; have HFS := Lib.hid hfs; have HTF := Lib.hid htf; have HKK := Lib.hid hkk; have HIH := Lib.hid ih; have HNN := Lib.hid hn; have HSZ := Lib.hid hsz; have HL2 := Lib.hid hl; have HP2 := Lib.hid hP; have H7 := Lib.hid h7
  have hkl : n.kids.length ≤ 50000 := by have := sizes_len n.kids; have := kids_size n; omega
  have hpl : p.length + n.kids.length ≤ 100000 := by have := kids_size n; have := sizes_len n.kids; omega
  rw [hPP]
  obtain ⟨o, ho⟩ : ∃ o, firstP tpS way n p = o := ⟨_, rfl⟩
  rw [ho]
  have HO := Lib.hid ho
  clear hlk hs hSB hB hE hq hp hL hN hPb hDb hB4 hnd hfs htf hkk ih hn hsz hl hP h7 hw hok hPP ho
  unfold ndV
  go_enter Tryz.func32, Tryz.ntmps32
  go_wp2_with fail
  have hk9 := kidsD_any (W.heap.size + 1 + 1 + 1) (fun i => (n.kids.take i).any deepS) 58 #[.pointer (some ⟨W.heap.size + 1 + 1, 0, none⟩), .pointer (some ⟨W.heap.size + 1 + 1 + 1, 0, none⟩), .pointer (some ⟨W.heap.size, 0, none⟩)] (fun args w => by rfl) ((((W.alloc (.cells #[.pointer (some ⟨X, 0, none⟩)] 41)).alloc (.cells #[.int .i64 n.k, .string n.t, .string n.v, .slice ao n.kids.length cap] 24)).alloc (.cells #[.int .i64 (P : Int)] 3)).alloc (.cells #[.bool false] 4)) B X v p S n
    (.agg #[.int .i64 n.k, .string n.t, .string n.v, .slice ao n.kids.length cap]) (fun i => if hi : i < n.kids.length then firstP tpS (way ++ [n]) n.kids[i] (p ++ [(i : Int)]) else none) HDB.out (by have := lt_blk H.out.blk; omega) (fun e => by have := (H.out.row.lt _ e).2; omega) (by have := HBB.out; omega) (H.out.below HB4.out) ⟨_, rfl, HS.out.below HB4.out⟩ HSB.out (Nat.le_trans HBB.out HB4.out.size) (by omega) (by omega)
    (fun W' v' j hj uu hfar hat hlkW hnW hdW hvW => by
      rw [dif_pos hj]
      have hmem := List.getElem_mem hj
      obtain ⟨hf8, x, hfk, hxw⟩ := HFS.out _ hmem
      have hks := kid_size (n := n) hj
      have hxw2 := lt_blk H.out.blk
      have hvw : ∀ g, v.ownBlock = some g → g < W.heap.size := fun g e => (H.out.row.lt g e).2
      have hbB : Below B W W' := (HB4.out.mono HBB.out).trans (hfar.below H.out.lo (fun g e => (H.out.row.lt g e).1) (Nat.le_trans HBB.out HB4.out.size) (by have := HBB.out; omega))
      have keep : ∀ b, W.heap.size ≤ b → b < W.heap.size + 1 + 1 + 1 → W'.heap[b]? = _ := fun b h1 h2 => hfar.oth b (by have := lt_blk HDB.out; omega) (by omega) (by omega) (fun e => by have := hvw b e; omega)
      have hfsz : n.kids[j].size + 1 ≤ n.size := by omega
      have hxsz : x.size + 1 ≤ n.kids[j].size := by
        have h2 := size_mem (x := x) (l := n.kids[j].kids) (by rw [hfk]; simp)
        have h3 := kids_size n.kids[j]
        omega
      have hxok : x.ok := by
        have h := HKK.out _ hmem
        revert h hfk
        generalize n.kids[j] = f
        intro hfk h
        cases f with
        | mk a b c d =>
          have hfk : d = [x] := hfk
          subst hfk
          rw [ok_mk] at h
          exact (oks_iff _).1 h.2 x (by simp)
      have hqt : qt n.kids[j].t = quoteL n.kids[j].t.data.toList := by
        have h := HTF.out.kid hmem
        revert h hf8
        generalize n.kids[j] = f
        intro hf8 h
        cases h with
        | mk k t v ks hr ho hk ht =>
          have hf8 : k = 8 := hf8
          exact (right_text hr (.inr hf8)).2
      have hnn := HNN.out
      have hs2 := HSZ.out
      have hl2 := HL2.out
      have hp2 := HP2.out
      have hst : (n.kids.take (j + 1)).any deepS = ((n.kids.take j).any deepS || deepS n.kids[j]) := anyN_step hj deepS
      show Calls Tryz.prog _ _ W' (LkEndD _ ((n.kids.take (j + 1)).any deepS) B X v' _ _ W')
      rw [hst]
      refine tableF_any n n.kids[j] x way q _ HQ.out HPK.out (dotE_ne hqt) hf8 hfk hxw (ahead_take HND.out hj) (HKK.out _ hmem) (by omega) (by omega) (fun h => HIH.out x _ (by omega) h hxw hxok (by omega)) (fun hr r hrm => ?_) W' (W.heap.size + 1 + 1) (W.heap.size + 1 + 1 + 1) W.heap.size X B v' _ S uu _ (fun W2 h2 => HE.out _ (hbB.trans h2)) ?_ hdW ?_ ?_ ⟨by omega, by omega⟩ (by have := HBB.out; omega) hlkW hnW HSB.out (Nat.le_trans HBB.out hbB.size) (by rw [List.length_append, List.length_singleton]; omega)
      · have hr5 : x.k = 5 ∧ ∀ y ∈ x.kids, y.k = 7 := by
          unfold rowsS at hr
          simp only [Bool.and_eq_true, decide_eq_true_eq, List.all_eq_true] at hr
          exact ⟨hr.1, hr.2.2⟩
        have hrs := size_mem hrm
        have hxs := kids_size x
        have hrok : r.ok := by
          revert hxok hrm
          cases x with
          | mk a b c d =>
            intro hxok hrm
            rw [ok_mk] at hxok
            exact (oks_iff _).1 hxok.2 r hrm
        exact HIH.out r _ (by omega) (hr5.2 r hrm) (list_wh hxw hr5.1 r hrm) hrok (by omega)
      · rw [keep _ (by omega) (by omega), HPP.out]; exact HPB.out
      · rw [keep _ (by omega) (by omega)]; exact HL.out
      · intro b hb
        have h1 : W.heap.size ≤ b ∧ b < W.heap.size + 1 + 1 + 1 + 1 := by rcases hb with rfl | rfl | rfl <;> omega
        refine ⟨by omega, ?_⟩
        rcases hat with e | e
        · rw [e]; intro e2; have := hvw b e2; omega
        · intro e2; have := e b e2; have := lt_blk HDB.out; omega)
  rw [← HR.out, HO.out] at hk9
  refine hk9.mono ?_
  clear hk9
  intro e w3 he
  have he2 : LkEnd B X v p o W e w3 := end_ofD HB4.out (by omega) he
  cases o with
  | none =>
    obtain ⟨⟨rr, rfl⟩, v', hp⟩ := he2
    have HP := Lib.hid hp
    clear hp he
    go_wp2_with fail
    go_end0
    exact ⟨⟨_, rfl⟩, _, HP.out⟩
  | some q =>
    obtain ⟨hfar, a, c, rfl, hints⟩ := he2
    have HF2 := Lib.hid hfar; have HI := Lib.hid hints
    clear hfar hints he
    go_wp2_with fail
    exact ⟨rfl, HF2.out, a, c, rfl, HI.out⟩
set_option maxRecDepth 100000 in
set_option maxHeartbeats 2000000 in
theorem sections_any (n : Nd) (hw : n.wh = 0) (hok : n.ok) (hsz : n.size ≤ 50000) (w : World) (B X : Nat) (v : Value) (p : List Int) (S : Nat → Prop) (nv : Value) (hE : ∀ W', Below B w W' → EnvU W') (hlk : Lk w B X v p) (hv : NdV w S nv n) (hSB : ∀ b, S b → b < B) (hB : B ≤ w.heap.size) (hl : p.length + n.size ≤ 100000) :
    Calls Tryz.prog 18 #[.pointer (some ⟨X, 0, none⟩), nv] w (LkEnd B X v p (firstP tpS [] n p) w) := by
  obtain ⟨u, rfl, hs⟩ := hv
  obtain ⟨ao, cap, rfl, hcap, hcm⟩ := hs.shape
  have HB := Lib.hid (show Below w.heap.size w (w.alloc (.cells #[.int .i64 n.k, .string n.t, .string n.v, .slice ao n.kids.length cap] 24)) from (Below.refl _ _).alloc (Nat.le_refl _) _)
  have H := Lib.hid hlk
  by_cases h7 : n.k = 7
  · have HL := Lib.hid (show ∀ (W : World), Below w.heap.size w W → Calls Tryz.prog 32 #[.pointer (some ⟨X, 0, none⟩), .agg #[.int .i64 n.k, .string n.t, .string n.v, .slice ao n.kids.length cap], .int .i64 0] W (LkEnd B X v p (firstP tpS [] n p) W) from
      fun W hb => table_any n.size n [] (Nat.le_refl _) h7 hw hok hsz [] (by show (if n.k = 7 then tabG [] [n] else none) = _; rw [if_pos h7]; rfl) (.inl ⟨rfl, rfl⟩) (by unfold pathL; rw [if_pos rfl]; omega) W B X v p S (.slice ao n.kids.length cap) (fun W' h2 => hE _ ((hb.mono hB).trans h2)) (hlk.below hb) (.mk (hs.below hb)) hSB (Nat.le_trans hB hb.size) hl)
    have hkb : (n.k != 7) = false := by simp [h7]
    clear hlk hs hSB hB hE hw h7
    unfold ndV
    go_enter Tryz.func18, Tryz.ntmps18
    go_wp2_with fail
    refine (HL.out _ HB.out).mono ?_
    intro e w3 he
    have he2 := he.after HB.out
    cases ho : firstP tpS [] n p with
    | none =>
      rw [ho] at he2
      obtain ⟨⟨rr, rfl⟩, v', hp⟩ := he2
      have HP := Lib.hid hp
      have HO := Lib.hid ho
      clear hp he
      go_wp2_with fail
      go_end0
      show LkEnd B X v p (firstP tpS [] n p) w _ _
      rw [HO.out]
      exact ⟨⟨_, rfl⟩, _, HP.out⟩
    | some q =>
      rw [ho] at he2
      obtain ⟨hfar, a, c, rfl, hints⟩ := he2
      have HF2 := Lib.hid hfar; have HI := Lib.hid hints
      have HO := Lib.hid ho
      clear hfar hints he
      go_wp2_with fail
      exact ⟨rfl, HF2.out, a, c, rfl, HI.out⟩
  · have HR := Lib.hid (show firstP tpS [] n p = some p from firstP_no (by rw [tpS_last, if_pos (.inr (.inr ⟨rfl, h7⟩))]))
    have hkb : (n.k != 7) = true := by simp [h7]
    clear hlk hs hSB hB hE hw h7
    unfold ndV
    go_enter Tryz.func18, Tryz.ntmps18
    go_wp2_with fail
    refine (fails_any _ B X v p (H.out.below HB.out) (by omega)).mono ?_
    intro e w3 he
    have he2 : LkEnd B X v p (some p) w e w3 := he.after HB.out
    obtain ⟨hfar, a, c, rfl, hints⟩ := he2
    have HF2 := Lib.hid hfar; have HI := Lib.hid hints
    clear hfar hints he
    go_wp2_with fail
    exact ⟨rfl, by rw [HR.out]; exact ⟨HF2.out, a, c, rfl, HI.out⟩⟩
set_option maxRecDepth 100000 in
set_option maxHeartbeats 4000000 in
theorem carrySections_any (n : Nd) (w : World) (S : Nat → Prop) (v : Value) (hE : EnvU w) (hv : NdV w S v n) (hok : n.ok) (hN : n.size ≤ 50000) :
    Calls Tryz.prog 7 #[.int .i64 4, v] w (OfPost (ofP tpS n) w) := by
  obtain ⟨u, rfl, hs⟩ := hv
  obtain ⟨ao, cap, rfl, hcap, hcm⟩ := hs.shape
  have HV := Lib.hid (NdV.mk hs.ltC); have HE := Lib.hid hE; have HOK := Lib.hid hok; have HN := Lib.hid hN
  have HWL := Lib.hid (show n.walk.length ≤ 100000 by have := walk_len n; omega)
  have hmf : ∀ (fn : Fn) (first cap : Array Value) (w : World), (Instr.makeFunc fn first cap).run Tryz.prog w = .ok (.func fn first cap) w := fun _ _ _ _ => rfl
  clear hs hE hok hN
  unfold ndV
  go_enter_defers Tryz.func7, Tryz.ntmps7
  have h3 := threeC w (.cells #[.int .i64 n.k, .string n.t, .string n.v, .slice ao n.kids.length cap] 24) (.cells #[.slice none 0 0] 27) (.cells #[.int .i64 0] 28)
  have H3 := Lib.hid h3
  clear h3
  go_wp2_with fail
  refine (treeMay_any n _ _ _ (HE.out.below H3.out.2.2.2) (HV.out.below H3.out.2.2.2) (fun b hb => Nat.lt_of_lt_of_le hb H3.out.2.2.2.size) HOK.out HWL.out).mono ?_
  rintro e w2 ⟨rfl, hb⟩
  have hx0 := (hb.block _ (lt_blk H3.out.1)).trans H3.out.1
  have hx1 := (hb.block _ (lt_blk H3.out.2.1)).trans H3.out.2.1
  have hx2 := (hb.block _ (lt_blk H3.out.2.2.1)).trans H3.out.2.2.1
  have HB2 := Lib.hid (bthen H3.out.2.2.2 hb)
  obtain ⟨x0, x1, x2, x3, _, _, _, _, hxl⟩ := nd_cells hx0
  obtain ⟨P5, h5⟩ : ∃ P5, w.heap.size + 1 + 1 = P5 := ⟨_, rfl⟩
  obtain ⟨P4, h4⟩ : ∃ P4, w.heap.size + 1 = P4 := ⟨_, rfl⟩
  have hne : P5 ≠ P4 := by omega
  have hne' : P4 ≠ P5 := by omega
  have HLO := Lib.hid (show w.heap.size ≤ P4 ∧ w.heap.size ≤ P5 by omega)
  rw [h5] at hx2
  rw [h4] at hx1
  rw [h5, h4]
  have HX := Lib.hid (And.intro hx1 hx2)
  have hl4 := lt_blk hx1
  have hl5 := lt_blk hx2
  obtain ⟨c4, g4⟩ := blk_cell hx1 0 (by simp)
  obtain ⟨c5, g5⟩ := blk_cell hx2 0 (by simp)
  obtain ⟨E, hE⟩ : ∃ E, (wholeP RP (n.walk.map GoEv.ev)).2 = E := ⟨_, rfl⟩
  have HEQ := Lib.hid (show n.wh = E from hE)
  rw [hE]
  clear hb hx0 hx1 hx2 hE h4 h5
  by_cases hz : E = 0
  · subst hz
    have HLK := Lib.hid (show ∀ W : World, Below w.heap.size w W → Lk (W.alloc (.cells #[.slice none 0 0] 42)) W.heap.size W.heap.size (.slice none 0 0) [] from fun W _ => ⟨heap_alloc_new W _, World.ownsRow_nil _ _ _ _, (by simp [Value.ownBlock]), Nat.le_refl _, fun x hx => by cases hx⟩)
    go_wp2_with fail
    have hlk := HLK.out w2 HB2.out
    have hbl : Below w2.heap.size w2 (w2.alloc (.cells #[.slice none 0 0] 42)) := (Below.refl _ _).alloc (Nat.le_refl _) _
    have hnv := HV.out.below (bthen HB2.out hbl)
    refine (sections_any n HEQ.out HOK.out HN.out _ w2.heap.size w2.heap.size (.slice none 0 0) [] _ _ (fun W' hb => HE.out.below (bthen HB2.out (hbl.trans hb))) hlk hnv (fun b hb => Nat.lt_of_lt_of_le hb HB2.out.size) (by simp) (by have := HN.out; simp; omega)).mono ?_
    intro e w3 he
    have hfar : LkFar w2.heap.size (.slice none 0 0) (w2.alloc (.cells #[.slice none 0 0] 42)) w3 := by
      cases ho : firstP tpS [] n [] with
      | none => rw [ho] at he; obtain ⟨_, v', hp⟩ := he; exact hp.far
      | some q => rw [ho] at he; exact he.1
    have hb3 : Below w2.heap.size w2 w3 := by
      refine ⟨hfar.os, hfar.tape, hfar.output, Nat.le_trans hbl.size hfar.size, fun k hk => ?_⟩
      rw [hfar.oth k (Nat.lt_of_lt_of_le hk hbl.size) (by omega) (by simp [Value.ownBlock])]
      exact hbl.block k hk
    have HB3 := Lib.hid hb3
    have hx4 := (hb3.block _ hl4).trans HX.out.1
    have hx5 := (hb3.block _ hl5).trans HX.out.2
    have HX3 := Lib.hid (And.intro hx4 hx5)
    have hl43 := lt_blk hx4
    have hl53 := lt_blk hx5
    clear c4 g4 c5 g5 hl4 hl5 x0 x1 x2 x3 hxl hnv hlk hfar hb3
    obtain ⟨c4, g4⟩ := blk_cell hx4 0 (by simp)
    obtain ⟨c5, g5⟩ := blk_cell hx5 0 (by simp)
    clear hx4 hx5
    cases ho : firstP tpS [] n [] with
    | none =>
      rw [ho] at he
      obtain ⟨⟨rr, rfl⟩, v', hp⟩ := he
      have HP := Lib.hid (show ofP tpS n = (none, 0) by unfold ofP; rw [if_neg (by rw [HEQ.out]; simp), ho])
      clear hp
      go_wp2_with fail
      obtain ⟨W9, hW9⟩ : ∃ W9, (w3.setCell ⟨P4, 0, none⟩ (.slice none 0 0)).setCell ⟨P5, 0, none⟩ (.int .i64 0) = W9 := ⟨_, rfl⟩
      have hk := two_vars HX3.out.1 HX3.out.2 hne' (.slice none 0 0) (.int .i64 0)
      rw [hW9] at hk
      have k4 : W9.cell? ⟨P4, 0, none⟩ = some (.slice none 0 0) := (blk_cell hk.1 0 (by simp)).1
      have k5 : W9.cell? ⟨P5, 0, none⟩ = some (.int .i64 0) := (blk_cell hk.2 0 (by simp)).1
      have hbw : Below w.heap.size w W9 := by
        rw [← hW9]
        exact ((bthen HB2.out HB3.out).setCell (p := ⟨P4, 0, none⟩) HLO.out.1 _).setCell (p := ⟨P5, 0, none⟩) HLO.out.2 _
      rw [hW9]
      refine leaves_cons (f := 14) (args := #[.pointer (some ⟨P4, 0, none⟩), .pointer (some ⟨P5, 0, none⟩)]) (by simp) (by simp [go_sem]) ?_
      refine (of1_idle ⟨P4, 0, none⟩ ⟨P5, 0, none⟩ W9).mono ?_
      rintro e u' w'' ⟨rfl, rfl, hb⟩
      have m4 : w''.cell? ⟨P4, 0, none⟩ = some (.slice none 0 0) := by rw [hb.cell (p := ⟨P4, 0, none⟩) (cell_lt k4)]; exact k4
      have m5 : w''.cell? ⟨P5, 0, none⟩ = some (.int .i64 0) := by rw [hb.cell (p := ⟨P5, 0, none⟩) (cell_lt k5)]; exact k5
      have hbb := bthen hbw hb
      simp [Leaves, settle, results, Tryz.results7, go_sem, m4, m5]
      rw [HP.out]
      exact ⟨hbb, none, 0, 0, rfl, rfl⟩
    | some q =>
      rw [ho] at he
      obtain ⟨_, a, c, rfl, hints⟩ := he
      have HP := Lib.hid (show ofP tpS n = (some q, 20) by unfold ofP; rw [if_neg (by rw [HEQ.out]; simp), ho])
      have HI := Lib.hid hints
      clear hints
      go_wp2_with fail
      refine leaves_cons (f := 14) (args := #[.pointer (some ⟨P4, 0, none⟩), .pointer (some ⟨P5, 0, none⟩)]) (by simp) (by simp [go_sem]) ?_
      refine (of1_catch P4 P5 a q.length c [] w3 _ _ HX3.out.1 HX3.out.2 hne').mono ?_
      rintro e u' w'' ⟨rfl, rfl, hw⟩
      obtain ⟨W9, hW9⟩ : ∃ W9, (w3.setCell ⟨P4, 0, none⟩ (.slice a q.length c)).setCell ⟨P5, 0, none⟩ (.int .i64 20) = W9 := ⟨_, rfl⟩
      have hk := two_vars HX3.out.1 HX3.out.2 hne' (.slice a q.length c) (.int .i64 20)
      rw [hW9] at hk hw
      have hba : Below W9.heap.size W9 w'' := by rw [hw]; exact (Below.refl _ _).alloc (Nat.le_refl _) _
      have m4 : w''.cell? ⟨P4, 0, none⟩ = some (.slice a q.length c) := (blk_cell ((hba.block _ (lt_blk hk.1)).trans hk.1) 0 (by simp)).1
      have m5 : w''.cell? ⟨P5, 0, none⟩ = some (.int .i64 20) := (blk_cell ((hba.block _ (lt_blk hk.2)).trans hk.2) 0 (by simp)).1
      have hbw : Below w.heap.size w W9 := by
        rw [← hW9]
        exact ((bthen HB2.out HB3.out).setCell (p := ⟨P4, 0, none⟩) HLO.out.1 _).setCell (p := ⟨P5, 0, none⟩) HLO.out.2 _
      have hbb := bthen hbw hba
      have hii : IntsIn w'' (.slice a q.length c) q := by
        obtain ⟨ao, cp, e, h1, h2, h3⟩ := HI.out.ints.ex
        injection e with e1 e2 e3
        subst e1; subst e3
        refine ⟨⟨a, c, rfl, h1, h2, fun i hi => ?_⟩, HI.out.ints.ok⟩
        obtain ⟨b, o, e, hc⟩ := h3 i hi
        refine ⟨b, o, e, ?_⟩
        have hnew := HI.out.new _ e
        have hb1 : w2.heap.size < b := by have h := hnew; simp at h; omega
        have hp4 := lt_blk HX.out.1
        have hp5 := lt_blk HX.out.2
        have hlt := cell_lt hc
        have h9 : W9.cell? ⟨b, o + i, none⟩ = some (.int .i64 q[i]) := by
          rw [← hW9, World.cell?_setCell_other _ _ _ _ (fun e => by injection e with e; omega), World.cell?_setCell_other _ _ _ _ (fun e => by injection e with e; omega)]; exact hc
        rw [hba.cell (p := ⟨b, o + i, none⟩) (cell_lt h9)]
        exact h9
      simp [Leaves, settle, results, Tryz.results7, go_sem, m4, m5]
      rw [HP.out]
      exact ⟨hbb, a, q.length, c, rfl, rfl, hii⟩
  · have hzb : (E != 0) = true := by simp [hz]
    go_wp2_with fail
    obtain ⟨W9, hW9⟩ : ∃ W9, (w2.setCell ⟨P4, 0, none⟩ (.slice none 0 0)).setCell ⟨P5, 0, none⟩ (.int .i64 E) = W9 := ⟨_, rfl⟩
    have hk := two_vars HX.out.1 HX.out.2 hne' (.slice none 0 0) (.int .i64 E)
    rw [hW9] at hk
    have k4 : W9.cell? ⟨P4, 0, none⟩ = some (.slice none 0 0) := (blk_cell hk.1 0 (by simp)).1
    have k5 : W9.cell? ⟨P5, 0, none⟩ = some (.int .i64 E) := (blk_cell hk.2 0 (by simp)).1
    have hbw : Below w.heap.size w W9 := by
      rw [← hW9]
      exact (HB2.out.setCell (p := ⟨P4, 0, none⟩) HLO.out.1 _).setCell (p := ⟨P5, 0, none⟩) HLO.out.2 _
    rw [hW9]
    have hP := Lib.hid (show ofP tpS n = (none, E) by unfold ofP; rw [if_pos (by rw [HEQ.out]; exact hz), HEQ.out])
    simp [bodyPostD, Leaves, settle, results, Tryz.results7, go_sem, k4, k5]
    rw [hP.out]
    exact ⟨hbw, none, 0, 0, rfl, rfl⟩
end Go.Proofs.YtmniblcooficgaaGreatDoor
