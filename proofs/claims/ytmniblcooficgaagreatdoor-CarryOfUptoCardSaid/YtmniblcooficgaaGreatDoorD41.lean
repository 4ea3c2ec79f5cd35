import Derived.Deep.DeepCutAuto
import Derived.Deep.CutBlock
import Derived.Test.YtmniblcooficgaaGreatDoorD40
namespace Go.Proofs.YtmniblcooficgaaGreatDoor
open Go.RowKit Ev5
set_option linter.unusedSimpArgs false
set_option linter.unusedVariables false

theorem slIn_front {w : World} {S : Nat → Prop} {a : Option Addr} {c m : Nat} {l : List Nd} {x : Nd} (h : SlIn w S (.slice a m c) (l ++ [x])) : SlIn w S (.slice a l.length c) l := by
  obtain ⟨a', c', e, h1, h2, h3⟩ := h
  injection e with e1 _ e3
  subst e1 e3
  rw [List.length_append, List.length_singleton] at h1
  refine ⟨_, _, rfl, by omega, h2, ?_⟩
  rcases h3 with h3 | ⟨b, o, e4, hb, hlt, hk⟩
  · simp at h3
  · by_cases hl : l = []
    · exact .inl hl
    · refine .inr ⟨b, o, e4, hb, hlt, kidsIn_iff.2 fun i hi => ?_⟩
      have h5 := kidsIn_iff.1 hk i (by rw [List.length_append, List.length_singleton]; omega)
      rwa [List.getElem_append_left hi] at h5
theorem wayC_init : ∀ (l : List Nd) (x : Nd), WayC (l ++ [x]) → l ≠ [] → WayC l
  | [], _, _, h => absurd rfl h
  | [_], _, _, _ => trivial
  | a :: b :: r, x, h, _ => ⟨h.1, wayC_init (b :: r) x h.2 (by simp)⟩
theorem ahead_no {up n : Nd} {i : Nat} (hi : i ≤ up.kids.length) (h : ∀ (j : Nat) (hj : j < up.kids.length), j < i → deepS up.kids[j] = false) (he : i = up.kids.length ∨ ∃ h : i < up.kids.length, up.kids[i].t = n.t) : aheadS up n = false := by
  unfold aheadS
  revert hi h he
  generalize up.kids = l
  intro hi h he
  have key : ∀ (l : List Nd) (i : Nat), i ≤ l.length → (∀ (j : Nat) (hj : j < l.length), j < i → deepS l[j] = false) → (i = l.length ∨ ∃ h : i < l.length, l[i].t = n.t) → (l.takeWhile fun x => decide (x.t ≠ n.t)).any deepS = false := by
    intro l
    induction l with
    | nil => intro i _ _ _; rfl
    | cons a r ih =>
      intro i hi h he
      cases i with
      | zero =>
        rcases he with he | ⟨_, he⟩
        · simp at he
        · have he : a.t = n.t := he
          simp [he]
      | succ i =>
        rw [List.takeWhile_cons]
        by_cases ha : a.t = n.t
        · simp [ha]
        · rw [if_pos (by simp [ha]), List.any_cons, show deepS a = false from h 0 (by simp) (by omega), Bool.false_or]
          exact ih i (by simpa using hi) (fun j hj hji => h (j + 1) (by simpa using hj) (by omega)) (by
            rcases he with he | ⟨h1, he⟩
            · left; simpa using he
            · right; exact ⟨by simpa using h1, he⟩)
  exact key l i hi h he
theorem ahead_yes {up n : Nd} {i : Nat} (hi : i < up.kids.length) (h : ∀ (j : Nat) (hj : j < up.kids.length), j < i + 1 → up.kids[j].t ≠ n.t) (hd : deepS up.kids[i] = true) : aheadS up n = true := by
  unfold aheadS
  revert hi h hd
  generalize up.kids = l
  have key : ∀ (l : List Nd) (i : Nat) (hi : i < l.length), (∀ (j : Nat) (hj : j < l.length), j < i + 1 → l[j].t ≠ n.t) → deepS l[i] = true → (l.takeWhile fun x => decide (x.t ≠ n.t)).any deepS = true := by
    intro l
    induction l with
    | nil => intro i hi; simp at hi
    | cons a r ih =>
      intro i hi h hd
      have ha : a.t ≠ n.t := h 0 (by simp) (by omega)
      rw [List.takeWhile_cons, if_pos (by simp [ha]), List.any_cons]
      cases i with
      | zero => rw [show deepS a = true from hd]; rfl
      | succ i =>
        rw [ih i (by simpa using hi) (fun j hj hji => h (j + 1) (by simpa using hj) (by omega)) hd, Bool.or_true]
  intro hi h hd
  exact key l i hi h hd
set_option maxRecDepth 100000 in
set_option maxHeartbeats 16000000 in
theorem refSections_any (w : World) (S : Nat → Prop) (wv : Value) (way : List Nd) (hs : SlIn w S wv way) (hw : WayT way) (hl : way.length ≤ 200000) :
    Calls Tryz.prog 70 #[wv] w fun e w' => e = .returned (.bool (tpS way)) ∧ Below w.heap.size w w' := by
  have hne := wayC_ne hw.1.1
  obtain ⟨init, n, hway⟩ : ∃ l x, way = l ++ [x] := ⟨_, _, (List.dropLast_concat_getLast hne).symm⟩
  obtain ⟨wa, wc, rfl, hwc, hwm⟩ := hs.shape
  have hlen : way.length = init.length + 1 := by rw [hway, List.length_append, List.length_singleton]
  have hlast : init.length < way.length := by omega
  obtain ⟨bb, oo, ux, hao, hbw, c0, c1, c2, c3, hsx⟩ := hs.at_ init.length hlast
  subst hao
  have hget : way[init.length] = n := by simp [hway]
  rw [hget] at c0 c1 c2 hsx
  obtain ⟨ax, cx, rfl, hcx, hcm⟩ := hsx.shape
  have hnw := hw.1.2 n (by rw [hway]; simp)
  have hnt := hw.2 n (by rw [hway]; simp)
  have HS := Lib.hid hs.ltC; have HSX := Lib.hid hsx.ltC
  have HSI := Lib.hid (slIn_front (show SlIn w _ (.slice (some ⟨bb, oo, none⟩) (init ++ [n]).length wc) (init ++ [n]) from hway ▸ hs.ltC))
  have HT := Lib.hid (show tpS way = _ by rw [hway, tpS_last])
  have HIN := Lib.hid (fun (j : Nat) (hj : j < init.length) => show way[j]'(by omega) = init[j] by simp [hway, List.getElem_append_left hj])
  have HWI := Lib.hid (show (∀ x ∈ init, x.ok ∧ x.size ≤ 50000) ∧ ∀ x ∈ init, Tf RP x from ⟨fun x hx => hw.1.2 x (by rw [hway]; simp [hx]), fun x hx => hw.2 x (by rw [hway]; simp [hx])⟩)
  have HWC := Lib.hid (show WayC (init ++ [n]) from hway ▸ hw.1.1)
  obtain ⟨WK, hWK⟩ : ∃ WK, init.length = WK := ⟨_, rfl⟩
  rw [hWK] at hlen c0 c1 c2 c3
  have hw0 : (0 : Int) ≤ (WK : Int) := Int.natCast_nonneg _
  have HLEN := Lib.hid hlen; have HWK := Lib.hid hWK
  have hkl : n.kids.length ≤ 50000 := by have := sizes_len n.kids; have := kids_size n; omega
  have hnts : n.t.size ≤ 1048576 := by
    have h := hnw.1
    cases n with
    | mk a b c d => rw [ok_mk] at h; exact h.1.t
  have HNK := Lib.hid hnw; have HNT := Lib.hid hnt
  have HB0 := Lib.hid (show Below w.heap.size w (w.alloc (.cells #[.int .i64 n.k, .string n.t, .string n.v, .slice ax n.kids.length cx] 24)) from (Below.refl _ _).alloc (Nat.le_refl _) _)
  have HX := Lib.hid (heap_alloc_new w (.cells #[.int .i64 n.k, .string n.t, .string n.v, .slice ax n.kids.length cx] 24))
  clear hs hne hsx hlast hget hw hnw hnt
  unfold maxLen at *
  have hwkI : ((WK + 1 : Nat) : Int) - 1 = (WK : Int) := by omega
  have hw2 : (WK : Int) < ((WK + 1 : Nat) : Int) := by omega
  rw [hlen] at hwc hl
  rw [hlen]
  clear hway hlen hWK
  obtain ⟨x0, x1, x2, x3, _, _, _, _, hxl⟩ := nd_cells HX.out
  by_cases hno : n.k = 10 ∨ n.k = 1 ∨ (init = [] ∧ n.k ≠ 7)
  · have hT := Lib.hid (show tpS way = false by rw [HT.out, if_pos hno])
    by_cases h10 : n.k = 10
    · have k10 : (n.k == 10) = true := by simp [h10]
      clear hno HT h10
      go_enter Tryz.func70, Tryz.ntmps70
      go_wp2_with fail
      go_ret
      exact ⟨by rw [hT.out]; rfl, HB0.out⟩
    have k10 : (n.k == 10) = false := by simp [h10]
    by_cases h1 : n.k = 1
    · have k1 : (n.k == 1) = true := by simp [h1]
      clear hno HT h10 h1
      go_enter Tryz.func70, Tryz.ntmps70
      go_wp2_with fail
      go_ret
      exact ⟨by rw [hT.out]; rfl, HB0.out⟩
    have k1 : (n.k == 1) = false := by simp [h1]
    have hiz : init = [] ∧ n.k ≠ 7 := by
      rcases hno with h | h | h
      · exact absurd h h10
      · exact absurd h h1
      · exact h
    have k7 : (n.k != 7) = true := by simp [hiz.2]
    have hWz : WK = 0 := by have h := HWK.out; rw [hiz.1] at h; simp at h; omega
    have hwq : ((WK : Int) + 1 == 1) = true := by simp; omega
    have hwq2 : ((WK : Int) == 0) = true := by simp; omega
    clear hno HT h10 h1 hiz hWz
    go_enter Tryz.func70, Tryz.ntmps70
    go_wp2_with fail
    go_ret
    exact ⟨by rw [hT.out]; rfl, HB0.out⟩
  have HT2 := Lib.hid (HT.out.trans (if_neg hno))
  have k10 : (n.k == 10) = false := by simp; omega
  have k1 : (n.k == 1) = false := by simp; omega
  have hgd : ((WK : Int) + 1 == 1) = true ∧ (n.k != 7) = false ∧ ((WK : Int) == 0) = true ∨ ((WK : Int) + 1 == 1) = false ∧ ((WK : Int) == 0) = false ∧ 0 < WK := by
    by_cases hz : WK = 0
    · left
      have hi0 : init = [] := List.eq_nil_of_length_eq_zero (HWK.out.trans hz)
      have h7 : n.k = 7 := by
        by_cases h : n.k = 7
        · exact h
        · exact absurd (.inr (.inr ⟨hi0, h⟩)) hno
      refine ⟨by simp; omega, by simp [h7], by simp; omega⟩
    · right
      exact ⟨by simp; omega, by simp; omega, by omega⟩
  by_cases h8 : n.k ≠ 8
  · have k8 : (n.k != 8) = true := by simp [h8]
    have hT := Lib.hid (show tpS way = true by rw [HT2.out, if_pos h8])
    clear hno HT HT2 h8
    rcases hgd with ⟨g1, g2, g3⟩ | ⟨g1, g3, _⟩
    · go_enter Tryz.func70, Tryz.ntmps70
      go_wp2_with fail
      go_ret
      exact ⟨by rw [hT.out]; rfl, HB0.out⟩
    · go_enter Tryz.func70, Tryz.ntmps70
      go_wp2_with fail
      go_ret
      exact ⟨by rw [hT.out]; rfl, HB0.out⟩
  have h8e : n.k = 8 := by omega
  have k8 : (n.k != 8) = false := by simp [h8e]
  have HT3 := Lib.hid (show tpS way = _ from HT2.out.trans (if_neg h8))
  have hg2 : ((WK : Int) + 1 == 1) = false ∧ ((WK : Int) == 0) = false ∧ 0 < WK := by
    rcases hgd with ⟨_, g2, _⟩ | g
    · simp at g2; omega
    · exact g
  obtain ⟨g1, g3, hWp⟩ := hg2
  have HNL := Lib.hid (tf_key_len HNT.out h8e)
  have H8 := Lib.hid h8e
  clear hno HT HT2 h8 hgd h8e
  have hin : init ≠ [] := fun e => by have h := HWK.out; rw [e] at h; simp at h; omega
  have HTB := Lib.hid (fun (W : World) (hb : Below w.heap.size w W) => show Calls Tryz.prog 97 #[.slice (some ⟨bb, oo, none⟩) (WK : Nat) wc] W _ from HWK.out ▸ refTab_any W _ _ init (HSI.out.below hb) hin (wayC_init _ _ HWC.out hin) HWI.out.1 (by have := HWK.out; omega))
  clear hin
  go_enter Tryz.func70, Tryz.ntmps70
  go_wp2_with fail
  refine (HTB.out _ HB0.out).mono ?_
  rintro e w2 ⟨⟨Pth, hPs, rfl, hPq⟩, hb⟩
  have HB2 := Lib.hid (bthen HB0.out hb)
  have HX2 := Lib.hid ((hb.block _ (lt_blk HX.out)).trans HX.out)
  clear hb x0 x1 x2 x3 hxl
  obtain ⟨x0, x1, x2, x3, _, _, _, _, hxl⟩ := nd_cells HX2.out
  cases hq : tabS init with
  | none =>
    have HR := Lib.hid (show tpS way = true by rw [HT3.out, hq])
    clear hq
    go_wp2_with fail
    go_ret
    exact ⟨by rw [HR.out]; rfl, HB2.out⟩
  | some q =>
    have HPQ := Lib.hid (hPq.out q hq)
    obtain ⟨i2, rfl⟩ : ∃ i2, WK = i2 + 1 := ⟨WK - 1, by omega⟩
    have hi2l : i2 < init.length := by have := HWK.out; omega
    obtain ⟨up, hU⟩ : ∃ up, init[i2] = up := ⟨_, rfl⟩
    have HR := Lib.hid (show tpS way = fieldS q (i2 + 1) up n by
      rw [HT3.out, hq, HWK.out]
      show fieldS q (i2 + 1) (init.getLastD n) n = _
      congr 1
      rw [List.getLastD_eq_getLast?, List.getLast?_eq_getElem?, show init.length - 1 = i2 by have := HWK.out; omega, List.getElem?_eq_getElem hi2l, hU]; rfl)
    have hnu : n ∈ up.kids := by
      have h1 := wayC_next (init ++ [n]) HWC.out i2 (by simp only [List.length_append, List.length_singleton]; omega)
      have h2 : (init ++ [n])[i2 + 1]'(by simp only [List.length_append, List.length_singleton]; omega) = n := by
        rw [List.getElem_append_right (by have := HWK.out; omega)]
        simp [HWK.out]
      rw [h2, List.getElem_append_left hi2l, hU] at h1
      exact h1
    have hum : up ∈ init := by rw [← hU]; exact List.getElem_mem hi2l
    have HUP := Lib.hid (HWI.out.1 up hum)
    have HUK := Lib.hid (show ∀ x ∈ up.kids, x.kids.length = 1 ∧ x.t.size ≤ 1048576 ∧ x.size ≤ 50000 from by
      have htu := HWI.out.2 up hum
      have hu7 : ∀ x ∈ up.kids, x.k = 8 := by
        have h8 := H8.out
        revert hnu htu h8
        cases up with
        | mk a b c d =>
          intro hnu htu h8
          cases htu with
          | mk _ _ _ _ hr ho hk ht =>
            have h1 := hk n hnu
            intro x hx
            have h2 := hk x hx
            unfold Kin valK at h1 h2
            omega
      intro x hx
      have hxo : x.ok := by
        have h := HUP.out.1
        revert hx h
        cases up with
        | mk a b c d => intro hx h; rw [ok_mk] at h; exact (oks_iff _).1 h.2 x hx
      refine ⟨tf_key_len (htu.kid hx) (hu7 x hx), ?_, ?_⟩
      · cases x with
        | mk a b c d => rw [ok_mk] at hxo; exact hxo.1.t
      · have h1 := size_mem hx
        have h2 := kids_size up
        have h3 := HUP.out.2
        omega)
    have hRup := hU
    have HDP := Lib.hid (fun (W : World) (hb : Below w.heap.size w W) => show Calls Tryz.prog 98 #[.agg #[.int .i64 n.k, .string n.t, .string n.v, .slice ax n.kids.length cx]] W _ from refDeep_any n W _ _ (.mk (HSX.out.below hb)) (by have := HNL.out; omega) (by
      have h1 := HNK.out.2
      have h2 := size_mem (x := v0 n) (l := n.kids) (by rw [← v0_get (by have := HNL.out; omega)]; exact List.getElem_mem _)
      have h3 := kids_size n
      have h4 := kids_size (v0 n)
      have h5 := sizes_len (v0 n).kids
      omega))
    clear hPq hq hum hnu
    obtain ⟨DB, hDB⟩ : ∃ DB, deepS n = DB := ⟨_, rfl⟩
    rw [hDB] at HDP
    have HDB := Lib.hid hDB
    clear hDB
    go_wp2_with fail
    refine (HDP.out _ HB2.out).mono ?_
    rintro e w3 ⟨rfl, hb⟩
    have HB3 := Lib.hid (bthen HB2.out hb)
    have HX3 := Lib.hid ((hb.block _ (lt_blk HX2.out)).trans HX2.out)
    clear hb x0 x1 x2 x3 hxl
    obtain ⟨x0, x1, x2, x3, _, _, _, _, hxl⟩ := nd_cells HX3.out
    cases DB with
    | true =>
      obtain ⟨kb, ko, kx, hko, hkw, k0, k1, k2, k3, hkx⟩ := HSX.out.at_ 0 (by have := HNL.out; omega)
      obtain ⟨ay, cy, rfl, hy1, hy2⟩ := hkx.shape
      clear hy1 hy2
      subst hko
      rw [v0_get (by have := HNL.out; omega)] at k0 k1 k2 k3 hkx
      rw [Nat.zero_mul, Nat.add_zero] at k0 k1 k2 k3
      have hvl : (v0 n).kids.length ≤ 50000 := by
        have h1 := HNK.out.2
        have h2 := size_mem (x := v0 n) (l := n.kids) (by rw [← v0_get (by have := HNL.out; omega)]; exact List.getElem_mem _)
        have h3 := kids_size n
        have h4 := kids_size (v0 n)
        have h5 := sizes_len (v0 n).kids
        omega
      have HFS := Lib.hid (show fieldS q (i2 + 1) up n = decide ((wordP n.t).1.size + 2 + (if q ≠ [] ∨ 1 < i2 + 1 then q.length + 1 else 0) + (if rowsS (v0 n) = true then 2 else 0) ≤ 160) by unfold fieldS; rw [if_pos HDB.out])
      obtain ⟨x, hx⟩ : ∃ x, v0 n = x := ⟨_, rfl⟩
      rw [hx] at k0 k1 k2 k3 hkx hvl HFS
      have HRO := Lib.hid (fun (W : World) (hb : Below w.heap.size w W) => show Calls Tryz.prog 99 #[.agg #[.int .i64 x.k, .string x.t, .string x.v, .slice ay x.kids.length cy]] W _ from refRows_any x W _ _ (.mk (hkx.ltC.below hb)) (by omega))
      have d0 := (HB3.out.cell (p := ⟨kb, ko, none⟩) hkw).trans k0
      have d1 := (HB3.out.cell (p := ⟨kb, ko + 1, none⟩) hkw).trans k1
      have d2 := (HB3.out.cell (p := ⟨kb, ko + 2, none⟩) hkw).trans k2
      have d3 := (HB3.out.cell (p := ⟨kb, ko + 3, none⟩) hkw).trans k3
      have hkl2 := Nat.lt_of_lt_of_le hkw HB3.out.size
      have hl3 : (0 : Int) < (n.kids.length : Int) := by have := HNL.out; omega
      have HWD := Lib.hid (fun W : World => refWord_any n.t W hnts)
      have hwl := word_len n.t hnts
      obtain ⟨Q, hQ⟩ : ∃ Q, (wordP n.t).1 = Q := ⟨_, rfl⟩
      have hQs : Q.size ≤ 1048576 := by rw [hQ] at hwl; exact hwl
      rw [hQ] at HWD HFS
      have HQL := Lib.hid (show q.length = Pth.size by rw [← HPQ.out]; exact Array.length_toList)
      clear k0 k1 k2 k3 hkx hx hwl hQ hvl hRup hU
      go_wp2_with fail
      refine (HRO.out _ HB3.out).mono ?_
      rintro e w4 ⟨rfl, hb⟩
      have HB4 := Lib.hid (bthen HB3.out hb)
      have HX4 := Lib.hid ((hb.block _ (lt_blk HX3.out)).trans HX3.out)
      clear hb x0 x1 x2 x3 hxl d0 d1 d2 d3 hkl2
      obtain ⟨x0, x1, x2, x3, _, _, _, _, hxl⟩ := nd_cells HX4.out
      obtain ⟨RB, hRB⟩ : ∃ RB, rowsS x = RB := ⟨_, rfl⟩
      rw [hRB]
      rw [hRB] at HFS
      clear hRB
      go_wp2_with fail
      refine (HWD.out _).mono ?_
      rintro e w5 ⟨rfl, hb⟩
      have HB5 := Lib.hid (bthen HB4.out hb)
      clear hb x0 x1 x2 x3 hxl
      by_cases hpe : Pth.data.toList = []
      · have he : Pth.toList.isEmpty = true := by rw [isE_nil hpe]; rfl
        have hp0 : Pth.size = 0 := by rw [← HQL.out, ← HPQ.out, hpe]; rfl
        have hqe : q = [] := by rw [← HPQ.out, hpe]
        by_cases hw4 : 1 < i2 + 1
        · have HF2 := Lib.hid (show tpS way = decide (Q.size + 2 + (Pth.size + 1) + (if RB = true then 2 else 0) ≤ 160) by rw [HR.out, HFS.out, if_pos (.inr hw4), HQL.out])
          have hw5 : (2 : Int) < ((i2 + 1 : Nat) : Int) + 1 := by omega
          have hw6 : (2 : Int) < (i2 : Int) + 1 + 1 := by omega
          clear hpe hqe hp0
          cases RB
          · have HF3 := Lib.hid (show tpS way = decide (Q.size + 2 + (Pth.size + 1) + 0 ≤ 160) from HF2.out)
            go_wp2_with fail
            go_ret
            exact ⟨by rw [HF3.out]; first | rfl | exact congrArg Ending.returned (congrArg Value.bool (decide_eq_decide.2 (by omega))), HB5.out⟩
          · have HF3 := Lib.hid (show tpS way = decide (Q.size + 2 + (Pth.size + 1) + 2 ≤ 160) from HF2.out)
            go_wp2_with fail
            go_ret
            exact ⟨by rw [HF3.out]; first | rfl | exact congrArg Ending.returned (congrArg Value.bool (decide_eq_decide.2 (by omega))), HB5.out⟩
        · have HF2 := Lib.hid (show tpS way = decide (Q.size + 2 + 0 + (if RB = true then 2 else 0) ≤ 160) by rw [HR.out, HFS.out, if_neg (by rw [hqe]; simp; omega)])
          have hw5 : ¬ (2 : Int) < ((i2 + 1 : Nat) : Int) + 1 := by omega
          have hw6 : ¬ (2 : Int) < (i2 : Int) + 1 + 1 := by omega
          clear hpe hqe hp0
          cases RB
          · have HF3 := Lib.hid (show tpS way = decide (Q.size + 2 + 0 + 0 ≤ 160) from HF2.out)
            go_wp2_with fail
            go_ret
            exact ⟨by rw [HF3.out]; first | rfl | exact congrArg Ending.returned (congrArg Value.bool (decide_eq_decide.2 (by omega))), HB5.out⟩
          · have HF3 := Lib.hid (show tpS way = decide (Q.size + 2 + 0 + 2 ≤ 160) from HF2.out)
            go_wp2_with fail
            go_ret
            exact ⟨by rw [HF3.out]; first | rfl | exact congrArg Ending.returned (congrArg Value.bool (decide_eq_decide.2 (by omega))), HB5.out⟩
      · have he : Pth.toList.isEmpty = false := by
          rw [isE_nil rfl]
          cases h : Pth.data.toList with
          | nil => exact absurd h hpe
          | cons a b => rfl
        have HF2 := Lib.hid (show tpS way = decide (Q.size + 2 + (Pth.size + 1) + (if RB = true then 2 else 0) ≤ 160) by rw [HR.out, HFS.out, if_pos (.inl (by rw [← HPQ.out]; exact hpe)), HQL.out])
        clear hpe
        cases RB
        · have HF3 := Lib.hid (show tpS way = decide (Q.size + 2 + (Pth.size + 1) + 0 ≤ 160) from HF2.out)
          go_wp2_with fail
          go_ret
          exact ⟨by rw [HF3.out]; first | rfl | exact congrArg Ending.returned (congrArg Value.bool (decide_eq_decide.2 (by omega))), HB5.out⟩
        · have HF3 := Lib.hid (show tpS way = decide (Q.size + 2 + (Pth.size + 1) + 2 ≤ 160) from HF2.out)
          go_wp2_with fail
          go_ret
          exact ⟨by rw [HF3.out]; first | rfl | exact congrArg Ending.returned (congrArg Value.bool (decide_eq_decide.2 (by omega))), HB5.out⟩
    | false =>
      have HFS := Lib.hid (show tpS way = (!(aheadS up n) && (n.elems || decide ((n.txt rowF).length ≤ 160))) by rw [HR.out]; unfold fieldS; rw [if_neg (by rw [HDB.out]; simp)])
      obtain ⟨rb, ro, rx, hro, hrw, r0, r1, r2, r3, hrx⟩ := HS.out.at_ i2 (by have := HLEN.out; omega)
      injection hro with hro
      injection hro with hro1 hro2 _
      subst hro1; subst hro2
      obtain ⟨au, cu, rfl, hy1, hy2⟩ := hrx.shape
      clear hy1 hy2
      rw [HIN.out i2 hi2l, hU] at r0 r1 r2 r3 hrx
      have d0 := (HB3.out.cell (p := ⟨bb, oo + i2 * 4, none⟩) hbw).trans r0
      have d1 := (HB3.out.cell (p := ⟨bb, oo + i2 * 4 + 1, none⟩) hbw).trans r1
      have d2 := (HB3.out.cell (p := ⟨bb, oo + i2 * 4 + 2, none⟩) hbw).trans r2
      have d3 := (HB3.out.cell (p := ⟨bb, oo + i2 * 4 + 3, none⟩) hbw).trans r3
      have hbl : bb < w3.heap.size := Nat.lt_of_lt_of_le hbw HB3.out.size
      have HUS := Lib.hid hrx.ltC
      have hii : ((i2 + 1 + 1 : Nat) : Int) - 2 = (i2 : Int) := by omega
      have hi20 : (0 : Int) ≤ (i2 : Int) := Int.natCast_nonneg _
      have hi21 : (i2 : Int) < ((i2 + 1 + 1 : Nat) : Int) := by omega
      have hul : up.kids.length ≤ 50000 := by have h := HUP.out.2; have := sizes_len up.kids; have := kids_size up; omega
      clear r0 r1 r2 r3 hrx hU hRup
      obtain ⟨w4, hw4⟩ : ∃ w4, w3.alloc (.cells #[.int .i64 up.k, .string up.t, .string up.v, .slice au up.kids.length cu] 24) = w4 := ⟨_, rfl⟩
      have HB4 := Lib.hid (show Below w.heap.size w w4 from hw4 ▸ HB3.out.alloc HB3.out.size _)
      have HU4 := Lib.hid (show w4.heap[w3.heap.size]? = some (.cells #[.int .i64 up.k, .string up.t, .string up.v, .slice au up.kids.length cu] 24 (0, 0)) from hw4 ▸ heap_alloc_new w3 _)
      have HX4 := Lib.hid (show w4.heap[w.heap.size]? = _ from hw4 ▸ (Below.heap_alloc w3 _ _ hxl).trans HX3.out)
      have HW4 := Lib.hid hw4
      clear hw4
      go_upto_region 19 with (fail)
      rw [HW4.out]
      rw [show i2 + 1 + 1 - 2 = i2 from rfl]
      clear x0 x1 x2 x3 hxl d0 d1 d2 d3 hbl
      go_wp2_with fail
      have HEL := Lib.hid (fun (W : World) (hb : Below w.heap.size w W) => show Calls Tryz.prog 100 #[.agg #[.int .i64 n.k, .string n.t, .string n.v, .slice ax n.kids.length cx]] W _ from refElems_any n HNK.out.2 W _ _ (.mk (HSX.out.below hb)))
      obtain ⟨Y, hY, hYL⟩ : ∃ Y : ByteArray, strV (n.txt rowF) = .string Y ∧ Y.size = (n.txt rowF).length := ⟨_, rfl, rfl⟩
      have HRW := Lib.hid (fun (W : World) (hb : Below w.heap.size w W) => show Calls Tryz.prog 96 #[.agg #[.int .i64 n.k, .string n.t, .string n.v, .slice ax n.kids.length cx]] W fun e w2 => e = .returned (.string Y) ∧ Below W.heap.size W w2 from (refRow15_any n HNK.out.1 HNK.out.2 W _ _ (.mk (HSX.out.below hb))).mono fun e w2 h => ⟨by rw [h.1, hY], h.2⟩)
      have hYs : Y.size ≤ 1050000 * 50000 := by
        have h1 := txt_len textF_row n HNK.out.1
        have h2 := HNK.out.2
        omega
      rw [← hYL] at HFS
      clear hY hYL
      have hl5 := lt_blk HU4.out
      go_loopw [10] (fun v10 wr => ∃ i : Nat, i ≤ up.kids.length ∧ v10 = .int .i64 i ∧ Hid (∀ (j : Nat) (hj : j < up.kids.length), j < i → up.kids[j].t ≠ n.t ∧ deepS up.kids[j] = false) ∧ Hid (wr.heap[w3.heap.size]? = some (.cells #[.int .i64 up.k, .string up.t, .string up.v, .slice au up.kids.length cu] 24 (0, 0))) ∧ Hid (wr.heap[w.heap.size]? = some (.cells #[.int .i64 n.k, .string n.t, .string n.v, .slice ax n.kids.length cx] 24 (0, 0))) ∧ Hid (Below w.heap.size w wr)) (fun v10 _ => up.kids.length - (intOf v10).toNat)
      case atStart => exact ⟨0, Nat.zero_le _, rfl, fun j hj h => by omega, HU4.out, HX4.out, HB4.out⟩
      case round =>
        obtain ⟨i, hi, rfl, HA, HUR, HXR, HBR⟩ := hrel
        have hi0 : (0 : Int) ≤ (i : Int) := Int.natCast_nonneg _
        have hul1 := lt_blk HUR.out
        have hxl1 := lt_blk HXR.out
        have HBD := Lib.hid (show Below w.heap.size w wr.drew from HBR.out.drew)
        obtain ⟨x0, x1, x2, x3, _, _, _, _, hxl⟩ := nd_cells (show wr.drew.heap[w.heap.size]? = _ from HXR.out)
        obtain ⟨p0, p1, p2, p3, _, _, _, _, hul2⟩ := nd_cells (show wr.drew.heap[w3.heap.size]? = _ from HUR.out)
        by_cases hlt : i < up.kids.length
        · have hi1 : (i : Int) < (up.kids.length : Int) := by omega
          obtain ⟨kb, ko, kx, hko, hkw, k0, k1, k2, k3, hkx⟩ := HUS.out.at_ i hlt
          obtain ⟨ay, cy, rfl, hy1, hy2⟩ := hkx.shape
          clear hy1 hy2
          subst hko
          obtain ⟨hyl, hyt, hys⟩ := HUK.out _ (List.getElem_mem hlt)
          have HYE := Lib.hid (fun h : up.kids[i].t = n.t => ahead_no (n := n) (Nat.le_of_lt hlt) (fun j hj hji => (HA.out j hj hji).2) (.inr ⟨hlt, h⟩))
          have HYD := Lib.hid (fun (h : up.kids[i].t ≠ n.t) (hd : deepS up.kids[i] = true) => ahead_yes (n := n) hlt (fun j hj hji => by
            rcases Nat.lt_or_eq_of_le (Nat.le_of_lt_succ hji) with h1 | h1
            · exact (HA.out j hj h1).1
            · subst h1; exact h) hd)
          have HYN := Lib.hid (fun (h : up.kids[i].t ≠ n.t) (hd : deepS up.kids[i] = false) => show ∀ (j : Nat) (hj : j < up.kids.length), j < i + 1 → up.kids[j].t ≠ n.t ∧ deepS up.kids[j] = false from fun j hj hji => by
            rcases Nat.lt_or_eq_of_le (Nat.le_of_lt_succ hji) with h1 | h1
            · exact HA.out j hj h1
            · subst h1; exact ⟨h, hd⟩)
          obtain ⟨y, hy⟩ : ∃ y, up.kids[i] = y := ⟨_, rfl⟩
          rw [hy] at k0 k1 k2 k3 hkx hyl hyt hys HYE HYD HYN
          have hbw := HBD.out
          have d0 : wr.drew.cell? ⟨kb, ko + i * 4, none⟩ = some (.int .i64 y.k) := (hbw.cell (p := ⟨kb, ko + i * 4, none⟩) hkw).trans k0
          have d1 : wr.drew.cell? ⟨kb, ko + i * 4 + 1, none⟩ = some (.string y.t) := (hbw.cell (p := ⟨kb, ko + i * 4 + 1, none⟩) hkw).trans k1
          have d2 : wr.drew.cell? ⟨kb, ko + i * 4 + 2, none⟩ = some (.string y.v) := (hbw.cell (p := ⟨kb, ko + i * 4 + 2, none⟩) hkw).trans k2
          have d3 : wr.drew.cell? ⟨kb, ko + i * 4 + 3, none⟩ = some (.slice ay y.kids.length cy) := (hbw.cell (p := ⟨kb, ko + i * 4 + 3, none⟩) hkw).trans k3
          have hkl5 : kb < wr.drew.heap.size := Nat.lt_of_lt_of_le hkw hbw.size
          have HDP2 := Lib.hid (fun (W : World) (hb : Below w.heap.size w W) => show Calls Tryz.prog 98 #[.agg #[.int .i64 y.k, .string y.t, .string y.v, .slice ay y.kids.length cy]] W _ from refDeep_any y W _ _ (.mk (hkx.ltC.below hb)) (by omega) (by
            have h2 := size_mem (x := v0 y) (l := y.kids) (by rw [← v0_get (by omega)]; exact List.getElem_mem _)
            have h3 := kids_size y
            have h4 := kids_size (v0 y)
            have h5 := sizes_len (v0 y).kids
            omega))
          clear k0 k1 k2 k3 hkx hyl hyt hys hy hbw
          by_cases ht : y.t = n.t
          · have hq1 : (y.t.toList == n.t.toList) = true := by rw [ht]; simp
            have hq2 : (y.t.toList != n.t.toList) = false := by rw [bne, hq1]; rfl
            have HAF := Lib.hid (HYE.out ht)
            clear ht
            go_wp2_with fail
            go_region
            go_wp2_with fail
            refine (HEL.out _ HBD.out).mono ?_
            rintro e w6 ⟨rfl, hb⟩
            have HB6 := Lib.hid (bthen HBD.out hb)
            have HX6 := Lib.hid ((hb.block _ (lt_blk HXR.out)).trans (show wr.drew.heap[w.heap.size]? = _ from HXR.out))
            clear hb x0 x1 x2 x3 hxl
            obtain ⟨x0, x1, x2, x3, _, _, _, _, hxl⟩ := nd_cells HX6.out
            obtain ⟨EB, hEB⟩ : ∃ EB, n.elems = EB := ⟨_, rfl⟩
            rw [hEB]
            have HEB := Lib.hid hEB
            clear hEB
            cases EB with
            | true =>
              have HR2 := Lib.hid (show tpS way = true by rw [HFS.out, HAF.out, HEB.out]; rfl)
              go_wp2_with fail
              go_ret
              exact ⟨by rw [HR2.out]; rfl, HB6.out⟩
            | false =>
              have HR2 := Lib.hid (show tpS way = decide ((Y.size : Int) ≤ 160) by rw [HFS.out, HAF.out, HEB.out]; exact decide_eq_decide.2 (by omega))
              go_wp2_with fail
              refine (HRW.out _ HB6.out).mono ?_
              rintro e w7 ⟨rfl, hb⟩
              have HB7 := Lib.hid (bthen HB6.out hb)
              clear hb
              go_wp2_with fail
              go_ret
              exact ⟨by rw [HR2.out]; rfl, HB7.out⟩
          · have hq1 : (y.t.toList == n.t.toList) = false := by rw [beq_eq_false_iff_ne]; exact fun e => ht (toL_inj e)
            have hq2 : (y.t.toList != n.t.toList) = true := by rw [bne, hq1]; rfl
            have HYD2 := Lib.hid (HYD.out ht); have HYN2 := Lib.hid (HYN.out ht)
            clear ht
            go_wp2_with fail
            go_region
            go_wp2_with fail
            refine (HDP2.out _ HBD.out).mono ?_
            rintro e w5 ⟨rfl, hb⟩
            have HB5 := Lib.hid (bthen HBD.out hb)
            have HU5 := Lib.hid ((hb.block _ (lt_blk HUR.out)).trans (show wr.drew.heap[w3.heap.size]? = _ from HUR.out))
            have HX5 := Lib.hid ((hb.block _ (lt_blk HXR.out)).trans (show wr.drew.heap[w.heap.size]? = _ from HXR.out))
            clear hb d0 d1 d2 d3 x0 x1 x2 x3 hxl p0 p1 p2 p3 hul2 hkl5
            obtain ⟨DY, hDY⟩ : ∃ DY, deepS y = DY := ⟨_, rfl⟩
            rw [hDY] at HYD2 HYN2 ⊢
            clear hDY
            cases DY with
            | true =>
              have HR2 := Lib.hid (show tpS way = false by rw [HFS.out, HYD2.out rfl]; rfl)
              go_wp2_with fail
              go_ret
              exact ⟨by rw [HR2.out]; rfl, HB5.out⟩
            | false =>
              have HA2 := Lib.hid (HYN2.out rfl)
              go_wp2_with fail
              go_roundw
              case rel => exact ⟨i + 1, by omega, by go_num, HA2.out, HU5.out, HX5.out, HB5.out⟩
              case measure => simp [intOf]; omega
        · obtain rfl : i = up.kids.length := by omega
          have hi1 : ¬ ((up.kids.length : Nat) : Int) < (up.kids.length : Int) := by omega
          have HAF := Lib.hid (ahead_no (up := up) (n := n) (Nat.le_refl _) (fun j hj hji => (HA.out j hj hji).2) (.inl rfl))
          go_wp2_with fail
          go_region
          go_wp2_with fail
          refine (HEL.out _ HBD.out).mono ?_
          rintro e w6 ⟨rfl, hb⟩
          have HB6 := Lib.hid (bthen HBD.out hb)
          have HX6 := Lib.hid ((hb.block _ (lt_blk HXR.out)).trans (show wr.drew.heap[w.heap.size]? = _ from HXR.out))
          clear hb x0 x1 x2 x3 hxl
          obtain ⟨x0, x1, x2, x3, _, _, _, _, hxl⟩ := nd_cells HX6.out
          obtain ⟨EB, hEB⟩ : ∃ EB, n.elems = EB := ⟨_, rfl⟩
          rw [hEB]
          have HEB := Lib.hid hEB
          clear hEB
          cases EB with
          | true =>
            have HR2 := Lib.hid (show tpS way = true by rw [HFS.out, HAF.out, HEB.out]; rfl)
            go_wp2_with fail
            go_ret
            exact ⟨by rw [HR2.out]; rfl, HB6.out⟩
          | false =>
            have HR2 := Lib.hid (show tpS way = decide ((Y.size : Int) ≤ 160) by rw [HFS.out, HAF.out, HEB.out]; exact decide_eq_decide.2 (by omega))
            go_wp2_with fail
            refine (HRW.out _ HB6.out).mono ?_
            rintro e w7 ⟨rfl, hb⟩
            have HB7 := Lib.hid (bthen HB6.out hb)
            clear hb
            go_wp2_with fail
            go_ret
            exact ⟨by rw [HR2.out]; rfl, HB7.out⟩
set_option maxRecDepth 100000 in
set_option maxHeartbeats 4000000 in
theorem tellsSections : TellsAt 4 tpS WayT := by
  intro w S wv way hE hs hw hl
  obtain ⟨wa, wc, rfl, hwc, hwm⟩ := hs.shape
  have HS := Lib.hid hs; have HW := Lib.hid hw
  clear hs hE hw
  go_enter Tryz.func40, Tryz.ntmps40
  go_wp2_with fail
  refine (refSections_any w _ _ way HS.out HW.out hl).mono ?_
  rintro e w1 ⟨rfl, hb⟩
  have HB := Lib.hid hb
  clear hb
  go_wp2_with fail
  go_ret
  exact ⟨rfl, HB.out⟩
theorem refOfSections_any (n : Nd) (w : World) (S : Nat → Prop) (v : Value) (hE : EnvU w) (hv : NdV w S v n) (hok : n.ok) (hsz : n.size ≤ 50000) :
    Calls Tryz.prog 8 #[.int .i64 4, v] w (OfPost (ofP tpS n) w) :=
  refOf_any 4 _ _ (by omega) (by omega) tellsSections (fun way n h i hi => wayT_snoc way n _ h (List.getElem_mem hi)) n w S v hE hv hok hsz (fun h => ⟨⟨trivial, fun x hx => by obtain rfl := List.mem_singleton.1 hx; exact ⟨hok, hsz⟩⟩, fun x hx => by obtain rfl := List.mem_singleton.1 hx; exact (tf_wh h).1⟩)
end Go.Proofs.YtmniblcooficgaaGreatDoor
