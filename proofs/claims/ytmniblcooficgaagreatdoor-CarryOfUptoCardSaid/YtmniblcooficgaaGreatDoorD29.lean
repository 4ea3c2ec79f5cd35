import Derived.Deep.RegionHeld3
import Derived.Laws.EntriesVeiled
import Derived.Test.YtmniblcooficgaaGreatDoorD28
namespace Go.Proofs.YtmniblcooficgaaGreatDoor
open Go.RowKit Ev5
set_option linter.unusedSimpArgs false
set_option linter.unusedVariables false

structure StrIn (w : World) (v : Value) (l : List ByteArray) : Prop where
  ex : ∃ (ao : Option Addr) (cap : Nat), v = .slice ao l.length cap ∧ l.length ≤ cap ∧ cap ≤ maxLen ∧
    ∀ (i : Nat) (h : i < l.length), ∃ b o, ao = some ⟨b, o, none⟩ ∧ w.cell? ⟨b, o + i, none⟩ = some (.string l[i])
theorem StrIn.below {w w' : World} {v : Value} {l : List ByteArray} (h : StrIn w v l) (hb : Below w.heap.size w w') : StrIn w' v l := by
  obtain ⟨ao, cap, h1, h2, h3, h4⟩ := h.ex
  refine ⟨ao, cap, h1, h2, h3, fun i hi => ?_⟩
  obtain ⟨b, o, e, c⟩ := h4 i hi
  exact ⟨b, o, e, by rw [hb.cell (p := ⟨b, o + i, none⟩) (cell_lt c)]; exact c⟩
def baR (l : List ByteArray) : List Value := l.map Value.string
theorem baR_app (a b : List ByteArray) : baR (a ++ b) = baR a ++ baR b := List.map_append ..
theorem strIn_own {w : World} {base : Nat} {v : Value} {l : List ByteArray} (h : w.ownsRow base 9 1 v l.length (baR l)) : StrIn w v l := by
  rcases h.2 with ⟨rfl, h0⟩ | ⟨g, cap, cur, rfl, hb, hg, hc, hm, hs, ht⟩
  · obtain rfl : l = [] := List.eq_nil_of_length_eq_zero h0
    exact ⟨none, 0, rfl, Nat.le_refl _, by decide, fun i hi => by simp at hi⟩
  · refine ⟨some ⟨g, 0, none⟩, cap, rfl, hc, hm, fun i hi => ⟨g, 0, rfl, ?_⟩⟩
    rw [cell_of_row w g (0 + i) _ _ _ hg, Nat.zero_add]
    have h1 : cur.toList.take (l.length * 1) = baR l := ht
    have h2 : (cur.toList.take (l.length * 1))[i]? = some (.string l[i]) := by rw [h1]; simp [baR, hi]
    rw [List.getElem?_take_of_lt (by omega)] at h2
    simpa using h2
def Nd.keys (n : Nd) : List ByteArray := n.kids.map Nd.t
set_option maxRecDepth 100000 in
set_option maxHeartbeats 8000000 in
theorem keys_any (n : Nd) (w : World) (S : Nat → Prop) (nv : Value) (hv : NdV w S nv n) (hk : n.kids.length ≤ 100000) :
    Calls Tryz.prog 33 #[nv] w fun e w' => (∃ v, e = .returned v ∧ StrIn w' v n.keys) ∧ Below w.heap.size w w' := by
  obtain ⟨u, rfl, hs⟩ := hv
  obtain ⟨ao, cap, rfl, hcap, hcm⟩ := hs.shape
  obtain ⟨i0, hinf, hz0, hz1, hz2⟩ := info_parts infoT
  have HI := Lib.hid hinf; have HS := Lib.hid hs.ltC
  have HTL := Lib.hid (show n.keys.length = n.kids.length from List.length_map ..)
  have HX := Lib.hid (heap_alloc_new w (.cells #[.int .i64 n.k, .string n.t, .string n.v, .slice ao n.kids.length cap] 24))
  have HB0 := Lib.hid (show Below w.heap.size w (w.alloc (.cells #[.int .i64 n.k, .string n.t, .string n.v, .slice ao n.kids.length cap] 24)) from (Below.refl _ _).alloc (Nat.le_refl _) _)
  clear hinf hs
  unfold ndV
  unfold maxLen at *
  go_enter Tryz.func33, Tryz.ntmps33
  go_wp2_with fail
  go_loopw [3, 9] (fun v3 v9 wr => ∃ i : Nat, i ≤ n.kids.length ∧ v9 = .int .i64 i ∧ Hid (wr.ownsRow (w.heap.size + 1) 9 1 v3 i (baR (n.keys.take i))) ∧ Hid (Below (w.heap.size + 1) (w.alloc (.cells #[.int .i64 n.k, .string n.t, .string n.v, .slice ao n.kids.length cap] 24)) wr)) (fun _ v9 _ => n.kids.length - (intOf v9).toNat)
  case atStart => exact ⟨0, Nat.zero_le _, rfl, World.ownsRow_nil _ _ _ _, Below.refl _ _⟩
  case round =>
    obtain ⟨i, hi, rfl, HO, HBW⟩ := hrel
    have HBR := Lib.hid (show Below w.heap.size w wr from HB0.out.trans (HBW.out.mono (by omega)))
    obtain ⟨va, vc, hva⟩ := own_shapeC HO.out
    subst hva
    by_cases hlt : i < n.kids.length
    · have hi0 : (0 : Int) ≤ (i : Int) := Int.natCast_nonneg _
      have hi1 : (i : Int) < (n.kids.length : Int) := by omega
      obtain ⟨kb, ko, kx, hko, hkw, k0, k1, k2, k3, hkx⟩ := HS.out.at_ i hlt
      obtain ⟨ay, cy, rfl, _, _⟩ := hkx.shape
      subst hko
      have htk : n.keys.take (i + 1) = n.keys.take i ++ [n.kids[i].t] := by
        rw [List.take_add_one, List.getElem?_eq_getElem (by rw [HTL.out]; exact hlt)]
        congr 1
        show [n.keys[i]'(by rw [HTL.out]; exact hlt)] = _
        simp [Nd.keys]
      obtain ⟨y, hy⟩ : ∃ y, n.kids[i] = y := ⟨_, rfl⟩
      rw [hy] at k0 k1 k2 k3 hkx htk
      have HTK := Lib.hid htk
      have hbw := HBR.out
      have d0 : wr.cell? ⟨kb, ko + i * 4, none⟩ = some (.int .i64 y.k) := (hbw.cell (p := ⟨kb, ko + i * 4, none⟩) hkw).trans k0
      have d1 : wr.cell? ⟨kb, ko + i * 4 + 1, none⟩ = some (.string y.t) := (hbw.cell (p := ⟨kb, ko + i * 4 + 1, none⟩) hkw).trans k1
      have d2 : wr.cell? ⟨kb, ko + i * 4 + 2, none⟩ = some (.string y.v) := (hbw.cell (p := ⟨kb, ko + i * 4 + 2, none⟩) hkw).trans k2
      have d3 : wr.cell? ⟨kb, ko + i * 4 + 3, none⟩ = some (.slice ay y.kids.length cy) := (hbw.cell (p := ⟨kb, ko + i * 4 + 3, none⟩) hkw).trans k3
      have hkl : kb < wr.heap.size := Nat.lt_of_lt_of_le hkw hbw.size
      have HW1 := Lib.hid (show w.heap.size + 1 ≤ wr.heap.size by have := HBW.out.size; simp at this; omega)
      have HOW := Lib.hid (owns_below (owns_below HO.out (show Below wr.heap.size wr (wr.alloc (.cells #[.int .i64 y.k, .string y.t, .string y.v, .slice ay y.kids.length cy] 24)) from (Below.refl _ _).alloc (Nat.le_refl _) _)) (show Below (wr.alloc (.cells #[.int .i64 y.k, .string y.t, .string y.v, .slice ay y.kids.length cy] 24)).heap.size _ ((wr.alloc (.cells #[.int .i64 y.k, .string y.t, .string y.v, .slice ay y.kids.length cy] 24)).alloc (.cells #[.string y.t] 9)) from (Below.refl _ _).alloc (Nat.le_refl _) _))
      clear k0 k1 k2 k3 hkx htk hy hbw hkw
      go_wp2_with (at_builtin; refine wpList_append_own_at _ rfl _ _ 57 rfl (w.heap.size + 1) 9 i0 _ 1 16 Tryz.underlying57 HI.out hz0 hz1 hz2 rfl (by omega) _ i (baR (n.keys.take i)) (by rfl) HOW.out ⟨wr.heap.size + 1, 0, none⟩ 1 1 [.string y.t] (by rfl) (by rfl) (World.news_of_block (by simpa using heap_alloc_new (wr.alloc (.cells #[.int .i64 y.k, .string y.t, .string y.v, .slice ay y.kids.length cy] 24)) (.cells #[.string y.t] 9))) (by intro u hu; rw [List.mem_singleton.1 hu]; rfl) (by unfold maxLen; omega) (by omega) (by have := HW1.out; simp; omega) ?_)
      intro v1 w1 hown hgrow _ hat
      have hlo : ∀ g, (Value.slice va i vc).ownBlock = some g → w.heap.size + 1 ≤ g := fun g e => (HO.out.lt g e).1
      have HOW2 := Lib.hid (show w1.ownsRow (w.heap.size + 1) 9 1 v1 (i + 1) (baR (n.keys.take (i + 1))) by rw [HTK.out, baR_app]; exact hown)
      have HBN := Lib.hid (show Below (w.heap.size + 1) (w.alloc (.cells #[.int .i64 n.k, .string n.t, .string n.v, .slice _ n.kids.length cap] 24)) w1 from
        ((HBW.out.alloc HW1.out _).alloc (by have := HW1.out; simp; omega) _).grown hgrow (by have := HW1.out; simp; omega) hlo)
      clear hown hgrow hat hlo d0 d1 d2 d3
      go_wp2_with fail
      go_roundw
      case rel => exact ⟨i + 1, by omega, by go_num, HOW2, HBN⟩
      case measure => simp [intOf]; omega
    · obtain rfl : i = n.kids.length := by omega
      have hi1 : ¬ ((n.kids.length : Nat) : Int) < (n.kids.length : Int) := by omega
      have hown := HO.out
      rw [List.take_of_length_le (by rw [HTL.out]; exact Nat.le_refl _)] at hown
      have HSI := Lib.hid (show StrIn wr (.slice va n.kids.length vc) n.keys from strIn_own (base := w.heap.size + 1) (by rw [HTL.out]; exact hown))
      clear hown
      go_wp2_with fail
      go_ret
      exact ⟨⟨_, rfl, HSI.out⟩, HBR.out⟩
set_option maxRecDepth 100000 in
set_option maxHeartbeats 8000000 in
theorem strEqual_any (w : World) (va vb : Value) (l m : List ByteArray) (ha : StrIn w va l) (hb : StrIn w vb m) :
    Calls Tryz.prog 35 #[va, vb] w (BoolP (l = m) w) := by
  have HA := Lib.hid ha; have HB := Lib.hid hb
  obtain ⟨ao, cap, rfl, hcap, hcm, hca⟩ := ha.ex
  obtain ⟨ao', cap', rfl, hcap', hcm', hcb⟩ := hb.ex
  have HCA := Lib.hid hca; have HCB := Lib.hid hcb
  clear ha hb hca hcb
  unfold maxLen at hcm hcm'
  by_cases hlm : l.length = m.length
  · have HLM := Lib.hid hlm
    have hll : (((l.length : Nat) : Int) != ((m.length : Nat) : Int)) = false := by simp [hlm]
    clear hlm
    go_enter Tryz.func35, Tryz.ntmps35
    go_wp2_with fail
    go_loopw [13] (fun v13 wr => ∃ i : Nat, i ≤ l.length ∧ v13 = .int .i64 i ∧ Hid (l.take i = m.take i) ∧ Hid (Below w.heap.size w wr)) (fun v13 _ => l.length - (intOf v13).toNat)
    case atStart => exact ⟨0, Nat.zero_le _, rfl, by show _ = _; simp, Below.refl _ _⟩
    case round =>
      obtain ⟨i, hi, rfl, HT, HW⟩ := hrel
      by_cases hlt : i < l.length
      · have hlt' : i < m.length := by have := HLM.out; omega
        obtain ⟨b, o, hao, c0⟩ := HCA.out i hlt
        obtain ⟨b', o', hao', c0'⟩ := HCB.out i hlt'
        subst hao; subst hao'
        have hi0 : (0 : Int) ≤ (i : Int) := Int.natCast_nonneg _
        have hi1 : (i : Int) < (l.length : Int) := by omega
        have hi2 : (i : Int) < (m.length : Int) := by omega
        have hcl : i < cap := by omega
        have hcl' : i < cap' := by omega
        have HST := Lib.hid (fun he : l[i] = m[i] => show l.take (i + 1) = m.take (i + 1) by
          rw [List.take_add_one, List.take_add_one, List.getElem?_eq_getElem hlt, List.getElem?_eq_getElem hlt', HT.out, he])
        have HNE := Lib.hid (show l[i] ≠ m[i] → l ≠ m from fun hne e => by subst e; exact hne rfl)
        obtain ⟨x, hx⟩ : ∃ x, l[i] = x := ⟨_, rfl⟩
        obtain ⟨y, hy⟩ : ∃ y, m[i] = y := ⟨_, rfl⟩
        rw [hx] at c0
        rw [hy] at c0'
        rw [hx, hy] at HST HNE
        have hbw := cell_lt c0
        have hbw' := cell_lt c0'
        have HD := Lib.hid (show ∀ w' : World, Below wr.heap.size wr w' → w'.cell? ⟨b, o + i, none⟩ = some (.string x) ∧ w'.cell? ⟨b', o' + i, none⟩ = some (.string y) from fun w' hb => by
          have hb0 : Below w.heap.size w w' := bthen HW.out hb
          exact ⟨(hb0.cell (p := ⟨b, o + i, none⟩) hbw).trans c0, (hb0.cell (p := ⟨b', o' + i, none⟩) hbw').trans c0'⟩)
        have hsz := HW.out.size
        have hbr : b < wr.heap.size := by simp at hbw; omega
        have hbr' : b' < wr.heap.size := by simp at hbw'; omega
        clear c0 c0' hx hy hbw hbw'
        obtain ⟨c0, c0'⟩ := HD.out wr (Below.refl _ _)
        by_cases hxy : x = y
        · subst hxy
          have HT2 := Lib.hid (HST.out rfl)
          go_wp2_with fail
          go_region_held3? (fun w' => w'.cell? ⟨b, o + i, none⟩ = some (.string x) ∧ w'.cell? ⟨b', o' + i, none⟩ = some (.string x)) (first | exact HD.out _ (Below.refl _ _).drew | go_keep) ((first | fail))
          go_wp2_with fail
          go_roundw
          case rel => exact ⟨i + 1, by omega, by go_num, HT2, Lib.hid (bthen HW.out (Below.refl _ wr).drew)⟩
          case measure => simp [intOf]; omega
        · have HN := Lib.hid (HNE.out hxy)
          have hne : (x.toList == y.toList) = false := by rw [beq_eq_false_iff_ne]; exact fun e => hxy (toL_inj e)
          clear hxy
          go_wp2_with fail
          go_region_held3? (fun w' => w'.cell? ⟨b, o + i, none⟩ = some (.string x) ∧ w'.cell? ⟨b', o' + i, none⟩ = some (.string y)) (first | exact HD.out _ (Below.refl _ _).drew | go_keep) ((first | fail))
          go_wp2_with fail
          go_ret
          exact ⟨false, rfl, ⟨fun h => (by cases h), fun h => absurd h HN.out⟩, bthen HW.out (Below.refl _ wr).drew⟩
      · obtain rfl : i = l.length := by omega
        have hi1 : ¬ ((l.length : Nat) : Int) < (l.length : Int) := by omega
        have HE := Lib.hid (show l = m by have h := HT.out; have hl := HLM.out; rw [List.take_length, hl, List.take_length] at h; exact h)
        go_wp2_with fail
        go_ret
        exact ⟨true, rfl, ⟨fun _ => HE.out, fun _ => rfl⟩, HW.out⟩
  · have hll : (((l.length : Nat) : Int) != ((m.length : Nat) : Int)) = true := by simp; omega
    have HN := Lib.hid (show l ≠ m from fun e => hlm (by rw [e]))
    go_enter Tryz.func35, Tryz.ntmps35
    go_wp2_with fail
    go_ret
    exact ⟨false, rfl, ⟨fun h => (by cases h), fun h => absurd h HN.out⟩, Below.refl _ _⟩
def tpD : List Nd → Bool
  | [n] => decide (n.k = 5)
  | [r, n] => decide (n.k = 7) && decide (n.kids ≠ []) && decide (n.kids.length ≤ 8) && decide (n.keys = (r.kids.headD n).keys)
  | [_, _, _, n] => decide (n.k = 4)
  | _ => true
theorem LkPost.of {w w' : World} {B X : Nat} {v : Value} {p : List Int} (h : Lk w B X v p) (hb : Below w.heap.size w w') : LkPost B X v p w w' v := ⟨h.below hb, LkFar.of hb, .inl rfl⟩
theorem firstP_leaf {tp : List Nd → Bool} {way : List Nd} {n : Nd} {p : List Int} (h : tp (way ++ [n]) = true) (hk : n.kids = []) : firstP tp way n p = none := by
  rw [firstP_kids h, hk]; rfl
set_option maxRecDepth 100000 in
set_option maxHeartbeats 2000000 in
theorem delimV_any (n k f x : Nd) (hx4 : x.k = 4 → x.kids = []) (W : World) (lb X B : Nat) (v : Value) (p : List Int) (u : Value) (hu : ∃ a l c, u = .slice a l c) (i : Int) (hb : W.heap[lb]? = some (.cells #[.pointer (some ⟨X, 0, none⟩)] 41 (0, 0)))
    (hlk : Lk W B X v p) (hl : p.length ≤ 1000000) :
    Calls Tryz.prog 37 #[.int .i64 i, ndV x u, .pointer (some ⟨lb, 0, none⟩)] W (LkEnd B X v p (firstP tpD [n, k, f] x p) W) := by
  obtain ⟨ua, ul, uc, rfl⟩ := hu
  obtain ⟨c0, f0⟩ := blk_cell hb 0 (by simp)
  have hlt := lt_blk hb
  have HB := Lib.hid (show Below W.heap.size W (W.alloc (.cells #[.int .i64 x.k, .string x.t, .string x.v, .slice ua ul uc] 24)) from (Below.refl _ _).alloc (Nat.le_refl _) _)
  have H := Lib.hid hlk
  clear hb hlk
  unfold ndV
  by_cases hk : x.k = 4
  · have HR := Lib.hid (show firstP tpD [n, k, f] x p = none from firstP_leaf (by simp [tpD, hk]) (hx4 hk))
    have hkb : (x.k != 4) = false := by simp [hk]
    clear hk
    go_enter Tryz.func37, Tryz.ntmps37
    go_wp2_with fail
    go_end0
    rw [HR.out]
    exact ⟨⟨_, rfl⟩, _, LkPost.of H.out HB.out⟩
  · have HR := Lib.hid (show firstP tpD [n, k, f] x p = some p from firstP_no (by simp [tpD, hk]))
    have hkb : (x.k != 4) = true := by simp [hk]
    clear hk
    go_enter Tryz.func37, Tryz.ntmps37
    go_wp2_with fail
    refine (fails_any _ B X v p (H.out.below HB.out) (by omega)).mono ?_
    intro e w3 he
    have he2 : LkEnd B X v p (some p) W e w3 := he.after HB.out
    obtain ⟨hfar, a, c, rfl, hints⟩ := he2
    have HF2 := Lib.hid hfar; have HI := Lib.hid hints
    clear hfar hints he
    go_wp2_with fail
    exact ⟨rfl, by rw [HR.out]; exact ⟨HF2.out, a, c, rfl, HI.out⟩⟩
set_option maxRecDepth 100000 in
set_option maxHeartbeats 4000000 in
theorem delimF_any (n k f : Nd) (hf4 : ∀ x ∈ f.kids, x.k = 4 → x.kids = []) (W : World) (lb X B : Nat) (v : Value) (p : List Int) (S : Nat → Prop) (u : Value) (i : Int) (hb : W.heap[lb]? = some (.cells #[.pointer (some ⟨X, 0, none⟩)] 41 (0, 0))) (hlbX : lb ≠ X) (hlbv : v.ownBlock ≠ some lb)
    (hlk : Lk W B X v p) (hv : NdV W S (ndV f u) f) (hSB : ∀ b, S b → b < B) (hB : B ≤ W.heap.size) (hl : p.length + f.size ≤ 100000) :
    Calls Tryz.prog 36 #[.int .i64 i, ndV f u, .pointer (some ⟨lb, 0, none⟩)] W (LkEnd B X v p (firstP tpD [n, k] f p) W) := by
  obtain ⟨u2, e2, hs⟩ := hv
  obtain rfl : u = u2 := by simpa [ndV] using e2
  clear e2
  obtain ⟨ao, cap, rfl, hcap, hcm⟩ := hs.shape
  obtain ⟨c0, f0⟩ := blk_cell hb 0 (by simp)
  have hmf : ∀ (fn : Fn) (first cap : Array Value) (w : World), (Instr.makeFunc fn first cap).run Tryz.prog w = .ok (.func fn first cap) w := fun _ _ _ _ => rfl
  have hlt := lt_blk hb
  have HB := Lib.hid (show Below W.heap.size W (W.alloc (.cells #[.int .i64 f.k, .string f.t, .string f.v, .slice ao f.kids.length cap] 24)) from (Below.refl _ _).alloc (Nat.le_refl _) _)
  have H := Lib.hid hlk; have HS := Lib.hid hs; have HSB := Lib.hid hSB; have HBB := Lib.hid hB; have HL := Lib.hid hl; have HLB := Lib.hid hb; have H4 := Lib.hid hf4; have HNE := Lib.hid (And.intro hlbX hlbv)
  have HR := Lib.hid (firstP_kids (tp := tpD) (way := [n, k]) (n := f) (p := p) rfl)
  have hsz := kids_size f
  have hsl := sizes_len f.kids
  clear hb hlk hs hSB hB hf4 hlbX hlbv
  unfold ndV
  go_enter Tryz.func36, Tryz.ntmps36
  go_wp2_with fail
  refine (kids_any 37 #[.pointer (some ⟨lb, 0, none⟩)] (fun args w => by rfl) _ B X v p S f _ (fun i => if hi : i < f.kids.length then firstP tpD ([n, k] ++ [f]) f.kids[i] (p ++ [(i : Int)]) else none) (H.out.below HB.out) ⟨_, rfl, HS.out.below HB.out⟩ HSB.out (Nat.le_trans HBB.out HB.out.size) (by omega) (by omega) (fun W' v' i hi u hfar hat hlkW hnW => ?_)).mono ?_
  · rw [dif_pos hi]
    refine delimV_any n k f f.kids[i] (H4.out _ (List.getElem_mem hi)) W' lb X B v' _ u (by obtain ⟨u2, e2, h2⟩ := hnW; obtain ⟨a2, c2, h3, _⟩ := h2.shape; exact ⟨a2, _, c2, (show u = u2 by simpa [ndV] using e2).trans h3⟩) i ?_ hlkW (by rw [List.length_append, List.length_singleton]; omega)
    rw [hfar.oth lb (by simp; omega) HNE.out.1 HNE.out.2, HB.out.block lb hlt]
    exact HLB.out
  · intro e w3 he
    have he2 := he.after HB.out
    rw [← HR.out] at he2
    cases ho : firstP tpD [n, k] f p with
    | none =>
      rw [ho] at he2
      obtain ⟨⟨rr, rfl⟩, v', hp⟩ := he2
      have HP := Lib.hid hp
      have HO := Lib.hid ho
      clear hp he
      go_wp2_with fail
      go_end0
      show LkEnd B X v p (firstP tpD [n, k] f p) W _ _
      rw [HO.out]
      exact ⟨⟨_, rfl⟩, _, HP.out⟩
    | some q =>
      rw [ho] at he2
      obtain ⟨hfar, a, c, rfl, hints⟩ := he2
      have HF2 := Lib.hid hfar; have HI := Lib.hid hints
      have HO := Lib.hid ho
      clear hfar hints he
      go_wp2_with fail
      exact ⟨rfl, HF2.out, a, c, rfl, HI.out⟩

set_option maxRecDepth 100000 in
set_option maxHeartbeats 8000000 in
theorem delimK_any (n k : Nd) (hn : 0 < n.kids.length) (htk : ∀ f ∈ k.kids, ∀ x ∈ f.kids, x.k = 4 → x.kids = []) (W : World) (kb nb lb X B : Nat) (v : Value) (p : List Int) (S : Nat → Prop) (u un : Value) (i : Int)
    (hkb : W.heap[kb]? = some (.cells #[.func (.func 33) #[] #[]] 58 (0, 0))) (hnb : W.heap[nb]? = some (.cells #[.int .i64 n.k, .string n.t, .string n.v, un] 24 (0, 0))) (hlb : W.heap[lb]? = some (.cells #[.pointer (some ⟨X, 0, none⟩)] 41 (0, 0)))
    (hbX : kb ≠ X ∧ nb ≠ X ∧ lb ≠ X) (hbv : v.ownBlock ≠ some kb ∧ v.ownBlock ≠ some nb ∧ v.ownBlock ≠ some lb)
    (hlk : Lk W B X v p) (hv : NdV W S (ndV k u) k) (hvn : SlIn W S un n.kids) (hSB : ∀ b, S b → b < B) (hB : B ≤ W.heap.size) (hl : p.length + k.size ≤ 100000) (hnl : n.kids.length ≤ 100000) (hn0 : n.kids[0].kids.length ≤ 100000) :
    Calls Tryz.prog 34 #[.int .i64 i, ndV k u, .pointer (some ⟨kb, 0, none⟩), .pointer (some ⟨nb, 0, none⟩), .pointer (some ⟨lb, 0, none⟩)] W (LkEnd B X v p (firstP tpD [n] k p) W) := by
  obtain ⟨u2, e2, hs⟩ := hv
  obtain rfl : u = u2 := by simpa [ndV] using e2
  clear e2
  obtain ⟨ao, cap, rfl, hcap, hcm⟩ := hs.shape
  obtain ⟨an, cn, rfl, hcn, hcnm⟩ := hvn.shape
  obtain ⟨c0, f0⟩ := blk_cell hlb 0 (by simp)
  have hmf : ∀ (fn : Fn) (first cap : Array Value) (w : World), (Instr.makeFunc fn first cap).run Tryz.prog w = .ok (.func fn first cap) w := fun _ _ _ _ => rfl
  have hlt := lt_blk hlb
  have HB := Lib.hid (show Below W.heap.size W (W.alloc (.cells #[.int .i64 k.k, .string k.t, .string k.v, .slice ao k.kids.length cap] 24)) from (Below.refl _ _).alloc (Nat.le_refl _) _)
  have HX := Lib.hid (heap_alloc_new W (.cells #[.int .i64 k.k, .string k.t, .string k.v, .slice ao k.kids.length cap] 24))
  obtain ⟨fb, fo, fx, hfo, hfw, k0, k1, k2, k3, hfx⟩ := hvn.at_ 0 hn
  obtain ⟨ay, cy, rfl, _, _⟩ := hfx.shape
  subst hfo
  obtain ⟨y, hy⟩ : ∃ y, n.kids[0] = y := ⟨_, rfl⟩
  rw [hy] at k0 k1 k2 k3 hfx hn0
  rw [Nat.zero_mul, Nat.add_zero] at k0 k1 k2 k3
  have HY := Lib.hid hy
  have HKY := Lib.hid (show NdV W S (.agg #[.int .i64 y.k, .string y.t, .string y.v, .slice ay y.kids.length cy]) y from NdV.mk hfx)
  have H := Lib.hid hlk; have HS := Lib.hid hs; have HSB := Lib.hid hSB; have HBB := Lib.hid hB; have HLB := Lib.hid hlb; have HKB := Lib.hid hkb; have HNB := Lib.hid hnb; have HTK := Lib.hid htk; have HBX := Lib.hid hbX; have HBV := Lib.hid hbv
  have HKK := Lib.hid (show NdV W S (.agg #[.int .i64 k.k, .string k.t, .string k.v, .slice ao k.kids.length cap]) k from NdV.mk hs)
  have hsz := kids_size k
  have hsl := sizes_len k.kids
  clear hlb hlk hs hSB hB htk hkb hnb hbX hbv hvn hfx hy
  unfold ndV
  unfold maxLen at *
  obtain ⟨W0, hW0⟩ : ∃ W0, W.alloc (.cells #[.int .i64 k.k, .string k.t, .string k.v, .slice ao k.kids.length cap] 24) = W0 := ⟨_, rfl⟩
  rw [hW0] at HB HX
  have HD := Lib.hid (show ∀ w' : World, Below W0.heap.size W0 w' → w'.cell? ⟨kb, 0, none⟩ = some (.func (.func 33) #[] #[]) ∧ w'.cell? ⟨nb, 3, none⟩ = some (.slice (some ⟨fb, fo, none⟩) n.kids.length cn) ∧ (w'.cell? ⟨fb, fo, none⟩ = some (.int .i64 y.k) ∧ w'.cell? ⟨fb, fo + 1, none⟩ = some (.string y.t) ∧ w'.cell? ⟨fb, fo + 2, none⟩ = some (.string y.v) ∧ w'.cell? ⟨fb, fo + 3, none⟩ = some (.slice ay y.kids.length cy)) ∧ (w'.cell? ⟨W.heap.size, 0, none⟩ = some (.int .i64 k.k) ∧ w'.cell? ⟨W.heap.size, 1, none⟩ = some (.string k.t) ∧ w'.cell? ⟨W.heap.size, 2, none⟩ = some (.string k.v) ∧ w'.cell? ⟨W.heap.size, 3, none⟩ = some (.slice ao k.kids.length cap)) from fun w' hb => by
    have hbw := bthen HB.out hb
    obtain ⟨x0, x1, x2, x3, _⟩ := nd_cells ((hb.block _ (lt_blk HX.out)).trans HX.out)
    obtain ⟨_, _, _, y3, _⟩ := nd_cells ((hbw.block _ (lt_blk HNB.out)).trans HNB.out)
    exact ⟨(blk_cell ((hbw.block _ (lt_blk HKB.out)).trans HKB.out) 0 (by simp)).1, y3, ⟨(hbw.cell (p := ⟨fb, fo, none⟩) hfw).trans k0, (hbw.cell (p := ⟨fb, fo + 1, none⟩) hfw).trans k1, (hbw.cell (p := ⟨fb, fo + 2, none⟩) hfw).trans k2, (hbw.cell (p := ⟨fb, fo + 3, none⟩) hfw).trans k3⟩, x0, x1, x2, x3⟩)
  have hl0 := lt_blk HX.out
  have hlk0 : kb < W0.heap.size := Nat.lt_of_lt_of_le (lt_blk HKB.out) HB.out.size
  have hln0 : nb < W0.heap.size := Nat.lt_of_lt_of_le (lt_blk HNB.out) HB.out.size
  have hlf0 : fb < W0.heap.size := Nat.lt_of_lt_of_le hfw HB.out.size
  have hbr : Below W0.heap.size W0 W0.drew := (Below.refl _ _).drew
  obtain ⟨q0, q1, ⟨q2, q3, q4, q5⟩, q6, q7, q8, q9⟩ := HD.out _ (Below.refl _ W0)
  clear k0 k1 k2 k3 c0 f0
  have HYK := Lib.hid (show (n.kids.headD k).keys = y.keys by
    match h : n.kids, hn with
    | z :: r, _ =>
      have h2 := HY.out
      simp only [h, List.getElem_cons_zero] at h2
      rw [h2]; rfl)
  by_cases h7 : k.k = 7
  · by_cases h0 : k.kids = []
    · have HR := Lib.hid (show firstP tpD [n] k p = some p from firstP_no (by simp [tpD, h0]))
      have hk1 : ((k.kids.length : Int) == 0) = true := by simp [h0]
      have hk7 : (k.k != 7) = false := by simp [h7]
      clear h7 h0
      go_enter Tryz.func34, Tryz.ntmps34
      go_wp2_with fail
      obtain ⟨q0, q1, ⟨q2, q3, q4, q5⟩, q6, q7, q8, q9⟩ := HD.out _ hbr
      go_region
      have hlc := blk_cell (((bthen HB.out hbr).block _ (lt_blk HLB.out)).trans HLB.out) 0 (by simp)
      obtain ⟨c0, f0⟩ := hlc
      have hllb : lb < W0.drew.heap.size := Nat.lt_of_lt_of_le (lt_blk HLB.out) (bthen HB.out hbr).size
      go_wp2_with fail
      refine (fails_any _ B X v p (H.out.below (bthen HB.out hbr)) (by omega)).mono ?_
      intro e w3 he
      have he2 : LkEnd B X v p (some p) W e w3 := he.after (bthen HB.out hbr)
      obtain ⟨hfar, a, c, rfl, hints⟩ := he2
      have HF2 := Lib.hid hfar; have HI := Lib.hid hints
      clear hfar hints he
      go_wp2_with fail
      exact ⟨rfl, by rw [HR.out]; exact ⟨HF2.out, a, c, rfl, HI.out⟩⟩
    · have hk0 : 0 < k.kids.length := List.length_pos_iff.2 h0
      have hk1 : ((k.kids.length : Int) == 0) = false := by simp; omega
      have hk7 : (k.k != 7) = false := by simp [h7]
      by_cases h8 : k.kids.length ≤ 8
      · have hk8 : decide (8 < (k.kids.length : Int)) = false := decide_eq_false (by omega)
        obtain ⟨R, hR⟩ : ∃ R : Bool, (R = true ↔ k.keys = y.keys) := by
          by_cases h : k.keys = y.keys
          · exact ⟨true, by simp [h]⟩
          · exact ⟨false, by simp [h]⟩
        have HRR := Lib.hid hR
        cases R
        · have HR := Lib.hid (show firstP tpD [n] k p = some p from firstP_no (by
            have h9 : ¬ k.keys = y.keys := fun e => by have := hR.2 e; cases this
            show (decide (k.k = 7) && decide (k.kids ≠ []) && decide (k.kids.length ≤ 8) && decide (k.keys = (n.kids.headD k).keys)) = false
            rw [HYK.out]
            simp [h9]))
          clear h7 h0 hR
          go_enter Tryz.func34, Tryz.ntmps34
          go_wp2_with fail
          go_region_held3? (fun w' => w'.cell? ⟨kb, 0, none⟩ = some (.func (.func 33) #[] #[]) ∧ w'.cell? ⟨nb, 3, none⟩ = some (.slice (some ⟨fb, fo, none⟩) n.kids.length cn) ∧ (w'.cell? ⟨fb, fo, none⟩ = some (.int .i64 y.k) ∧ w'.cell? ⟨fb, fo + 1, none⟩ = some (.string y.t) ∧ w'.cell? ⟨fb, fo + 2, none⟩ = some (.string y.v) ∧ w'.cell? ⟨fb, fo + 3, none⟩ = some (.slice ay y.kids.length cy)) ∧ (w'.cell? ⟨W.heap.size, 0, none⟩ = some (.int .i64 k.k) ∧ w'.cell? ⟨W.heap.size, 1, none⟩ = some (.string k.t) ∧ w'.cell? ⟨W.heap.size, 2, none⟩ = some (.string k.v) ∧ w'.cell? ⟨W.heap.size, 3, none⟩ = some (.slice ao k.kids.length cap))) (first | exact HD.out _ hbr | go_keep) ((first
            | (go_at_call 33
               first
                 | with_reducible refine (keys_any k _ _ _ (HKK.out.below (bthen HB.out hbr)) (by omega)).mono ?_
                   rintro e wq ⟨⟨va, rfl, hsk⟩, hbn⟩
                   have HSA := Lib.hid hsk
                   obtain ⟨aa, ca, rfl, _, _, _⟩ := hsk.ex
                   have hbo := hbr
                   clear hbr hsk
                   have hbr := bthen hbo hbn
                   clear hbo hbn
                 | with_reducible refine (keys_any y _ _ _ (HKY.out.below (bthen HB.out hbr)) hn0).mono ?_
                   rintro e wq2 ⟨⟨vb, rfl, hsk⟩, hbn⟩
                   have HSY := Lib.hid hsk
                   have HSA2 := Lib.hid (HSA.out.below hbn)
                   obtain ⟨ab, cb, rfl, _, _, _⟩ := hsk.ex
                   have hbo := hbr
                   clear hbr hsk HSA
                   have hbr := bthen hbo hbn
                   clear hbo hbn)
            | (go_at_call 35
               with_reducible refine (strEqual_any _ _ _ k.keys y.keys HSA2.out HSY.out).mono ?_
               rintro e wq3 ⟨r, rfl, hr, hbn⟩
               have hqr : r = false := by rw [Bool.eq_iff_iff]; exact hr.trans HRR.out.symm
               rw [hqr]
               clear hqr
               have hbo := hbr
               clear hbr
               have hbr := bthen hbo hbn
               clear hbo hbn hr)))
          all_goals
            have hlc := blk_cell (((bthen HB.out hbr).block _ (lt_blk HLB.out)).trans HLB.out) 0 (by simp)
            obtain ⟨c0, f0⟩ := hlc
            have hllb := Nat.lt_of_lt_of_le (lt_blk HLB.out) (bthen HB.out hbr).size
            go_wp2_with fail
            refine (fails_any _ B X v p (H.out.below (bthen HB.out hbr)) (by omega)).mono ?_
            intro e w3 he
            have he2 : LkEnd B X v p (some p) W e w3 := he.after (bthen HB.out hbr)
            obtain ⟨hfar, a, c, rfl, hints⟩ := he2
            have HF2 := Lib.hid hfar; have HI := Lib.hid hints
            clear hfar hints he
            go_wp2_with fail
            exact ⟨rfl, by rw [HR.out]; exact ⟨HF2.out, a, c, rfl, HI.out⟩⟩
        · have HKE := Lib.hid (show k.keys = y.keys from hR.1 rfl)
          have HR := Lib.hid (firstP_kids (tp := tpD) (way := [n]) (n := k) (p := p) (by
            have h9 : k.keys = y.keys := hR.1 rfl
            show (decide (k.k = 7) && decide (k.kids ≠ []) && decide (k.kids.length ≤ 8) && decide (k.keys = (n.kids.headD k).keys)) = true
            rw [HYK.out]
            simp [h9, h7, h0, h8]))
          clear h7 h0 hR
          go_enter Tryz.func34, Tryz.ntmps34
          go_wp2_with fail
          go_region_held3? (fun w' => w'.cell? ⟨kb, 0, none⟩ = some (.func (.func 33) #[] #[]) ∧ w'.cell? ⟨nb, 3, none⟩ = some (.slice (some ⟨fb, fo, none⟩) n.kids.length cn) ∧ (w'.cell? ⟨fb, fo, none⟩ = some (.int .i64 y.k) ∧ w'.cell? ⟨fb, fo + 1, none⟩ = some (.string y.t) ∧ w'.cell? ⟨fb, fo + 2, none⟩ = some (.string y.v) ∧ w'.cell? ⟨fb, fo + 3, none⟩ = some (.slice ay y.kids.length cy)) ∧ (w'.cell? ⟨W.heap.size, 0, none⟩ = some (.int .i64 k.k) ∧ w'.cell? ⟨W.heap.size, 1, none⟩ = some (.string k.t) ∧ w'.cell? ⟨W.heap.size, 2, none⟩ = some (.string k.v) ∧ w'.cell? ⟨W.heap.size, 3, none⟩ = some (.slice ao k.kids.length cap))) (first | exact HD.out _ hbr | go_keep) ((first
            | (go_at_call 33
               first
                 | with_reducible refine (keys_any k _ _ _ (HKK.out.below (bthen HB.out hbr)) (by omega)).mono ?_
                   rintro e wq ⟨⟨va, rfl, hsk⟩, hbn⟩
                   have HSA := Lib.hid hsk
                   obtain ⟨aa, ca, rfl, _, _, _⟩ := hsk.ex
                   have hbo := hbr
                   clear hbr hsk
                   have hbr := bthen hbo hbn
                   clear hbo hbn
                 | with_reducible refine (keys_any y _ _ _ (HKY.out.below (bthen HB.out hbr)) hn0).mono ?_
                   rintro e wq2 ⟨⟨vb, rfl, hsk⟩, hbn⟩
                   have HSY := Lib.hid hsk
                   have HSA2 := Lib.hid (HSA.out.below hbn)
                   obtain ⟨ab, cb, rfl, _, _, _⟩ := hsk.ex
                   have hbo := hbr
                   clear hbr hsk HSA
                   have hbr := bthen hbo hbn
                   clear hbo hbn)
            | (go_at_call 35
               with_reducible refine (strEqual_any _ _ _ k.keys y.keys HSA2.out HSY.out).mono ?_
               rintro e wq3 ⟨r, rfl, hr, hbn⟩
               have hqr : r = true := hr.2 (HKE.out)
               rw [hqr]
               clear hqr
               have hbo := hbr
               clear hbr
               have hbr := bthen hbo hbn
               clear hbo hbn hr)))
          all_goals
            have hlc := blk_cell (((bthen HB.out hbr).block _ (lt_blk HLB.out)).trans HLB.out) 0 (by simp)
            obtain ⟨c0, f0⟩ := hlc
            have hllb := Nat.lt_of_lt_of_le (lt_blk HLB.out) (bthen HB.out hbr).size
            go_wp2_with fail
            refine (kids_any 36 #[.pointer (some ⟨lb, 0, none⟩)] (fun args w => by rfl) _ B X v p S k _ (fun i => if hi : i < k.kids.length then firstP tpD ([n] ++ [k]) k.kids[i] (p ++ [(i : Int)]) else none) (H.out.below (bthen HB.out hbr)) ⟨_, rfl, HS.out.below (bthen HB.out hbr)⟩ HSB.out (Nat.le_trans HBB.out (bthen HB.out hbr).size) (by omega) (by omega) (fun W' v' i hi u hfar hat hlkW hnW => ?_)).mono ?_
            · rw [dif_pos hi]
              have hks := kid_size (n := k) hi
              refine delimF_any n k k.kids[i] (HTK.out _ (List.getElem_mem hi)) W' lb X B v' _ S u i ?_ HBX.out.2.2 ?_ hlkW hnW HSB.out (Nat.le_trans HBB.out (Nat.le_trans (bthen HB.out hbr).size hfar.size)) (by rw [List.length_append, List.length_singleton]; omega)
              · rw [hfar.oth lb (Nat.lt_of_lt_of_le (lt_blk HLB.out) (bthen HB.out hbr).size) HBX.out.2.2 HBV.out.2.2, (bthen HB.out hbr).block lb (lt_blk HLB.out)]
                exact HLB.out
              · rcases hat with e | e
                · rw [e]; exact HBV.out.2.2
                · intro e2; have := e lb e2; have := Nat.lt_of_lt_of_le (lt_blk HLB.out) (bthen HB.out hbr).size; omega
            · intro e w3 he
              have he2 := he.after (bthen HB.out hbr)
              rw [← HR.out] at he2
              cases ho : firstP tpD [n] k p with
              | none =>
                rw [ho] at he2
                obtain ⟨⟨rr, rfl⟩, v', hp⟩ := he2
                have HP := Lib.hid hp
                have HO := Lib.hid ho
                clear hp he
                go_wp2_with fail
                go_end0
                show LkEnd B X v p (firstP tpD [n] k p) W _ _
                rw [HO.out]
                exact ⟨⟨_, rfl⟩, _, HP.out⟩
              | some q =>
                rw [ho] at he2
                obtain ⟨hfar, a, c, rfl, hints⟩ := he2
                have HF2 := Lib.hid hfar; have HI := Lib.hid hints
                have HO := Lib.hid ho
                clear hfar hints he
                go_wp2_with fail
                exact ⟨rfl, HF2.out, a, c, rfl, HI.out⟩
      · have HR := Lib.hid (show firstP tpD [n] k p = some p from firstP_no (by simp [tpD, h8]))
        have hk8 : 8 < (k.kids.length : Int) := by omega
        clear h7 h0
        go_enter Tryz.func34, Tryz.ntmps34
        go_wp2_with fail
        obtain ⟨q0, q1, ⟨q2, q3, q4, q5⟩, q6, q7, q8, q9⟩ := HD.out _ hbr
        go_region
        have hlc := blk_cell (((bthen HB.out hbr).block _ (lt_blk HLB.out)).trans HLB.out) 0 (by simp)
        obtain ⟨c0, f0⟩ := hlc
        have hllb : lb < W0.drew.heap.size := Nat.lt_of_lt_of_le (lt_blk HLB.out) (bthen HB.out hbr).size
        go_wp2_with fail
        refine (fails_any _ B X v p (H.out.below (bthen HB.out hbr)) (by omega)).mono ?_
        intro e w3 he
        have he2 : LkEnd B X v p (some p) W e w3 := he.after (bthen HB.out hbr)
        obtain ⟨hfar, a, c, rfl, hints⟩ := he2
        have HF2 := Lib.hid hfar; have HI := Lib.hid hints
        clear hfar hints he
        go_wp2_with fail
        exact ⟨rfl, by rw [HR.out]; exact ⟨HF2.out, a, c, rfl, HI.out⟩⟩
  · have HR := Lib.hid (show firstP tpD [n] k p = some p from firstP_no (by simp [tpD, h7]))
    have hk7 : (k.k != 7) = true := by simp [h7]
    clear h7
    go_enter Tryz.func34, Tryz.ntmps34
    go_wp2_with fail
    obtain ⟨q0, q1, ⟨q2, q3, q4, q5⟩, q6, q7, q8, q9⟩ := HD.out _ hbr
    go_region
    have hlc := blk_cell (((bthen HB.out hbr).block _ (lt_blk HLB.out)).trans HLB.out) 0 (by simp)
    obtain ⟨c0, f0⟩ := hlc
    have hllb : lb < W0.drew.heap.size := Nat.lt_of_lt_of_le (lt_blk HLB.out) (bthen HB.out hbr).size
    go_wp2_with fail
    refine (fails_any _ B X v p (H.out.below (bthen HB.out hbr)) (by omega)).mono ?_
    intro e w3 he
    have he2 : LkEnd B X v p (some p) W e w3 := he.after (bthen HB.out hbr)
    obtain ⟨hfar, a, c, rfl, hints⟩ := he2
    have HF2 := Lib.hid hfar; have HI := Lib.hid hints
    clear hfar hints he
    go_wp2_with fail
    exact ⟨rfl, by rw [HR.out]; exact ⟨HF2.out, a, c, rfl, HI.out⟩⟩
end Go.Proofs.YtmniblcooficgaaGreatDoor
