import Derived.Test.YtkebohhogpenkaaGreatDoorIn1
import Derived.Deep.RegionHeld3
import Derived.Test.YtkebohhogpenkaaGreatDoorIn2
/- The walk of inkparen's text of a node. -/
namespace Go.Proofs.YtkebohhogpenkaaGreatDoor
open Go.RowKit Ev5
set_option linter.unusedSimpArgs false
set_option linter.unusedVariables false

set_option maxRecDepth 100000 in
set_option maxHeartbeats 2000000 in
theorem inkQuoted_any (s : ByteArray) (w : World) (hE : EnvU w) (hs : s.size ≤ 1048576) :
    Calls Tryz.prog 56 #[.string s] w fun e w' => e = .returned (strV (qt s)) ∧ Below w.heap.size w w' := by
  have HE := Lib.hid hE
  clear hE
  go_enter Tryz.func56, Tryz.ntmps56
  go_wp2_with fail
  refine (quotePrint_any s w HE.out hs).mono ?_
  rintro e w1 ⟨rfl, hb⟩
  have HB := Lib.hid hb
  clear hb
  go_wp2_with fail
  go_ret
  exact ⟨rfl, HB.out⟩
/-- What text is shown to do at a kid. -/
def TextAt (f : FuncId) (T : Nd → List UInt8) (x : Nd) : Prop := ∀ (W : World) (S : Nat → Prop) (u : Value), EnvU W → NdV W S (ndV x u) x → Calls Tryz.prog f #[ndV x u] W fun e w' => e = .returned (strV (T x)) ∧ Below W.heap.size W w'
set_option maxRecDepth 100000 in
set_option maxHeartbeats 8000000 in
theorem inkParts_any (ks : List Nd) (hcall : ∀ x ∈ ks, TextAt 37 Nd.ink x) (b : ByteArray) (hb : b.size ≤ 10) (w : World) (B : Nat) (hE : ∀ W, Below B w W → EnvU W) (S : Nat → Prop) (u : Value) (hs : SlIn w S u ks) (hSB : ∀ b, S b → b < B) (hB : B ≤ w.heap.size)
    (v : Value) (first : List (List UInt8)) (hown : w.ownsRow B 9 1 v first.length (strR first)) (hl : first.length ≤ 1) (hk : ks.length ≤ 100000) (hlen : lenS (first ++ Nd.inks ks) ≤ 100000000000) :
    Calls Tryz.prog 57 #[.string b, u, v] w fun e w' => e = .returned (strV (b.data.toList ++ (Lib.join (first ++ Nd.inks ks) [32] ++ [41]))) ∧ Below B w w' := by
  obtain ⟨ao, cap, rfl, hcap, hcm⟩ := hs.shape
  obtain ⟨i0, hinf, hz0, hz1, hz2⟩ := info_parts infoT
  have HI := Lib.hid hinf
  have HE := Lib.hid hE; have HS := Lib.hid hs; have HSB := Lib.hid hSB; have HBB := Lib.hid hB; have HCA := Lib.hid hcall; have HO := Lib.hid hown; have HLEN := Lib.hid hlen
  clear hE hs hSB hB hcall hown hlen hinf
  obtain ⟨va, vc, rfl⟩ := own_shapeC HO.out
  go_enter Tryz.func57, Tryz.ntmps57
  go_wp2_with fail
  go_loopw [2, 11] (fun v2 v11 wr => ∃ i : Nat, i ≤ ks.length ∧ v11 = .int .i64 i ∧ Hid (wr.ownsRow B 9 1 v2 (first.length + i) (strR (first ++ (Nd.inks ks).take i))) ∧ Hid (Below B w wr)) (fun _ v11 _ => ks.length - (intOf v11).toNat)
  case atStart => exact ⟨0, Nat.zero_le _, rfl, by show World.ownsRow _ _ _ _ _ _ _; rw [List.take_zero, List.append_nil]; exact HO.out, Below.refl _ _⟩
  case round =>
    obtain ⟨i, hi, rfl, HOI, HBW⟩ := hrel
    by_cases hlt : i < ks.length
    · have hi0 : (0 : Int) ≤ (i : Int) := Int.natCast_nonneg _
      have hi1 : (i : Int) < (ks.length : Int) := by omega
      obtain ⟨wa, wc, hwa⟩ := own_shapeC HOI.out
      subst hwa
      obtain ⟨kb, ko, kx, hko, hkw, k0, k1, k2, k3, hkx⟩ := HS.out.at_ i hlt
      have hkB : kb < B := by
        obtain ⟨a2, c2, e2, _, _, hor⟩ := HS.out
        rcases hor with h0 | ⟨b', o', e', hsb, _, _⟩
        · rw [h0] at hlt; simp at hlt
        · injection e2 with e2 _ _
          rw [e2, e'] at hko
          injection hko with hko
          injection hko with hko _ _
          rw [← hko]; exact HSB.out _ hsb
      obtain ⟨ay, cy, rfl, _, _⟩ := hkx.shape
      subst hko
      have hmem := List.getElem_mem hlt
      have hih := HCA.out ks[i] hmem
      have htk : first ++ (Nd.inks ks).take (i + 1) = first ++ (Nd.inks ks).take i ++ [ks[i].ink] := by
        have hL : i < (Nd.inks ks).length := by rw [inks_map, List.length_map]; exact hlt
        rw [List.take_add_one, List.getElem?_eq_getElem hL, List.append_assoc]
        congr 2
        show [(Nd.inks ks)[i]] = _
        simp [inks_map]
      obtain ⟨y, hy⟩ : ∃ y, ks[i] = y := ⟨_, rfl⟩
      rw [hy] at k0 k1 k2 k3 hkx hih htk
      have HH := Lib.hid hih; have HTK := Lib.hid htk
      have hbw := HBW.out
      have d0 : wr.cell? ⟨kb, ko + i * 4, none⟩ = some (.int .i64 y.k) := (hbw.cell (p := ⟨kb, ko + i * 4, none⟩) hkB).trans k0
      have d1 : wr.cell? ⟨kb, ko + i * 4 + 1, none⟩ = some (.string y.t) := (hbw.cell (p := ⟨kb, ko + i * 4 + 1, none⟩) hkB).trans k1
      have d2 : wr.cell? ⟨kb, ko + i * 4 + 2, none⟩ = some (.string y.v) := (hbw.cell (p := ⟨kb, ko + i * 4 + 2, none⟩) hkB).trans k2
      have d3 : wr.cell? ⟨kb, ko + i * 4 + 3, none⟩ = some (.slice ay y.kids.length cy) := (hbw.cell (p := ⟨kb, ko + i * 4 + 3, none⟩) hkB).trans k3
      have hkl : kb < wr.heap.size := Nat.lt_of_lt_of_le hkw hbw.size
      have HB1 := Lib.hid (show Below wr.heap.size wr (wr.alloc (.cells #[.int .i64 y.k, .string y.t, .string y.v, .slice ay y.kids.length cy] 24)) from (Below.refl _ _).alloc (Nat.le_refl _) _)
      have HBX := Lib.hid (show B ≤ wr.heap.size from Nat.le_trans HBB.out hbw.size)
      have HKS := Lib.hid (show NdV (wr.alloc (.cells #[.int .i64 y.k, .string y.t, .string y.v, .slice ay y.kids.length cy] 24)) S (ndV y (.slice ay y.kids.length cy)) y from
        .mk (hkx.alike ⟨Nat.le_trans hbw.size HB1.out.size, fun b hb hl => ((hbw.trans (HB1.out.mono HBX.out)).block b (HSB.out b hb))⟩ fun b h _ => h))
      clear k0 k1 k2 k3 hkx hih htk hy hmem hkw
      go_wp2_with fail
      refine (HH.out _ _ _ (HE.out _ (hbw.trans (HB1.out.mono HBX.out))) HKS.out).mono ?_
      obtain ⟨Y, hY⟩ : ∃ Y : ByteArray, strV y.ink = .string Y := ⟨_, rfl⟩
      rw [hY]
      have HY := Lib.hid hY
      clear hY
      rintro e w3 ⟨rfl, hb⟩
      have HB3 := Lib.hid (bthen HB1.out hb)
      have HOW := Lib.hid (owns_below (owns_below HOI.out HB3.out) (show Below w3.heap.size w3 (w3.alloc (.cells #[.string Y] 9)) from (Below.refl _ _).alloc (Nat.le_refl _) _))
      have hsl : (strR (first ++ (Nd.inks ks).take i)).length = first.length + i := by rw [strR_len, List.length_append, List.length_take, inks_map, List.length_map]; omega
      clear hb d0 d1 d2 d3
      have HBX3 := Lib.hid (show B ≤ w3.heap.size from Nat.le_trans HBX.out HB3.out.size)
      go_wp2_with (at_builtin; refine wpList_append_own_at _ rfl _ _ 83 rfl B 9 i0 _ 1 16 Tryz.underlying83 HI.out hz0 hz1 hz2 rfl (by omega) _ (first.length + i) (strR (first ++ (Nd.inks ks).take i)) (by rfl) HOW.out ⟨w3.heap.size, 0, none⟩ 1 1 [.string Y] (by rfl) (by rfl) (World.news_of_block (heap_alloc_new w3 _)) (by intro u hu; rw [List.mem_singleton.1 hu]; rfl) (by unfold maxLen; omega) (by omega) (by have := HBX3.out; simp; omega) ?_)
      intro v1 w1 hown hgrow _ hat
      have hlo : ∀ g, (Value.slice wa (first.length + i) wc).ownBlock = some g → B ≤ g := fun g e => (HOI.out.lt g e).1
      have HOW2 := Lib.hid (show w1.ownsRow B 9 1 v1 (first.length + (i + 1)) (strR (first ++ (Nd.inks ks).take (i + 1))) by rw [HTK.out, strR_app]; show w1.ownsRow _ _ _ _ _ (strR _ ++ [strV y.ink]); rw [HY.out, ← Nat.add_assoc]; exact hown)
      have HBN := Lib.hid (show Below B w w1 from
        (HBW.out.trans ((HB3.out.alloc (by have := HB3.out.size; omega) _).mono HBX.out)).grown hgrow (by have := HBX3.out; simp; omega) hlo)
      clear hown hgrow hat hlo
      go_wp2_with fail
      go_roundw
      case rel => exact ⟨i + 1, by omega, by go_num, HOW2.out, HBN.out⟩
      case measure => simp [intOf]; omega
    · obtain rfl : i = ks.length := by omega
      have hi1 : ¬ ((ks.length : Nat) : Int) < (ks.length : Int) := by omega
      have hTL : (Nd.inks ks).length = ks.length := by rw [inks_map, List.length_map]
      obtain ⟨L, hL⟩ : ∃ L, first ++ Nd.inks ks = L := ⟨_, rfl⟩
      have hown : wr.ownsRow B 9 1 u2 L.length (strR L) := by
        have h := HOI.out
        rw [List.take_of_length_le (by rw [hTL]; exact Nat.le_refl _)] at h
        rw [← hL, List.length_append, hTL]; exact h
      have hjl : (Lib.join L [32]).length ≤ 100000000000 := by
        have h1 := join_lenS [32] (by decide) L
        have h2 := HLEN.out
        rw [hL] at h2
        omega
      have hLl : L.length ≤ 100001 := by rw [← hL, List.length_append, hTL]; omega
      obtain ⟨J, hJ1, hJ⟩ : ∃ J : ByteArray, strV (Lib.join L [32]) = .string J ∧ J.data.toList = Lib.join L [32] := ⟨_, rfl, rfl⟩
      have hJs : J.size ≤ 100000000000 := by
        have h1 := hjl
        rw [← hJ] at h1
        have h3 : J.data.toList.length = J.size := Array.length_toList
        omega
      have hjoin := join_own wr _ _ _ ⟨#[32]⟩ hown (by omega) (by show (Lib.join L [32]).length ≤ _; omega)
      have hjoin2 : Calls Tryz.prog 78 #[u2, .string ⟨#[32]⟩] wr fun e w' => e = .returned (.string J) ∧ Below wr.heap.size wr w' := by
        rw [← hJ1]; exact hjoin
      have HJ := Lib.hid hjoin2; have HJE := Lib.hid hJ; have HLL := Lib.hid hL
      clear hown hjl hjoin hjoin2 hJ hJ1 hTL hL
      go_wp2_with fail
      refine HJ.out.mono ?_
      rintro e w4 ⟨rfl, hb⟩
      have HB4 := Lib.hid (show Below B w w4 from HBW.out.trans (hb.mono (Nat.le_trans HBB.out HBW.out.size)))
      clear hb
      have hbJ : (b ++ J).size ≤ 100000000010 := by rw [ByteArray.size_append]; omega
      go_wp2_with fail
      go_ret
      refine ⟨congrArg _ (strV_of ?_), HB4.out⟩
      rw [HLL.out, ← HJE.out, ByteArray.data_append, ByteArray.data_append, Array.toList_append, Array.toList_append, List.append_assoc]
end Go.Proofs.YtkebohhogpenkaaGreatDoor

/- The walk of inkparen's text of a node, whole. -/
namespace Go.Proofs.YtkebohhogpenkaaGreatDoor
open Go.RowKit Ev5
set_option linter.unusedSimpArgs false
set_option linter.unusedVariables false

theorem own_one (w : World) (Q : ByteArray) (l : List UInt8) (h : strV l = .string Q) : (w.alloc (.cells #[.string Q] 9)).ownsRow w.heap.size 9 1 (.slice (some ⟨w.heap.size, 0, none⟩) 1 1) [l].length (strR [l]) := by
  refine ⟨rfl, .inr ⟨w.heap.size, 1, #[.string Q], rfl, Nat.le_refl _, heap_alloc_new w _, Nat.le_refl _, by decide, rfl, ?_⟩⟩
  show [Value.string Q] = [strV l]
  rw [h]

set_option maxRecDepth 100000 in
set_option maxHeartbeats 8000000 in
theorem inkText_any (n : Nd) : Tf RP n → n.ok → n.size ≤ 50000 → TextAt 37 Nd.ink n := by
  refine Nd.ind (C := fun n => Tf RP n → n.ok → n.size ≤ 50000 → TextAt 37 Nd.ink n) ?_ n
  intro k t v ks ih htf hok hsz w S u hE hv
  have hokA := hok
  rw [ok_mk] at hok
  rw [size_mk] at hsz
  have hlen := txts_take_len (F := inkF) textF_ink hok.2 (N := 50000) (by omega)
  have hkl : ks.length ≤ 50000 := by have := sizes_len ks; omega
  obtain ⟨u2, e2, hs⟩ := hv
  obtain rfl : u = u2 := by simpa [ndV] using e2
  clear e2
  simp only [ndV, Nd.k, Nd.t, Nd.v, Nd.kids] at hs ⊢
  obtain ⟨ao, cap, rfl, hcap, hcm⟩ := hs.shape
  have HE := Lib.hid hE; have HS := Lib.hid hs.ltC; have HOK := Lib.hid hok
  have HX := Lib.hid (heap_alloc_new w (.cells #[.int .i64 k, .string t, .string v, .slice ao ks.length cap] 24))
  have HB0 := Lib.hid (show Below w.heap.size w (w.alloc (.cells #[.int .i64 k, .string t, .string v, .slice ao ks.length cap] 24)) from (Below.refl _ _).alloc (Nat.le_refl _) _)
  cases htf with
  | mk _ _ _ _ hr ho hk ht =>
  have HCA := Lib.hid (show ∀ x ∈ ks, TextAt 37 Nd.ink x from fun x hx => ih x hx (ht x hx) ((oks_iff ks).1 hok.2 x hx) (by have := size_mem hx; omega))
  have HR := Lib.hid hr; have HO := Lib.hid ho
  have HLN := Lib.hid (show ∀ l : List UInt8, l.length ≤ 290 → lenS ([l] ++ Nd.inks ks) ≤ 100000000000 ∧ lenS ([] ++ Nd.inks ks) ≤ 100000000000 from fun l hl => by
    have h1 := hlen ks.length
    rw [List.take_of_length_le (by rw [txts_len]; exact Nat.le_refl _)] at h1
    have h2 : Nd.inks ks = Nd.txts inkF ks := by rw [inks_map, txts_map]; exact List.map_congr_left fun x _ => ink_txt x
    rw [h2]
    simp only [List.singleton_append, List.nil_append, lenS]
    omega)
  rw [ink_mk]
  clear hE hs hok hsz ih hlen hokA hr ho hk ht
  unfold maxLen at *
  by_cases h1 : k = 1
  · subst h1
    go_enter Tryz.func37, Tryz.ntmps37
    go_wp2_with fail
    go_ret
    exact ⟨rfl, HB0.out⟩
  by_cases h2 : k = 2
  · subst h2
    have hts : 4 ≤ t.size := by
      have h3 : t.data.toList.length = t.size := Array.length_toList
      rcases (right_bool HR.out).2 with e | e <;> rw [e] at h3 <;> simp [trueL, falseL] at h3 <;> omega
    go_enter Tryz.func37, Tryz.ntmps37
    go_wp2_with fail
    go_ret
    refine ⟨congrArg _ (strV_of ?_), HB0.out⟩
    show _ = 35 :: t.data.toList.take 1
    rw [ByteArray.data_append, Array.toList_append]
    show [35] ++ (t.extract 0 1).data.toList = _
    rw [ByteArray.data_extract, Array.toList_extract]
    simp
  by_cases h4 : k = 4
  · subst h4
    go_enter Tryz.func37, Tryz.ntmps37
    go_wp2_with fail
    refine (inkQuoted_any t _ (HE.out.below HB0.out) HOK.out.1.t).mono ?_
    rintro e w5 ⟨rfl, hb⟩
    have HB5 := Lib.hid (bthen HB0.out hb)
    obtain ⟨Q, hQ⟩ : ∃ Q : ByteArray, strV (qt t) = .string Q := ⟨_, rfl⟩
    have HQ := Lib.hid hQ
    rw [hQ]
    clear hb hQ
    go_wp2_with fail
    go_ret
    exact ⟨by show _ = Ending.returned (strV (qt t)); rw [HQ.out]; rfl, HB5.out⟩
  by_cases h5 : k = 5
  · subst h5
    go_enter Tryz.func37, Tryz.ntmps37
    go_wp2_with fail
    have hp := inkParts_any ks HCA.out ⟨#[40]⟩ (by decide) (w.alloc (.cells #[.int .i64 5, .string t, .string v, .slice ao ks.length cap] 24)) w.heap.size (fun W hb => HE.out.below (HB0.out.trans hb)) _ _ (HS.out.below HB0.out) (fun b hb => hb) HB0.out.size (.slice none 0 0) [] (World.ownsRow_nil _ _ _ _) (by simp) (by omega) (HLN.out [] (by simp)).2
    refine hp.mono ?_
    rintro e w5 ⟨rfl, hb⟩
    have HB5 := Lib.hid (HB0.out.trans hb)
    obtain ⟨Q, hQ⟩ : ∃ Q : ByteArray, strV ((⟨#[40]⟩ : ByteArray).data.toList ++ (Lib.join ([] ++ Nd.inks ks) [32] ++ [41])) = .string Q := ⟨_, rfl⟩
    have HQ := Lib.hid hQ
    rw [hQ]
    clear hb hQ hp
    go_wp2_with fail
    go_ret
    refine ⟨?_, HB5.out⟩
    show Ending.returned (Value.string Q) = Ending.returned (strV (40 :: (joinB (Nd.inks ks) ++ [41])))
    rw [← HQ.out, joinB_lib]; rfl
  by_cases h7 : k = 7
  · subst h7
    go_enter Tryz.func37, Tryz.ntmps37
    go_wp2_with fail
    have hp := inkParts_any ks HCA.out ⟨#[35, 40]⟩ (by decide) (w.alloc (.cells #[.int .i64 7, .string t, .string v, .slice ao ks.length cap] 24)) w.heap.size (fun W hb => HE.out.below (HB0.out.trans hb)) _ _ (HS.out.below HB0.out) (fun b hb => hb) HB0.out.size (.slice none 0 0) [] (World.ownsRow_nil _ _ _ _) (by simp) (by omega) (HLN.out [] (by simp)).2
    refine hp.mono ?_
    rintro e w5 ⟨rfl, hb⟩
    have HB5 := Lib.hid (HB0.out.trans hb)
    obtain ⟨Q, hQ⟩ : ∃ Q : ByteArray, strV ((⟨#[35, 40]⟩ : ByteArray).data.toList ++ (Lib.join ([] ++ Nd.inks ks) [32] ++ [41])) = .string Q := ⟨_, rfl⟩
    have HQ := Lib.hid hQ
    rw [hQ]
    clear hb hQ hp
    go_wp2_with fail
    go_ret
    refine ⟨?_, HB5.out⟩
    show Ending.returned (Value.string Q) = Ending.returned (strV (35 :: 40 :: (joinB (Nd.inks ks) ++ [41])))
    rw [← HQ.out, joinB_lib]; rfl
  have HW := Lib.hid (show ∃ W0, w.alloc (.cells #[.int .i64 k, .string t, .string v, .slice ao ks.length cap] 24) = W0 from ⟨_, rfl⟩)
  by_cases h8 : k = 8
  · subst h8
    obtain ⟨y, rfl⟩ : ∃ y, ks = [y] := by
      rcases odd_kind HO.out with ⟨h, _⟩ | ⟨_, hn⟩ | h
      · omega
      · match ks, hn with
        | [y], _ => exact ⟨y, rfl⟩
      · omega
    obtain ⟨kb, ko, kx, hko, hkw, k0, k1, k2, k3, hkx⟩ := HS.out.at_ 0 (by simp)
    obtain ⟨ay, cy, rfl, _, _⟩ := hkx.shape
    subst hko
    rw [Nat.zero_mul, Nat.add_zero] at k0 k1 k2 k3
    simp only [List.getElem_cons_zero] at k0 k1 k2 k3 hkx
    have hT := HCA.out y (by simp)
    have HKT := Lib.hid (show NdV w (fun b => b < w.heap.size) (.agg #[.int .i64 y.k, .string y.t, .string y.v, .slice ay y.kids.length cy]) y from (NdV.mk hkx))
    have hyl : y.ink.length ≤ 100000000000 := by
      have h := (HLN.out [] (by simp)).2
      rw [inks_cons, inks_nil] at h
      simp only [List.nil_append, lenS] at h
      omega
    obtain ⟨Q, hQ, hQ2⟩ : ∃ Q : ByteArray, strV (qt t) = .string Q ∧ Q.data.toList = qt t := ⟨_, rfl, rfl⟩
    have hQs : Q.size ≤ 290 := by
      have h1 := qt_len t
      rw [← hQ2] at h1
      exact h1
    obtain ⟨Y, hY, hY2⟩ : ∃ Y : ByteArray, strV y.ink = .string Y ∧ Y.data.toList = y.ink := ⟨_, rfl, rfl⟩
    have hYs : Y.size ≤ 100000000000 := by
      rw [← hY2] at hyl
      exact hyl
    have HQ := Lib.hid hQ2; have HY := Lib.hid hY2
    have hQ1 : (Q ++ (⟨#[32]⟩ : ByteArray)).size ≤ 291 := by
      rw [ByteArray.size_append]
      have : (⟨#[32]⟩ : ByteArray).size = 1 := rfl
      omega
    clear hyl hQ2 hY2
    go_enter Tryz.func37, Tryz.ntmps37
    obtain ⟨W0, hW0⟩ : ∃ W0, w.alloc (.cells #[.int .i64 8, .string t, .string v, .slice (some ⟨kb, ko, none⟩) 1 cap] 24) = W0 := ⟨_, rfl⟩
    have HBW := Lib.hid (show Below w.heap.size w W0 from hW0 ▸ HB0.out)
    have HXW := Lib.hid (show W0.heap[w.heap.size]? = some (.cells #[.int .i64 8, .string t, .string v, .slice (some ⟨kb, ko, none⟩) 1 cap] 24 (0, 0)) from hW0 ▸ HX.out)
    have HD := Lib.hid (show ∀ w' : World, Below W0.heap.size W0 w' → w'.cell? ⟨w.heap.size, 1, none⟩ = some (.string t) ∧ w'.cell? ⟨w.heap.size, 3, none⟩ = some (.slice (some ⟨kb, ko, none⟩) 1 cap) ∧ w'.cell? ⟨kb, ko, none⟩ = some (.int .i64 y.k) ∧ w'.cell? ⟨kb, ko + 1, none⟩ = some (.string y.t) ∧ w'.cell? ⟨kb, ko + 2, none⟩ = some (.string y.v) ∧ w'.cell? ⟨kb, ko + 3, none⟩ = some (.slice ay y.kids.length cy) from fun w' hb => by
      obtain ⟨_, x1, _, x3, _⟩ := nd_cells ((hb.block _ (lt_blk HXW.out)).trans HXW.out)
      have hbw := bthen HBW.out hb
      exact ⟨x1, x3, (hbw.cell (p := ⟨kb, ko, none⟩) hkw).trans k0, (hbw.cell (p := ⟨kb, ko + 1, none⟩) hkw).trans k1, (hbw.cell (p := ⟨kb, ko + 2, none⟩) hkw).trans k2, (hbw.cell (p := ⟨kb, ko + 3, none⟩) hkw).trans k3⟩)
    have hbr : Below W0.heap.size W0 W0.drew := (Below.refl _ _).drew
    have hbk : kb < W0.heap.size := Nat.lt_of_lt_of_le hkw HBW.out.size
    obtain ⟨x1, x3, k0', k1', k2', k3'⟩ := HD.out _ (Below.refl _ _)
    obtain ⟨x0, _, x2, _, _, _, _, _, hxl⟩ := nd_cells HXW.out
    have HTX := Lib.hid (show ∀ (W : World), EnvU W → NdV W (fun b => b < w.heap.size) (.agg #[.int .i64 y.k, .string y.t, .string y.v, .slice ay y.kids.length cy]) y → Calls Tryz.prog 37 #[.agg #[.int .i64 y.k, .string y.t, .string y.v, .slice ay y.kids.length cy]] W fun e w' => e = .returned (strV y.ink) ∧ Below W.heap.size W w' from fun W h1 h2 => hT W _ (.slice ay y.kids.length cy) h1 h2)
    clear k0 k1 k2 k3 hkx hT
    have g4 : ¬ (9223372036854775807 < Q.size + 1) := by omega
    have g5 : ¬ (9223372036854775807 < Q.size + 1 + Y.size) := by omega
    go_wp2_with fail
    go_region_held3 (fun w' => w'.cell? ⟨w.heap.size, 1, none⟩ = some (.string t) ∧ w'.cell? ⟨w.heap.size, 3, none⟩ = some (.slice (some ⟨kb, ko, none⟩) 1 cap) ∧ w'.cell? ⟨kb, ko, none⟩ = some (.int .i64 y.k) ∧ w'.cell? ⟨kb, ko + 1, none⟩ = some (.string y.t) ∧ w'.cell? ⟨kb, ko + 2, none⟩ = some (.string y.v) ∧ w'.cell? ⟨kb, ko + 3, none⟩ = some (.slice ay y.kids.length cy)) (first | exact HD.out _ hbr | go_keep) ((first
      | (go_at_call 56
         with_reducible refine (inkQuoted_any t _ (HE.out.below (bthen HBW.out hbr)) HOK.out.1.t).mono ?_
         rintro e wq ⟨rfl, hbn⟩
         rw [hQ]
         have hbo := hbr
         clear hbr
         have hbr := bthen hbo hbn
         clear hbo hbn)
      | (go_at_call 37
         with_reducible refine (HTX.out _ (HE.out.below (bthen HBW.out hbr)) (HKT.out.below (bthen HBW.out hbr))).mono ?_
         rintro e wq ⟨rfl, hbn⟩
         rw [hY]
         have hbo := hbr
         clear hbr
         have hbr := bthen hbo hbn
         clear hbo hbn)))
    all_goals
      go_wp2_with fail
      go_ret
      refine ⟨congrArg _ (strV_of ?_), bthen HBW.out hbr⟩
      rw [ByteArray.data_append, ByteArray.data_append, Array.toList_append, Array.toList_append, HQ.out, HY.out]
      show qt t ++ [32] ++ y.ink = qt t ++ 32 :: (Nd.inks [y]).headD []
      rw [inks_cons]; simp
  by_cases h10 : k = 10
  · subst h10
    obtain ⟨Q, hQ, hQ2⟩ : ∃ Q : ByteArray, strV (qt t) = .string Q ∧ Q.data.toList = qt t := ⟨_, rfl, rfl⟩
    have hql : (qt t).length ≤ 290 := qt_len t
    obtain ⟨R, hR⟩ : ∃ R : ByteArray, strV ((⟨#[35, 60]⟩ : ByteArray).data.toList ++ (Lib.join ([qt t] ++ Nd.inks ks) [32] ++ [41])) = .string R := ⟨_, rfl⟩
    have HR2 := Lib.hid hR
    have hLN := (HLN.out (qt t) hql).1
    obtain ⟨W0, hW0⟩ : ∃ W0, w.alloc (.cells #[.int .i64 10, .string t, .string v, .slice ao ks.length cap] 24) = W0 := ⟨_, rfl⟩
    have HBW := Lib.hid (show Below w.heap.size w W0 from hW0 ▸ HB0.out)
    have HXW := Lib.hid (show W0.heap[w.heap.size]? = some (.cells #[.int .i64 10, .string t, .string v, .slice ao ks.length cap] 24 (0, 0)) from hW0 ▸ HX.out)
    have HD := Lib.hid (show ∀ w' : World, Below W0.heap.size W0 w' → w'.cell? ⟨w.heap.size, 1, none⟩ = some (.string t) ∧ w'.cell? ⟨w.heap.size, 3, none⟩ = some (.slice ao ks.length cap) from fun w' hb => by
      obtain ⟨_, x1, _, x3, _⟩ := nd_cells ((hb.block _ (lt_blk HXW.out)).trans HXW.out)
      exact ⟨x1, x3⟩)
    have HP := Lib.hid (show ∀ wq : World, Below W0.heap.size W0 wq → Calls Tryz.prog 57 #[.string ⟨#[35, 60]⟩, .slice ao ks.length cap, .slice (some ⟨wq.heap.size, 0, none⟩) 1 1] (wq.alloc (.cells #[.string Q] 9)) fun e w' => e = .returned (.string R) ∧ Below W0.heap.size W0 w' from fun wq hb => by
      have hbq : Below w.heap.size w (wq.alloc (.cells #[.string Q] 9)) := bthen (bthen HBW.out hb) ((Below.refl _ _).alloc (Nat.le_refl _) _)
      have hsz : w.heap.size ≤ wq.heap.size := Nat.le_trans HBW.out.size hb.size
      refine (inkParts_any ks HCA.out ⟨#[35, 60]⟩ (by decide) _ wq.heap.size (fun W hb2 => HE.out.below (hbq.trans (hb2.mono hsz))) _ _ (HS.out.below hbq) (fun b hb => Nat.lt_of_lt_of_le hb hsz) (by simp) (.slice (some ⟨wq.heap.size, 0, none⟩) 1 1) [qt t] (own_one wq Q (qt t) hQ) (by simp) (by omega) hLN).mono ?_
      rintro e w' ⟨rfl, hb3⟩
      exact ⟨by rw [hR], hb.trans ((((Below.refl wq.heap.size wq).alloc (Nat.le_refl _) _).trans hb3).mono hb.size)⟩)
    go_enter Tryz.func37, Tryz.ntmps37
    have hbr : Below W0.heap.size W0 W0.drew := (Below.refl _ _).drew
    obtain ⟨x1, x3⟩ := HD.out _ (Below.refl _ _)
    obtain ⟨x0, _, x2, _, _, _, _, _, hxl⟩ := nd_cells HXW.out
    clear hql hR hLN
    go_wp2_with fail
    go_region_held3 (fun w' => w'.cell? ⟨w.heap.size, 1, none⟩ = some (.string t) ∧ w'.cell? ⟨w.heap.size, 3, none⟩ = some (.slice ao ks.length cap)) (first | exact HD.out _ hbr | go_keep) ((first
      | (go_at_call 56
         with_reducible refine (inkQuoted_any t _ (HE.out.below (bthen HBW.out hbr)) HOK.out.1.t).mono ?_
         rintro e wq ⟨rfl, hbn⟩
         rw [hQ]
         have hbo := hbr
         clear hbr
         have hbr := bthen hbo hbn
         clear hbo hbn)
      | (go_at_call 57
         with_reducible refine (HP.out _ hbr).mono ?_
         rintro e wz ⟨rfl, hbz⟩
         clear hbr
         have hbr := hbz
         clear hbz)))
    all_goals
      go_wp2_with fail
      go_ret
      refine ⟨?_, bthen HBW.out hbr⟩
      show Ending.returned (Value.string R) = Ending.returned (strV (35 :: 60 :: (joinB (qt t :: Nd.inks ks) ++ [41])))
      rw [← HR2.out, joinB_lib]; rfl
  by_cases h11 : k = 11
  · subst h11
    obtain ⟨Q, hQ, hQ2⟩ : ∃ Q : ByteArray, strV (qt t) = .string Q ∧ Q.data.toList = qt t := ⟨_, rfl, rfl⟩
    have hQs : Q.size ≤ 290 := by
      have h1 := qt_len t
      rw [← hQ2] at h1
      exact h1
    obtain ⟨Y, hY, hY2⟩ : ∃ Y : ByteArray, strV (qt v) = .string Y ∧ Y.data.toList = qt v := ⟨_, rfl, rfl⟩
    have hYs : Y.size ≤ 290 := by
      have h1 := qt_len v
      rw [← hY2] at h1
      exact h1
    have HQ := Lib.hid hQ2; have HY := Lib.hid hY2
    have hs1 : ((⟨#[64]⟩ : ByteArray) ++ Q).size ≤ 291 := by
      rw [ByteArray.size_append]
      have : (⟨#[64]⟩ : ByteArray).size = 1 := rfl
      omega
    have hs2 : ((⟨#[64]⟩ : ByteArray) ++ Q ++ (⟨#[32]⟩ : ByteArray)).size ≤ 292 := by
      rw [ByteArray.size_append]
      have : (⟨#[32]⟩ : ByteArray).size = 1 := rfl
      omega
    clear hQ2 hY2
    obtain ⟨W0, hW0⟩ : ∃ W0, w.alloc (.cells #[.int .i64 11, .string t, .string v, .slice ao ks.length cap] 24) = W0 := ⟨_, rfl⟩
    have HBW := Lib.hid (show Below w.heap.size w W0 from hW0 ▸ HB0.out)
    have HXW := Lib.hid (show W0.heap[w.heap.size]? = some (.cells #[.int .i64 11, .string t, .string v, .slice ao ks.length cap] 24 (0, 0)) from hW0 ▸ HX.out)
    have HD := Lib.hid (show ∀ w' : World, Below W0.heap.size W0 w' → w'.cell? ⟨w.heap.size, 1, none⟩ = some (.string t) ∧ w'.cell? ⟨w.heap.size, 2, none⟩ = some (.string v) from fun w' hb => by
      obtain ⟨_, x1, x2, _, _⟩ := nd_cells ((hb.block _ (lt_blk HXW.out)).trans HXW.out)
      exact ⟨x1, x2⟩)
    go_enter Tryz.func37, Tryz.ntmps37
    have hbr : Below W0.heap.size W0 W0.drew := (Below.refl _ _).drew
    obtain ⟨x1, x2⟩ := HD.out _ (Below.refl _ _)
    obtain ⟨x0, _, _, x3, _, _, _, _, hxl⟩ := nd_cells HXW.out
    have g3 : ¬ (9223372036854775807 < 1 + Q.size) := by omega
    have g4 : ¬ (9223372036854775807 < 1 + Q.size + 1) := by omega
    have g5 : ¬ (9223372036854775807 < 1 + Q.size + 1 + Y.size) := by omega
    go_wp2_with fail
    go_region_held3 (fun w' => w'.cell? ⟨w.heap.size, 1, none⟩ = some (.string t) ∧ w'.cell? ⟨w.heap.size, 2, none⟩ = some (.string v)) (first | exact HD.out _ hbr | go_keep) ((first
      | (go_at_call 56
         first
           | with_reducible refine (inkQuoted_any t _ (HE.out.below (bthen HBW.out hbr)) HOK.out.1.t).mono ?_
             rintro e wq ⟨rfl, hbn⟩
             rw [hQ]
             have hbo := hbr
             clear hbr
             have hbr := bthen hbo hbn
             clear hbo hbn
           | with_reducible refine (inkQuoted_any v _ (HE.out.below (bthen HBW.out hbr)) HOK.out.1.v).mono ?_
             rintro e wq ⟨rfl, hbn⟩
             rw [hY]
             have hbo := hbr
             clear hbr
             have hbr := bthen hbo hbn
             clear hbo hbn)))
    all_goals
      go_wp2_with fail
      go_ret
      refine ⟨congrArg _ (strV_of ?_), bthen HBW.out hbr⟩
      rw [ByteArray.data_append, ByteArray.data_append, ByteArray.data_append, Array.toList_append, Array.toList_append, Array.toList_append, HQ.out, HY.out]
      show [64] ++ qt t ++ [32] ++ qt v = 64 :: (qt t ++ 32 :: qt v)
      simp
  · have q1 : (k == 1) = false := by simp [h1]
    have q2 : (k == 2) = false := by simp [h2]
    have q4 : (k == 4) = false := by simp [h4]
    have q5 : (k == 5) = false := by simp [h5]
    have q7 : (k == 7) = false := by simp [h7]
    have q8 : (k == 8) = false := by simp [h8]
    have q10 : (k == 10) = false := by simp [h10]
    have q11 : (k == 11) = false := by simp [h11]
    have HRF := Lib.hid (show inkF k t v (Nd.inks ks) = t.data.toList by unfold inkF; rw [if_neg h1, if_neg h2, if_neg h4, if_neg h5, if_neg h7, if_neg h8, if_neg h10, if_neg h11])
    go_enter Tryz.func37, Tryz.ntmps37
    go_wp2_with fail
    go_ret
    exact ⟨by rw [HRF.out]; exact congrArg Ending.returned (strV_t t), HB0.out⟩
end Go.Proofs.YtkebohhogpenkaaGreatDoor

/- The walk of inkparen.Print. -/
namespace Go.Proofs.YtkebohhogpenkaaGreatDoor
open Go.RowKit Ev5
set_option linter.unusedSimpArgs false
set_option linter.unusedVariables false

set_option maxRecDepth 100000 in
set_option maxHeartbeats 4000000 in
theorem inkparenPrint_any (n : Nd) (w : World) (S : Nat → Prop) (v : Value) (hE : EnvU w) (hv : NdV w S v n) (hok : n.ok) (hN : n.size ≤ 50000) :
    Calls Tryz.prog 15 #[v] w (InkPost (ofP (fun _ => true) n) n.ink w) := by
  obtain ⟨u, rfl, hs⟩ := hv
  obtain ⟨ao, cap, rfl, hcap, hcm⟩ := hs.shape
  have HV := Lib.hid (NdV.mk hs.ltC); have HE := Lib.hid hE; have HOK := Lib.hid hok; have HSZ := Lib.hid hN
  have HWL := Lib.hid (show n.walk.length ≤ 100000 by have := walk_len n; omega)
  have HX := Lib.hid (heap_alloc_new w (.cells #[.int .i64 n.k, .string n.t, .string n.v, .slice ao n.kids.length cap] 24))
  have HB0 := Lib.hid (show Below w.heap.size w (w.alloc (.cells #[.int .i64 n.k, .string n.t, .string n.v, .slice ao n.kids.length cap] 24)) from (Below.refl _ _).alloc (Nat.le_refl _) _)
  obtain ⟨E, hEq⟩ : ∃ E, n.wh = E := ⟨_, rfl⟩
  have HP := Lib.hid (show ofP (fun _ => true) n = (none, E) by rw [ofParen, hEq])
  have HQ := Lib.hid (carryParen_any n)
  rw [hEq] at HQ
  have HEQ := Lib.hid hEq
  clear hs hE hok hN hEq
  unfold ndV
  go_enter Tryz.func15, Tryz.ntmps15
  go_wp2_with fail
  refine (HQ.out _ _ _ (HE.out.below HB0.out) (HV.out.below HB0.out) HOK.out HWL.out).mono ?_
  rintro e w2 ⟨rfl, hb⟩
  have HB2 := Lib.hid (bthen HB0.out hb)
  obtain ⟨x0, x1, x2, x3, _, _, _, _, hxl⟩ := nd_cells ((hb.block _ (lt_blk HX.out)).trans HX.out)
  clear hb
  by_cases hz : E = 0
  · subst hz
    go_wp2_with fail
    refine (inkText_any n (tf_wh HEQ.out).1 HOK.out HSZ.out w2 _ _ (HE.out.below HB2.out) (HV.out.below HB2.out)).mono ?_
    rintro e w4 ⟨rfl, hb⟩
    have HB4 := Lib.hid (bthen HB2.out hb)
    clear hb
    obtain ⟨Y, hY⟩ : ∃ Y : ByteArray, strV n.ink = .string Y := ⟨_, rfl⟩
    have HY := Lib.hid hY
    rw [hY]
    clear hY
    go_wp2_with fail
    refine bodyPost_ret (v := .tuple #[.string Y, .slice none 0 0, .int .i64 0]) (by simp [results, Tryz.results15, go_sem]) rfl ?_
    rw [HP.out]
    exact ⟨HB4.out, none, 0, by rw [if_pos rfl, HY.out]; rfl, ints_nilC _⟩
  · have hzb : (E != 0) = true := by simp [hz]
    go_wp2_with fail
    refine bodyPost_ret (v := .tuple #[.string ⟨#[]⟩, .slice none 0 0, .int .i64 E]) (by simp [results, Tryz.results15, go_sem]) rfl ?_
    rw [HP.out]
    exact ⟨HB2.out, none, 0, by rw [if_neg hz]; rfl, ints_nilC _⟩
/-- hexaplaref15.Of of the paren syntax. -/
theorem refOfPO_any (n : Nd) (w : World) (S : Nat → Prop) (v : Value) (hE : EnvU w) (hv : NdV w S v n) (hok : n.ok) (hsz : n.size ≤ 50000) :
    Calls Tryz.prog 16 #[.int .i64 6, v] w (OfPost (ofP (fun _ => true) n) w) :=
  refOf_any 6 _ _ (by omega) (by omega) tellsParen (fun _ _ _ _ _ => trivial) n w S v hE hv hok hsz (fun _ => trivial)
theorem sameP {a b : Nd} (ha : (ofP (fun _ => true) a).2 = 0) (hb : (ofP (fun _ => true) b).2 = 0) : a.ink = b.ink ↔ a = b := ink_same (ofP_ok ha).2 (ofP_ok hb).2
theorem refEq17 {n : Nd} (h : (ofP (fun _ => true) n).2 = 0) : n.txt rinkF = n.ink := ref_ink n (tf_wh (ofP_ok h).2).1
end Go.Proofs.YtkebohhogpenkaaGreatDoor

/- The walk of lives (layer 17). -/
namespace Go.Proofs.YtkebohhogpenkaaGreatDoor
open Go.RowKit Ev5
set_option linter.unusedSimpArgs false
set_option linter.unusedVariables false

theorem lvTxt17 : (lvN ⟨#[97]⟩).ink = [35, 40, 34, 97, 34, 32, 40, 49, 32, 34, 120, 34, 41, 41] := by decide +kernel
theorem lvOf17 : ofP (fun _ => true) (lvN ⟨#[97]⟩) = (none, 0) := by rw [ofParen, lvN_wh1]
set_option maxRecDepth 100000 in
set_option maxHeartbeats 4000000 in
theorem lives17_any (w : World) (hE : EnvU w) : Calls Tryz.prog 14 #[] w fun e w' => e = .returned (.bool true) ∧ Below w.heap.size w w' := by
  obtain ⟨hv, hb, hx⟩ := lvN_in w ⟨#[97]⟩
  have HB := Lib.hid hb
  have HC := Lib.hid ((inkparenPrint_any (lvN ⟨#[97]⟩) (lvNW w ⟨#[97]⟩) _ _ (hE.below hb) hv (lvN_ok _ (by decide)) (by rw [lvN_size]; omega)).mono fun e w' h => h.to (Y := ⟨#[35, 40, 34, 97, 34, 32, 40, 49, 32, 34, 120, 34, 41, 41]⟩) (E := 0) (q := []) (by rw [lvOf17, lvTxt17]; rfl) (by rw [lvOf17]) (by rw [lvOf17]; rfl))
  clear hb hv hx hE
  go_enter Tryz.func14, Tryz.ntmps14
  go_wp2_with fail
  refine HC.out.mono ?_
  rintro e w2 ⟨hb, a, c, rfl, _⟩
  have HB2 := Lib.hid (bthen HB.out hb)
  clear hb HC
  go_wp2_with fail
  go_ret
  exact ⟨rfl, HB2.out⟩
end Go.Proofs.YtkebohhogpenkaaGreatDoor

/- few and copied of hexaplalaw17. -/
namespace Go.Proofs.YtkebohhogpenkaaGreatDoor
open Go.RowKit Ev5
set_option linter.unusedSimpArgs false
set_option linter.unusedVariables false

set_option maxRecDepth 100000 in
set_option maxHeartbeats 2000000 in
theorem few17_any (n : Nd) (w : World) (S : Nat → Prop) (val : Value) (hv : NdV w S val n) :
    Calls Tryz.prog 13 #[val] w fun e w' => e = .returned (.bool (decide (0 ≤ n.few 200 20))) ∧ Below w.heap.size w w' := by
  obtain ⟨u, rfl, hs⟩ := hv
  obtain ⟨ao, cap, rfl, hcap, hcm⟩ := hs.shape
  have HS := Lib.hid hs
  have HB := Lib.hid (show Below w.heap.size w (w.alloc (.cells #[.int .i64 n.k, .string n.t, .string n.v, .slice ao n.kids.length cap] 24)) from (Below.refl _ _).alloc (Nat.le_refl _) _)
  clear hs
  unfold ndV
  go_enter Tryz.func13, Tryz.ntmps13
  go_wp2_with fail
  refine (few_any n _ S _ 200 20 ⟨_, rfl, HS.out.below HB.out⟩ (by omega) (by omega) (by omega) (by omega)).mono ?_
  rintro e w2 ⟨rfl, hb⟩
  have HB2 := Lib.hid (bthen HB.out hb)
  obtain ⟨F, hF⟩ : ∃ F, n.few 200 20 = F := ⟨_, rfl⟩
  rw [hF]
  have HF := Lib.hid hF
  clear hb hF
  go_wp2_with fail
  go_ret
  exact ⟨by rw [HF.out]; rfl, HB2.out⟩
theorem few17_size {x : Nd} (h : 0 ≤ x.few 200 20) : x.size ≤ 200 := by
  have := (few_says x 200 20 (by omega)).2.2 h
  omega
set_option maxRecDepth 100000 in
set_option maxHeartbeats 8000000 in
/-- copied: a node anew. -/
theorem copied17_any (n : Nd) : n.size ≤ 1048576 → ∀ (w : World) (S : Nat → Prop) (val : Value), NdV w S val n → Calls Tryz.prog 19 #[val] w (NewNd n w) := by
  refine Nd.ind (C := fun n => n.size ≤ 1048576 → ∀ (w : World) (S : Nat → Prop) (val : Value), NdV w S val n → Calls Tryz.prog 19 #[val] w (NewNd n w)) ?_ n
  intro k t v ks ih hsz w S val hv
  rw [size_mk] at hsz
  obtain ⟨u, rfl, hs⟩ := hv
  simp only [ndV, Nd.k, Nd.t, Nd.v, Nd.kids] at hs ⊢
  obtain ⟨ao, cap, rfl, hcap, hcm⟩ := hs.shape
  unfold maxLen at hcm
  obtain ⟨i0, hinf, hz0, hz1, hz2⟩ := info_parts infoN
  have hkl : ks.length ≤ 1048576 := by have := sizes_len ks; omega
  have HI := Lib.hid hinf; have HS := Lib.hid hs.ltC; have HIH := Lib.hid ih; have HSZ := Lib.hid hsz
  have HX := Lib.hid (two_first w (.cells #[.int .i64 k, .string t, .string v, .slice ao ks.length cap] 24) (.cells #[.int .i64 0, .string ⟨#[]⟩, .string ⟨#[]⟩, .slice none 0 0] 24))
  have HR := Lib.hid (two_last w (.cells #[.int .i64 k, .string t, .string v, .slice ao ks.length cap] 24) (.cells #[.int .i64 0, .string ⟨#[]⟩, .string ⟨#[]⟩, .slice none 0 0] 24))
  have HB0 := Lib.hid (show Below w.heap.size w ((w.alloc (.cells #[.int .i64 k, .string t, .string v, .slice ao ks.length cap] 24)).alloc (.cells #[.int .i64 0, .string ⟨#[]⟩, .string ⟨#[]⟩, .slice none 0 0] 24)) from ((Below.refl _ _).alloc (Nat.le_refl _) _).alloc (by simp) _)
  clear hinf hs ih hsz
  go_enter Tryz.func19, Tryz.ntmps19
  go_wp2_with fail
  go_loopw [3, 4] (fun vk vi wr => ∃ (i : Nat) (ps : List (Nd × Value)), i ≤ ks.length ∧ vi = .int .i64 i ∧ Hid (ps.map (·.1) = ks.take i) ∧ Hid (OwnK wr (w.heap.size + 2) vk ps) ∧ Hid (wr.heap[w.heap.size]? = some (.cells #[.int .i64 k, .string t, .string v, .slice ao ks.length cap] 24 (0, 0))) ∧ Hid (wr.heap[w.heap.size + 1]? = some (.cells #[.int .i64 0, .string ⟨#[]⟩, .string ⟨#[]⟩, .slice none 0 0] 24 (0, 0))) ∧ Hid (Below w.heap.size w wr)) (fun _ vi _ => ks.length - (intOf vi).toNat)
  case atStart => exact ⟨0, [], Nat.zero_le _, rfl, by show _ = _; simp, by show OwnK _ _ _ _; exact OwnK.nil _ _, by show _ = _; exact HX.out, by show _ = _; exact HR.out, HB0.out⟩
  case round =>
    obtain ⟨i, ps, hi, rfl, HP, HO, HXR, HRR, HBR⟩ := hrel
    obtain rfl : i = ps.length := by have := congrArg List.length HP.out; rw [List.length_map, List.length_take] at this; omega
    obtain ⟨ua, uc, hua⟩ := HO.out.shape
    subst hua
    obtain ⟨x0, x1, x2, x3, g0, g1, g2, g3, hxl⟩ := nd_cells HXR.out
    obtain ⟨r0, r1, r2, r3, j0, j1, j2, j3, hrl⟩ := nd_cells HRR.out
    by_cases hlt : ps.length < ks.length
    · have hi0 : (0 : Int) ≤ (ps.length : Int) := Int.natCast_nonneg _
      have hi1 : (ps.length : Int) < (ks.length : Int) := by omega
      obtain ⟨kb, ko, kx, hko, hkw, k0, k1, k2, k3, hkx⟩ := HS.out.at_ ps.length hlt
      obtain ⟨ay, cy, rfl, _, _⟩ := hkx.shape
      subst hko
      have hmem := List.getElem_mem hlt
      have hih := HIH.out ks[ps.length] hmem (by have := size_mem hmem; have := HSZ.out; omega)
      have HTK := Lib.hid (show ks.take (ps.length + 1) = ks.take ps.length ++ [ks[ps.length]] by rw [List.take_add_one, List.getElem?_eq_getElem hlt]; rfl)
      obtain ⟨y, hy⟩ : ∃ y, ks[ps.length] = y := ⟨_, rfl⟩
      rw [hy] at k0 k1 k2 k3 hkx hih HTK
      have HKS := Lib.hid (NdV.mk hkx); have HH := Lib.hid hih
      have hbw := HBR.out
      have d0 : wr.cell? ⟨kb, ko + ps.length * 4, none⟩ = some (.int .i64 y.k) := (hbw.cell (p := ⟨kb, ko + ps.length * 4, none⟩) hkw).trans k0
      have d1 : wr.cell? ⟨kb, ko + ps.length * 4 + 1, none⟩ = some (.string y.t) := (hbw.cell (p := ⟨kb, ko + ps.length * 4 + 1, none⟩) hkw).trans k1
      have d2 : wr.cell? ⟨kb, ko + ps.length * 4 + 2, none⟩ = some (.string y.v) := (hbw.cell (p := ⟨kb, ko + ps.length * 4 + 2, none⟩) hkw).trans k2
      have d3 : wr.cell? ⟨kb, ko + ps.length * 4 + 3, none⟩ = some (.slice ay y.kids.length cy) := (hbw.cell (p := ⟨kb, ko + ps.length * 4 + 3, none⟩) hkw).trans k3
      have hkl2 : kb < wr.heap.size := Nat.lt_of_lt_of_le hkw hbw.size
      clear k0 k1 k2 k3 hkx hih hy hbw hmem
      go_wp2_with fail
      refine (HH.out _ _ _ (HKS.out.below HBR.out)).mono ?_
      rintro e w3 ⟨a3, c3, rfl, hsk, hb⟩
      have HB3 := Lib.hid (bthen HBR.out hb)
      have HX3 := Lib.hid ((hb.block _ hxl).trans HXR.out)
      have HR3 := Lib.hid ((hb.block _ hrl).trans HRR.out)
      have HO3 := Lib.hid (HO.out.below hb)
      have HBL := Lib.hid (show Below w3.heap.size w3 (w3.alloc (.cells #[.int .i64 y.k, .string y.t, .string y.v, .slice a3 y.kids.length c3] 24)) from (Below.refl _ _).alloc (Nat.le_refl _) _)
      have HSK := Lib.hid (HO.out.apart (by omega) hsk)
      have hl3 := HB3.out.size
      have hxl3 := lt_blk HX3.out
      have hrl3 := lt_blk HR3.out
      clear hsk hb d0 d1 d2 d3 x0 x1 x2 x3 g0 g1 g2 g3 hxl r0 r1 r2 r3 j0 j1 j2 j3 hrl
      go_wp2_with (at_builtin; refine wpList_append_lies _ (by rfl) _ _ _ (by rfl) (w.heap.size + 2) 24 i0 _ 4 64 Tryz.underlying22 HI.out hz0 hz1 hz2 rfl (by omega) _ ps.length _ (by rfl) (HO3.out.below HBL.out).row ⟨w3.heap.size, 0, none⟩ 1 1 (ndL y (.slice a3 y.kids.length c3)) (by rfl) (by rfl) (World.news_of_block (heap_alloc_new w3 _)) nd_one (by omega) (by unfold maxLen; omega) (by omega) (by simp; omega) (w3.heap.size + 1) (by simp) ?_)
      intro gg cap' w5 hown1 hgrow hat hlt2
      have hlo : ∀ g, (Value.slice ua ps.length uc).ownBlock = some g → w.heap.size + 2 ≤ g := fun g e => (HO3.out.row.lt g e).1
      have HOW2 := Lib.hid ((HO3.out.below HBL.out).snoc (HSK.out.below HBL.out) hown1 hgrow (by rcases hat with h | h; exact .inl h; exact .inr (by simp; omega)))
      have HX5 := Lib.hid ((hgrow.block w.heap.size (by simp; omega) (fun e => by have := hlo _ e.symm; omega)).trans ((HBL.out.block _ hxl3).trans HX3.out))
      have HR5 := Lib.hid ((hgrow.block (w.heap.size + 1) (by simp; omega) (fun e => by have := hlo _ e.symm; omega)).trans ((HBL.out.block _ hrl3).trans HR3.out))
      have HB5 := Lib.hid (show Below w.heap.size w w5 from (bthen HB3.out HBL.out).grown hgrow (by simp; omega) (fun g e => by have := hlo g e; omega))
      clear hown1 hgrow hat hlt2 hlo
      go_wp2_with fail
      go_roundw
      case rel => exact ⟨ps.length + 1, ps ++ [(y, .slice a3 y.kids.length c3)], by omega, by go_num, by show _ = _; rw [List.map_append, HP.out, HTK.out]; rfl, HOW2, HX5, HR5, HB5⟩
      case measure => simp [intOf]; omega
    · have HPE := Lib.hid (show ps.length = ks.length by omega)
      have hge : ¬ (ps.length : Int) < (ks.length : Int) := by omega
      clear hlt
      have hf0 := heap_set4 (u := .slice ua ps.length uc) HXR.out
      have hg0 := grown_set wr w.heap.size 3 (.slice ua ps.length uc)
      have hf1 : (wr.setCell ⟨w.heap.size, 3, none⟩ (.slice ua ps.length uc)).heap[w.heap.size + 1]? = some (.cells #[.int .i64 0, .string ⟨#[]⟩, .string ⟨#[]⟩, .slice none 0 0] 24 (0, 0)) := by
        rw [hg0.block (w.heap.size + 1) hrl (by simp)]; exact HRR.out
      obtain ⟨w4, hw4⟩ : ∃ w4, wr.setCell ⟨w.heap.size, 3, none⟩ (.slice ua ps.length uc) = w4 := ⟨_, rfl⟩
      have HW4 := Lib.hid hw4
      rw [hw4] at hf0 hg0 hf1
      obtain ⟨y0, y1, y2, y3, z0, z1, z2, z3, hyl⟩ := nd_cells hf0
      obtain ⟨s0, s1, s2, s3, q0, q1, q2, q3, hsl⟩ := nd_cells hf1
      have HF0 := Lib.hid hf0; have HF1 := Lib.hid hf1; have HG0 := Lib.hid hg0
      clear hf0 hf1 hg0
      go_wp2_with fail
      obtain ⟨w5, hw5⟩ : ∃ w5, ((((w4.setCell ⟨w.heap.size + 1, 0, none⟩ (.int .i64 k)).setCell ⟨w.heap.size + 1, 1, none⟩ (.string t)).setCell ⟨w.heap.size + 1, 2, none⟩ (.string v)).setCell ⟨w.heap.size + 1, 3, none⟩ (.slice ua ps.length uc)) = w5 := ⟨_, rfl⟩
      obtain ⟨hf, hgr⟩ := fill4 (.int .i64 k) (.string t) (.string v) (.slice ua ps.length uc) HF1.out
      rw [hw5] at hf hgr
      rw [hw5]
      obtain ⟨t0, t1, t2, t3, _, _, _, _, htl⟩ := nd_cells hf
      have hsl := ((HO.out.other HG0.out (by omega)).other hgr (by omega)).slIn
      rw [HP.out, HPE.out, List.take_length] at hsl
      refine bodyPost_ret (v := .agg #[.int .i64 k, .string t, .string v, .slice ua ps.length uc]) (by simp [results, Tryz.results19, go_sem, t0, t1, t2, t3]) rfl ⟨ua, uc, by rw [HPE.out]; rfl, hsl.alike ⟨Nat.le_refl _, fun _ _ _ => rfl⟩ fun b hb _ => by omega, (HBR.out.grown HG0.out (by omega) (fun b hb => by injection hb; omega)).grown hgr (by omega) (fun b hb => by injection hb; omega)⟩
end Go.Proofs.YtkebohhogpenkaaGreatDoor

/- The walk of hexaplaref17's text of a node. -/
namespace Go.Proofs.YtkebohhogpenkaaGreatDoor
open Go.RowKit Ev5
set_option linter.unusedSimpArgs false
set_option linter.unusedVariables false

set_option maxRecDepth 100000 in
set_option maxHeartbeats 8000000 in
theorem refPrint17_any (n : Nd) : n.ok → n.size ≤ 50000 → ∀ (w : World) (S : Nat → Prop) (nv : Value), NdV w S nv n →
    Calls Tryz.prog 17 #[nv] w fun e w' => e = .returned (strV (n.txt rinkF)) ∧ Below w.heap.size w w' := by
  refine Nd.ind (C := fun n => n.ok → n.size ≤ 50000 → ∀ (w : World) (S : Nat → Prop) (nv : Value), NdV w S nv n → Calls Tryz.prog 17 #[nv] w fun e w' => e = .returned (strV (n.txt rinkF)) ∧ Below w.heap.size w w') ?_ n
  intro k t v ks ih hok hsz w S nv hv
  rw [ok_mk] at hok
  rw [size_mk] at hsz
  have hlen := txts_take_len (F := rinkF) textF_rink hok.2 (N := 50000) (by omega)
  have hkl : ks.length ≤ 50000 := by have := sizes_len ks; omega
  obtain ⟨u, rfl, hs⟩ := hv
  simp only [ndV, Nd.k, Nd.t, Nd.v, Nd.kids] at hs ⊢
  obtain ⟨ao, cap, rfl, hcap, hcm⟩ := hs.shape
  have HS := Lib.hid hs.ltC; have HOK := Lib.hid hok; have HSZ := Lib.hid hsz; have HIH := Lib.hid ih
  have HLEN := Lib.hid (show ∀ i, (Lib.join ((Nd.txts rinkF ks).take i) [32]).length ≤ 1050000 * 50000 from fun i => Nat.le_trans (join_lenS [32] (by decide) _) (hlen i))
  have HTL := Lib.hid (show (Nd.txts rinkF ks).length = ks.length from txts_len _ _)
  have HX := Lib.hid (heap_alloc_new w (.cells #[.int .i64 k, .string t, .string v, .slice ao ks.length cap] 24))
  have HB0 := Lib.hid (show Below w.heap.size w (w.alloc (.cells #[.int .i64 k, .string t, .string v, .slice ao ks.length cap] 24)) from (Below.refl _ _).alloc (Nat.le_refl _) _)
  clear hs hok hsz ih hlen
  rw [txt_mk]
  unfold maxLen at *
  go_enter Tryz.func17, Tryz.ntmps17
  go_wp2_with fail
  refine (refQuote_any t _ HOK.out.1.t).mono ?_
  rintro e wq ⟨rfl, hb⟩
  have HXQ := Lib.hid ((hb.block _ (lt_blk HX.out)).trans HX.out)
  have HBQ := Lib.hid (bthen HB0.out hb)
  obtain ⟨Q, hQ⟩ : ∃ Q, (printQ t).1 = Q := ⟨_, rfl⟩
  have HQ := Lib.hid (show Q.data.toList = qt t by rw [← hQ]; rfl)
  have hQs : Q.size ≤ 290 := by
    have h1 := qt_len t
    rw [← HQ.out] at h1
    exact h1
  rw [hQ]
  clear hb hQ
  obtain ⟨x0, x1, x2, x3, _, _, _, _, hxl⟩ := nd_cells HXQ.out
  go_wp2_with fail
  refine (refQuote_any v _ HOK.out.1.v).mono ?_
  rintro e wv ⟨rfl, hb⟩
  have HXV := Lib.hid ((hb.block _ (lt_blk HXQ.out)).trans HXQ.out)
  have HBV := Lib.hid (bthen HBQ.out hb)
  obtain ⟨V, hV⟩ : ∃ V, (printQ v).1 = V := ⟨_, rfl⟩
  have HV := Lib.hid (show V.data.toList = qt v by rw [← hV]; rfl)
  have hVs : V.size ≤ 290 := by
    have h1 := qt_len v
    rw [← HV.out] at h1
    exact h1
  rw [hV]
  clear hb hV x0 x1 x2 x3 hxl
  go_wp2_with fail
  go_loopw [7, 8] (fun v3 v4 wr => ∃ (i : Nat) (O : ByteArray), i ≤ ks.length ∧ v4 = .int .i64 i ∧ v3 = .string O ∧ Hid (O.data.toList = Lib.join ((Nd.txts rinkF ks).take i) [32]) ∧ Hid (wr.heap[w.heap.size]? = some (.cells #[.int .i64 k, .string t, .string v, .slice ao ks.length cap] 24 (0, 0))) ∧ Hid (Below w.heap.size w wr)) (fun _ v4 _ => ks.length - (intOf v4).toNat)
  case atStart => exact ⟨0, ⟨#[]⟩, Nat.zero_le _, rfl, rfl, rfl, HXV.out, HBV.out⟩
  case round =>
    obtain ⟨i, O, hi, rfl, rfl, HO, HXR, HBR⟩ := hrel
    have hOs : O.size ≤ 1050000 * 50000 := by
      have h1 := HLEN.out i
      rw [← HO.out] at h1
      have h3 : O.data.toList.length = O.size := Array.length_toList
      omega
    obtain ⟨x0, x1, x2, x3, _, _, _, _, hxl⟩ := nd_cells HXR.out
    by_cases hlt : i < ks.length
    · have hi0 : (0 : Int) ≤ (i : Int) := Int.natCast_nonneg _
      have hi1 : (i : Int) < (ks.length : Int) := by omega
      obtain ⟨kb, ko, kx, hko, hkw, k0, k1, k2, k3, hkx⟩ := HS.out.at_ i hlt
      obtain ⟨ay, cy, rfl, _, _⟩ := hkx.shape
      subst hko
      have hmem := List.getElem_mem hlt
      have hkok := (oks_iff ks).1 HOK.out.2 _ hmem
      have hks : ks[i].size ≤ 50000 := by have := size_mem hmem; have := HSZ.out; omega
      have hih := HIH.out ks[i] hmem hkok hks
      have htl := txt_len (F := rinkF) textF_rink ks[i] hkok
      have htk : (Nd.txts rinkF ks).take (i + 1) = (Nd.txts rinkF ks).take i ++ [ks[i].txt rinkF] := by
        rw [List.take_add_one, List.getElem?_eq_getElem (by rw [HTL.out]; exact hlt)]
        congr 1
        show [(Nd.txts rinkF ks)[i]'(by rw [HTL.out]; exact hlt)] = _
        simp [txts_map]
      obtain ⟨y, hy⟩ : ∃ y, ks[i] = y := ⟨_, rfl⟩
      rw [hy] at k0 k1 k2 k3 hkx hih htk hks htl
      obtain ⟨Y, hY1, hY2⟩ : ∃ Y : ByteArray, strV (y.txt rinkF) = .string Y ∧ Y.data.toList = y.txt rinkF := ⟨_, rfl, rfl⟩
      have hYs : Y.size ≤ 1050000 * 50000 := by
        rw [← hY2] at htl
        have h3 : Y.data.toList.length = Y.size := Array.length_toList
        omega
      rw [hY1] at hih
      have HKS := Lib.hid (NdV.mk hkx); have HH := Lib.hid hih; have HTK := Lib.hid htk; have HY := Lib.hid hY2
      have hbw := HBR.out
      have d0 : wr.cell? ⟨kb, ko + i * 4, none⟩ = some (.int .i64 y.k) := (hbw.cell (p := ⟨kb, ko + i * 4, none⟩) hkw).trans k0
      have d1 : wr.cell? ⟨kb, ko + i * 4 + 1, none⟩ = some (.string y.t) := (hbw.cell (p := ⟨kb, ko + i * 4 + 1, none⟩) hkw).trans k1
      have d2 : wr.cell? ⟨kb, ko + i * 4 + 2, none⟩ = some (.string y.v) := (hbw.cell (p := ⟨kb, ko + i * 4 + 2, none⟩) hkw).trans k2
      have d3 : wr.cell? ⟨kb, ko + i * 4 + 3, none⟩ = some (.slice ay y.kids.length cy) := (hbw.cell (p := ⟨kb, ko + i * 4 + 3, none⟩) hkw).trans k3
      have hkl2 : kb < wr.heap.size := Nat.lt_of_lt_of_le hkw hbw.size
      clear k0 k1 k2 k3 hkx hih htk hy hbw hmem hY1 hY2 htl hks hkok
      by_cases h0 : i = 0
      · subst h0
        have HO0 := Lib.hid (show O.data.toList = [] by rw [HO.out]; rfl)
        have HT0 := Lib.hid (show (Nd.txts rinkF ks).take 0 = [] from rfl)
        rw [Nat.zero_mul, Nat.add_zero] at d0 d1 d2 d3
        go_wp2_with fail
        refine (HH.out _ _ _ (HKS.out.below HBR.out)).mono ?_
        rintro e w3 ⟨rfl, hb⟩
        have HB3 := Lib.hid (bthen HBR.out hb)
        have HX3 := Lib.hid ((hb.block _ hxl).trans HXR.out)
        have HO3 := Lib.hid (show (O ++ Y).data.toList = Lib.join ((Nd.txts rinkF ks).take (0 + 1)) [32] by
          rw [HTK.out, join_snoc, if_pos HT0.out, ByteArray.data_append, Array.toList_append, HY.out, HO0.out]; rfl)
        clear hb d0 d1 d2 d3 x0 x1 x2 x3 hxl
        go_wp2_with fail
        go_roundw
        case rel => exact ⟨1, O ++ Y, by omega, by go_num, rfl, HO3.out, HX3.out, HB3.out⟩
        case measure => simp [intOf]; omega
      · have hi2 : (0 : Int) < (i : Int) := by omega
        have hOP : (O ++ (⟨#[32]⟩ : ByteArray)).size ≤ 1050000 * 50000 + 2 := by
          rw [ByteArray.size_append]
          have : (⟨#[32]⟩ : ByteArray).size ≤ 2 := by decide
          omega
        have HO2 := Lib.hid (show (O ++ (⟨#[32]⟩ : ByteArray)).data.toList = Lib.join ((Nd.txts rinkF ks).take i) [32] ++ [32] by
          rw [ByteArray.data_append, Array.toList_append, HO.out])
        go_wp2_with fail
        refine (HH.out _ _ _ (HKS.out.below HBR.out)).mono ?_
        rintro e w3 ⟨rfl, hb⟩
        have HB3 := Lib.hid (bthen HBR.out hb)
        have HX3 := Lib.hid ((hb.block _ hxl).trans HXR.out)
        have HO3 := Lib.hid (show (O ++ (⟨#[32]⟩ : ByteArray) ++ Y).data.toList = Lib.join ((Nd.txts rinkF ks).take (i + 1)) [32] by
          rw [HTK.out, join_snoc, if_neg (fun e => h0 (by have h8 : ((Nd.txts rinkF ks).take i).length = i := (by rw [List.length_take, HTL.out]; omega); rw [e] at h8; exact h8.symm)), ByteArray.data_append, Array.toList_append, HY.out, HO2.out])
        clear hb d0 d1 d2 d3 x0 x1 x2 x3 hxl
        go_wp2_with fail
        go_roundw
        case rel => exact ⟨i + 1, O ++ (⟨#[32]⟩ : ByteArray) ++ Y, by omega, by go_num, rfl, HO3.out, HX3.out, HB3.out⟩
        case measure => simp [intOf]; omega
    · obtain rfl : i = ks.length := by omega
      have hi1 : ¬ ((ks.length : Nat) : Int) < (ks.length : Int) := by omega
      have HJE := Lib.hid (show O.data.toList = Lib.join (Nd.txts rinkF ks) [32] by
        have h := HO.out
        rw [List.take_of_length_le (by rw [HTL.out]; exact Nat.le_refl _)] at h
        exact h)
      clear HO
      by_cases h1 : k = 1
      · subst h1
        go_wp2_with fail
        go_ret
        exact ⟨rfl, HBR.out⟩
      by_cases h2 : k = 2
      · subst h2
        by_cases ht : t = ⟨#[116, 114, 117, 101]⟩
        · subst ht
          go_wp2_with fail
          go_ret
          exact ⟨rfl, HBR.out⟩
        · have hte : (t.toList == [116, 114, 117, 101]) = false := (eqL t [116, 114, 117, 101]).symm.trans (decide_eq_false fun e => ht (ba_ext e))
          have HT2 := Lib.hid (show rinkF 2 t v (Nd.txts rinkF ks) = [35, 102] by unfold rinkF; rw [if_neg (by omega), if_pos rfl, if_neg ht])
          go_wp2_with fail
          go_ret
          exact ⟨by rw [HT2.out]; rfl, HBR.out⟩
      by_cases h4 : k = 4
      · subst h4
        go_wp2_with fail
        go_ret
        exact ⟨congrArg _ (strV_of HQ.out), HBR.out⟩
      by_cases h5 : k = 5
      · subst h5
        go_wp2_with fail
        go_ret
        refine ⟨congrArg _ (strV_of ?_), HBR.out⟩
        show _ = 40 :: (Lib.join (Nd.txts rinkF ks) [32] ++ [41])
        rw [← HJE.out, ByteArray.data_append, ByteArray.data_append, Array.toList_append, Array.toList_append]; simp
      by_cases h7 : k = 7
      · subst h7
        go_wp2_with fail
        go_ret
        refine ⟨congrArg _ (strV_of ?_), HBR.out⟩
        show _ = 35 :: 40 :: (Lib.join (Nd.txts rinkF ks) [32] ++ [41])
        rw [← HJE.out, ByteArray.data_append, ByteArray.data_append, Array.toList_append, Array.toList_append]; simp
      by_cases h8 : k = 8
      · subst h8
        have hs1 : (Q ++ (⟨#[32]⟩ : ByteArray)).size ≤ 291 := by
          rw [ByteArray.size_append]
          have : (⟨#[32]⟩ : ByteArray).size = 1 := rfl
          omega
        go_wp2_with fail
        go_ret
        refine ⟨congrArg _ (strV_of ?_), HBR.out⟩
        show _ = qt t ++ 32 :: Lib.join (Nd.txts rinkF ks) [32]
        rw [← HJE.out, ← HQ.out, ByteArray.data_append, ByteArray.data_append, Array.toList_append, Array.toList_append]; simp
      by_cases h10 : k = 10
      · subst h10
        have hs1 : ((⟨#[35, 60]⟩ : ByteArray) ++ Q).size ≤ 292 := by
          rw [ByteArray.size_append]
          have : (⟨#[35, 60]⟩ : ByteArray).size = 2 := rfl
          omega
        by_cases hO : O = ⟨#[]⟩
        · subst hO
          have HJ0 := Lib.hid (show Lib.join (Nd.txts rinkF ks) [32] = [] from HJE.out.symm)
          go_wp2_with fail
          go_ret
          refine ⟨congrArg _ (strV_of ?_), HBR.out⟩
          show _ = 35 :: 60 :: (qt t ++ (if Lib.join (Nd.txts rinkF ks) [32] = [] then [] else 32 :: Lib.join (Nd.txts rinkF ks) [32]) ++ [41])
          rw [if_pos HJ0.out, ← HQ.out]
          simp [ByteArray.data_append, Array.toList_append]
        · have hOe : O.toList.isEmpty = false := by
            cases h : O.toList.isEmpty with
            | false => rfl
            | true => exact absurd (ba_ext (b := ⟨#[]⟩) (of_decide_eq_true ((eqL O []).trans (by rw [List.isEmpty_iff.1 h]; rfl)))) hO
          have HJ0 := Lib.hid (show ¬ Lib.join (Nd.txts rinkF ks) [32] = [] from fun e => hO (ba_ext (HJE.out.trans e)))
          have hs2 : ((⟨#[32]⟩ : ByteArray) ++ O).size ≤ 1050000 * 50000 + 1 := by
            rw [ByteArray.size_append]
            have : (⟨#[32]⟩ : ByteArray).size = 1 := rfl
            omega
          go_wp2_with fail
          go_ret
          refine ⟨congrArg _ (strV_of ?_), HBR.out⟩
          show _ = 35 :: 60 :: (qt t ++ (if Lib.join (Nd.txts rinkF ks) [32] = [] then [] else 32 :: Lib.join (Nd.txts rinkF ks) [32]) ++ [41])
          rw [if_neg HJ0.out, ← HQ.out, ← HJE.out]
          simp [ByteArray.data_append, Array.toList_append]
      by_cases h11 : k = 11
      · subst h11
        have hs1 : ((⟨#[64]⟩ : ByteArray) ++ Q).size ≤ 291 := by
          rw [ByteArray.size_append]
          have : (⟨#[64]⟩ : ByteArray).size = 1 := rfl
          omega
        have hs2 : ((⟨#[64]⟩ : ByteArray) ++ Q ++ (⟨#[32]⟩ : ByteArray)).size ≤ 292 := by
          rw [ByteArray.size_append]
          have : (⟨#[32]⟩ : ByteArray).size = 1 := rfl
          omega
        go_wp2_with fail
        go_ret
        refine ⟨congrArg _ (strV_of ?_), HBR.out⟩
        show _ = 64 :: (qt t ++ 32 :: qt v)
        rw [← HQ.out, ← HV.out]
        simp [ByteArray.data_append, Array.toList_append]
      · have q1 : (k == 1) = false := by simp [h1]
        have q2 : (k == 2) = false := by simp [h2]
        have q4 : (k == 4) = false := by simp [h4]
        have q5 : (k == 5) = false := by simp [h5]
        have q7 : (k == 7) = false := by simp [h7]
        have q8 : (k == 8) = false := by simp [h8]
        have q10 : (k == 10) = false := by simp [h10]
        have q11 : (k == 11) = false := by simp [h11]
        have HR := Lib.hid (show rinkF k t v (Nd.txts rinkF ks) = t.data.toList by unfold rinkF; rw [if_neg h1, if_neg h2, if_neg h4, if_neg h5, if_neg h7, if_neg h8, if_neg h10, if_neg h11])
        go_wp2_with fail
        go_ret
        exact ⟨by rw [HR.out]; exact congrArg Ending.returned (strV_t t), HBR.out⟩
end Go.Proofs.YtkebohhogpenkaaGreatDoor

/- The walk of the law InkparenPrints. -/
namespace Go.Proofs.YtkebohhogpenkaaGreatDoor
open Go.RowKit Ev5
set_option linter.unusedSimpArgs false
set_option linter.unusedVariables false

set_option maxRecDepth 100000 in
set_option maxHeartbeats 8000000 in
theorem prints17_law (v : Value) (n : Nd) (w : World) (hE : EnvU w) (h : NdV w (fun b => b < w.heap.size) v n ∧ n.ok ∧ n.size ≤ 1048576) :
    Calls Tryz.prog 3 #[v] w fun e w' => e = .returned (.bool true) ∧ Below w.heap.size w w' := by
  obtain ⟨hv, hok, _⟩ := h
  obtain ⟨u, rfl, hs⟩ := hv
  obtain ⟨ao, cap, rfl, hcap, hcm⟩ := hs.shape
  obtain ⟨Y, hY⟩ : ∃ Y : ByteArray, strV (if (ofP (fun _ => true) n).2 = 0 then n.ink else []) = .string Y := ⟨_, rfl⟩
  obtain ⟨E, hEE⟩ : ∃ E, (ofP (fun _ => true) n).2 = E := ⟨_, rfl⟩
  obtain ⟨q, hq⟩ : ∃ q, plc (ofP (fun _ => true) n) = q := ⟨_, rfl⟩
  have HPR := Lib.hid (fun (w' : World) (S : Nat → Prop) (v : Value) (h1 : EnvU w') (h2 : NdV w' S v n) (h3 : n.size ≤ 50000) => (inkparenPrint_any n w' S v h1 h2 hok h3).mono fun e w2 h => h.to hY hEE hq)
  have HV := Lib.hid (NdV.mk hs); have HE := Lib.hid hE; have HOK := Lib.hid hok
  have HX1 := Lib.hid (heap_alloc_new w (.cells #[.int .i64 n.k, .string n.t, .string n.v, .slice ao n.kids.length cap] 24))
  have HB1 := Lib.hid (show Below w.heap.size w (w.alloc (.cells #[.int .i64 n.k, .string n.t, .string n.v, .slice ao n.kids.length cap] 24)) from (Below.refl _ _).alloc (Nat.le_refl _) _)
  have HOF := Lib.hid (fun (w' : World) (S : Nat → Prop) (v : Value) (h1 : EnvU w') (h2 : NdV w' S v n) (h3 : n.size ≤ 50000) => (refOfPO_any n w' S v h1 h2 hok h3).mono fun e w2 h => h.to hEE hq)
  have HY0 := Lib.hid (fun h : E ≠ 0 => show Y = ⟨#[]⟩ by rw [if_neg (by rw [hEE]; exact h)] at hY; injection hY with hY; exact hY.symm)
  have HY1 := Lib.hid (fun h : E = 0 => show strV (n.txt rinkF) = .string Y by rw [refEq17 (hEE.trans h), ← hY, if_pos (hEE.trans h)])
  clear hs hE hok hY hEE hq
  unfold ndV
  go_enter Tryz.func3, Tryz.ntmps3
  go_wp2_with fail
  refine (few17_any n _ _ _ (HV.out.below HB1.out)).mono ?_
  rintro e w2 ⟨rfl, hb⟩
  have HB2 := Lib.hid (bthen HB1.out hb)
  have HX2 := Lib.hid ((hb.block _ (lt_blk HX1.out)).trans HX1.out)
  obtain ⟨x0, x1, x2, x3, _, _, _, _, hxl⟩ := nd_cells HX2.out
  clear hb
  by_cases hf : 0 ≤ n.few 200 20
  · rw [decide_eq_true hf]
    have HN := Lib.hid (few17_size hf)
    clear hf
    go_wp2_with fail
    refine (HPR.out _ _ _ (HE.out.below HB2.out) (HV.out.below HB2.out) (by have := HN.out; omega)).mono ?_
    rintro e w3 ⟨hb, a3, c3, rfl, hi3⟩
    have HB3 := Lib.hid (bthen HB2.out hb)
    have HX3 := Lib.hid ((hb.block _ (lt_blk HX2.out)).trans HX2.out)
    have HI3 := Lib.hid hi3
    clear hb hi3 x0 x1 x2 x3 hxl
    obtain ⟨x0, x1, x2, x3, _, _, _, _, hxl⟩ := nd_cells HX3.out
    go_wp2_with fail
    refine (HOF.out _ _ _ (HE.out.below HB3.out) (HV.out.below HB3.out) (by have := HN.out; omega)).mono ?_
    rintro e w4 ⟨hb, a4, c4, rfl, hi4⟩
    have HB4 := Lib.hid (bthen HB3.out hb)
    have HX4 := Lib.hid ((hb.block _ (lt_blk HX3.out)).trans HX3.out)
    have HI4 := Lib.hid hi4
    have HJ4 := Lib.hid (HI3.out.below hb)
    have hql : q.length ≤ 9223372036854775807 := by
      obtain ⟨_, _, _, h1, h2, _⟩ := HI4.out.ex
      unfold maxLen at h2
      omega
    clear hb hi4 x0 x1 x2 x3 hxl
    go_wp2_with fail
    go_loopw [9] (fun v8 wr => ∃ i : Nat, i ≤ q.length ∧ v8 = .int .i64 i ∧ Hid (Below w4.heap.size w4 wr)) (fun v8 _ => q.length - (intOf v8).toNat)
    case atStart => exact ⟨0, Nat.zero_le _, rfl, Below.refl _ _⟩
    case round =>
      obtain ⟨i, hi, rfl, HBR⟩ := hrel
      by_cases hlt : i < q.length
      · have hi0 : (0 : Int) ≤ (i : Int) := Int.natCast_nonneg _
        have hi1 : (i : Int) < (q.length : Int) := by omega
        obtain ⟨ao3, cp3, e3, _, _, hc3⟩ := (HJ4.out.below HBR.out).ex
        injection e3 with e3 _ e3c
        subst e3c
        obtain ⟨b3, o3, ea3, k3⟩ := hc3 i hlt
        rw [ea3] at e3
        subst e3
        obtain ⟨ao4, cp4, e4, _, _, hc4⟩ := (HI4.out.below HBR.out).ex
        injection e4 with e4 _ e4c
        subst e4c
        obtain ⟨b4, o4, ea4, k4⟩ := hc4 i hlt
        rw [ea4] at e4
        subst e4
        obtain ⟨z, hz⟩ : ∃ z, q[i] = z := ⟨_, rfl⟩
        rw [hz] at k3 k4
        have hl3 := cell_lt k3
        have hl4 := cell_lt k4
        have HD := Lib.hid (show ∀ w' : World, Below wr.heap.size wr w' → w'.cell? ⟨b3, o3 + i, none⟩ = some (.int .i64 z) ∧ w'.cell? ⟨b4, o4 + i, none⟩ = some (.int .i64 z) from fun w' hb => ⟨(hb.cell (p := ⟨b3, o3 + i, none⟩) hl3).trans k3, (hb.cell (p := ⟨b4, o4 + i, none⟩) hl4).trans k4⟩)
        clear hz hc3 hc4 ea3 ea4
        go_wp2_with fail
        go_region_held3? (fun w' => w'.cell? ⟨b3, o3 + i, none⟩ = some (.int .i64 z) ∧ w'.cell? ⟨b4, o4 + i, none⟩ = some (.int .i64 z)) (first | exact HD.out _ (Below.refl _ _).drew | go_keep) ((first | fail))
        go_wp2_with fail
        go_roundw
        case rel => exact ⟨i + 1, by omega, by go_num, bthen HBR.out (Below.refl _ wr).drew⟩
        case measure => simp [intOf]; omega
      · obtain rfl : i = q.length := by omega
        have hi1 : ¬ ((q.length : Nat) : Int) < (q.length : Int) := by omega
        have HBW := Lib.hid (bthen HB4.out HBR.out)
        obtain ⟨x0, x1, x2, x3, _, _, _, _, hxl⟩ := nd_cells ((HBR.out.block _ (lt_blk HX4.out)).trans HX4.out)
        by_cases hz : E = 0
        · subst hz
          have HYE := Lib.hid (HY1.out rfl)
          go_wp2_with fail
          refine (refPrint17_any n HOK.out (by have := HN.out; omega) _ _ _ (HV.out.below HBW.out)).mono ?_
          rintro e w5 ⟨rfl, hb⟩
          have HB5 := Lib.hid (bthen HBW.out hb)
          rw [HYE.out]
          clear hb x0 x1 x2 x3 hxl
          go_wp2_with fail
          refine (lives17_any _ (HE.out.below HB5.out)).mono ?_
          rintro e wl ⟨rfl, hb⟩
          have HBL := Lib.hid (bthen HB5.out hb)
          clear hb
          go_wp2_with fail
          go_ret
          exact ⟨rfl, HBL.out⟩
        · have hzb : (E != 0) = true := by simp [hz]
          obtain rfl := HY0.out hz
          go_wp2_with fail
          refine (lives17_any _ (HE.out.below HBW.out)).mono ?_
          rintro e wl ⟨rfl, hb⟩
          have HBL := Lib.hid (bthen HBW.out hb)
          clear hb
          go_wp2_with fail
          go_ret
          exact ⟨rfl, HBL.out⟩
  · rw [decide_eq_false hf]
    clear hf
    go_wp2_with fail
    refine (lives17_any _ (HE.out.below HB2.out)).mono ?_
    rintro e wl ⟨rfl, hb⟩
    have HBL := Lib.hid (bthen HB2.out hb)
    clear hb
    go_wp2_with fail
    go_ret
    exact ⟨rfl, HBL.out⟩
end Go.Proofs.YtkebohhogpenkaaGreatDoor

/- The walk of the law InkparenStays. -/
namespace Go.Proofs.YtkebohhogpenkaaGreatDoor
open Go.RowKit Ev5
set_option linter.unusedSimpArgs false
set_option linter.unusedVariables false

set_option maxRecDepth 100000 in
set_option maxHeartbeats 8000000 in
theorem stays17_law (v : Value) (n : Nd) (w : World) (hE : EnvU w) (h : NdV w (fun b => b < w.heap.size) v n ∧ n.ok ∧ n.size ≤ 1048576) :
    Calls Tryz.prog 5 #[v] w fun e w' => e = .returned (.bool true) ∧ Below w.heap.size w w' := by
  obtain ⟨hv, hok, _⟩ := h
  obtain ⟨u, rfl, hs⟩ := hv
  obtain ⟨ao, cap, rfl, hcap, hcm⟩ := hs.shape
  obtain ⟨Y, hY⟩ : ∃ Y : ByteArray, strV (if (ofP (fun _ => true) n).2 = 0 then n.ink else []) = .string Y := ⟨_, rfl⟩
  obtain ⟨E, hEE⟩ : ∃ E, (ofP (fun _ => true) n).2 = E := ⟨_, rfl⟩
  obtain ⟨q, hq⟩ : ∃ q, plc (ofP (fun _ => true) n) = q := ⟨_, rfl⟩
  have HPR := Lib.hid (fun (w' : World) (S : Nat → Prop) (v : Value) (h1 : EnvU w') (h2 : NdV w' S v n) (h3 : n.size ≤ 50000) => (inkparenPrint_any n w' S v h1 h2 hok h3).mono fun e w2 h => h.to hY hEE hq)
  have HV := Lib.hid (NdV.mk hs); have HE := Lib.hid hE; have HOK := Lib.hid hok
  have HX1 := Lib.hid (heap_alloc_new w (.cells #[.int .i64 n.k, .string n.t, .string n.v, .slice ao n.kids.length cap] 24))
  have HB1 := Lib.hid (show Below w.heap.size w (w.alloc (.cells #[.int .i64 n.k, .string n.t, .string n.v, .slice ao n.kids.length cap] 24)) from (Below.refl _ _).alloc (Nat.le_refl _) _)
  clear hs hE hok hY hEE hq
  unfold ndV
  go_enter Tryz.func5, Tryz.ntmps5
  go_wp2_with fail
  refine (few17_any n _ _ _ (HV.out.below HB1.out)).mono ?_
  rintro e w2 ⟨rfl, hb⟩
  have HB2 := Lib.hid (bthen HB1.out hb)
  have HX2 := Lib.hid ((hb.block _ (lt_blk HX1.out)).trans HX1.out)
  obtain ⟨x0, x1, x2, x3, _, _, _, _, hxl⟩ := nd_cells HX2.out
  clear hb
  by_cases hf : 0 ≤ n.few 200 20
  · rw [decide_eq_true hf]
    have HN := Lib.hid (few17_size hf)
    clear hf
    go_wp2_with fail
    refine (copied17_any n (by have := HN.out; omega) _ _ _ (HV.out.below HB2.out)).mono ?_
    rintro e w3 ⟨am, cm, rfl, hsm, hb⟩
    have HB3 := Lib.hid (bthen HB2.out hb)
    have HX3 := Lib.hid ((hb.block _ (lt_blk HX2.out)).trans HX2.out)
    have HBM := Lib.hid (show Below w3.heap.size w3 (w3.alloc (.cells #[.int .i64 n.k, .string n.t, .string n.v, .slice am n.kids.length cm] 24)) from (Below.refl _ _).alloc (Nat.le_refl _) _)
    have HM := Lib.hid (show NdV w3 _ (ndV n (.slice am n.kids.length cm)) n from .mk hsm)
    clear hb hsm x0 x1 x2 x3 hxl
    obtain ⟨x0, x1, x2, x3, _, _, _, _, hxl⟩ := nd_cells HX3.out
    go_wp2_with fail
    refine (HPR.out _ _ _ (HE.out.below (bthen HB3.out HBM.out)) (HM.out.below HBM.out) (by have := HN.out; omega)).mono ?_
    rintro e w4 ⟨hb, a4, c4, rfl, _⟩
    have HB34 := Lib.hid (bthen HBM.out hb)
    have HB4 := Lib.hid (bthen HB3.out HB34.out)
    have HX4 := Lib.hid ((HB34.out.block _ hxl).trans HX3.out)
    have HM4 := Lib.hid ((hb.block w3.heap.size (by simp)).trans (heap_alloc_new w3 (.cells #[.int .i64 n.k, .string n.t, .string n.v, .slice am n.kids.length cm] 24)))
    clear hb x0 x1 x2 x3 hxl
    obtain ⟨x0, x1, x2, x3, _, _, _, _, hxl⟩ := nd_cells HX4.out
    obtain ⟨y0, y1, y2, y3, _, _, _, _, hyl⟩ := nd_cells HM4.out
    go_wp2_with fail
    refine (HPR.out _ _ _ (HE.out.below HB4.out) (HV.out.below HB4.out) (by have := HN.out; omega)).mono ?_
    rintro e w5 ⟨hb, a5, c5, rfl, _⟩
    have HB35 := Lib.hid (bthen HB34.out hb)
    have HB5 := Lib.hid (bthen HB4.out hb)
    have HX5 := Lib.hid ((hb.block _ hxl).trans HX4.out)
    have HM5 := Lib.hid ((hb.block _ hyl).trans HM4.out)
    clear hb x0 x1 x2 x3 hxl y0 y1 y2 y3 hyl
    obtain ⟨x0, x1, x2, x3, _, _, _, _, hxl⟩ := nd_cells HX5.out
    obtain ⟨y0, y1, y2, y3, _, _, _, _, hyl⟩ := nd_cells HM5.out
    go_wp2_with fail
    refine (refSame_any n _ _ _ _ _ n (HM.out.below HB35.out) (HV.out.below HB5.out)).mono ?_
    rintro e w6 ⟨r, rfl, hr, hb⟩
    have HB6 := Lib.hid (bthen HB5.out hb)
    obtain rfl : r = true := hr.2 rfl
    clear hb hr x0 x1 x2 x3 hxl y0 y1 y2 y3 hyl
    go_wp2_with fail
    refine (lives17_any _ (HE.out.below HB6.out)).mono ?_
    rintro e wl ⟨rfl, hb⟩
    have HBL := Lib.hid (bthen HB6.out hb)
    clear hb
    go_wp2_with fail
    go_ret
    exact ⟨rfl, HBL.out⟩
  · rw [decide_eq_false hf]
    clear hf
    go_wp2_with fail
    refine (lives17_any _ (HE.out.below HB2.out)).mono ?_
    rintro e wl ⟨rfl, hb⟩
    have HBL := Lib.hid (bthen HB2.out hb)
    clear hb
    go_wp2_with fail
    go_ret
    exact ⟨rfl, HBL.out⟩
end Go.Proofs.YtkebohhogpenkaaGreatDoor

/- The walk of the law InkparenApart. -/
namespace Go.Proofs.YtkebohhogpenkaaGreatDoor
open Go.RowKit Ev5
set_option linter.unusedSimpArgs false
set_option linter.unusedVariables false

set_option maxRecDepth 100000 in
set_option maxHeartbeats 8000000 in
theorem apart17_law (va : Value) (m : Nd) (vb : Value) (n : Nd) (w : World) (hE : EnvU w) (hva : NdV w (fun b => b < w.heap.size) va m ∧ m.ok ∧ m.size ≤ 1048576) (hvb : NdV w (fun b => b < w.heap.size) vb n ∧ n.ok ∧ n.size ≤ 1048576) :
    Calls Tryz.prog 4 #[va, vb] w fun e w' => e = .returned (.bool true) ∧ Below w.heap.size w w' := by
  obtain ⟨⟨u, rfl, hs⟩, hok, _⟩ := hva
  obtain ⟨⟨u', rfl, hs'⟩, hok', _⟩ := hvb
  obtain ⟨ao, cap, rfl, hcap, hcm⟩ := hs.shape
  obtain ⟨ao', cap', rfl, hcap', hcm'⟩ := hs'.shape
  obtain ⟨Y, hY⟩ : ∃ Y : ByteArray, strV (if (ofP (fun _ => true) m).2 = 0 then m.ink else []) = .string Y := ⟨_, rfl⟩
  obtain ⟨E, hEE⟩ : ∃ E, (ofP (fun _ => true) m).2 = E := ⟨_, rfl⟩
  obtain ⟨q, hq⟩ : ∃ q, plc (ofP (fun _ => true) m) = q := ⟨_, rfl⟩
  obtain ⟨Z, hZ⟩ : ∃ Z : ByteArray, strV (if (ofP (fun _ => true) n).2 = 0 then n.ink else []) = .string Z := ⟨_, rfl⟩
  obtain ⟨F, hFF⟩ : ∃ F, (ofP (fun _ => true) n).2 = F := ⟨_, rfl⟩
  obtain ⟨p, hp⟩ : ∃ p, plc (ofP (fun _ => true) n) = p := ⟨_, rfl⟩
  have HPR := Lib.hid (fun (w' : World) (S : Nat → Prop) (v : Value) (h1 : EnvU w') (h2 : NdV w' S v m) (h3 : m.size ≤ 50000) => (inkparenPrint_any m w' S v h1 h2 hok h3).mono fun e w2 h => h.to hY hEE hq)
  have HPR' := Lib.hid (fun (w' : World) (S : Nat → Prop) (v : Value) (h1 : EnvU w') (h2 : NdV w' S v n) (h3 : n.size ≤ 50000) => (inkparenPrint_any n w' S v h1 h2 hok' h3).mono fun e w2 h => h.to hZ hFF hp)
  have HSM := Lib.hid (fun (h : E = 0) (h' : F = 0) => show Y = Z ↔ m = n by
    rw [if_pos (hEE.trans h)] at hY
    rw [if_pos (hFF.trans h')] at hZ
    rw [← sameP (hEE.trans h) (hFF.trans h')]
    constructor
    · rintro rfl
      have h9 := hY.trans hZ.symm
      unfold strV at h9
      injection h9 with h9
      injection h9 with h9
      exact Array.toList_inj.2 h9 |> fun h => by simpa using h
    · intro h9
      rw [h9, hZ] at hY
      injection hY with hY
      exact hY.symm)
  have HE := Lib.hid hE
  have HV := Lib.hid (NdV.mk hs)
  have HV' := Lib.hid (NdV.mk hs')
  have HB1 := Lib.hid (show Below w.heap.size w ((w.alloc (.cells #[.int .i64 m.k, .string m.t, .string m.v, .slice ao m.kids.length cap] 24)).alloc (.cells #[.int .i64 n.k, .string n.t, .string n.v, .slice ao' n.kids.length cap'] 24)) from ((Below.refl _ _).alloc (Nat.le_refl _) _).alloc (by simp) _)
  have HX1 := Lib.hid (two_first w (.cells #[.int .i64 m.k, .string m.t, .string m.v, .slice ao m.kids.length cap] 24) (.cells #[.int .i64 n.k, .string n.t, .string n.v, .slice ao' n.kids.length cap'] 24))
  have HY1 := Lib.hid (two_last w (.cells #[.int .i64 m.k, .string m.t, .string m.v, .slice ao m.kids.length cap] 24) (.cells #[.int .i64 n.k, .string n.t, .string n.v, .slice ao' n.kids.length cap'] 24))
  clear hs hs' hE hok hok' hY hEE hq hZ hFF hp
  unfold ndV
  go_enter Tryz.func4, Tryz.ntmps4
  go_wp2_with fail
  refine (few17_any m _ _ _ (HV.out.below HB1.out)).mono ?_
  rintro e w2 ⟨rfl, hb⟩
  have HX2 := Lib.hid ((hb.block _ (lt_blk HX1.out)).trans HX1.out)
  have HY2 := Lib.hid ((hb.block _ (lt_blk HY1.out)).trans HY1.out)
  have HB2 := Lib.hid (bthen HB1.out hb)
  obtain ⟨x0, x1, x2, x3, _, _, _, _, hxl⟩ := nd_cells HX2.out
  obtain ⟨y0, y1, y2, y3, _, _, _, _, hyl⟩ := nd_cells HY2.out
  obtain ⟨G, hG⟩ : ∃ G, decide (0 ≤ m.few 200 20) = G := ⟨_, rfl⟩
  have HG := Lib.hid hG
  rw [hG]
  clear hb hG
  go_wp2_with fail
  refine (few17_any n _ _ _ (HV'.out.below HB2.out)).mono ?_
  rintro e w3 ⟨rfl, hb⟩
  have HX3 := Lib.hid ((hb.block _ hxl).trans HX2.out)
  have HY3 := Lib.hid ((hb.block _ hyl).trans HY2.out)
  have HB3 := Lib.hid (bthen HB2.out hb)
  clear x0 x1 x2 x3 hxl y0 y1 y2 y3 hyl
  obtain ⟨x0, x1, x2, x3, _, _, _, _, hxl⟩ := nd_cells HX3.out
  obtain ⟨y0, y1, y2, y3, _, _, _, _, hyl⟩ := nd_cells HY3.out
  obtain ⟨H, hH⟩ : ∃ H, decide (0 ≤ n.few 200 20) = H := ⟨_, rfl⟩
  have HH := Lib.hid hH
  rw [hH]
  clear hb hH
  by_cases hGH : G = true ∧ H = true
  · obtain ⟨rfl, rfl⟩ := hGH
    have HN := Lib.hid (And.intro (few17_size (of_decide_eq_true HG.out)) (few17_size (of_decide_eq_true HH.out)))
    go_wp2_with fail
    refine (HPR.out _ _ _ (HE.out.below HB3.out) (HV.out.below HB3.out) (by have := HN.out.1; omega)).mono ?_
    rintro e w4 ⟨hb, a4, c4, rfl, _⟩
    have HX4 := Lib.hid ((hb.block _ hxl).trans HX3.out)
    have HY4 := Lib.hid ((hb.block _ hyl).trans HY3.out)
    have HB4 := Lib.hid (bthen HB3.out hb)
    clear hb x0 x1 x2 x3 hxl y0 y1 y2 y3 hyl
    obtain ⟨x0, x1, x2, x3, _, _, _, _, hxl⟩ := nd_cells HX4.out
    obtain ⟨y0, y1, y2, y3, _, _, _, _, hyl⟩ := nd_cells HY4.out
    go_wp2_with fail
    refine (HPR'.out _ _ _ (HE.out.below HB4.out) (HV'.out.below HB4.out) (by have := HN.out.2; omega)).mono ?_
    rintro e w5 ⟨hb, a5, c5, rfl, _⟩
    have HX5 := Lib.hid ((hb.block _ hxl).trans HX4.out)
    have HY5 := Lib.hid ((hb.block _ hyl).trans HY4.out)
    have HB5 := Lib.hid (bthen HB4.out hb)
    clear hb x0 x1 x2 x3 hxl y0 y1 y2 y3 hyl
    obtain ⟨x0, x1, x2, x3, _, _, _, _, hxl⟩ := nd_cells HX5.out
    obtain ⟨y0, y1, y2, y3, _, _, _, _, hyl⟩ := nd_cells HY5.out
    by_cases hz : E = 0
    · subst hz
      by_cases hz' : F = 0
      · subst hz'
        have HS := Lib.hid (HSM.out rfl rfl)
        go_wp2_with fail
        refine (refSame_any m _ _ _ _ _ n (HV.out.below HB5.out) (HV'.out.below HB5.out)).mono ?_
        rintro e w6 ⟨r, rfl, hr, hb⟩
        have HB6 := Lib.hid (bthen HB5.out hb)
        clear hb x0 x1 x2 x3 hxl y0 y1 y2 y3 hyl
        by_cases hmn : m = n
        · obtain rfl : r = true := hr.2 hmn
          obtain rfl : Y = Z := HS.out.2 hmn
          clear hmn hr
          go_wp2_with fail
          refine (lives17_any _ (HE.out.below HB6.out)).mono ?_
          rintro e wl ⟨rfl, hb⟩
          have HBL := Lib.hid (bthen HB6.out hb)
          clear hb
          go_wp2_with fail
          go_ret
          exact ⟨rfl, HBL.out⟩
        · obtain rfl : r = false := by cases r with
            | false => rfl
            | true => exact absurd (hr.1 rfl) hmn
          have hne : (Y.toList == Z.toList) = false := by rw [beq_eq_false_iff_ne]; exact fun e => hmn (HS.out.1 (toL_inj e))
          clear hmn hr
          go_wp2_with fail
          refine (lives17_any _ (HE.out.below HB6.out)).mono ?_
          rintro e wl ⟨rfl, hb⟩
          have HBL := Lib.hid (bthen HB6.out hb)
          clear hb
          go_wp2_with fail
          go_ret
          exact ⟨rfl, HBL.out⟩
      · have hzb : (F != 0) = true := by simp [hz']
        go_wp2_with fail
        refine (lives17_any _ (HE.out.below HB5.out)).mono ?_
        rintro e wl ⟨rfl, hb⟩
        have HBL := Lib.hid (bthen HB5.out hb)
        clear hb
        go_wp2_with fail
        go_ret
        exact ⟨rfl, HBL.out⟩
    · have hzb : (E != 0) = true := by simp [hz]
      go_wp2_with fail
      refine (lives17_any _ (HE.out.below HB5.out)).mono ?_
      rintro e wl ⟨rfl, hb⟩
      have HBL := Lib.hid (bthen HB5.out hb)
      clear hb
      go_wp2_with fail
      go_ret
      exact ⟨rfl, HBL.out⟩
  · have hFF : (G = false) ∨ (G = true ∧ H = false) := by cases G <;> cases H <;> simp_all
    clear hGH HG HH
    rcases hFF with rfl | ⟨rfl, rfl⟩
    all_goals
      go_wp2_with fail
      refine (lives17_any _ (HE.out.below HB3.out)).mono ?_
      rintro e wl ⟨rfl, hb⟩
      have HBL := Lib.hid (bthen HB3.out hb)
      clear hb
      go_wp2_with fail
      go_ret
      exact ⟨rfl, HBL.out⟩
end Go.Proofs.YtkebohhogpenkaaGreatDoor
