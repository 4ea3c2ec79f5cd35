import Derived.Test.YtmniblcooficgaaGreatDoorD05
import Derived.Deep.AppendLies
import Derived.Test.YtmniblcooficgaaGreatDoorD00
import Derived.Test.YtmniblcooficgaaGreatDoorD01
namespace Go.Proofs.YtmniblcooficgaaGreatDoor
open Go.RowKit Num2
set_option linter.unusedSimpArgs false
set_option linter.unusedVariables false

theorem readP_bd (l : List UInt8) : (readP l).1.2.1.length ≤ 30 ∧ -9223372036854775808 ≤ (readP l).1.2.2 ∧ (readP l).1.2.2 ≤ 9223372036854775807 := by
  unfold readP
  split
  · rename_i h
    split
    · simp [zeroV]
    · refine ⟨?_, ?_, ?_⟩
      · have h1 := wp_len l h.1
        have h2 : (Lib.trimRightB (Lib.trimLeftB ((parts l).1 ++ (parts l).2.1) 48) 48).length ≤ ((parts l).1 ++ (parts l).2.1).length := by
          unfold Lib.trimRightB Lib.trimLeftB
          rw [List.length_reverse]
          refine Nat.le_trans (List.dropWhile_sublist _).length_le ?_
          rw [List.length_reverse]
          exact (List.dropWhile_sublist _).length_le
        rw [List.length_append] at h2
        simp only []
        omega
      · simp only []; unfold wrap64; omega
      · simp only []; unfold wrap64; omega
  · simp [zeroV]

def ReadV (l : List UInt8) (w : World) (e : Ending) (w' : World) : Prop :=
  ∃ (b : Bool) (d : ByteArray) (p : Int) (ok : Bool), e = .returned (.tuple #[.agg #[.bool b, .string d, .int .i64 p], .bool ok]) ∧ readP l = ((b, d.data.toList, p), ok) ∧ d.size ≤ 30 ∧ -9223372036854775808 ≤ p ∧ p ≤ 9223372036854775807 ∧ Below w.heap.size w w'
theorem read_ex (s : ByteArray) (w : World) (hE : Env w) (hs : s.size ≤ 140737488351232) :
    Calls Tryz.prog 135 #[.string s] w (ReadV s.data.toList w) := by
  refine (read_any s w hE hs).mono ?_
  rintro e w' ⟨rfl, hb⟩
  obtain ⟨h1, h2, h3⟩ := readP_bd s.data.toList
  exact ⟨_, _, _, _, rfl, by simp, by simpa [ByteArray.size] using h1, h2, h3, hb⟩

theorem mayP_err (l : List UInt8) (h : ¬ (mayP l).2 = 0) : (mayP l).2 = 8 := by
  unfold mayP at h ⊢
  split
  · rename_i h2; rw [if_pos h2] at h; exact absurd rfl h
  · rfl
def MayV (l : List UInt8) (w : World) (e : Ending) (w' : World) : Prop :=
  ∃ (b : Bool) (d : ByteArray) (p : Int) (en : Int), e = .returned (.tuple #[.agg #[.bool b, .string d, .int .i64 p], .int .i64 en]) ∧ mayP l = ((b, d.data.toList, p), en) ∧ d.size ≤ 30 ∧ -999 ≤ p ∧ p ≤ 999 ∧ Below w.heap.size w w'

set_option maxHeartbeats 2000000 in
theorem mayn_any (s : ByteArray) (w : World) (hE : Env w) (hs : s.size ≤ 140737488351232) :
    Calls Tryz.prog 128 #[.string s] w (MayV s.data.toList w) := by
  have HE := Lib.hid hE; clear hE
  go_enter Tryz.func128, Tryz.ntmps128
  go_wp2_with fail
  refine (read_ex s _ (HE.out.below ((Below.refl _ _).alloc (Nat.le_refl _) _)) hs).mono ?_
  rintro e w1 ⟨b, d, p, ok, rfl, hr, hd, hp0, hp1, hb⟩
  have R1 := Lib.hid ((three_new w (.bool false) (.string ⟨#[]⟩) (.int .i64 0) 135).below hb)
  have HB1 := Lib.hid (below_after hb); clear hb
  obtain ⟨rc0, rc1, rc2, rf0, rf1, rf2, rlt⟩ := R1.out
  have HR := Lib.hid hr; clear hr
  have HE1 := Lib.hid ((HE.out.below HB1.out).below ((Below.refl _ _).alloc (Nat.le_refl _) (.cells #[.bool b, .string d, .int .i64 p] 135)))
  have hbel : Below w.heap.size w (w1.alloc (.cells #[.bool b, .string d, .int .i64 p] 135)) := HB1.out.alloc HB1.out.size _
  have HBA := Lib.hid hbel; clear hbel
  cases ok with
  | false =>
    have HM := Lib.hid (show mayP s.data.toList = ((false, [], 0), 8) by unfold mayP; rw [HR.out, if_neg (by simp)]; rfl)
    go_wp2_with fail
    refine bodyPost_ret (v := .tuple #[.agg #[.bool false, .string ⟨#[]⟩, .int .i64 0], .int .i64 8]) ?_ rfl ?_
    · simp [results, Tryz.results128, go_sem, rc0, rc1, rc2, rf0, rf1, rf2, rlt, Nat.ne_of_lt rlt, Nat.ne_of_gt rlt]
    · exact ⟨false, ⟨#[]⟩, 0, 8, rfl, HM.out, by decide, by omega, by omega, by repeat (first | exact HB1.out | refine Below.setCell ?_ (by exact Nat.le_refl _) _ | refine Below.alloc ?_ (by (try simp); omega) _)⟩
  | true =>
  by_cases hp2 : p ≤ 999
  · by_cases hp3 : -999 ≤ p
    · go_wp2_with fail
      refine (form_any b d p _ HE1.out (by omega) (by omega) (by omega)).mono ?_
      rintro e w2 ⟨rfl, hb2⟩
      obtain ⟨fm, hfm, hfms⟩ := named (formP (b, d.data.toList, p))
      rw [← hfm]
      have HFs := Lib.hid hfms; clear hfm hfms
      have R2 := Lib.hid ((R1.out.alloc _).below hb2)
      have V2 := Lib.hid ((three_new w1 _ _ _ 135).below hb2)
      have HB2 := Lib.hid (below_then HBA.out hb2)
      have hne : w.heap.size < w1.heap.size := rlt
      clear rc0 rc1 rc2 rf0 rf1 rf2 rlt hb2
      obtain ⟨rc0, rc1, rc2, rf0, rf1, rf2, rlt⟩ := R2.out
      obtain ⟨vc0, vc1, vc2, vf0, vf1, vf2, vlt⟩ := V2.out
      have ne1 : ¬ w.heap.size = w1.heap.size := by omega
      have ne2 : ¬ w1.heap.size = w.heap.size := by omega
      by_cases hf : fm.size ≤ 30
      · have HM := Lib.hid (show mayP s.data.toList = ((b, d.data.toList, p), 0) by unfold mayP; rw [HR.out, if_pos ⟨rfl, hp2, hp3, by rw [← HFs.out]; exact hf⟩])
        go_wp2_with fail
        refine bodyPost_ret (v := .tuple #[.agg #[.bool b, .string d, .int .i64 p], .int .i64 0]) ?_ rfl ?_
        · simp [results, Tryz.results128, go_sem, rc0, rc1, rc2, rf0, rf1, rf2, vc0, vc1, vc2, vf0, vf1, vf2, ne1, ne2]
        · exact ⟨b, d, p, 0, rfl, HM.out, by omega, hp3, hp2, by repeat (first | exact HB2.out | refine Below.setCell ?_ (by exact Nat.le_refl _) _)⟩
      · have HM := Lib.hid (show mayP s.data.toList = ((false, [], 0), 8) by unfold mayP; rw [HR.out, if_neg (by rw [← HFs.out]; exact fun h => hf h.2.2.2)]; rfl)
        have hf2 : 30 < fm.size := by omega
        go_wp2_with fail
        refine bodyPost_ret (v := .tuple #[.agg #[.bool false, .string ⟨#[]⟩, .int .i64 0], .int .i64 8]) ?_ rfl ?_
        · simp [results, Tryz.results128, go_sem, rc0, rc1, rc2, rf0, rf1, rf2, vc0, vc1, vc2, vf0, vf1, vf2, ne1, ne2]
        · exact ⟨false, ⟨#[]⟩, 0, 8, rfl, HM.out, by decide, by omega, by omega, by repeat (first | exact HB2.out | refine Below.setCell ?_ (by exact Nat.le_refl _) _)⟩
    · have HM := Lib.hid (show mayP s.data.toList = ((false, [], 0), 8) by unfold mayP; rw [HR.out, if_neg (fun h => hp3 h.2.2.1)]; rfl)
      go_wp2_with fail
      refine bodyPost_ret (v := .tuple #[.agg #[.bool false, .string ⟨#[]⟩, .int .i64 0], .int .i64 8]) ?_ rfl ?_
      · simp [results, Tryz.results128, go_sem, rc0, rc1, rc2, rf0, rf1, rf2, rlt, Nat.ne_of_lt rlt, Nat.ne_of_gt rlt]
      · exact ⟨false, ⟨#[]⟩, 0, 8, rfl, HM.out, by decide, by omega, by omega, by repeat (first | exact HB1.out | refine Below.setCell ?_ (by exact Nat.le_refl _) _ | refine Below.alloc ?_ (by (try simp); omega) _)⟩
  · have HM := Lib.hid (show mayP s.data.toList = ((false, [], 0), 8) by unfold mayP; rw [HR.out, if_neg (fun h => hp2 h.2.1)]; rfl)
    go_wp2_with fail
    refine bodyPost_ret (v := .tuple #[.agg #[.bool false, .string ⟨#[]⟩, .int .i64 0], .int .i64 8]) ?_ rfl ?_
    · simp [results, Tryz.results128, go_sem, rc0, rc1, rc2, rf0, rf1, rf2, rlt, Nat.ne_of_lt rlt, Nat.ne_of_gt rlt]
    · exact ⟨false, ⟨#[]⟩, 0, 8, rfl, HM.out, by decide, by omega, by omega, by repeat (first | exact HB1.out | refine Below.setCell ?_ (by exact Nat.le_refl _) _ | refine Below.alloc ?_ (by (try simp); omega) _)⟩

set_option maxHeartbeats 1000000 in
theorem read2_any (s : ByteArray) (w : World) (hE : Env w) (hs : s.size ≤ 140737488351232) :
    Calls Tryz.prog 111 #[.string s] w fun e w' => e = .returned (.tuple #[.string ⟨(normP s.data.toList).1.toArray⟩, .int .i64 (normP s.data.toList).2]) ∧ Below w.heap.size w w' := by
  have HE := Lib.hid hE; clear hE
  go_enter Tryz.func111, Tryz.ntmps111
  go_wp2_with fail
  refine (mayn_any s _ HE.out hs).mono ?_
  rintro e w1 ⟨b, d, p, en, rfl, hm, hd, hp0, hp1, hb⟩
  have HB1 := Lib.hid hb; clear hb
  have HE1 := Lib.hid ((HE.out.below HB1.out).below ((Below.refl _ _).alloc (Nat.le_refl _) (.cells #[.bool b, .string d, .int .i64 p] 135)))
  have hbel : Below w.heap.size w (w1.alloc (.cells #[.bool b, .string d, .int .i64 p] 135)) := HB1.out.alloc HB1.out.size _
  have HBA := Lib.hid hbel; clear hbel
  have HM := Lib.hid hm; clear hm
  by_cases he : en = 0
  · subst he
    have HN := Lib.hid (show normP s.data.toList = (formP (b, d.data.toList, p), 0) by unfold normP; rw [HM.out, if_pos rfl])
    go_wp2_with fail
    refine (form_any b d p _ HE1.out (by omega) (by omega) (by omega)).mono ?_
    rintro e w2 ⟨rfl, hb2⟩
    have HB2 := Lib.hid (below_then HBA.out hb2); clear hb2
    go_wp2_with fail
    go_ret2
    exact ⟨by rw [HN.out]; rfl, HB2.out⟩
  · have HN := Lib.hid (show normP s.data.toList = ([], 8) by unfold normP; rw [HM.out, if_neg he])
    have hen := Lib.hid (mayP_err s.data.toList (by rw [HM.out]; exact he))
    have he8 : (en != 0) = true := by simp [he]
    clear he
    go_wp2_with fail
    go_ret2
    exact ⟨by rw [HN.out]; have := hen.out; rw [HM.out] at this; subst this; rfl, HBA.out⟩
end Go.Proofs.YtmniblcooficgaaGreatDoor
namespace Go.Proofs.YtmniblcooficgaaGreatDoor
open Go.RowKit Ev5
set_option linter.unusedSimpArgs false
set_option linter.unusedVariables false

structure EnvU (w : World) : Prop where
  env : Env w
  u8 : Lib.Utf8Tabs (Tryz.laysValid_ren.g 3) (Tryz.laysValid_ren.g 4) w
theorem EnvU.below {w w' : World} (h : EnvU w) (hb : Below w.heap.size w w') : EnvU w' := ⟨h.env.below hb, Utf8Tabs_below h.u8 hb⟩
theorem EnvU.far {w w' : World} {base : Nat} (h : EnvU w) (hw : w.heap.size = base) (hb : Below base w w') : EnvU w' := h.below (hw ▸ hb)

theorem valid_any (s : ByteArray) (w : World) (hs : s.size ≤ 9223372036854775807) (hT : Lib.Utf8Tabs (Tryz.laysValid_ren.g 3) (Tryz.laysValid_ren.g 4) w) :
    Calls Tryz.prog 73 #[.string s] w fun e w' => e = .returned (.bool (Lib.validD s.data.toList)) ∧ Below w.heap.size w w' := Any.utf8_ValidString Tryz.laysValid s w hs hT
theorem infoI : (Tryz.prog.info? 3).map (fun i => (i.zero, i.size, i.bytes)) = some (some (.int .i64 0), 1, 8) := by kernel_rfl

set_option maxRecDepth 1000000 in
set_option maxHeartbeats 2000000 in
theorem runes_any (s : ByteArray) (w : World) (hE : EnvU w) (hs : s.size ≤ 1048576) :
    Calls Tryz.prog 44 #[.string s] w fun e w' => (∃ v, e = .returned (.tuple #[v, .bool (Lib.validD s.data.toList)])) ∧ Below w.heap.size w w' := by
  have cV := valid_any s w (by omega) hE.u8
  have HV := Lib.hid cV
  clear cV hE
  cases hv : Lib.validD s.data.toList
  · rw [hv] at HV; clear hv
    go_enter Tryz.func44, Tryz.ntmps44
    go_wp2_with fail
    refine HV.out.mono ?_
    rintro e w1 ⟨rfl, hb⟩
    go_wp2_with fail
    go_ret2
    exact ⟨⟨_, rfl⟩, hb⟩
  · rw [hv] at HV; clear hv
    obtain ⟨i0, hi, hz0, hz1, hz2⟩ := info_parts infoI
    have HI := Lib.hid hi; clear hi
    go_enter Tryz.func44, Tryz.ntmps44
    go_wp2_with fail
    refine HV.out.mono ?_
    rintro e w1 ⟨rfl, hb⟩
    have HB := Lib.hid hb; clear hb HV
    have hsz := HB.out.size
    go_wp2_with fail
    go_loopg [4] s.size (fun gf v wx => ∃ pos n : Nat, ∃ xs : List Value, wx.heap[w1.heap.size]? = some (.stringIter s pos) ∧ wx.ownsRow (w1.heap.size + 1) 3 1 v n xs ∧ n ≤ pos ∧ Below w.heap.size w wx ∧ s.size ≤ pos + gf)
    case atStart => exact ⟨0, 0, [], World.iter_heap w1 s 0, World.ownsRow_nil _ _ _ _, Nat.le_refl _, HB.out.alloc hsz _, by omega⟩
    case round =>
      obtain ⟨pos, n, xs, hit, hown, hn, hbw, hfu⟩ := hrel
      have HO := Lib.hid hown; have HBW := Lib.hid hbw; have HIT := Lib.hid hit
      clear hown hbw
      by_cases hps : pos < s.size
      · obtain ⟨g', rfl⟩ : ∃ g', gk = g' + 1 := ⟨gk - 1, by omega⟩
        have hnx : ∀ ty, (Instr.next (.pointer (some ⟨w1.heap.size, 0, none⟩)) true ty).run Tryz.prog wr = _ := fun ty => Lib.run_next_any_at wr w1.heap.size s pos ty hit hps
        have hwd := Lib.width_pos s pos
        have hrl := Lib.rune_le s pos
        obtain ⟨R, hR⟩ : ∃ R, (Utf8.decode s pos).1 = R := ⟨_, rfl⟩
        obtain ⟨K, hK⟩ : ∃ K, (Utf8.decode s pos).2 = K := ⟨_, rfl⟩
        rw [hR, hK] at hnx
        rw [hK] at hwd
        rw [hR] at hrl
        have hit2 := Lib.iterAt_heap wr w1.heap.size s pos (pos + K) hit
        have hbw2 := Lib.below_iterAt HBW.out (k := w1.heap.size) hsz s (pos + K)
        have hown2 : (wr.iterAt w1.heap.size s (pos + K)).ownsRow (w1.heap.size + 1) 3 1 u4 n xs := HO.out.kept (row := some w1.heap.size) ⟨rfl, rfl, rfl, by rw [Lib.iterAt_size]; exact Nat.le_refl _, fun k _ hne => Lib.iterAt_other wr w1.heap.size k s (pos + K) (fun e => hne (by rw [e]))⟩ (by
          cases hv : Value.ownBlock u4 with
          | none => exact .inl rfl
          | some q => exact .inr (by have := (HO.out.lt q hv).1; simp; omega))
        obtain ⟨W, hW⟩ : ∃ W, wr.iterAt w1.heap.size s (pos + K) = W := ⟨_, rfl⟩
        rw [hW] at hnx hit2 hbw2 hown2
        clear hR hK hit HIT HO HBW hW
        have HO2 := Lib.hid hown2; have HB2 := Lib.hid hbw2; have HI2 := Lib.hid hit2
        clear hown2 hbw2 hit2
        have hw2 : IntKind.i64.wrap (R : Int) = (R : Int) := IntWalk.i64_in _ (by omega)
        have hlt : w1.heap.size < W.heap.size := (Array.getElem?_eq_some_iff.1 HI2.out).1
        go_wp2_with (first
          | (at_builtin; go_loud (refine wpList_append_own _ (by rfl) _ _ _ (by rfl) (w1.heap.size + 1) 3 i0 _ 1 8 Tryz.underlying27 HI.out hz0 hz1 hz2 rfl (by omega) _ n xs (by rfl) (HO2.out.alloc _) ⟨W.heap.size, 0, none⟩ 1 1 [.int .i64 (R : Int)] (by rfl) (by rfl) (World.news_of_block (cs := #[.int .i64 (R : Int)]) (t := 3) (fr := (0, 0)) (heap_alloc_new W _)) (by simp [Value.oneCell']) (by unfold maxLen; omega) (by omega) (by simp; omega) ?_))
          | fail)
        intro v' w3 hown3 hgrow3 _
        have hb3 : Below w.heap.size w w3 := (HB2.out.alloc HB2.out.size _).grown hgrow3 (by have := HB2.out.size; simp; omega) (fun q hq => by have := (HO2.out.lt q hq).1; omega)
        have hit3 : w3.heap[w1.heap.size]? = some (.stringIter s (pos + K)) := by
          rw [hgrow3.block _ (by simp; omega) (fun e => by have := (HO2.out.lt _ e.symm).1; omega), Below.heap_alloc W _ _ hlt]
          exact HI2.out
        have H3 := Lib.hid hown3; have HB3 := Lib.hid hb3; have HI3 := Lib.hid hit3
        clear hown3 hgrow3 hb3 hit3
        go_wp2_with fail
        go_roundg g'
        case measure => omega
        case rel => exact ⟨pos + K, n + 1, _, HI3.out, H3.out, by omega, HB3.out, by omega⟩
      · have hnx : ∀ ty, (Instr.next (.pointer (some ⟨w1.heap.size, 0, none⟩)) true ty).run Tryz.prog wr = _ := fun ty => Lib.run_next_end_at wr w1.heap.size s pos ty hit hps
        go_wp2_with fail
        go_ret2
        exact ⟨⟨_, rfl⟩, HBW.out⟩

theorem and127 (x : Nat) (hx : x < 2147483648) : bits .and .i32 (x : Int) 127 % 256 = ((x % 128 : Nat) : Int) := by
  have h := bits_mask .i32 31 (by decide) wraps_i32 7 (by decide) (x : Int) (by omega) (by omega)
  have e : ((2 : Int) ^ 7 - 1) = 127 := by decide
  have e2 : ((2 : Int) ^ 7) = 128 := by decide
  rw [e, e2] at h
  rw [h]; omega
theorem idx_form (x : Nat) : Lib.indexByte (⟨#[123, 125, 34, 60, 62, 38, 92]⟩ : ByteArray).data.toList ((x : Int) % 128).toNat.toUInt8 = Lib.indexByte [123, 125, 34, 60, 62, 38, 92] (UInt8.ofNat (x % 128)) := by
  rw [show ((x : Int) % 128).toNat = x % 128 by omega]
theorem odd_small : ∀ y : Fin 128, 33 ≤ y.val → oddR y.val = decide (0 ≤ Lib.indexByte [123, 125, 34, 60, 62, 38, 92] (UInt8.ofNat y.val)) := by decide +kernel
theorem odd_idx (x : Nat) : 33 ≤ x → oddR x = (decide (0 ≤ Lib.indexByte [123, 125, 34, 60, 62, 38, 92] (UInt8.ofNat (x % 128))) && decide (x < 128)) := by
  intro h
  by_cases h1 : x < 128
  · have := odd_small ⟨x, h1⟩ h
    rw [Nat.mod_eq_of_lt h1]
    simp only [] at this
    rw [this]; simp [h1]
  · rw [oddR_big x (by omega)]; simp [h1]
set_option maxRecDepth 1000000 in
set_option maxHeartbeats 2000000 in
theorem odd_any (x : Nat) (w : World) (hx : x ≤ 1114111) :
    Calls Tryz.prog 115 #[.int .i32 (x : Int)] w fun e w' => e = .returned (.bool (oddR x)) ∧ Below w.heap.size w w' := by
  by_cases h33 : (x : Int) < 33
  · have ho : oddR x = true := by simp [oddR]; omega
    have HO := Lib.hid ho; clear ho
    go_enter Tryz.func115, Tryz.ntmps115
    go_wp2_with fail
    go_ret
    exact ⟨by rw [HO.out]; rfl, Below.refl _ _⟩
  · have hand := and127 x (by omega)
    have hix := odd_idx x
    have HO := Lib.hid hix; clear hix
    obtain ⟨I, hI⟩ : ∃ I, Lib.indexByte [123, 125, 34, 60, 62, 38, 92] (UInt8.ofNat (x % 128)) = I := ⟨_, rfl⟩
    rw [hI] at HO
    have HII := Lib.hid hI; clear hI
    by_cases hI0 : 0 ≤ I
    · by_cases h128 : (x : Int) < 128
      · have hr : oddR x = true := by rw [HO.out (by omega)]; simp [hI0]; omega
        have HR := Lib.hid hr; clear hr
        go_enter Tryz.func115, Tryz.ntmps115
        go_wp2_with fail
        refine (Tryz.strings_IndexByte _ _ _).mono ?_
        rintro e w' ⟨rfl, rfl⟩
        rw [idx_form x, HII.out]
        go_wp2_with fail
        go_ret
        exact ⟨by rw [HR.out]; rfl, Below.refl _ _⟩
      · have hr : oddR x = false := by rw [HO.out (by omega)]; simp; omega
        have b128 : decide ((x : Int) < 128) = false := decide_eq_false h128
        have HR := Lib.hid hr; clear hr
        go_enter Tryz.func115, Tryz.ntmps115
        go_wp2_with fail
        refine (Tryz.strings_IndexByte _ _ _).mono ?_
        rintro e w' ⟨rfl, rfl⟩
        rw [idx_form x, HII.out]
        go_wp2_with fail
        go_ret
        exact ⟨by rw [HR.out]; rfl, Below.refl _ _⟩
    · have hr : oddR x = false := by rw [HO.out (by omega)]; simp [hI0]
      have HR := Lib.hid hr; clear hr
      go_enter Tryz.func115, Tryz.ntmps115
      go_wp2_with fail
      refine (Tryz.strings_IndexByte _ _ _).mono ?_
      rintro e w' ⟨rfl, rfl⟩
      rw [idx_form x, HII.out]
      go_wp2_with fail
      go_ret
      exact ⟨by rw [HR.out]; rfl, Below.refl _ _⟩

theorem odd_grows (w : World) : PredGrows Tryz.prog 115 #[] oddR w := fun W x hx _ => odd_any x W hx
theorem enters_odd : ∀ args w, (callFunc 115 args).run Tryz.prog w = .ok (.enter 115 args) w := enters_of Tryz.func115 (by kernel_rfl) rfl

set_option maxRecDepth 1000000 in
set_option maxHeartbeats 2000000 in
theorem space_any (s : ByteArray) (w : World) (hE : EnvU w) (hs : s.size ≤ 1048576) :
    Calls Tryz.prog 84 #[.string s] w fun e w' => e = .returned (.bool (spaceP s.data.toList)) ∧ Below w.heap.size w w' := by
  have cR := runes_any s w hE hs
  have HV := Lib.hid cR; clear cR hE
  have hlen : s.data.toList.length = s.size := by rw [Array.length_toList]; rfl
  have hsp : spaceP s.data.toList = (Lib.validD s.data.toList && decide (1 ≤ s.size ∧ s.size ≤ 48) && !s.data.toList.any oddB) := by unfold spaceP; rw [hlen]
  have HS := Lib.hid hsp; clear hsp hlen
  have hodd := space_idx s
  have HD := Lib.hid hodd; clear hodd
  cases hv : Lib.validD s.data.toList
  · rw [hv] at HV HS
    clear hv
    go_enter Tryz.func84, Tryz.ntmps84
    go_wp2_with fail
    refine HV.out.mono ?_
    rintro e w1 ⟨⟨v, rfl⟩, hb⟩
    go_wp2_with fail
    go_ret
    exact ⟨by rw [HS.out]; rfl, hb⟩
  · rw [hv] at HV HS
    have HD2 := Lib.hid (HD.out hv)
    clear hv HD
    by_cases h0 : s.size = 0
    · have he : s.toList.isEmpty = true := by rw [ByteArray.toList_eq]; cases h : s.data.toList with | nil => rfl | cons x y => have := congrArg List.length h; rw [Array.length_toList] at this; simp at this; have h2 : s.data.size = s.size := rfl; omega
      have hr := HS.out.trans (show _ = false by simp [h0])
      have HR := Lib.hid hr; clear hr h0
      go_enter Tryz.func84, Tryz.ntmps84
      go_wp2_with fail
      refine HV.out.mono ?_
      rintro e w1 ⟨⟨v, rfl⟩, hb⟩
      go_wp2_with fail
      go_ret
      exact ⟨by rw [HR.out]; rfl, hb⟩
    · have he : s.toList.isEmpty = false := by rw [ByteArray.toList_eq]; cases h : s.data.toList with | nil => exact absurd (by have h2 : s.data.size = s.size := rfl; rw [← h2, ← Array.length_toList, h]; rfl) h0 | cons x y => rfl
      by_cases h48 : (s.size : Int) ≤ 48
      · have hr := HS.out.trans (show _ = (!s.data.toList.any oddB) by rw [decide_eq_true (by omega)]; simp)
        have HR := Lib.hid hr; clear hr h0 HS
        go_enter Tryz.func84, Tryz.ntmps84
        go_wp2_with fail
        refine HV.out.mono ?_
        rintro e w1 ⟨⟨v, rfl⟩, hb⟩
        have HB := Lib.hid hb; clear hb HV
        go_wp2_with fail
        refine (Tryz.strings_ContainsFunc_grows _ _ enters_odd oddR s _ (odd_grows _)).mono ?_
        rintro e w2 ⟨rfl, hb2⟩
        rw [HD2.out]
        have HB2 := Lib.hid (below_then HB.out hb2); clear hb2
        cases hany : s.data.toList.any oddB
        · rw [hany] at HR; clear hany
          go_wp2_with fail
          go_ret
          exact ⟨by rw [HR.out]; rfl, HB2.out⟩
        · rw [hany] at HR; clear hany
          go_wp2_with fail
          go_ret
          exact ⟨by rw [HR.out]; rfl, HB2.out⟩
      · have hr := HS.out.trans (show _ = false by rw [decide_eq_false (by omega)]; simp)
        have HR := Lib.hid hr; clear hr h0 HS
        go_enter Tryz.func84, Tryz.ntmps84
        go_wp2_with fail
        refine HV.out.mono ?_
        rintro e w1 ⟨⟨v, rfl⟩, hb⟩
        go_wp2_with fail
        go_ret
        exact ⟨by rw [HR.out]; rfl, hb⟩

end Go.Proofs.YtmniblcooficgaaGreatDoor
namespace Go.Proofs.YtmniblcooficgaaGreatDoor
open Go.RowKit Ev5
set_option linter.unusedSimpArgs false
set_option linter.unusedVariables false

def clsP (n : Nat) : Prop :=
  (97 ≤ bits .or .u8 (n : Int) 32 ∧ bits .or .u8 (n : Int) 32 ≤ 122 ∧ 57 < n ∧ n ≠ 95 ∧ letterB (UInt8.ofNat n) = true) ∨
  (97 ≤ bits .or .u8 (n : Int) 32 ∧ 122 < bits .or .u8 (n : Int) 32 ∧ n = 95 ∧ letterB (UInt8.ofNat n) = true) ∨
  (bits .or .u8 (n : Int) 32 < 97 ∧ 48 ≤ n ∧ n ≤ 57 ∧ letterB (UInt8.ofNat n) = false ∧ moreB (UInt8.ofNat n) = true) ∨
  (bits .or .u8 (n : Int) 32 < 97 ∧ n = 45 ∧ letterB (UInt8.ofNat n) = false ∧ moreB (UInt8.ofNat n) = true) ∨
  (bits .or .u8 (n : Int) 32 < 97 ∧ n = 46 ∧ letterB (UInt8.ofNat n) = false ∧ moreB (UInt8.ofNat n) = true) ∨
  (bits .or .u8 (n : Int) 32 < 97 ∧ n < 48 ∧ n ≠ 45 ∧ n ≠ 46 ∧ letterB (UInt8.ofNat n) = false ∧ moreB (UInt8.ofNat n) = false) ∨
  (bits .or .u8 (n : Int) 32 < 97 ∧ 57 < n ∧ n ≠ 95 ∧ letterB (UInt8.ofNat n) = false ∧ moreB (UInt8.ofNat n) = false) ∨
  (97 ≤ bits .or .u8 (n : Int) 32 ∧ 122 < bits .or .u8 (n : Int) 32 ∧ 57 < n ∧ n ≠ 95 ∧ letterB (UInt8.ofNat n) = false ∧ moreB (UInt8.ofNat n) = false)
instance (n : Nat) : Decidable (clsP n) := by unfold clsP; infer_instance
theorem cls_all : ∀ n : Fin 256, clsP n.val := by decide +kernel
theorem cls (b : UInt8) : clsP b.toNat := cls_all ⟨b.toNat, b.toNat_lt⟩
theorem ofNat_b (b : UInt8) : UInt8.ofNat b.toNat = b := by simp

theorem okB_letter {k : Nat} {b : UInt8} (h : letterB b = true) : okB k b = true := by simp [okB, h]
theorem okB_more {k : Nat} {b : UInt8} (h : letterB b = false) (h2 : moreB b = true) : okB k b = decide (0 < k) := by simp [okB, h, h2]
theorem okB_none {k : Nat} {b : UInt8} (h : letterB b = false) (h2 : moreB b = false) : okB k b = false := by simp [okB, h, h2]

set_option maxRecDepth 1000000 in
set_option maxHeartbeats 4000000 in
theorem local_any (s : ByteArray) (w : World) (hs : s.size ≤ 140737488351232) :
    Calls Tryz.prog 23 #[.string s] w fun e w' => e = .returned (.bool (localP s.data.toList)) ∧ Below w.heap.size w w' := by
  have hlen : s.data.toList.length = s.size := by rw [Array.length_toList]; rfl
  have hlp : localP s.data.toList = (decide (1 ≤ s.size ∧ s.size ≤ 16) && okFrom 0 s.data.toList) := by unfold localP; rw [hlen]
  have HL := Lib.hid hlp; clear hlp
  by_cases h0 : s.size = 0
  · have he : s.toList.isEmpty = true := by rw [ByteArray.toList_eq]; cases h : s.data.toList with | nil => rfl | cons x y => rw [h] at hlen; simp at hlen; omega
    have HR := Lib.hid (HL.out.trans (show _ = false by simp [h0])); clear HL h0 hlen
    go_enter Tryz.func23, Tryz.ntmps23
    go_wp2_with fail
    go_ret
    exact ⟨by rw [HR.out]; rfl, Below.refl _ _⟩
  have he : s.toList.isEmpty = false := by rw [ByteArray.toList_eq]; cases h : s.data.toList with | nil => rw [h] at hlen; simp at hlen; omega | cons x y => rfl
  by_cases h16 : (16 : Int) < (s.size : Int)
  · have HR := Lib.hid (HL.out.trans (show _ = false by rw [decide_eq_false (by omega)]; simp)); clear HL h0 hlen
    go_enter Tryz.func23, Tryz.ntmps23
    go_wp2_with fail
    go_ret
    exact ⟨by rw [HR.out]; rfl, Below.refl _ _⟩
  have HR := Lib.hid (HL.out.trans (show _ = okFrom 0 s.data.toList by rw [decide_eq_true (by omega)]; simp)); clear HL h0
  have HN := Lib.hid hlen; clear hlen
  have hcv := Lib.run_convert_string_bytes (P := Tryz.prog) w 9 66 5 s (u := .string) Tryz.underlying9 Tryz.underlying66 Tryz.underlying5
  have hB : ∀ j, j < s.size → (Lib.bytesWorld w 5 s).cell? ⟨w.heap.size, j, none⟩ = some (.int .u8 (s.data.toList.getD j 0).toNat) := fun j hj => Lib.bytesWorld_cell w 5 s j hj
  have hbel := below_bytesWorld w 5 s
  obtain ⟨W1, hW1⟩ : ∃ W1, W1 = Lib.bytesWorld w 5 s := ⟨_, rfl⟩
  rw [← hW1] at hcv hB hbel
  have HB := Lib.hid hB
  have HW := Lib.hid hbel
  clear hW1 hB hbel
  go_enter Tryz.func23, Tryz.ntmps23
  go_wp2
  go_loop [17] (fun vi => ∃ k : Nat, k ≤ s.size ∧ vi = .int .i64 k ∧ Hid (okFrom 0 s.data.toList = okFrom k (s.data.toList.drop k))) (fun vi => s.size - (intOf vi).toNat)
  case atStart => exact ⟨0, Nat.zero_le _, rfl, by show _ = _; rw [List.drop_zero]⟩
  case round =>
    obtain ⟨k, hk, rfl, hf⟩ := hrel
    by_cases hkn : k < s.size
    · obtain ⟨x, hx⟩ : ∃ x, x = s.data.toList.getD k 0 := ⟨_, rfl⟩
      have hkl : k < s.data.toList.length := by rw [HN.out]; exact hkn
      have hxk : s.data.toList[k] = x := by rw [hx, List.getD, List.getElem?_eq_getElem hkl]; rfl
      have hc1 : W1.cell? ⟨w.heap.size, k, none⟩ = some (.int .u8 x.toNat) := by rw [hx]; exact HB.out k hkn
      have hstep := okFrom_step s.data.toList k hkl
      rw [hxk] at hstep
      have HST := Lib.hid (hf.out.trans hstep)
      clear hx hxk hstep hf hkl
      have hcls := cls x
      unfold clsP at hcls
      rw [ofNat_b] at hcls
      by_cases hk0 : k = 0
      · subst hk0
        rcases hcls with ⟨c1, c2, c3, c4, c5⟩ | ⟨c1, c2, c3, c5⟩ | ⟨c1, c2, c3, c4, c5⟩ | ⟨c1, c2, c4, c5⟩ | ⟨c1, c2, c4, c5⟩ | ⟨c1, c2, c3, c6, c4, c5⟩ | ⟨c1, c2, c6, c4, c5⟩ | ⟨c1, c2, c3, c6, c4, c5⟩
        · have b95 : ((x.toNat : Int) == 95) = false := by simp; omega
          have b45 : ((x.toNat : Int) == 45) = false := by simp; omega
          have b46 : ((x.toNat : Int) == 46) = false := by simp; omega
          have b48 : (48 : Int) ≤ (x.toNat : Int) := by omega
          have b57 : ¬ (x.toNat : Int) ≤ 57 := by omega
          have HO := Lib.hid (HST.out.trans (by rw [okB_letter c5, Bool.true_and]))
          clear HST c5 c3 c4
          go_wp2
          go_round
          case rel => exact ⟨0 + 1, by omega, by go_num, HO⟩
          case measure => simp [intOf]; omega
        · have b95 : ((x.toNat : Int) == 95) = true := by simp; omega
          have b45 : ((x.toNat : Int) == 45) = false := by simp; omega
          have b46 : ((x.toNat : Int) == 46) = false := by simp; omega
          have b48 : (48 : Int) ≤ (x.toNat : Int) := by omega
          have b57 : ¬ (x.toNat : Int) ≤ 57 := by omega
          have HO := Lib.hid (HST.out.trans (by rw [okB_letter c5, Bool.true_and]))
          clear HST c5 c3
          go_wp2
          go_round
          case rel => exact ⟨0 + 1, by omega, by go_num, HO⟩
          case measure => simp [intOf]; omega
        · have b95 : ((x.toNat : Int) == 95) = false := by simp; omega
          have b45 : ((x.toNat : Int) == 45) = false := by simp; omega
          have b46 : ((x.toNat : Int) == 46) = false := by simp; omega
          have b48 : (48 : Int) ≤ (x.toNat : Int) := by omega
          have b57 : (x.toNat : Int) ≤ 57 := by omega
          have HO := Lib.hid (HST.out.trans (by rw [okB_more c4 c5, decide_eq_false (by omega), Bool.false_and]))
          clear HST c5 c2 c3 c4
          go_wp2
          go_ret
          exact ⟨by rw [HR.out, HO.out]; rfl, HW.out⟩
        · have b95 : ((x.toNat : Int) == 95) = false := by simp; omega
          have b45 : ((x.toNat : Int) == 45) = true := by simp; omega
          have b46 : ((x.toNat : Int) == 46) = false := by simp; omega
          have b48 : ¬ (48 : Int) ≤ (x.toNat : Int) := by omega
          have HO := Lib.hid (HST.out.trans (by rw [okB_more c4 c5, decide_eq_false (by omega), Bool.false_and]))
          clear HST c5 c2 c4
          go_wp2
          go_ret
          exact ⟨by rw [HR.out, HO.out]; rfl, HW.out⟩
        · have b95 : ((x.toNat : Int) == 95) = false := by simp; omega
          have b45 : ((x.toNat : Int) == 45) = false := by simp; omega
          have b46 : ((x.toNat : Int) == 46) = true := by simp; omega
          have b48 : ¬ (48 : Int) ≤ (x.toNat : Int) := by omega
          have HO := Lib.hid (HST.out.trans (by rw [okB_more c4 c5, decide_eq_false (by omega), Bool.false_and]))
          clear HST c5 c2 c4
          go_wp2
          go_ret
          exact ⟨by rw [HR.out, HO.out]; rfl, HW.out⟩
        · have b95 : ((x.toNat : Int) == 95) = false := by simp; omega
          have b45 : ((x.toNat : Int) == 45) = false := by simp; omega
          have b46 : ((x.toNat : Int) == 46) = false := by simp; omega
          have b48 : ¬ (48 : Int) ≤ (x.toNat : Int) := by omega
          have HO := Lib.hid (HST.out.trans (by rw [okB_none c4 c5, Bool.false_and]))
          clear HST c5 c4
          go_wp2
          go_ret
          exact ⟨by rw [HR.out, HO.out]; rfl, HW.out⟩
        · have b95 : ((x.toNat : Int) == 95) = false := by simp; omega
          have b45 : ((x.toNat : Int) == 45) = false := by simp; omega
          have b46 : ((x.toNat : Int) == 46) = false := by simp; omega
          have b48 : (48 : Int) ≤ (x.toNat : Int) := by omega
          have b57 : ¬ (x.toNat : Int) ≤ 57 := by omega
          have HO := Lib.hid (HST.out.trans (by rw [okB_none c4 c5, Bool.false_and]))
          clear HST c5 c4
          go_wp2
          go_ret
          exact ⟨by rw [HR.out, HO.out]; rfl, HW.out⟩
        · have b95 : ((x.toNat : Int) == 95) = false := by simp; omega
          have b45 : ((x.toNat : Int) == 45) = false := by simp; omega
          have b46 : ((x.toNat : Int) == 46) = false := by simp; omega
          have b48 : (48 : Int) ≤ (x.toNat : Int) := by omega
          have b57 : ¬ (x.toNat : Int) ≤ 57 := by omega
          have c22 : decide (bits .or .u8 (x.toNat : Int) 32 ≤ 122) = false := decide_eq_false (by omega)
          have HO := Lib.hid (HST.out.trans (by rw [okB_none c4 c5, Bool.false_and]))
          clear HST c5 c4
          go_wp2
          go_ret
          exact ⟨by rw [HR.out, HO.out]; rfl, HW.out⟩
      · have hkb : ((k : Int) == 0) = false := by simp; omega
        have hk0' : 0 < k := by omega
        rcases hcls with ⟨c1, c2, c3, c4, c5⟩ | ⟨c1, c2, c3, c5⟩ | ⟨c1, c2, c3, c4, c5⟩ | ⟨c1, c2, c4, c5⟩ | ⟨c1, c2, c4, c5⟩ | ⟨c1, c2, c3, c6, c4, c5⟩ | ⟨c1, c2, c6, c4, c5⟩ | ⟨c1, c2, c3, c6, c4, c5⟩
        · have b95 : ((x.toNat : Int) == 95) = false := by simp; omega
          have b45 : ((x.toNat : Int) == 45) = false := by simp; omega
          have b46 : ((x.toNat : Int) == 46) = false := by simp; omega
          have b48 : (48 : Int) ≤ (x.toNat : Int) := by omega
          have b57 : ¬ (x.toNat : Int) ≤ 57 := by omega
          have HO := Lib.hid (HST.out.trans (by rw [okB_letter c5, Bool.true_and]))
          clear HST c5 c3 c4
          go_wp2
          go_round
          case rel => exact ⟨k + 1, by omega, by go_num, HO⟩
          case measure => simp [intOf]; omega
        · have b95 : ((x.toNat : Int) == 95) = true := by simp; omega
          have b45 : ((x.toNat : Int) == 45) = false := by simp; omega
          have b46 : ((x.toNat : Int) == 46) = false := by simp; omega
          have b48 : (48 : Int) ≤ (x.toNat : Int) := by omega
          have b57 : ¬ (x.toNat : Int) ≤ 57 := by omega
          have HO := Lib.hid (HST.out.trans (by rw [okB_letter c5, Bool.true_and]))
          clear HST c5 c3
          go_wp2
          go_round
          case rel => exact ⟨k + 1, by omega, by go_num, HO⟩
          case measure => simp [intOf]; omega
        · have b95 : ((x.toNat : Int) == 95) = false := by simp; omega
          have b45 : ((x.toNat : Int) == 45) = false := by simp; omega
          have b46 : ((x.toNat : Int) == 46) = false := by simp; omega
          have b48 : (48 : Int) ≤ (x.toNat : Int) := by omega
          have b57 : (x.toNat : Int) ≤ 57 := by omega
          have HO := Lib.hid (HST.out.trans (by rw [okB_more c4 c5, decide_eq_true (by omega), Bool.true_and]))
          clear HST c5 c2 c3 c4
          go_wp2
          go_round
          case rel => exact ⟨k + 1, by omega, by go_num, HO⟩
          case measure => simp [intOf]; omega
        · have b95 : ((x.toNat : Int) == 95) = false := by simp; omega
          have b45 : ((x.toNat : Int) == 45) = true := by simp; omega
          have b46 : ((x.toNat : Int) == 46) = false := by simp; omega
          have b48 : ¬ (48 : Int) ≤ (x.toNat : Int) := by omega
          have HO := Lib.hid (HST.out.trans (by rw [okB_more c4 c5, decide_eq_true (by omega), Bool.true_and]))
          clear HST c5 c2 c4
          go_wp2
          go_round
          case rel => exact ⟨k + 1, by omega, by go_num, HO⟩
          case measure => simp [intOf]; omega
        · have b95 : ((x.toNat : Int) == 95) = false := by simp; omega
          have b45 : ((x.toNat : Int) == 45) = false := by simp; omega
          have b46 : ((x.toNat : Int) == 46) = true := by simp; omega
          have b48 : ¬ (48 : Int) ≤ (x.toNat : Int) := by omega
          have HO := Lib.hid (HST.out.trans (by rw [okB_more c4 c5, decide_eq_true (by omega), Bool.true_and]))
          clear HST c5 c2 c4
          go_wp2
          go_round
          case rel => exact ⟨k + 1, by omega, by go_num, HO⟩
          case measure => simp [intOf]; omega
        · have b95 : ((x.toNat : Int) == 95) = false := by simp; omega
          have b45 : ((x.toNat : Int) == 45) = false := by simp; omega
          have b46 : ((x.toNat : Int) == 46) = false := by simp; omega
          have b48 : ¬ (48 : Int) ≤ (x.toNat : Int) := by omega
          have HO := Lib.hid (HST.out.trans (by rw [okB_none c4 c5, Bool.false_and]))
          clear HST c5 c4
          go_wp2
          go_ret
          exact ⟨by rw [HR.out, HO.out]; rfl, HW.out⟩
        · have b95 : ((x.toNat : Int) == 95) = false := by simp; omega
          have b45 : ((x.toNat : Int) == 45) = false := by simp; omega
          have b46 : ((x.toNat : Int) == 46) = false := by simp; omega
          have b48 : (48 : Int) ≤ (x.toNat : Int) := by omega
          have b57 : ¬ (x.toNat : Int) ≤ 57 := by omega
          have HO := Lib.hid (HST.out.trans (by rw [okB_none c4 c5, Bool.false_and]))
          clear HST c5 c4
          go_wp2
          go_ret
          exact ⟨by rw [HR.out, HO.out]; rfl, HW.out⟩
        · have b95 : ((x.toNat : Int) == 95) = false := by simp; omega
          have b45 : ((x.toNat : Int) == 45) = false := by simp; omega
          have b46 : ((x.toNat : Int) == 46) = false := by simp; omega
          have b48 : (48 : Int) ≤ (x.toNat : Int) := by omega
          have b57 : ¬ (x.toNat : Int) ≤ 57 := by omega
          have c22 : decide (bits .or .u8 (x.toNat : Int) 32 ≤ 122) = false := decide_eq_false (by omega)
          have HO := Lib.hid (HST.out.trans (by rw [okB_none c4 c5, Bool.false_and]))
          clear HST c5 c4
          go_wp2
          go_ret
          exact ⟨by rw [HR.out, HO.out]; rfl, HW.out⟩
    · have HO := Lib.hid (hf.out.trans (okFrom_end s.data.toList k (by rw [HN.out]; omega)))
      clear hf
      go_wp2
      go_ret
      exact ⟨by rw [HR.out, HO.out]; rfl, HW.out⟩

theorem pre_no (l : List UInt8) (h : ¬ l.head? = some 123) : Lib.hasPrefix l [123] = false ∧ Lib.trimPrefix l [123] = l ∧ cutP l = if localP l = true ∧ l.length ≤ 48 then ([], l, true) else ([], [], false) := by
  have h1 : Lib.hasPrefix l [123] = false := by
    cases l with
    | nil => rfl
    | cons a r =>
      have hne : ((123 : UInt8) == a) = false := by rw [beq_eq_false_iff_ne]; intro e; exact h (by rw [← e]; rfl)
      show ((123 : UInt8) == a && _) = false
      rw [hne]; rfl
  refine ⟨h1, by unfold Lib.trimPrefix; rw [h1]; rfl, ?_⟩
  unfold cutP; rw [if_neg h]
theorem pre_yes (l : List UInt8) (h : l.head? = some 123) : Lib.hasPrefix l [123] = true ∧ Lib.trimPrefix l [123] = l.tail ∧ cutP l = if 0 ≤ Lib.indexByte l.tail 125 ∧ spaceP (l.tail.take (Lib.indexByte l.tail 125).toNat) = true ∧ localP (l.tail.drop ((Lib.indexByte l.tail 125).toNat + 1)) = true ∧ l.length ≤ 48 then (l.tail.take (Lib.indexByte l.tail 125).toNat, l.tail.drop ((Lib.indexByte l.tail 125).toNat + 1), true) else ([], [], false) := by
  have h1 : Lib.hasPrefix l [123] = true := by
    cases l with
    | nil => cases h
    | cons a r => simp at h; simp [Lib.hasPrefix, h]
  refine ⟨h1, ?_, ?_⟩
  · unfold Lib.trimPrefix; rw [h1]
    cases l with
    | nil => cases h
    | cons a r => rfl
  · unfold cutP; rw [if_pos h]
theorem cut_yes (l : List UInt8) (h : 0 ≤ Lib.indexByte l 125) : Lib.cut l [125] = (l.take (Lib.indexByte l 125).toNat, l.drop ((Lib.indexByte l 125).toNat + 1), true) := by
  unfold Lib.cut; rw [Lib.index_one, if_pos h]; rfl
theorem cut_no (l : List UInt8) (h : ¬ 0 ≤ Lib.indexByte l 125) : Lib.cut l [125] = (l, [], false) := by
  unfold Lib.cut; rw [Lib.index_one, if_neg h]

def cutV (l : List UInt8) : Value := .tuple #[str (cutP l).1, str (cutP l).2.1, .bool (cutP l).2.2]
set_option maxRecDepth 1000000 in
set_option maxHeartbeats 4000000 in
theorem cut_any (s : ByteArray) (w : World) (hE : EnvU w) (hs : s.size ≤ 1048576) :
    Calls Tryz.prog 53 #[.string s] w fun e w' => e = .returned (cutV s.data.toList) ∧ Below w.heap.size w w' := by
  have HE := Lib.hid hE; clear hE
  have hlen : s.data.toList.length = s.size := by rw [Array.length_toList]; rfl
  have HN := Lib.hid hlen; clear hlen
  by_cases hp : s.data.toList.head? = some 123
  · obtain ⟨p1, p2, p3⟩ := pre_yes _ hp
    have P1 := Lib.hid p1; have P2 := Lib.hid p2; have P3 := Lib.hid p3
    clear p1 p2 p3
    have htl : s.data.toList.tail.length ≤ 1048576 := by rw [List.length_tail, HN.out]; omega
    obtain ⟨R, hR, hRs⟩ := named s.data.toList.tail
    have HTl := Lib.hid htl; clear htl hp
    have hRl : R.data.toList = s.data.toList.tail := by rw [hR]
    have HRl := Lib.hid hRl; have HRs := Lib.hid hRs; clear hRl hRs
    rw [← HRl.out] at P3
    generalize hI : Lib.indexByte R.data.toList 125 = I at *
    go_enter Tryz.func53, Tryz.ntmps53
    go_wp2_with fail
    refine (Tryz.strings_CutPrefix s ⟨#[123]⟩ _).mono ?_
    rintro e w1 ⟨rfl, rfl⟩
    rw [show (⟨#[123]⟩ : ByteArray).data.toList = [123] from rfl, P1.out, P2.out, ← hR]
    clear hR
    obtain ⟨m, hmx⟩ := HE.out.env.mx
    go_wp2_with fail
    refine (Tryz.strings_Cut R ⟨#[125]⟩ m _ (by have := HRs.out; have := HTl.out; omega) hmx).mono ?_
    rintro e w1b ⟨rfl, n1, rfl⟩
    rw [show (⟨#[125]⟩ : ByteArray).data.toList = [125] from rfl]
    have HB1 := Lib.hid (below_drewN w1 n1)
    by_cases hI0 : 0 ≤ I
    · have hcy := cut_yes R.data.toList (by rw [hI]; exact hI0)
      rw [hI] at hcy
      rw [hcy]
      clear hcy
      obtain ⟨A, hA, hAs⟩ := named (R.data.toList.take I.toNat)
      obtain ⟨B, hB, hBs⟩ := named (R.data.toList.drop (I.toNat + 1))
      simp only [← hA, ← hB]
      have hAl : A.data.toList = R.data.toList.take I.toNat := by rw [hA]
      have hBl : B.data.toList = R.data.toList.drop (I.toNat + 1) := by rw [hB]
      rw [← hAl, ← hBl] at P3
      have hAsz : A.size ≤ 1048576 := by rw [hAs, List.length_take, HRl.out]; have := HTl.out; omega
      have hBsz : B.size ≤ 1048576 := by rw [hBs, List.length_drop, HRl.out]; have := HTl.out; omega
      clear hA hB hAs hBs hAl hBl hmx
      go_wp2_with fail
      refine (space_any A _ (HE.out.below HB1.out) hAsz).mono ?_
      rintro e w2 ⟨rfl, hb⟩
      have HB2 := Lib.hid (below_then HB1.out hb); clear hb
      cases hsp : spaceP A.data.toList
      · rw [hsp] at P3
        have P4 := Lib.hid (P3.out.trans (if_neg (by simp))); clear hsp P3
        go_wp2_with fail
        go_ret3
        exact ⟨by unfold cutV str; rw [P4.out]; rfl, HB2.out⟩
      · rw [hsp] at P3; clear hsp
        go_wp2_with fail
        refine (local_any B _ (by omega)).mono ?_
        rintro e w3 ⟨rfl, hb⟩
        have HB3 := Lib.hid (below_then HB2.out hb); clear hb
        cases hlp : localP B.data.toList
        · rw [hlp] at P3
          have P4 := Lib.hid (P3.out.trans (if_neg (by simp))); clear hlp P3
          go_wp2_with fail
          go_ret3
          exact ⟨by unfold cutV str; rw [P4.out]; rfl, HB3.out⟩
        · rw [hlp] at P3; clear hlp
          by_cases h48 : (48 : Int) < (s.size : Int)
          · have P4 := Lib.hid (P3.out.trans (if_neg (by rw [HN.out]; omega))); clear P3
            go_wp2_with fail
            go_ret3
            exact ⟨by unfold cutV str; rw [P4.out]; rfl, HB3.out⟩
          · have P4 := Lib.hid (P3.out.trans (if_pos (by refine ⟨hI0, ?_, ?_, ?_⟩ <;> first | trivial | (rw [HN.out]; omega)))); clear P3
            go_wp2_with fail
            go_ret3
            exact ⟨by unfold cutV str; rw [P4.out]; rfl, HB3.out⟩
    · have hcy := cut_no R.data.toList (by rw [hI]; exact hI0)
      rw [hcy]
      have P4 := Lib.hid (P3.out.trans (if_neg (fun h => hI0 h.1))); clear hcy P3
      go_wp2_with fail
      go_ret3
      exact ⟨by unfold cutV str; rw [P4.out]; rfl, HB1.out⟩
  · obtain ⟨p1, p2, p3⟩ := pre_no _ hp
    have P1 := Lib.hid p1; have P2 := Lib.hid p2; have P3 := Lib.hid p3
    clear p1 p2 p3 hp
    go_enter Tryz.func53, Tryz.ntmps53
    go_wp2_with fail
    refine (Tryz.strings_CutPrefix s ⟨#[123]⟩ _).mono ?_
    rintro e w1 ⟨rfl, rfl⟩
    rw [show (⟨#[123]⟩ : ByteArray).data.toList = [123] from rfl, P1.out, P2.out]
    go_wp2_with fail
    refine (local_any s _ (by omega)).mono ?_
    rintro e w3 ⟨rfl, hb⟩
    have HB3 := Lib.hid hb; clear hb
    cases hlp : localP s.data.toList
    · rw [hlp] at P3
      have P4 := Lib.hid (P3.out.trans (if_neg (by simp))); clear hlp P3
      go_wp2_with fail
      go_ret3
      exact ⟨by unfold cutV str; rw [P4.out]; rfl, HB3.out⟩
    · rw [hlp] at P3; clear hlp
      by_cases h48 : (48 : Int) < (s.size : Int)
      · have P4 := Lib.hid (P3.out.trans (if_neg (by rw [HN.out]; omega))); clear P3
        go_wp2_with fail
        go_ret3
        exact ⟨by unfold cutV str; rw [P4.out]; rfl, HB3.out⟩
      · have P4 := Lib.hid (P3.out.trans (if_pos (by refine ⟨?_, ?_⟩ <;> first | trivial | (rw [HN.out]; omega)))); clear P3
        go_wp2_with fail
        go_ret3
        exact ⟨by unfold cutV str; rw [P4.out]; rfl, HB3.out⟩
end Go.Proofs.YtmniblcooficgaaGreatDoor
