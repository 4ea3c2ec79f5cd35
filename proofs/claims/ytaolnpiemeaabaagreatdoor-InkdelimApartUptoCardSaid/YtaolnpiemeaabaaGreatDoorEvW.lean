/- The walks of src.Runes, names.Local, names.Space. -/
import Derived.Test.YtaolnpiemeaabaaGreatDoorNumS
import Derived.Test.YtaolnpiemeaabaaGreatDoorEvR
import Derived.Deep.AppendLies
namespace Go.Proofs.YtaolnpiemeaabaaGreatDoor
open Go.RowKit Ev5
set_option linter.unusedSimpArgs false
set_option linter.unusedVariables false

/-- What the walks need to know of the library's variables, the tables of utf8 among them. -/
structure EnvU (w : World) : Prop where
  env : Env w
  u8 : Lib.Utf8Tabs (Tryz.laysValid_ren.g 3) (Tryz.laysValid_ren.g 4) w
theorem EnvU.below {w w' : World} (h : EnvU w) (hb : Below w.heap.size w w') : EnvU w' := ⟨h.env.below hb, Utf8Tabs_below h.u8 hb⟩
theorem EnvU.far {w w' : World} {base : Nat} (h : EnvU w) (hw : w.heap.size = base) (hb : Below base w w') : EnvU w' := h.below (hw ▸ hb)

theorem valid_any (s : ByteArray) (w : World) (hs : s.size ≤ 9223372036854775807) (hT : Lib.Utf8Tabs (Tryz.laysValid_ren.g 3) (Tryz.laysValid_ren.g 4) w) :
    Calls Tryz.prog 139 #[.string s] w fun e w' => e = .returned (.bool (Lib.validD s.data.toList)) ∧ Below w.heap.size w w' := Any.utf8_ValidString Tryz.laysValid s w hs hT
theorem infoI : (Tryz.prog.info? 3).map (fun i => (i.zero, i.size, i.bytes)) = some (some (.int .i64 0), 1, 8) := by kernel_rfl

set_option maxRecDepth 1000000 in
set_option maxHeartbeats 2000000 in
theorem runes_any (s : ByteArray) (w : World) (hE : EnvU w) (hs : s.size ≤ 1048576) :
    Calls Tryz.prog 112 #[.string s] w fun e w' => (∃ v, e = .returned (.tuple #[v, .bool (Lib.validD s.data.toList)])) ∧ Below w.heap.size w w' := by
  have cV := valid_any s w (by omega) hE.u8
  have HV := Lib.hid cV
  clear cV hE
  cases hv : Lib.validD s.data.toList
  · rw [hv] at HV; clear hv
    go_enter Tryz.func112, Tryz.ntmps112
    go_wp2_with fail
    refine HV.out.mono ?_
    rintro e w1 ⟨rfl, hb⟩
    go_wp2_with fail
    go_ret2
    exact ⟨⟨_, rfl⟩, hb⟩
  · rw [hv] at HV; clear hv
    obtain ⟨i0, hi, hz0, hz1, hz2⟩ := info_parts infoI
    have HI := Lib.hid hi; clear hi
    go_enter Tryz.func112, Tryz.ntmps112
    go_wp2_with fail
    refine HV.out.mono ?_
    rintro e w1 ⟨rfl, hb⟩
    have HB := Lib.hid hb; clear hb HV
    have hsz := HB.out.size
    go_wp2_with fail
    go_loopg [4] s.size (fun gf v wx => ∃ pos n : Nat, ∃ xs : List Value, wx.heap[w1.heap.size]? = some (.stringIter s pos) ∧ wx.ownsRow (w1.heap.size + 1) 3 1 v n xs ∧ n ≤ pos ∧ Below w.heap.size w wx ∧ s.size ≤ pos + gf)
    case atStart => exact ⟨0, 0, [], World.iter_heap w1 s 0, World.ownsRow_nil _ _ _ _, Nat.le_refl _, HB.out.alloc hsz _, by omega⟩
    case round =>
      obtain ⟨pos, n, xs, hit, hown, hn, hbw, hfu⟩ := hrel
      have HO := Lib.hid hown; have HBW := Lib.hid hbw; have HIT := Lib.hid hit
      clear hown hbw
      by_cases hps : pos < s.size
      · obtain ⟨g', rfl⟩ : ∃ g', gk = g' + 1 := ⟨gk - 1, by omega⟩
        have hnx : ∀ ty, (Instr.next (.pointer (some ⟨w1.heap.size, 0, none⟩)) true ty).run Tryz.prog wr = _ := fun ty => Lib.run_next_any_at wr w1.heap.size s pos ty hit hps
        have hwd := Lib.width_pos s pos
        have hrl := Lib.rune_le s pos
        obtain ⟨R, hR⟩ : ∃ R, (Utf8.decode s pos).1 = R := ⟨_, rfl⟩
        obtain ⟨K, hK⟩ : ∃ K, (Utf8.decode s pos).2 = K := ⟨_, rfl⟩
        rw [hR, hK] at hnx
        rw [hK] at hwd
        rw [hR] at hrl
        have hit2 := Lib.iterAt_heap wr w1.heap.size s pos (pos + K) hit
        have hbw2 := Lib.below_iterAt HBW.out (k := w1.heap.size) hsz s (pos + K)
        have hown2 : (wr.iterAt w1.heap.size s (pos + K)).ownsRow (w1.heap.size + 1) 3 1 u4 n xs := HO.out.kept (row := some w1.heap.size) ⟨rfl, rfl, rfl, by rw [Lib.iterAt_size]; exact Nat.le_refl _, fun k _ hne => Lib.iterAt_other wr w1.heap.size k s (pos + K) (fun e => hne (by rw [e]))⟩ (by
          cases hv : Value.ownBlock u4 with
          | none => exact .inl rfl
          | some q => exact .inr (by have := (HO.out.lt q hv).1; simp; omega))
        obtain ⟨W, hW⟩ : ∃ W, wr.iterAt w1.heap.size s (pos + K) = W := ⟨_, rfl⟩
        rw [hW] at hnx hit2 hbw2 hown2
        clear hR hK hit HIT HO HBW hW
        have HO2 := Lib.hid hown2; have HB2 := Lib.hid hbw2; have HI2 := Lib.hid hit2
        clear hown2 hbw2 hit2
        have hw2 : IntKind.i64.wrap (R : Int) = (R : Int) := IntWalk.i64_in _ (by omega)
        have hlt : w1.heap.size < W.heap.size := (Array.getElem?_eq_some_iff.1 HI2.out).1
        go_wp2_with (first
          | (at_builtin; go_loud (refine wpList_append_own _ (by rfl) _ _ _ (by rfl) (w1.heap.size + 1) 3 i0 _ 1 8 Tryz.underlying27 HI.out hz0 hz1 hz2 rfl (by omega) _ n xs (by rfl) (HO2.out.alloc _) ⟨W.heap.size, 0, none⟩ 1 1 [.int .i64 (R : Int)] (by rfl) (by rfl) (World.news_of_block (cs := #[.int .i64 (R : Int)]) (t := 3) (fr := (0, 0)) (heap_alloc_new W _)) (by simp [Value.oneCell']) (by unfold maxLen; omega) (by omega) (by simp; omega) ?_))
          | fail)
        intro v' w3 hown3 hgrow3 _
        have hb3 : Below w.heap.size w w3 := (HB2.out.alloc HB2.out.size _).grown hgrow3 (by have := HB2.out.size; simp; omega) (fun q hq => by have := (HO2.out.lt q hq).1; omega)
        have hit3 : w3.heap[w1.heap.size]? = some (.stringIter s (pos + K)) := by
          rw [hgrow3.block _ (by simp; omega) (fun e => by have := (HO2.out.lt _ e.symm).1; omega), Below.heap_alloc W _ _ hlt]
          exact HI2.out
        have H3 := Lib.hid hown3; have HB3 := Lib.hid hb3; have HI3 := Lib.hid hit3
        clear hown3 hgrow3 hb3 hit3
        go_wp2_with fail
        go_roundg g'
        case measure => omega
        case rel => exact ⟨pos + K, n + 1, _, HI3.out, H3.out, by omega, HB3.out, by omega⟩
      · have hnx : ∀ ty, (Instr.next (.pointer (some ⟨w1.heap.size, 0, none⟩)) true ty).run Tryz.prog wr = _ := fun ty => Lib.run_next_end_at wr w1.heap.size s pos ty hit hps
        go_wp2_with fail
        go_ret2
        exact ⟨⟨_, rfl⟩, HBW.out⟩

theorem and127 (x : Nat) (hx : x < 2147483648) : bits .and .i32 (x : Int) 127 % 256 = ((x % 128 : Nat) : Int) := by
  have h := bits_mask .i32 31 (by decide) wraps_i32 7 (by decide) (x : Int) (by omega) (by omega)
  have e : ((2 : Int) ^ 7 - 1) = 127 := by decide
  have e2 : ((2 : Int) ^ 7) = 128 := by decide
  rw [e, e2] at h
  rw [h]; omega
theorem idx_form (x : Nat) : Lib.indexByte (⟨#[123, 125, 34, 60, 62, 38, 92]⟩ : ByteArray).data.toList ((x : Int) % 128).toNat.toUInt8 = Lib.indexByte [123, 125, 34, 60, 62, 38, 92] (UInt8.ofNat (x % 128)) := by
  rw [show ((x : Int) % 128).toNat = x % 128 by omega]
theorem odd_small : ∀ y : Fin 128, 33 ≤ y.val → oddR y.val = decide (0 ≤ Lib.indexByte [123, 125, 34, 60, 62, 38, 92] (UInt8.ofNat y.val)) := by decide +kernel
theorem odd_idx (x : Nat) : 33 ≤ x → oddR x = (decide (0 ≤ Lib.indexByte [123, 125, 34, 60, 62, 38, 92] (UInt8.ofNat (x % 128))) && decide (x < 128)) := by
  intro h
  by_cases h1 : x < 128
  · have := odd_small ⟨x, h1⟩ h
    rw [Nat.mod_eq_of_lt h1]
    simp only [] at this
    rw [this]; simp [h1]
  · rw [oddR_big x (by omega)]; simp [h1]
set_option maxRecDepth 1000000 in
set_option maxHeartbeats 2000000 in
theorem odd_any (x : Nat) (w : World) (hx : x ≤ 1114111) :
    Calls Tryz.prog 148 #[.int .i32 (x : Int)] w fun e w' => e = .returned (.bool (oddR x)) ∧ Below w.heap.size w w' := by
  by_cases h33 : (x : Int) < 33
  · have ho : oddR x = true := by simp [oddR]; omega
    have HO := Lib.hid ho; clear ho
    go_enter Tryz.func148, Tryz.ntmps148
    go_wp2_with fail
    go_ret
    exact ⟨by rw [HO.out]; rfl, Below.refl _ _⟩
  · have hand := and127 x (by omega)
    have hix := odd_idx x
    have HO := Lib.hid hix; clear hix
    obtain ⟨I, hI⟩ : ∃ I, Lib.indexByte [123, 125, 34, 60, 62, 38, 92] (UInt8.ofNat (x % 128)) = I := ⟨_, rfl⟩
    rw [hI] at HO
    have HII := Lib.hid hI; clear hI
    by_cases hI0 : 0 ≤ I
    · by_cases h128 : (x : Int) < 128
      · have hr : oddR x = true := by rw [HO.out (by omega)]; simp [hI0]; omega
        have HR := Lib.hid hr; clear hr
        go_enter Tryz.func148, Tryz.ntmps148
        go_wp2_with fail
        refine (Tryz.strings_IndexByte _ _ _).mono ?_
        rintro e w' ⟨rfl, rfl⟩
        rw [idx_form x, HII.out]
        go_wp2_with fail
        go_ret
        exact ⟨by rw [HR.out]; rfl, Below.refl _ _⟩
      · have hr : oddR x = false := by rw [HO.out (by omega)]; simp; omega
        have b128 : decide ((x : Int) < 128) = false := decide_eq_false h128
        have HR := Lib.hid hr; clear hr
        go_enter Tryz.func148, Tryz.ntmps148
        go_wp2_with fail
        refine (Tryz.strings_IndexByte _ _ _).mono ?_
        rintro e w' ⟨rfl, rfl⟩
        rw [idx_form x, HII.out]
        go_wp2_with fail
        go_ret
        exact ⟨by rw [HR.out]; rfl, Below.refl _ _⟩
    · have hr : oddR x = false := by rw [HO.out (by omega)]; simp [hI0]
      have HR := Lib.hid hr; clear hr
      go_enter Tryz.func148, Tryz.ntmps148
      go_wp2_with fail
      refine (Tryz.strings_IndexByte _ _ _).mono ?_
      rintro e w' ⟨rfl, rfl⟩
      rw [idx_form x, HII.out]
      go_wp2_with fail
      go_ret
      exact ⟨by rw [HR.out]; rfl, Below.refl _ _⟩

theorem odd_grows (w : World) : PredGrows Tryz.prog 148 #[] oddR w := fun W x hx _ => odd_any x W hx
theorem enters_odd : ∀ args w, (callFunc 148 args).run Tryz.prog w = .ok (.enter 148 args) w := enters_of Tryz.func148 (by kernel_rfl) rfl

set_option maxRecDepth 1000000 in
set_option maxHeartbeats 2000000 in
theorem space_any (s : ByteArray) (w : World) (hE : EnvU w) (hs : s.size ≤ 1048576) :
    Calls Tryz.prog 124 #[.string s] w fun e w' => e = .returned (.bool (spaceP s.data.toList)) ∧ Below w.heap.size w w' := by
  have cR := runes_any s w hE hs
  have HV := Lib.hid cR; clear cR hE
  have hlen : s.data.toList.length = s.size := by rw [Array.length_toList]; rfl
  have hsp : spaceP s.data.toList = (Lib.validD s.data.toList && decide (1 ≤ s.size ∧ s.size ≤ 48) && !s.data.toList.any oddB) := by unfold spaceP; rw [hlen]
  have HS := Lib.hid hsp; clear hsp hlen
  have hodd := space_idx s
  have HD := Lib.hid hodd; clear hodd
  cases hv : Lib.validD s.data.toList
  · rw [hv] at HV HS
    clear hv
    go_enter Tryz.func124, Tryz.ntmps124
    go_wp2_with fail
    refine HV.out.mono ?_
    rintro e w1 ⟨⟨v, rfl⟩, hb⟩
    go_wp2_with fail
    go_ret
    exact ⟨by rw [HS.out]; rfl, hb⟩
  · rw [hv] at HV HS
    have HD2 := Lib.hid (HD.out hv)
    clear hv HD
    by_cases h0 : s.size = 0
    · have he : s.toList.isEmpty = true := by rw [ByteArray.toList_eq]; cases h : s.data.toList with | nil => rfl | cons x y => have := congrArg List.length h; rw [Array.length_toList] at this; simp at this; have h2 : s.data.size = s.size := rfl; omega
      have hr := HS.out.trans (show _ = false by simp [h0])
      have HR := Lib.hid hr; clear hr h0
      go_enter Tryz.func124, Tryz.ntmps124
      go_wp2_with fail
      refine HV.out.mono ?_
      rintro e w1 ⟨⟨v, rfl⟩, hb⟩
      go_wp2_with fail
      go_ret
      exact ⟨by rw [HR.out]; rfl, hb⟩
    · have he : s.toList.isEmpty = false := by rw [ByteArray.toList_eq]; cases h : s.data.toList with | nil => exact absurd (by have h2 : s.data.size = s.size := rfl; rw [← h2, ← Array.length_toList, h]; rfl) h0 | cons x y => rfl
      by_cases h48 : (s.size : Int) ≤ 48
      · have hr := HS.out.trans (show _ = (!s.data.toList.any oddB) by rw [decide_eq_true (by omega)]; simp)
        have HR := Lib.hid hr; clear hr h0 HS
        go_enter Tryz.func124, Tryz.ntmps124
        go_wp2_with fail
        refine HV.out.mono ?_
        rintro e w1 ⟨⟨v, rfl⟩, hb⟩
        have HB := Lib.hid hb; clear hb HV
        go_wp2_with fail
        refine (Tryz.strings_ContainsFunc_grows _ _ enters_odd oddR s _ (odd_grows _)).mono ?_
        rintro e w2 ⟨rfl, hb2⟩
        rw [HD2.out]
        have HB2 := Lib.hid (below_then HB.out hb2); clear hb2
        cases hany : s.data.toList.any oddB
        · rw [hany] at HR; clear hany
          go_wp2_with fail
          go_ret
          exact ⟨by rw [HR.out]; rfl, HB2.out⟩
        · rw [hany] at HR; clear hany
          go_wp2_with fail
          go_ret
          exact ⟨by rw [HR.out]; rfl, HB2.out⟩
      · have hr := HS.out.trans (show _ = false by rw [decide_eq_false (by omega)]; simp)
        have HR := Lib.hid hr; clear hr h0 HS
        go_enter Tryz.func124, Tryz.ntmps124
        go_wp2_with fail
        refine HV.out.mono ?_
        rintro e w1 ⟨⟨v, rfl⟩, hb⟩
        go_wp2_with fail
        go_ret
        exact ⟨by rw [HR.out]; rfl, hb⟩

end Go.Proofs.YtaolnpiemeaabaaGreatDoor
