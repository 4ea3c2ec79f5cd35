/- The walk of the law EventsGoes. -/
import Derived.Test.YtgipodgcenkckaaGreatDoorEvT
import Derived.Deep.DeepCutAuto
import Derived.Deep.CutBlock
namespace Go.Proofs.YtgipodgcenkckaaGreatDoor
open Go.RowKit Ev5
set_option linter.unusedSimpArgs false
set_option linter.unusedVariables false

def nullE : GoEv := ⟨1, ⟨#[]⟩, ⟨#[]⟩⟩
theorem nullE_ok : EvOK nullE := ok_lit 1 _ (by decide) (show (0 : Nat) ≤ 1048576 by decide)
theorem RP_null : RP ⟨1, [], []⟩ = true := rfl
theorem RP_end (k : Int) (h : ends k = true) : RP ⟨k, [], []⟩ = true := right_end _ k h
/-- The taken events, in memory and as they are. -/
structure Had (w0 w : World) (base : Nat) (v : Value) (had : List GoEv) (st : St) : Prop where
  own : EvOwn w base v had
  ok : ∀ x ∈ had, EvOK x
  tk : Tk RP st (had.map GoEv.ev)
  bel : Below w0.heap.size w0 w
theorem Had.below {w0 w w' : World} {base : Nat} {v : Value} {had : List GoEv} {st : St} (h : Had w0 w base v had st) (hb : Below w.heap.size w w') : Had w0 w' base v had st :=
  ⟨h.own.below hb, h.ok, h.tk, below_then h.bel hb⟩
theorem Had.kind {w0 w : World} {base : Nat} {v : Value} {had : List GoEv} {st : St} (h : Had w0 w base v had st) (hl : had.length ≤ 1048576) (i : Nat) (hi : i < had.length) : ∃ g cap, v = .slice (some ⟨g, 0, none⟩) had.length cap ∧ w.cell? ⟨g, i * 3, none⟩ = some (.int .i64 had[i].k) ∧ g < w.heap.size ∧ had.length ≤ cap := by
  obtain ⟨ao, cap, e, hc, _, hh⟩ := (h.own.evIn h.ok hl).ex
  obtain ⟨b, o, e2, c0, _, _⟩ := hh i hi
  rcases h.own.2 with ⟨e3, h0⟩ | ⟨g, cap', cur, e3, hb, hg, hc', hm, hs, ht⟩
  · omega
  · rw [e3] at e
    injection e with e4 e5 e6
    rw [e2] at e4
    injection e4 with e4
    injection e4 with e7 e8
    subst e7; subst e8
    exact ⟨g, cap', e3, by simpa using c0, cell_lt c0, hc'⟩
theorem Had.shape {w0 w : World} {base : Nat} {v : Value} {had : List GoEv} {st : St} (h : Had w0 w base v had st) : ∃ a cap, v = .slice a had.length cap := by
  rcases h.own.2 with ⟨e3, h0⟩ | ⟨g, cap', cur, e3, _⟩
  · exact ⟨none, 0, by rw [e3, h0]⟩
  · exact ⟨_, _, e3⟩
/-- Behind an append of an event. -/
theorem Had.snoc {w0 w w' : World} {base : Nat} {v v' : Value} {had : List GoEv} {st st' : St} (h : Had w0 w base v had st) (x : GoEv) (hx : EvOK x) (hbase : w0.heap.size ≤ base) (hbw : base ≤ w.heap.size)
    (hown : w'.ownsRow base 28 3 v' (had.length + 1) (evRow had ++ evL x)) (hg : (w.alloc (.cells #[.int .i64 x.k, .string x.t, .string x.v] 28)).grownBy w' v.ownBlock) (htk : Tk RP st' (had.map GoEv.ev ++ [x.ev])) : Had w0 w' base v' (had ++ [x]) st' := by
  refine ⟨?_, fun y hy => ?_, by rw [List.map_append]; exact htk, ?_⟩
  · show World.ownsRow _ _ _ _ _ _ _
    rw [evRow_snoc, List.length_append]; exact hown
  · rcases List.mem_append.1 hy with hy | hy
    · exact h.ok y hy
    · simp at hy; subst hy; exact hx
  · exact (h.bel.alloc h.bel.size _).grown hg (by have := h.bel.size; simp; omega) (fun q hq => by have := (h.own.lt q hq).1; omega)

theorem Had.last {w0 w : World} {base : Nat} {v : Value} {had : List GoEv} {st : St} (h : Had w0 w base v had st) (hl : had.length ≤ 1048576) {m : Nat} (hm : had.length = m + 1) : ∃ g cap q, v = .slice (some ⟨g, 0, none⟩) (m + 1) cap ∧ w.cell? ⟨g, m * 3, none⟩ = some (.int .i64 q) ∧ g < w.heap.size ∧ m + 1 ≤ cap ∧
    ∃ e, (had.map GoEv.ev).getLast? = some e ∧ e.kind = q := by
  obtain ⟨g, cap, e, c0, hg, hc⟩ := h.kind hl m (by omega)
  refine ⟨g, cap, (had[m]'(by omega)).k, by rw [e, hm], c0, hg, by omega, (had[m]'(by omega)).ev, ?_, rfl⟩
  rw [List.getLast?_map, List.getLast?_eq_getElem?, show had.length - 1 = m by omega, List.getElem?_eq_getElem (by omega)]
  rfl
theorem closeOf_cases {k : Int} (h : k = 5 ∨ k = 7 ∨ k = 10) : closeOf k = 6 ∨ closeOf k = 9 ∨ closeOf k = 12 := by rcases h with rfl | rfl | rfl <;> decide
theorem end_ok {k : Int} (h : k = 6 ∨ k = 9 ∨ k = 12) : EvOK ⟨k, ⟨#[]⟩, ⟨#[]⟩⟩ := ok_lit k _ (by rcases h with rfl | rfl | rfl <;> decide) (show (0 : Nat) ≤ 1048576 by decide)
/-- An append to a row of events: how the walk goes over it. -/
theorem ev_len (had : List GoEv) (h : had.length ≤ 200) : had.length + 1 ≤ maxLen ∧ (had.length + 1) * 40 ≤ 140737488355328 := by unfold maxLen; omega

set_option maxRecDepth 100000 in
set_option maxHeartbeats 8000000 in
theorem goes_walk (v : Value) (l : List GoEv) (w : World) (hE : EnvU w) (hin : EvIn w v l) :
    Calls Tryz.prog 6 #[v] w fun e w' => e = .returned (.bool true) ∧ Below w.heap.size w w' := by
  have HE := Lib.hid hE
  have HIN := Lib.hid hin
  obtain ⟨ao, cap, rfl, hcap, hcm, hcells⟩ := hin.ex
  have HC := Lib.hid hcells
  have hlen := hin.len
  clear hE hin hcells
  obtain ⟨i0, hi, hz0, hz1, hz2⟩ := info_parts infoE
  have HI := Lib.hid hi; clear hi
  go_enter Tryz.func6, Tryz.ntmps6
  go_wp2_with fail
  refine (new_any _).mono ?_
  rintro e w1 ⟨rfl, hb, hc⟩
  have HB1 := Lib.hid hb; have HC1 := Lib.hid hc; clear hb hc
  go_upto_block 0 with fail
  go_cut [4] (fun u wc => ∃ (vh : Value) (had : List GoEv) (st : St), vh = u ∧ had.length ≤ 120 ∧ Hid (Had w wc w.heap.size vh had st))
  case first =>
    go_wp2_with fail
    go_loopw [4, 5] (fun u vi wr => ∃ (k : Nat) (v' : Value) (ps : List (Nat × Nat)) (st : St) (had : List GoEv), k ≤ l.length ∧ k ≤ 120 ∧ vi = .int .i64 k ∧ had.length ≤ k ∧ Hid (Chk wr w.heap.size w.heap.size v' ps st) ∧ Hid (Had w wr w.heap.size u had st))
      (fun _ vi _ => l.length - (intOf vi).toNat)
    case atStart => exact ⟨0, _, _, _, [], Nat.zero_le _, Nat.zero_le _, rfl, Nat.le_refl _, HC1.out, ⟨World.ownsRow_nil _ _ _ _, by simp, tk_new _, HB1.out⟩⟩
    case round =>
      obtain ⟨k, v', ps, st, had, hk, hk120, rfl, hhk, HCk, HH⟩ := hrel
      by_cases hgo : k < l.length ∧ k < 120
      · obtain ⟨hlt, h120⟩ := hgo
        have h120' : (k : Int) < 120 := by omega
        obtain ⟨b, o, hao, c0, c1, c2⟩ := HC.out k hlt
        subst hao
        have hbl : b < w.heap.size := cell_lt c0
        obtain ⟨x, hx⟩ : ∃ x, l[k] = x := ⟨_, rfl⟩
        rw [hx] at c0 c1 c2
        have hmem : x ∈ l := by rw [← hx]; exact List.getElem_mem hlt
        have HOK := Lib.hid (HIN.out.ok x hmem)
        clear hx hmem
        have HCW := Lib.hid (show ∀ w' : World, Below w.heap.size w w' → w'.cell? ⟨b, o + k * 3, none⟩ = some (.int .i64 x.k) ∧ w'.cell? ⟨b, o + k * 3 + 1, none⟩ = some (.string x.t) ∧ w'.cell? ⟨b, o + k * 3 + 2, none⟩ = some (.string x.v) ∧ b < w'.heap.size from fun w' hb =>
          ⟨by rw [hb.cell (p := ⟨b, o + k * 3, none⟩) hbl]; exact c0, by rw [hb.cell (p := ⟨b, o + k * 3 + 1, none⟩) hbl]; exact c1, by rw [hb.cell (p := ⟨b, o + k * 3 + 2, none⟩) hbl]; exact c2, by have := hb.size; omega⟩)
        clear c0 c1 c2
        obtain ⟨d0, d1, d2, d3⟩ := HCW.out wr HH.out.bel
        go_wp2_with fail
        refine (go_step _ (HE.out.below HH.out.bel) HCk.out HH.out.tk.inv.deep x HOK.out).mono ?_
        rintro e w2 ⟨rfl, ⟨v2, ps2, hc⟩, hm⟩
        have HC2 := Lib.hid hc
        have HM := Lib.hid hm
        clear hc hm d0 d1 d2 d3
        by_cases hz : (stepP RP st x.ev).2 = 0
        · have HTK := Lib.hid (HH.out.tk.step hz)
          have hH2 : Had w w2 w.heap.size u4 had st := ⟨HH.out.own.keeps HM.out.keep, HH.out.ok, HH.out.tk, HH.out.bel.trans HM.out.bel⟩
          have HH2 := Lib.hid hH2; clear hH2
          obtain ⟨d0, d1, d2, d3⟩ := HCW.out w2 HH2.out.bel
          obtain ⟨n1, n2⟩ := ev_len had (by omega)
          have HO2 := Lib.hid HH2.out.own
          have hsz := HH2.out.bel.size
          rw [hz]
          clear hz
          go_wp2_with (first
            | (at_builtin; refine wpList_append_own _ (by rfl) _ _ _ (by rfl) w.heap.size 28 i0 _ 3 40 Tryz.underlying22 HI.out hz0 hz1 hz2 rfl (by omega) _ had.length _ (by rfl) (HO2.out.alloc _) ⟨w2.heap.size, 0, none⟩ 1 1 (evL x) (by rfl) (by rfl) ev_news ev_one n1 n2 (by simp; omega) ?_)
            | fail)
          intro v3 w3 hown3 hgrow3 _
          have hH3 := HH2.out.snoc x HOK.out (Nat.le_refl _) hsz hown3 hgrow3 HTK.out
          have hc3 := (HC2.out.below ((Below.refl _ _).alloc (Nat.le_refl _) _)).aside (HO2.out.alloc _) hgrow3
          have HH3 := Lib.hid hH3; have HC3 := Lib.hid hc3
          clear hown3 hgrow3 hH3 hc3
          go_wp2_with fail
          go_roundw
          case rel => exact ⟨k + 1, v2, ps2, _, had ++ [x], by omega, by omega, by go_num, by simp; omega, HC3.out, HH3.out⟩
          case measure => simp [intOf]; omega
        · have hs := HH.out.tk.same hz
          rw [hs] at HC2
          have hH2 : Had w w2 w.heap.size u4 had st := ⟨HH.out.own.keeps HM.out.keep, HH.out.ok, HH.out.tk, HH.out.bel.trans HM.out.bel⟩
          have HH2 := Lib.hid hH2; clear hH2
          obtain ⟨E, hE⟩ : ∃ E, (stepP RP st x.ev).2 = E := ⟨_, rfl⟩
          rw [hE] at hz
          rw [hE]
          have hzb : (E == 0) = false := by simp [hz]
          clear hE hz hs
          go_wp2_with fail
          go_roundw
          case rel => exact ⟨k + 1, v2, ps2, st, had, by omega, by omega, by go_num, by omega, HC2.out, HH2.out⟩
          case measure => simp [intOf]; omega
      · have hh : had.length ≤ 120 := by omega
        by_cases hlt : (k : Int) < l.length
        · have h120 : k = 120 := by omega
          subst h120
          clear hgo hhk hk hk120
          go_wp2
          go_meet
          case rel => exact ⟨_, had, st, rfl, hh, HH⟩
        · clear hgo hhk hk hk120
          go_wp2
          go_meet
          case rel => exact ⟨_, had, st, rfl, hh, HH⟩
  case rest =>
  obtain ⟨vh, had, st, rfl, hh, HH⟩ := hcut
  clear hcap hcm hlen HC HIN HB1 HC1
  go_upto_region 10 with (fail)
  go_cut [51] (fun u wx => ∃ (B : Bool) (W : World), u = .bool B ∧ W = wx ∧ Hid (Had w W w.heap.size vh had st) ∧ Hid (B = true ↔ ∃ e, (had.map GoEv.ev).getLast? = some e ∧ e.kind = 8))
  case first =>
    by_cases h0 : had.length = 0
    · obtain rfl : had = [] := List.eq_nil_of_length_eq_zero h0
      obtain ⟨a, cap', rfl⟩ := HH.out.shape
      simp only [List.length_nil] at HH ⊢
      clear h0 hh
      go_wp2
      go_meet
      case rel => exact ⟨false, _, rfl, rfl, HH, (show (false = true ↔ _) by simp)⟩
    · obtain ⟨m, hm⟩ : ∃ m, had.length = m + 1 := ⟨had.length - 1, by omega⟩
      obtain ⟨g, cap', q, rfl, c0, hg, hc, hq⟩ := HH.out.last (by omega) hm
      have HQ := Lib.hid hq
      have hm2 : m ≤ 120 := by omega
      clear hq h0 hh hm
      by_cases h8 : q = 8
      · subst h8
        go_wp2
        go_meet
        case rel => exact ⟨true, _, rfl, rfl, HH, fun _ => HQ.out, fun _ => rfl⟩
      · have h8b : (q == 8) = false := by simp [h8]
        have H8 := Lib.hid h8; clear h8
        go_wp2
        go_meet
        case rel => exact ⟨false, _, rfl, rfl, HH, by simp, fun h => by obtain ⟨e, h1, h2⟩ := h; obtain ⟨e', h3, h4⟩ := HQ.out; rw [h3] at h1; injection h1 with h1; subst h1; exact absurd (h4.symm.trans h2) H8.out⟩
  case rest =>
  obtain ⟨B, W, rfl, rfl, HH, HB8⟩ := hcut
  go_upto_if 51 with (fail)
  go_cut [4] (fun u wx => ∃ (v1 : Value) (had1 : List GoEv) (st1 : St) (W : World), v1 = u ∧ W = wx ∧ had1.length ≤ 121 ∧ Hid (Had w W w.heap.size v1 had1 st1) ∧ Hid (had1 ≠ [] → Ev5.Calm st1))
  case first =>
    cases B
    · go_wp2
      go_meet
      case rel => exact ⟨_, had, st, _, rfl, rfl, by omega, HH, fun _ => HH.out.tk.calm fun e he h8 => by have := HB8.out.2 ⟨e, he, h8⟩; cases this⟩
    · have HN := Lib.hid (HH.out.tk.null_calm RP_null (.inr (HB8.out.1 rfl)))
      obtain ⟨n1, n2⟩ := ev_len had (by omega)
      have HO2 := Lib.hid HH.out.own
      have hsz := HH.out.bel.size
      go_wp2_with (first
        | (at_builtin; refine wpList_append_own _ (by rfl) _ _ _ (by rfl) w.heap.size 28 i0 _ 3 40 Tryz.underlying22 HI.out hz0 hz1 hz2 rfl (by omega) _ had.length _ (by rfl) (HO2.out.alloc _) ⟨W.heap.size, 0, none⟩ 1 1 (evL nullE) (by rfl) (by rfl) (ev_news (x := nullE)) ev_one n1 n2 (by simp; omega) ?_)
        | fail)
      intro v3 w3 hown3 hgrow3 _
      have hH3 := HH.out.snoc nullE nullE_ok (Nat.le_refl _) hsz hown3 hgrow3 HN.out.1
      have HH3 := Lib.hid hH3
      clear hown3 hgrow3 hH3
      go_wp2
      go_meet
      case rel => exact ⟨_, had ++ [nullE], _, _, rfl, rfl, by simp; omega, HH3, fun _ => HN.out.2⟩
  case rest =>
  obtain ⟨v1, had1, st1, W1, rfl, rfl, hh1, HH1, HCm1⟩ := hcut
  clear HH HB8
  go_upto_region 12 with (fail)
  go_cut [58] (fun u wx => ∃ (B : Bool) (W : World), u = .bool B ∧ W = wx ∧ Hid (Had w W w.heap.size v1 had1 st1) ∧ Hid (B = true ↔ had1 = []))
  case first =>
    obtain ⟨a, cap', rfl⟩ := HH1.out.shape
    by_cases h0 : had1 = []
    · subst h0
      simp only [List.length_nil] at HH1 ⊢
      go_wp2
      go_meet
      case rel => exact ⟨true, _, rfl, rfl, HH1, (show (true = true ↔ _) by simp)⟩
    · have hpos : 0 < had1.length := List.length_pos_iff.2 h0
      have hb0 : ((had1.length : Int) == 0) = false := by simp; omega
      have H0 := Lib.hid h0; clear h0
      go_wp2
      go_meet
      case rel => exact ⟨false, _, rfl, rfl, HH1, (show (false = true ↔ _) by simpa using H0.out)⟩
  case rest =>
  obtain ⟨B, W, rfl, rfl, HH2, HBn⟩ := hcut
  go_upto_if 58 with (fail)
  go_cut [4] (fun u wx => ∃ (v1 : Value) (had1 : List GoEv) (st1 : St) (W : World), v1 = u ∧ W = wx ∧ had1.length ≤ 122 ∧ had1 ≠ [] ∧ Hid (Had w W w.heap.size v1 had1 st1) ∧ Hid (Ev5.Calm st1))
  case first =>
    cases B
    · go_wp2
      go_meet
      case rel => exact ⟨_, had1, st1, _, rfl, rfl, by omega, (fun h => by have := HBn.out.2 h; cases this), HH2, HCm1.out (fun h => by have := HBn.out.2 h; cases this)⟩
    · have HN := Lib.hid (HH2.out.tk.null_calm RP_null (.inl (by rw [HBn.out.1 rfl]; rfl)))
      obtain ⟨n1, n2⟩ := ev_len had1 (by omega)
      have HO2 := Lib.hid HH2.out.own
      have hsz := HH2.out.bel.size
      go_wp2_with (first
        | (at_builtin; refine wpList_append_own _ (by rfl) _ _ _ (by rfl) w.heap.size 28 i0 _ 3 40 Tryz.underlying22 HI.out hz0 hz1 hz2 rfl (by omega) _ had1.length _ (by rfl) (HO2.out.alloc _) ⟨W.heap.size, 0, none⟩ 1 1 (evL nullE) (by rfl) (by rfl) (ev_news (x := nullE)) ev_one n1 n2 (by simp; omega) ?_)
        | fail)
      intro v3 w3 hown3 hgrow3 _
      have hH3 := HH2.out.snoc nullE nullE_ok (Nat.le_refl _) hsz hown3 hgrow3 HN.out.1
      have HH3 := Lib.hid hH3
      clear hown3 hgrow3 hH3
      go_wp2
      go_meet
      case rel => exact ⟨_, had1 ++ [nullE], _, _, rfl, rfl, by simp; omega, by simp, HH3, HN.out.2⟩
  case rest =>
  obtain ⟨v2, had2, st2, W2, rfl, rfl, hh2, hne2, HH3, HCm2⟩ := hcut
  clear HH1 HCm1 HH2 HBn hh hh1
  go_wp2_with fail
  go_loopw [4, 6] (fun u vk wr => ∃ (k : Nat) (vh : Value) (had : List GoEv) (st : St), vh = u ∧ vk = .int .i64 k ∧ k + st.opn.length ≤ 6 ∧ had.length ≤ 122 + k ∧ had ≠ [] ∧ Hid (Had w wr w.heap.size vh had st) ∧ Hid (Ev5.Calm st))
    (fun _ vk _ => 7 - (intOf vk).toNat)
  case atStart => exact ⟨0, _, had2, st2, rfl, rfl, by have := HH3.out.tk.inv.deep; omega, by omega, hne2, HH3, HCm2⟩
  case round =>
    obtain ⟨k, vh, had, st, rfl, rfl, hk, hhk, hne, HH, HCm⟩ := hrel
    have hk6 : k ≤ 6 := by omega
    have hk7 : (k : Int) < 7 := by omega
    have HLE := Lib.hid (show had.length ≤ 1048576 by omega)
    have HEV := Lib.hid (HH.out.own.evIn HH.out.ok HLE.out)
    have HNE := Lib.hid hne; clear hne
    go_wp2_with fail
    refine (at_any _ _ had HEV.out).mono ?_
    rintro e w2 ⟨rfl, hb⟩
    have HH2 := Lib.hid (HH.out.below hb)
    clear hb
    rcases HH2.out.tk.at_ with ⟨hs, ho⟩ | ⟨i, s, lo, r, hs, ho, hi, hkd, hkc, hsr⟩
    · rw [hs]
      have hw := HH2.out.tk.whole (by simpa using HNE.out) ho
      rw [List.length_map] at hw
      have HW := Lib.hid hw
      have HEV2 := Lib.hid (HH2.out.own.evIn HH2.out.ok HLE.out)
      obtain ⟨a, cap', rfl⟩ := HH2.out.shape
      clear hs ho hw
      rw [show headI [] = -1 from rfl, List.length_nil]
      go_wp2_with fail
      refine (whole_any _ (HE.out.below HH2.out.bel) _ had HEV2.out).mono ?_
      rintro e w3 ⟨rfl, hb⟩
      rw [HW.out]
      have HB3 := Lib.hid (below_then HH2.out.bel hb); clear hb
      go_wp2_with fail
      refine (evlives_any _ (HE.out.below HB3.out)).mono ?_
      rintro e w4 ⟨rfl, hb⟩
      have HB4 := Lib.hid (below_then HB3.out hb); clear hb
      go_wp2_with fail
      go_ret
      exact ⟨rfl, HB4.out⟩
    · rw [hs]
      rw [List.length_map] at hi
      obtain ⟨g, cap', rfl, c0, hg, hc⟩ := HH2.out.kind HLE.out i hi
      have hki : had[i].k = lo.kind := by
        rw [hkd]; unfold kindAt; rw [List.getElem?_map, List.getElem?_eq_getElem hi]; rfl
      rw [hki] at c0
      have HCL := Lib.hid (HH2.out.tk.close RP_end HCm.out ho)
      obtain ⟨n1, n2⟩ := ev_len had (by omega)
      have HO2 := Lib.hid HH2.out.own
      have hsz := HH2.out.bel.size
      have hop : st.opn.length = r.length + 1 := by rw [ho]; rfl
      have hk2 : (k + 1) + r.length ≤ 6 := by omega
      have hi0 : (0 : Int) ≤ (i : Int) := Int.natCast_nonneg _
      have hi1 : (i : Int) < (had.length : Int) := by omega
      have hi2 : i ≤ 1048576 := by have := HLE.out; omega
      rw [show headI (i :: s) = (i : Int) from rfl]
      have HKC := Lib.hid (end_ok (closeOf_cases hkc))
      clear hs ho hkd hki hsr hop
      obtain ⟨q, hq⟩ : ∃ q, lo.kind = q := ⟨_, rfl⟩
      rw [hq] at c0 HCL HKC hkc
      clear hq
      rcases hkc with rfl | rfl | rfl
      · have HK2 := Lib.hid (show EvOK ⟨6, ⟨#[]⟩, ⟨#[]⟩⟩ from HKC.out)
        have HT2 := Lib.hid (show Tk RP ⟨r, st.over⟩ (had.map GoEv.ev ++ [GoEv.ev ⟨6, ⟨#[]⟩, ⟨#[]⟩⟩]) from HCL.out.1)
        go_wp2_with (first
          | (at_builtin; refine wpList_append_own _ (by rfl) _ _ _ (by rfl) w.heap.size 28 i0 _ 3 40 Tryz.underlying22 HI.out hz0 hz1 hz2 rfl (by omega) _ had.length _ (by rfl) (HO2.out.alloc _) ⟨w2.heap.size, 0, none⟩ 1 1 (evL ⟨6, ⟨#[]⟩, ⟨#[]⟩⟩) (by rfl) (by rfl) (ev_news (x := ⟨6, ⟨#[]⟩, ⟨#[]⟩⟩)) ev_one n1 n2 (by simp; omega) ?_)
          | fail)
        intro v3 w3 hown3 hgrow3 _
        have hH3 := HH2.out.snoc ⟨6, ⟨#[]⟩, ⟨#[]⟩⟩ HK2.out (Nat.le_refl _) hsz hown3 hgrow3 HT2.out
        have HH3 := Lib.hid hH3
        clear hown3 hgrow3 hH3
        go_wp2_with fail
        go_roundw
        case rel => exact ⟨k + 1, _, had ++ [⟨6, ⟨#[]⟩, ⟨#[]⟩⟩], _, rfl, by go_num, hk2, by simp; omega, by simp, HH3, HCL.out.2⟩
        case measure => simp [intOf]; omega
      · have HK2 := Lib.hid (show EvOK ⟨9, ⟨#[]⟩, ⟨#[]⟩⟩ from HKC.out)
        have HT2 := Lib.hid (show Tk RP ⟨r, st.over⟩ (had.map GoEv.ev ++ [GoEv.ev ⟨9, ⟨#[]⟩, ⟨#[]⟩⟩]) from HCL.out.1)
        go_wp2_with (first
          | (at_builtin; refine wpList_append_own _ (by rfl) _ _ _ (by rfl) w.heap.size 28 i0 _ 3 40 Tryz.underlying22 HI.out hz0 hz1 hz2 rfl (by omega) _ had.length _ (by rfl) (HO2.out.alloc _) ⟨w2.heap.size, 0, none⟩ 1 1 (evL ⟨9, ⟨#[]⟩, ⟨#[]⟩⟩) (by rfl) (by rfl) (ev_news (x := ⟨9, ⟨#[]⟩, ⟨#[]⟩⟩)) ev_one n1 n2 (by simp; omega) ?_)
          | fail)
        intro v3 w3 hown3 hgrow3 _
        have hH3 := HH2.out.snoc ⟨9, ⟨#[]⟩, ⟨#[]⟩⟩ HK2.out (Nat.le_refl _) hsz hown3 hgrow3 HT2.out
        have HH3 := Lib.hid hH3
        clear hown3 hgrow3 hH3
        go_wp2_with fail
        go_roundw
        case rel => exact ⟨k + 1, _, had ++ [⟨9, ⟨#[]⟩, ⟨#[]⟩⟩], _, rfl, by go_num, hk2, by simp; omega, by simp, HH3, HCL.out.2⟩
        case measure => simp [intOf]; omega
      · have HK2 := Lib.hid (show EvOK ⟨12, ⟨#[]⟩, ⟨#[]⟩⟩ from HKC.out)
        have HT2 := Lib.hid (show Tk RP ⟨r, st.over⟩ (had.map GoEv.ev ++ [GoEv.ev ⟨12, ⟨#[]⟩, ⟨#[]⟩⟩]) from HCL.out.1)
        go_wp2_with (first
          | (at_builtin; refine wpList_append_own _ (by rfl) _ _ _ (by rfl) w.heap.size 28 i0 _ 3 40 Tryz.underlying22 HI.out hz0 hz1 hz2 rfl (by omega) _ had.length _ (by rfl) (HO2.out.alloc _) ⟨w2.heap.size, 0, none⟩ 1 1 (evL ⟨12, ⟨#[]⟩, ⟨#[]⟩⟩) (by rfl) (by rfl) (ev_news (x := ⟨12, ⟨#[]⟩, ⟨#[]⟩⟩)) ev_one n1 n2 (by simp; omega) ?_)
          | fail)
        intro v3 w3 hown3 hgrow3 _
        have hH3 := HH2.out.snoc ⟨12, ⟨#[]⟩, ⟨#[]⟩⟩ HK2.out (Nat.le_refl _) hsz hown3 hgrow3 HT2.out
        have HH3 := Lib.hid hH3
        clear hown3 hgrow3 hH3
        go_wp2_with fail
        go_roundw
        case rel => exact ⟨k + 1, _, had ++ [⟨12, ⟨#[]⟩, ⟨#[]⟩⟩], _, rfl, by go_num, hk2, by simp; omega, by simp, HH3, HCL.out.2⟩
        case measure => simp [intOf]; omega
end Go.Proofs.YtgipodgcenkckaaGreatDoor
