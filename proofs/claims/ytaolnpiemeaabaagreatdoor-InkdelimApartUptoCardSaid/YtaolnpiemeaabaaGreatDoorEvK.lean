/- The walk of the reference's Whole. -/
import Derived.Test.YtaolnpiemeaabaaGreatDoorEvJ
import Derived.Test.YtaolnpiemeaabaaGreatDoorEvH
import Derived.Deep.RegionHeld3
namespace Go.Proofs.YtaolnpiemeaabaaGreatDoor
open Go.RowKit Ev5
set_option linter.unusedSimpArgs false
set_option linter.unusedVariables false

theorem refRun_at (R : Ev → Bool) (l : List GoEv) (k : Nat) (h : k < l.length) : refRunP R ((l.take k).map GoEv.ev) ((l.drop k).map GoEv.ev) = if refStepP R ((l.take k).map GoEv.ev) l[k].ev ≠ 0 then some (k, refStepP R ((l.take k).map GoEv.ev) l[k].ev) else refRunP R ((l.take (k + 1)).map GoEv.ev) ((l.drop (k + 1)).map GoEv.ev) := by
  rw [List.drop_eq_getElem_cons h, List.map_cons]
  simp only [refRunP]
  rw [show ((l.take k).map GoEv.ev).length = k by rw [List.length_map, List.length_take]; omega, show (l.take k).map GoEv.ev ++ [l[k].ev] = (l.take (k + 1)).map GoEv.ev by rw [List.take_add_one, List.getElem?_eq_getElem h, List.map_append]; rfl]

set_option maxRecDepth 1000000 in
set_option maxHeartbeats 8000000 in
theorem refWhole_any (w : World) (v : Value) (l : List GoEv) (hin : EvIn w v l) :
    Calls Tryz.prog 43 #[v] w fun e w' => e = .returned (.tuple #[.int .i64 (refWholeP RP (l.map GoEv.ev)).1, .int .i64 (refWholeP RP (l.map GoEv.ev)).2]) ∧ Below w.heap.size w w' := by
  have HIN := Lib.hid hin
  obtain ⟨ao, cap, rfl, hcap, hcm, hcells⟩ := hin.ex
  have HC := Lib.hid hcells
  have hlen := hin.len
  clear hin hcells
  have HNL := Lib.hid (show (l.map GoEv.ev).length = l.length from List.length_map _)
  go_enter Tryz.func43, Tryz.ntmps43
  go_wp2_with fail
  go_loopw [4] (fun vi wr => ∃ k : Nat, k ≤ l.length ∧ vi = .int .i64 k ∧ Hid (refRunP RP [] (l.map GoEv.ev) = refRunP RP ((l.take k).map GoEv.ev) ((l.drop k).map GoEv.ev)) ∧ Hid (Below w.heap.size w wr))
    (fun vi _ => l.length - (intOf vi).toNat)
  case atStart => exact ⟨0, Nat.zero_le _, rfl, rfl, Below.refl _ _⟩
  case round =>
    obtain ⟨k, hk, rfl, HR, HB⟩ := hrel
    by_cases hlt : k < l.length
    · obtain ⟨b, o, hao, c0, c1, c2⟩ := HC.out k hlt
      subst hao
      have hbl : b < w.heap.size := cell_lt c0
      have hxs := refRun_at RP l k hlt
      obtain ⟨x, hx⟩ : ∃ x, l[k] = x := ⟨_, rfl⟩
      rw [hx] at c0 c1 c2 hxs
      have hmem : x ∈ l := by rw [← hx]; exact List.getElem_mem hlt
      have HOK := Lib.hid (HIN.out.ok x hmem)
      have HXS := Lib.hid hxs
      have hin2 := (HIN.out.take k (by omega)).below HB.out
      rw [show (l.take k).length = k by rw [List.length_take]; omega] at hin2
      have HI2 := Lib.hid hin2
      clear hx hmem hxs hin2
      have d0 : wr.cell? ⟨b, o + k * 3, none⟩ = some (.int .i64 x.k) := by rw [HB.out.cell (p := ⟨b, o + k * 3, none⟩) hbl]; exact c0
      have d1 : wr.cell? ⟨b, o + k * 3 + 1, none⟩ = some (.string x.t) := by rw [HB.out.cell (p := ⟨b, o + k * 3 + 1, none⟩) hbl]; exact c1
      have d2 : wr.cell? ⟨b, o + k * 3 + 2, none⟩ = some (.string x.v) := by rw [HB.out.cell (p := ⟨b, o + k * 3 + 2, none⟩) hbl]; exact c2
      have HD := Lib.hid (show ∀ w' : World, Below wr.heap.size wr.drew w' → w'.cell? ⟨b, o + k * 3, none⟩ = some (.int .i64 x.k) ∧ w'.cell? ⟨b, o + k * 3 + 1, none⟩ = some (.string x.t) ∧ w'.cell? ⟨b, o + k * 3 + 2, none⟩ = some (.string x.v) from fun w' hb => by
        have hb2 : Below w.heap.size w w' := HB.out.trans (((Below.refl _ wr).drew.trans hb).mono HB.out.size)
        exact ⟨by rw [hb2.cell (p := ⟨b, o + k * 3, none⟩) hbl]; exact c0, by rw [hb2.cell (p := ⟨b, o + k * 3 + 1, none⟩) hbl]; exact c1, by rw [hb2.cell (p := ⟨b, o + k * 3 + 2, none⟩) hbl]; exact c2⟩)
      clear c0 c1 c2
      have hszr := HB.out.size
      have hbr : b < wr.heap.size := by omega
      have hk0 : (0 : Int) ≤ (k : Int) := Int.natCast_nonneg _
      have hk1 : (k : Int) ≤ (cap : Int) := by omega
      have hk2 : (k : Int) < (l.length : Int) := by omega
      have hk3 : k ≤ 1048576 := by omega
      go_wp2_with fail
      go_region_held3? (fun w' => w'.cell? ⟨b, o + k * 3, none⟩ = some (.int .i64 x.k) ∧ w'.cell? ⟨b, o + k * 3 + 1, none⟩ = some (.string x.t) ∧ w'.cell? ⟨b, o + k * 3 + 2, none⟩ = some (.string x.v)) (first | exact HD.out _ (Below.refl _ _) | exact HD.out _ hbq | go_keep) ((go_at_call 69; refine (refStep_any wr.drew (.slice (some ⟨b, o, none⟩) k cap) (l.take k) (HI2.out.below (Below.refl _ _).drew) x HOK.out).mono ?_; rintro e w2 ⟨rfl, hbq⟩))
      all_goals
        have HB2 := Lib.hid (HB.out.trans (((Below.refl _ wr).drew.trans (hbq.mono (Nat.le_refl _))).mono HB.out.size))
        obtain ⟨E, hE⟩ : ∃ E, refStepP RP ((l.take k).map GoEv.ev) x.ev = E := ⟨_, rfl⟩
        have hE2 : refStepP RP (List.take k (List.map GoEv.ev l)) x.ev = E := by rw [← List.map_take]; exact hE
        rw [hE] at HXS
        first | rw [hE2] | rw [hE]
        clear hE hE2
        by_cases hz : E = 0
        · subst hz
          have HR2 := Lib.hid (HR.out.trans (HXS.out.trans (if_neg (by simp))))
          clear HXS
          go_wp2_with fail
          go_roundw
          case rel => exact ⟨k + 1, by omega, by go_num, HR2, HB2.out⟩
          case measure => simp [intOf]; omega
        · have HR2 := Lib.hid (show refWholeP RP (l.map GoEv.ev) = (k, E) by unfold refWholeP; rw [HR.out, HXS.out, if_pos hz])
          have hzb : (E != 0) = true := by simp [hz]
          clear hz HXS
          go_wp2_with fail
          go_ret2
          exact ⟨by rw [HR2.out]; rfl, HB2.out⟩
    · obtain rfl : k = l.length := by omega
      have hn := HR.out
      rw [List.drop_length, List.take_length] at hn
      have HW := Lib.hid (show refWholeP RP (l.map GoEv.ev) = if (stackP (l.map GoEv.ev)).isEmpty = false ∨ l.map GoEv.ev = [] then ((l.map GoEv.ev).length, 19) else ((l.map GoEv.ev).length, 0) by unfold refWholeP; rw [hn]; rfl)
      clear hn hlt HR
      go_wp2_with fail
      refine (at_any _ _ l (HIN.out.below HB.out)).mono ?_
      rintro e w2 ⟨rfl, hb⟩
      have HB2 := Lib.hid (below_then HB.out hb); clear hb
      obtain ⟨S, hS⟩ : ∃ S, stackP (l.map GoEv.ev) = S := ⟨_, rfl⟩
      have hSl := stackP_lt (l.map GoEv.ev)
      rw [hS] at HW hSl
      rw [hS]
      clear hS
      rw [HNL.out] at HW hSl
      cases S with
      | cons i r =>
        have hi := hSl i (by simp)
        have HR := Lib.hid (HW.out.trans (if_pos (.inl rfl)))
        clear hSl HW
        rw [show headI (i :: r) = (i : Int) from rfl]
        have hi0 : (0 : Int) ≤ (i : Int) := Int.natCast_nonneg _
        generalize (i :: r).length = sl
        go_wp2_with fail
        go_ret2
        exact ⟨by rw [HR.out]; rfl, HB2.out⟩
      | nil =>
        rw [show headI [] = -1 from rfl, List.length_nil]
        clear hSl
        by_cases h0 : l.length = 0
        · obtain rfl : l = [] := List.eq_nil_of_length_eq_zero h0
          have HR := Lib.hid (HW.out.trans (if_pos (.inr rfl)))
          simp only [List.length_nil] at HR HIN ⊢
          clear HW h0
          go_wp2_with fail
          go_ret2
          exact ⟨by rw [HR.out]; rfl, HB2.out⟩
        · have HR := Lib.hid (HW.out.trans (if_neg (by intro h; rcases h with h | h; simp at h; have := congrArg List.length h; simp at this; rw [this] at h0; exact h0 rfl)))
          have hb0 : ((l.length : Int) == 0) = false := by rw [beq_eq_false_iff_ne]; omega
          clear HW h0
          go_wp2_with fail
          go_ret2
          exact ⟨by rw [HR.out]; rfl, HB2.out⟩

end Go.Proofs.YtaolnpiemeaabaaGreatDoor
