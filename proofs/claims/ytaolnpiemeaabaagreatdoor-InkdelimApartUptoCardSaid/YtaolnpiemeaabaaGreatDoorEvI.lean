/- The walk of the reference's own: the places of what stands in a thing. -/
import Derived.Test.YtaolnpiemeaabaaGreatDoorEvT
namespace Go.Proofs.YtaolnpiemeaabaaGreatDoor.Ev5
/-- The places, as the reference gathers them: from place i on, at depth d. -/
def ownI : Int → Nat → List Ev → List Nat
  | _, _, [] => []
  | d, i, x :: r => if ends x.kind = true then ownI (d - 1) (i + 1) r else (if d = 0 then [i] else []) ++ ownI (if opens x.kind = true then d + 1 else d) (i + 1) r
theorem ownI_le : ∀ (l : List Ev) (d : Int) (i : Nat), (ownI d i l).length ≤ l.length
  | [], _, _ => Nat.le_refl _
  | x :: r, d, i => by
    simp only [ownI, List.length_cons]
    split
    · have := ownI_le r (d - 1) (i + 1); omega
    · have := ownI_le r (if opens x.kind = true then d + 1 else d) (i + 1)
      rw [List.length_append]; split <;> simp <;> omega
theorem ownI_ge : ∀ (l : List Ev) (d : Int) (i : Nat), ∀ j ∈ ownI d i l, i ≤ j ∧ j < i + l.length
  | [], _, _, j, h => by cases h
  | x :: r, d, i, j, h => by
    simp only [ownI] at h
    simp only [List.length_cons]
    split at h
    · have := ownI_ge r _ _ j h; omega
    · rcases List.mem_append.1 h with h | h
      · split at h
        · simp at h; omega
        · cases h
      · have := ownI_ge r _ _ j h; omega
/-- Their events. -/
theorem ownI_ev : ∀ (l : List Ev) (d : Int) (i : Nat) (f : Nat → Ev), (∀ j (h : j < l.length), f (i + j) = l[j]) → (ownI d i l).map f = ownE d l
  | [], _, _, _, _ => rfl
  | x :: r, d, i, f, hf => by
    have h0 : f i = x := hf 0 (by simp)
    have hr : ∀ j (h : j < r.length), f (i + 1 + j) = r[j] := fun j h => by
      have := hf (j + 1) (by simpa using h)
      rw [show i + 1 + j = i + (j + 1) by omega]; simpa using this
    simp only [ownI, ownE]
    split
    · exact ownI_ev r _ _ f hr
    · rw [List.map_append, ownI_ev r _ _ f hr]
      congr 1
      split <;> simp [h0]
theorem ownI_step (d : Int) (i : Nat) (l : List Ev) (h : i < l.length) : ownI d i (l.drop i) = if ends l[i].kind = true then ownI (d - 1) (i + 1) (l.drop (i + 1)) else (if d = 0 then [i] else []) ++ ownI (if opens l[i].kind = true then d + 1 else d) (i + 1) (l.drop (i + 1)) := by
  rw [List.drop_eq_getElem_cons h]; rfl
theorem ownI_end (d : Int) (i : Nat) (l : List Ev) (h : l.length ≤ i) : ownI d i (l.drop i) = [] := by
  rw [List.drop_eq_nil_of_le h]; rfl
end Go.Proofs.YtaolnpiemeaabaaGreatDoor.Ev5
namespace Go.Proofs.YtaolnpiemeaabaaGreatDoor
open Go.RowKit Ev5
set_option linter.unusedSimpArgs false
set_option linter.unusedVariables false

def fwd (s : List Nat) : List Value := s.map fun (i : Nat) => .int .i64 (i : Int)
theorem fwd_len (s : List Nat) : (fwd s).length = s.length := by simp [fwd]
theorem fwd_snoc (s : List Nat) (i : Nat) : fwd (s ++ [i]) = fwd s ++ [.int .i64 (i : Int)] := by simp [fwd]

set_option maxRecDepth 100000 in
set_option maxHeartbeats 8000000 in
theorem own_any (w : World) (v : Value) (l : List GoEv) (m : Nat) (hm : m < l.length) (hin : EvIn w v l) :
    Calls Tryz.prog 103 #[v, .int .i64 (m : Int)] w fun e w' => (∃ u, e = .returned u ∧ w'.ownsRow w.heap.size 3 1 u (ownI 0 (m + 1) ((l.map GoEv.ev).drop (m + 1))).length (fwd (ownI 0 (m + 1) ((l.map GoEv.ev).drop (m + 1))))) ∧ Below w.heap.size w w' := by
  have HIN := Lib.hid hin
  obtain ⟨ao, cap, rfl, hcap, hcm, hcells⟩ := hin.ex
  have HC := Lib.hid hcells
  have hlen := hin.len
  clear hin hcells
  obtain ⟨i0, hi, hz0, hz1, hz2⟩ := info_parts infoI
  have HI := Lib.hid hi; clear hi
  obtain ⟨R, hR⟩ : ∃ R, ownI 0 (m + 1) ((l.map GoEv.ev).drop (m + 1)) = R := ⟨_, rfl⟩
  rw [hR]
  have HR := Lib.hid hR; clear hR
  go_enter Tryz.func103, Tryz.ntmps103
  go_wp2_with fail
  go_loopw [5, 6, 7] (fun u vd vi wr => ∃ (k : Nat) (d : Int) (xs : List Nat), vi = .int .i64 (k : Int) ∧ vd = .int .i64 d ∧ k ≤ l.length ∧ -(k : Int) ≤ d ∧ d ≤ k ∧ xs.length ≤ k ∧ Hid (wr.ownsRow w.heap.size 3 1 u xs.length (fwd xs)) ∧ Hid (Below w.heap.size w wr) ∧ Hid (xs ++ ownI d k ((l.map GoEv.ev).drop k) = R))
    (fun _ _ vi _ => l.length - (intOf vi).toNat)
  case atStart => exact ⟨m + 1, 0, [], by go_num, rfl, by omega, by omega, by omega, by simp, World.ownsRow_nil _ _ _ _, Below.refl _ _, by show _ = _; rw [HR.out]; rfl⟩
  case round =>
    obtain ⟨k, d, xs, rfl, rfl, hk, hd0, hd1, hxs, HO, HB, HX⟩ := hrel
    by_cases hlt : k < l.length
    · obtain ⟨b, o, hao, c0, _, _⟩ := HC.out k hlt
      subst hao
      have hbl : b < w.heap.size := cell_lt c0
      have hstep := ownI_step d k (l.map GoEv.ev) (by rw [List.length_map]; exact hlt)
      obtain ⟨q, hq⟩ : ∃ q, l[k].k = q := ⟨_, rfl⟩
      have hqe : ((l.map GoEv.ev)[k]'(by rw [List.length_map]; exact hlt)).kind = q := by rw [List.getElem_map]; exact hq
      rw [hqe] at hstep
      rw [hq] at c0
      have HST := HX.out
      rw [hstep] at HST
      have HX2 := Lib.hid HST
      have d0 : wr.cell? ⟨b, o + k * 3, none⟩ = some (.int .i64 q) := by rw [HB.out.cell (p := ⟨b, o + k * 3, none⟩) hbl]; exact c0
      clear hq hqe hstep HST HX c0
      have hszr := HB.out.size
      have hbr : b < wr.heap.size := by omega
      have hk2 : k ≤ 1048576 := by omega
      by_cases hen : q = 6 ∨ q = 9 ∨ q = 12
      · have HX3 := HX2.out
        rw [if_pos (by simpa [ends] using hen)] at HX3
        have HX4 := Lib.hid HX3; clear HX3 HX2
        have hks : ((q == 6) = true) ∨ ((q == 6) = false ∧ (q == 9) = true) ∨ ((q == 6) = false ∧ (q == 9) = false ∧ (q == 12) = true) := by
          rcases hen with rfl | rfl | rfl <;> simp
        clear hen
        rcases hks with q6 | ⟨q6, q9⟩ | ⟨q6, q9, q12⟩
        all_goals
          go_wp2_with fail
          go_roundw
          case rel => exact ⟨k + 1, d - 1, xs, by go_num, rfl, by omega, by omega, by omega, by omega, HO, HB, HX4⟩
          case measure => simp [intOf]; omega
      · have p6 : (q == 6) = false := by simp; omega
        have p9 : (q == 9) = false := by simp; omega
        have p12 : (q == 12) = false := by simp; omega
        have HX3 := HX2.out
        rw [if_neg (by simpa [ends] using hen)] at HX3
        have HX4 := Lib.hid HX3; clear HX3 HX2 hen
        by_cases hop : q = 5 ∨ q = 7 ∨ q = 10
        · have HX5 := HX4.out
          rw [if_pos (c := opens q = true) (by simpa [opens] using hop)] at HX5
          have hks : ((q == 5) = true) ∨ ((q == 5) = false ∧ (q == 7) = true) ∨ ((q == 5) = false ∧ (q == 7) = false ∧ (q == 10) = true) := by
            rcases hop with rfl | rfl | rfl <;> simp
          clear hop HX4
          by_cases hd : d = 0
          · subst hd
            rw [if_pos rfl, ← List.append_assoc] at HX5
            have HX6 := Lib.hid HX5; clear HX5
            rcases hks with q5 | ⟨q5, q7⟩ | ⟨q5, q7, q10⟩
            all_goals
              go_wp2_with (first
                | (at_builtin; refine wpList_append_own _ (by rfl) _ _ _ (by rfl) w.heap.size 3 i0 _ 1 8 Tryz.underlying27 HI.out hz0 hz1 hz2 rfl (by omega) _ xs.length _ (by rfl) (HO.out.alloc _) ⟨wr.heap.size, 0, none⟩ 1 1 [.int .i64 (k : Int)] (by rfl) (by rfl) (World.news_of_block (cs := #[.int .i64 (k : Int)]) (t := 3) (fr := (0, 0)) (heap_alloc_new wr _)) (by simp [Value.oneCell']) (by unfold maxLen; omega) (by omega) (by simp; omega) ?_)
                | fail)
              intro v' w3 hown3 hgrow3 _
              have hb3 : Below w.heap.size w w3 := (HB.out.alloc HB.out.size _).grown hgrow3 (by have := HB.out.size; simp; omega) (fun q hq => by have := (HO.out.lt q hq).1; omega)
              have H3 := Lib.hid hown3; have HB3 := Lib.hid hb3
              clear hown3 hgrow3 hb3
              go_wp2_with fail
              go_roundw
              case rel => exact ⟨k + 1, 1, xs ++ [k], by go_num, by first | rfl | go_num, by omega, by omega, by omega, by simp; omega, by show World.ownsRow _ _ _ _ _ _ _; rw [fwd_snoc, List.length_append]; exact H3.out, HB3, HX6⟩
              case measure => simp [intOf]; omega
          · have hdb : (d == 0) = false := by simp [hd]
            rw [if_neg hd, List.nil_append] at HX5
            have HX6 := Lib.hid HX5; clear HX5 hd
            rcases hks with q5 | ⟨q5, q7⟩ | ⟨q5, q7, q10⟩
            all_goals
              go_wp2_with fail
              go_roundw
              case rel => exact ⟨k + 1, d + 1, xs, by go_num, rfl, by omega, by omega, by omega, by omega, HO, HB, HX6⟩
              case measure => simp [intOf]; omega
        · have p5 : (q == 5) = false := by simp; omega
          have p7 : (q == 7) = false := by simp; omega
          have p10 : (q == 10) = false := by simp; omega
          have HX5 := HX4.out
          rw [if_neg (c := opens q = true) (by simpa [opens] using hop)] at HX5
          clear hop HX4
          by_cases hd : d = 0
          · subst hd
            rw [if_pos rfl, ← List.append_assoc] at HX5
            have HX6 := Lib.hid HX5; clear HX5
            go_wp2_with (first
              | (at_builtin; refine wpList_append_own _ (by rfl) _ _ _ (by rfl) w.heap.size 3 i0 _ 1 8 Tryz.underlying27 HI.out hz0 hz1 hz2 rfl (by omega) _ xs.length _ (by rfl) (HO.out.alloc _) ⟨wr.heap.size, 0, none⟩ 1 1 [.int .i64 (k : Int)] (by rfl) (by rfl) (World.news_of_block (cs := #[.int .i64 (k : Int)]) (t := 3) (fr := (0, 0)) (heap_alloc_new wr _)) (by simp [Value.oneCell']) (by unfold maxLen; omega) (by omega) (by simp; omega) ?_)
              | fail)
            intro v' w3 hown3 hgrow3 _
            have hb3 : Below w.heap.size w w3 := (HB.out.alloc HB.out.size _).grown hgrow3 (by have := HB.out.size; simp; omega) (fun q hq => by have := (HO.out.lt q hq).1; omega)
            have H3 := Lib.hid hown3; have HB3 := Lib.hid hb3
            clear hown3 hgrow3 hb3
            go_wp2_with fail
            go_roundw
            case rel => exact ⟨k + 1, 0, xs ++ [k], by go_num, rfl, by omega, by omega, by omega, by simp; omega, by show World.ownsRow _ _ _ _ _ _ _; rw [fwd_snoc, List.length_append]; exact H3.out, HB3, HX6⟩
            case measure => simp [intOf]; omega
          · have hdb : (d == 0) = false := by simp [hd]
            rw [if_neg hd, List.nil_append] at HX5
            have HX6 := Lib.hid HX5; clear HX5 hd
            go_wp2_with fail
            go_roundw
            case rel => exact ⟨k + 1, d, xs, by go_num, rfl, by omega, by omega, by omega, by omega, HO, HB, HX6⟩
            case measure => simp [intOf]; omega
    · obtain rfl : k = l.length := by omega
      have hx := HX.out
      rw [ownI_end d l.length (l.map GoEv.ev) (by rw [List.length_map]; exact Nat.le_refl _), List.append_nil] at hx
      subst hx
      clear hlt HX
      go_wp2_with fail
      go_ret
      exact ⟨⟨_, rfl, HO.out⟩, HB.out⟩
end Go.Proofs.YtaolnpiemeaabaaGreatDoor
