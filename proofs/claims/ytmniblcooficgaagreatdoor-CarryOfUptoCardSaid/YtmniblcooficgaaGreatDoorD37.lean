import Derived.Test.YtmniblcooficgaaGreatDoorD33
import Derived.Test.YtmniblcooficgaaGreatDoorD27
namespace Go.Proofs.YtmniblcooficgaaGreatDoor
open Go.RowKit Ev5
set_option linter.unusedSimpArgs false
set_option linter.unusedVariables false

def rowsS (v : Nd) : Bool := decide (v.k = 5) && (decide (v.kids ≠ []) && v.kids.all fun x => decide (x.k = 7))
set_option maxRecDepth 100000 in
set_option maxHeartbeats 2000000 in
theorem rowsC_any (x : Nd) (w : World) (u : Value) (hu : ∃ a l c, u = .slice a l c) :
    Calls Tryz.prog 88 #[ndV x u] w fun e w' => e = .returned (.bool (decide (x.k ≠ 7))) ∧ Below w.heap.size w w' := by
  obtain ⟨ua, ul, uc, rfl⟩ := hu
  have HB0 := Lib.hid (show Below w.heap.size w (w.alloc (.cells #[.int .i64 x.k, .string x.t, .string x.v, .slice ua ul uc] 24)) from (Below.refl _ _).alloc (Nat.le_refl _) _)
  unfold ndV
  by_cases h : x.k = 7
  · have h1 : (x.k != 7) = false := by simp [h]
    have HR := Lib.hid (show decide (x.k ≠ 7) = false by simp [h])
    clear h
    go_enter Tryz.func88, Tryz.ntmps88
    go_wp2_with fail
    go_ret
    exact ⟨by rw [HR.out]; rfl, HB0.out⟩
  · have h1 : (x.k != 7) = true := by simp [h]
    have HR := Lib.hid (show decide (x.k ≠ 7) = true by simp [h])
    clear h
    go_enter Tryz.func88, Tryz.ntmps88
    go_wp2_with fail
    go_ret
    exact ⟨by rw [HR.out]; rfl, HB0.out⟩
theorem all7_step {l : List Nd} {i : Nat} (h : i < l.length) : (l.take (i + 1)).all (fun x => decide (x.k = 7)) = ((l.take i).all (fun x => decide (x.k = 7)) && decide (l[i].k = 7)) := by
  rw [List.take_add_one, List.getElem?_eq_getElem h, List.all_append]; simp
theorem all7_no {l : List Nd} {i : Nat} (h : i < l.length) (h7 : l[i].k ≠ 7) : l.all (fun x => decide (x.k = 7)) = false := by
  rw [List.all_eq_false]
  exact ⟨l[i], List.getElem_mem h, by simp [h7]⟩
set_option maxRecDepth 100000 in
set_option maxHeartbeats 4000000 in
theorem idxNode_any (l : List Nd) (w : World) (S : Nat → Prop) (u : Value) (hs : SlIn w S u l) (hk : l.length ≤ 100000) :
    Calls Tryz.prog 118 #[u, .func (.func 88) #[] #[]] w fun e w' => (∃ z : Int, e = .returned (.int .i64 z) ∧ Hid (0 ≤ z ↔ l.all (fun x => decide (x.k = 7)) = false)) ∧ Below w.heap.size w w' := by
  obtain ⟨ao, cap, rfl, hcap, hcm⟩ := hs.shape
  have HS := Lib.hid hs.ltC
  clear hs
  unfold maxLen at *
  go_enter Tryz.func118, Tryz.ntmps118
  go_wp2_with fail
  go_loopw [8] (fun v8 wr => ∃ i : Nat, i ≤ l.length ∧ v8 = .int .i64 i ∧ Hid ((l.take i).all (fun x => decide (x.k = 7)) = true) ∧ Hid (Below w.heap.size w wr)) (fun v8 _ => l.length - (intOf v8).toNat)
  case atStart => exact ⟨0, Nat.zero_le _, rfl, rfl, Below.refl _ _⟩
  case round =>
    obtain ⟨i, hi, rfl, HA, HBR⟩ := hrel
    by_cases hlt : i < l.length
    · have hi0 : (0 : Int) ≤ (i : Int) := Int.natCast_nonneg _
      have hi1 : (i : Int) < (l.length : Int) := by omega
      obtain ⟨kb, ko, kx, hko, hkw, k0, k1, k2, k3, hkx⟩ := HS.out.at_ i hlt
      obtain ⟨ay, cy, rfl, _, _⟩ := hkx.shape
      subst hko
      have hst := all7_step hlt
      rw [HA.out] at hst
      have HNO := Lib.hid (all7_no hlt)
      obtain ⟨y, hy⟩ : ∃ y, l[i] = y := ⟨_, rfl⟩
      rw [hy] at k0 k1 k2 k3 hst HNO
      have hbw := HBR.out
      have d0 : wr.cell? ⟨kb, ko + i * 4, none⟩ = some (.int .i64 y.k) := (hbw.cell (p := ⟨kb, ko + i * 4, none⟩) hkw).trans k0
      have d1 : wr.cell? ⟨kb, ko + i * 4 + 1, none⟩ = some (.string y.t) := (hbw.cell (p := ⟨kb, ko + i * 4 + 1, none⟩) hkw).trans k1
      have d2 : wr.cell? ⟨kb, ko + i * 4 + 2, none⟩ = some (.string y.v) := (hbw.cell (p := ⟨kb, ko + i * 4 + 2, none⟩) hkw).trans k2
      have d3 : wr.cell? ⟨kb, ko + i * 4 + 3, none⟩ = some (.slice ay y.kids.length cy) := (hbw.cell (p := ⟨kb, ko + i * 4 + 3, none⟩) hkw).trans k3
      have hkl : kb < wr.heap.size := Nat.lt_of_lt_of_le hkw hbw.size
      have HC := Lib.hid (fun (W : World) => show Calls Tryz.prog 88 #[.agg #[.int .i64 y.k, .string y.t, .string y.v, .slice ay y.kids.length cy]] W _ from rowsC_any y W _ ⟨ay, _, cy, rfl⟩)
      have HST := Lib.hid hst
      clear k0 k1 k2 k3 hkx hst hy hbw
      by_cases h7 : y.k = 7
      · have HR := Lib.hid (show decide (y.k ≠ 7) = false by simp [h7])
        have HST2 := Lib.hid (show (l.take (i + 1)).all (fun x => decide (x.k = 7)) = true by rw [HST.out, decide_eq_true h7]; rfl)
        clear h7
        go_wp2_with fail
        refine (HC.out _).mono ?_
        rintro e w2 ⟨rfl, hb⟩
        rw [HR.out]
        have HB2 := Lib.hid (bthen HBR.out hb)
        clear hb
        go_wp2_with fail
        go_roundw
        case rel => exact ⟨i + 1, by omega, by go_num, HST2.out, HB2.out⟩
        case measure => simp [intOf]; omega
      · have HR := Lib.hid (show decide (y.k ≠ 7) = true by simp [h7])
        have HN := Lib.hid (HNO.out h7)
        clear h7
        go_wp2_with fail
        refine (HC.out _).mono ?_
        rintro e w2 ⟨rfl, hb⟩
        rw [HR.out]
        have HB2 := Lib.hid (bthen HBR.out hb)
        clear hb
        go_wp2_with fail
        go_ret
        exact ⟨⟨(i : Int), rfl, (⟨fun _ => HN.out, fun _ => hi0⟩ : _ ↔ _)⟩, HB2.out⟩
    · obtain rfl : i = l.length := by omega
      have hi1 : ¬ ((l.length : Nat) : Int) < (l.length : Int) := by omega
      have HY := Lib.hid (show l.all (fun x => decide (x.k = 7)) = true by have h := HA.out; rwa [List.take_length] at h)
      have HZ := Lib.hid (show (0 : Int) ≤ -1 ↔ l.all (fun x => decide (x.k = 7)) = false from ⟨fun h => by omega, fun h => by rw [HY.out] at h; cases h⟩)
      go_wp2_with fail
      go_ret
      exact ⟨⟨-1, rfl, by show (_ ↔ _); simpa using HZ.out⟩, HBR.out⟩
set_option maxRecDepth 100000 in
set_option maxHeartbeats 4000000 in
theorem conNode_any (l : List Nd) (w : World) (S : Nat → Prop) (u : Value) (hs : SlIn w S u l) (hk : l.length ≤ 100000) :
    Calls Tryz.prog 87 #[u, .func (.func 88) #[] #[]] w fun e w' => e = .returned (.bool (!(l.all fun x => decide (x.k = 7)))) ∧ Below w.heap.size w w' := by
  obtain ⟨ao, cap, rfl, hcap, hcm⟩ := hs.shape
  have HC := Lib.hid (idxNode_any l w S _ hs hk)
  clear hs
  go_enter Tryz.func87, Tryz.ntmps87
  go_wp2_with fail
  refine HC.out.mono ?_
  rintro e w2 ⟨⟨z, rfl, hz⟩, hb⟩
  have HB := Lib.hid hb
  have HZ := hz
  clear hb hz
  by_cases h0 : 0 ≤ z
  · have HR := Lib.hid (HZ.out.1 h0)
    go_wp2_with fail
    go_ret
    exact ⟨by rw [HR.out]; rfl, HB.out⟩
  · have HR := Lib.hid (show (l.all fun x => decide (x.k = 7)) = true by
      cases h : (l.all fun x => decide (x.k = 7)) with
      | true => rfl
      | false => exact absurd (HZ.out.2 h) h0)
    have hd : decide (0 ≤ z) = false := decide_eq_false h0
    go_wp2_with fail
    go_ret
    exact ⟨by rw [HR.out]; rfl, HB.out⟩
set_option maxRecDepth 100000 in
set_option maxHeartbeats 4000000 in
theorem rows_any (n : Nd) (w : World) (S : Nat → Prop) (v : Value) (hv : NdV w S v n) (hk : n.kids.length ≤ 100000) :
    Calls Tryz.prog 59 #[v] w fun e w' => e = .returned (.bool (rowsS n)) ∧ Below w.heap.size w w' := by
  obtain ⟨u, rfl, hs⟩ := hv
  obtain ⟨ao, cap, rfl, hcap, hcm⟩ := hs.shape
  have HB0 := Lib.hid (show Below w.heap.size w (w.alloc (.cells #[.int .i64 n.k, .string n.t, .string n.v, .slice ao n.kids.length cap] 24)) from (Below.refl _ _).alloc (Nat.le_refl _) _)
  have HC := Lib.hid (conNode_any n.kids _ _ _ (hs.below HB0.out) hk)
  clear hs
  unfold ndV
  by_cases h5 : n.k = 5
  · have h5b : (n.k == 5) = true := by simp [h5]
    by_cases h0 : n.kids = []
    · have hl : ¬ (0 : Int) < (n.kids.length : Int) := by rw [h0]; simp
      have HR := Lib.hid (show rowsS n = false by unfold rowsS; simp [h0])
      clear h5 h0
      go_enter Tryz.func59, Tryz.ntmps59
      go_wp2_with fail
      go_ret
      exact ⟨by rw [HR.out]; rfl, HB0.out⟩
    · have hl : (0 : Int) < (n.kids.length : Int) := by have := List.length_pos_iff.2 h0; omega
      have HR := Lib.hid (show rowsS n = n.kids.all (fun x => decide (x.k = 7)) by unfold rowsS; rw [decide_eq_true h5, decide_eq_true h0]; rfl)
      clear h5 h0
      go_enter Tryz.func59, Tryz.ntmps59
      go_wp2_with fail
      refine HC.out.mono ?_
      rintro e w2 ⟨rfl, hb⟩
      have HB2 := Lib.hid (bthen HB0.out hb)
      clear hb
      obtain ⟨Q, hQ⟩ : ∃ Q, (n.kids.all fun x => decide (x.k = 7)) = Q := ⟨_, rfl⟩
      rw [hQ] at HR
      rw [hQ]
      clear hQ
      cases Q
      · go_wp2_with fail
        go_ret
        exact ⟨by rw [HR.out]; rfl, HB2.out⟩
      · go_wp2_with fail
        go_ret
        exact ⟨by rw [HR.out]; rfl, HB2.out⟩
  · have h5b : (n.k == 5) = false := by simp [h5]
    have HR := Lib.hid (show rowsS n = false by unfold rowsS; simp [h5])
    clear h5
    go_enter Tryz.func59, Tryz.ntmps59
    go_wp2_with fail
    go_ret
    exact ⟨by rw [HR.out]; rfl, HB0.out⟩
def plainK (n : Nd) : Bool := decide (n.k ≠ 10) && decide (n.k ≠ 1)
set_option maxRecDepth 100000 in
set_option maxHeartbeats 8000000 in
theorem plain_any (tp : List Nd → Bool) : ∀ (N : Nat) (n : Nd) (way : List Nd), n.size ≤ N → (∀ (l : List Nd) (x : Nd), tp (way ++ l ++ [x]) = plainK x) → ∀ (w : World) (B X : Nat) (v : Value) (p : List Int) (S : Nat → Prop) (u : Value), Lk w B X v p → NdV w S (ndV n u) n → (∀ b, S b → b < B) → B ≤ w.heap.size → p.length + n.size ≤ 100000 →
    Calls Tryz.prog 63 #[.pointer (some ⟨X, 0, none⟩), ndV n u] w (LkEnd B X v p (firstP tp way n p) w) := by
  intro N
  induction N with
  | zero => intro n way hn; have := kids_size n; omega
  | succ N ih =>
  intro n way hn htp w B X v p S u hlk hv hSB hB hl
  obtain ⟨u2, e2, hs⟩ := hv
  obtain rfl : u = u2 := by simpa [ndV] using e2
  clear e2
  obtain ⟨ao, cap, rfl, hcap, hcm⟩ := hs.shape
  have hmf : ∀ (fn : Fn) (first cap : Array Value) (w : World), (Instr.makeFunc fn first cap).run Tryz.prog w = .ok (.func fn first cap) w := fun _ _ _ _ => rfl
  have H := Lib.hid hlk; have HS := Lib.hid hs; have HSB := Lib.hid hSB; have HBB := Lib.hid hB; have HTP := Lib.hid htp; have HIH := Lib.hid ih; have HN := Lib.hid hn; have HL2 := Lib.hid hl
  have HL := Lib.hid (two_first w (.cells #[.pointer (some ⟨X, 0, none⟩)] 41) (.cells #[.int .i64 n.k, .string n.t, .string n.v, .slice ao n.kids.length cap] 24))
  have HNB := Lib.hid (two_last w (.cells #[.pointer (some ⟨X, 0, none⟩)] 41) (.cells #[.int .i64 n.k, .string n.t, .string n.v, .slice ao n.kids.length cap] 24))
  have HB := Lib.hid (show Below w.heap.size w ((w.alloc (.cells #[.pointer (some ⟨X, 0, none⟩)] 41)).alloc (.cells #[.int .i64 n.k, .string n.t, .string n.v, .slice ao n.kids.length cap] 24)) from ((Below.refl _ _).alloc (Nat.le_refl _) _).alloc (by simp) _)
  have hT0 := htp [] n
  rw [List.append_nil] at hT0
  have HT0 := Lib.hid hT0
  have hpl : p.length + n.kids.length ≤ 100000 := by have := kids_size n; have := sizes_len n.kids; omega
  have hkl : n.kids.length ≤ 100000 := by omega
  clear hlk hs hSB hB htp ih hn hT0 hl
  unfold ndV
  by_cases hbad : n.k = 10 ∨ n.k = 1
  · have HR := Lib.hid (show firstP tp way n p = some p from firstP_no (by
      rw [HT0.out]; unfold plainK
      rcases hbad with h | h <;> simp [h]))
    rcases hbad with h | h
    · have h1 : (n.k == 10) = true := by simp [h]
      clear h
      go_enter Tryz.func63, Tryz.ntmps63
      go_wp2_with fail
      refine (fails_any _ B X v p (H.out.below HB.out) (by omega)).mono ?_
      intro e w3 he
      have he2 : LkEnd B X v p (some p) w e w3 := he.after HB.out
      obtain ⟨hfar, a, c, rfl, hints⟩ := he2
      have HF2 := Lib.hid hfar; have HI := Lib.hid hints
      clear hfar hints he
      go_wp2_with fail
      exact ⟨rfl, by rw [HR.out]; exact ⟨HF2.out, a, c, rfl, HI.out⟩⟩
    · have h1 : (n.k == 10) = false := by simp [h]
      have h2 : (n.k == 1) = true := by simp [h]
      clear h
      go_enter Tryz.func63, Tryz.ntmps63
      go_wp2_with fail
      refine (fails_any _ B X v p (H.out.below HB.out) (by omega)).mono ?_
      intro e w3 he
      have he2 : LkEnd B X v p (some p) w e w3 := he.after HB.out
      obtain ⟨hfar, a, c, rfl, hints⟩ := he2
      have HF2 := Lib.hid hfar; have HI := Lib.hid hints
      clear hfar hints he
      go_wp2_with fail
      exact ⟨rfl, by rw [HR.out]; exact ⟨HF2.out, a, c, rfl, HI.out⟩⟩
  · have h1 : (n.k == 10) = false := by simp; omega
    have h2 : (n.k == 1) = false := by simp; omega
    have HR := Lib.hid (firstP_kids (tp := tp) (way := way) (n := n) (p := p) (by
      rw [HT0.out]; unfold plainK
      rw [decide_eq_true (by omega), decide_eq_true (by omega)]; rfl))
    clear hbad
    go_enter Tryz.func63, Tryz.ntmps63
    go_wp2_with fail
    refine (kids_any 89 #[.pointer (some ⟨w.heap.size, 0, none⟩)] (fun args w => by rfl) _ B X v p S n _ (fun i => if hi : i < n.kids.length then firstP tp (way ++ [n]) n.kids[i] (p ++ [(i : Int)]) else none) (H.out.below HB.out) ⟨_, rfl, HS.out.below HB.out⟩ HSB.out (Nat.le_trans HBB.out HB.out.size) (by omega) (by omega) (fun W' v' j hj uu hfar hat hlkW hnW => ?_)).mono ?_
    · rw [dif_pos hj]
      have hks := kid_size (n := n) hj
      have hxw := lt_blk H.out.blk
      have hBW : Below B w W' := (HB.out.mono HBB.out).trans (hfar.below H.out.lo (fun g e => (H.out.row.lt g e).1) (Nat.le_trans HBB.out HB.out.size))
      have hvw : ∀ g, v.ownBlock = some g → g < w.heap.size := fun g e => (H.out.row.lt g e).2
      have keep : W'.heap[w.heap.size]? = some (.cells #[.pointer (some ⟨X, 0, none⟩)] 41 (0, 0)) := (hfar.oth w.heap.size (lt_blk HL.out) (by omega) (fun e => by have := hvw _ e; omega)).trans HL.out
      have hnn := HN.out
      have hln := HL2.out
      -- the closure: a box for the kid, and plain
      obtain ⟨uu2, e3, hsk⟩ := hnW
      obtain rfl : uu = uu2 := by simpa [ndV] using e3
      obtain ⟨ak, ck, rfl, _, _⟩ := hsk.shape
      clear e3
      obtain ⟨y, hy⟩ : ∃ y, n.kids[j] = y := ⟨_, rfl⟩
      rw [hy] at hsk hks ⊢
      have HCA := Lib.hid (fun (W2 : World) (h2 : Below W'.heap.size W' W2) => HIH.out y (way ++ [n]) (by omega) (fun l x => by have h := HTP.out ([n] ++ l) x; simpa using h) W2 B X v' (p ++ [(j : Int)]) S (.slice ak y.kids.length ck) (hlkW.below h2) (.mk (hsk.below h2)) HSB.out (Nat.le_trans HBB.out (Nat.le_trans hBW.size h2.size)) (by rw [List.length_append, List.length_singleton]; omega))
      obtain ⟨c0, f0⟩ := blk_cell keep 0 (by simp)
      have hl0 := lt_blk keep
      have HBK := Lib.hid (show Below W'.heap.size W' (W'.alloc (.cells #[.int .i64 y.k, .string y.t, .string y.v, .slice ak y.kids.length ck] 24)) from (Below.refl _ _).alloc (Nat.le_refl _) _)
      obtain ⟨PJ, hPJ⟩ : ∃ PJ, p ++ [(j : Int)] = PJ := ⟨_, rfl⟩
      rw [hPJ] at HCA ⊢
      clear hPJ hlkW hsk hfar hat hy keep
      unfold ndV at *
      go_enter Tryz.func89, Tryz.ntmps89
      go_wp2_with fail
      refine (HCA.out _ HBK.out).mono ?_
      intro e w3 he
      have he2 := he.after HBK.out
      cases ho : firstP tp (way ++ [n]) y PJ with
      | none =>
        rw [ho] at he2
        obtain ⟨⟨rr, rfl⟩, v2, hp⟩ := he2
        have HP := Lib.hid hp
        have HO := Lib.hid ho
        clear hp he
        go_wp2_with fail
        go_end0
        show LkEnd B X v' PJ (firstP tp (way ++ [n]) y PJ) W' _ _
        rw [HO.out]
        exact ⟨⟨_, rfl⟩, _, HP.out⟩
      | some q =>
        rw [ho] at he2
        obtain ⟨hfar, a, c, rfl, hints⟩ := he2
        have HF2 := Lib.hid hfar; have HI := Lib.hid hints
        clear hfar hints he
        go_wp2_with fail
        exact ⟨rfl, HF2.out, a, c, rfl, HI.out⟩
    · intro e w6 he
      have he2 := he.after HB.out
      rw [← HR.out] at he2
      cases hq : firstP tp way n p with
      | none =>
        rw [hq] at he2
        obtain ⟨⟨rr, rfl⟩, v', hp⟩ := he2
        have HP := Lib.hid hp
        have HO := Lib.hid hq
        clear hp he
        go_wp2_with fail
        go_end0
        show LkEnd B X v p (firstP tp way n p) w _ _
        rw [HO.out]
        exact ⟨⟨_, rfl⟩, _, HP.out⟩
      | some q =>
        rw [hq] at he2
        obtain ⟨hfar, a, c, rfl, hints⟩ := he2
        have HF2 := Lib.hid hfar; have HI := Lib.hid hints
        have HO := Lib.hid hq
        clear hfar hints he
        go_wp2_with fail
        exact ⟨rfl, HF2.out, a, c, rfl, HI.out⟩
end Go.Proofs.YtmniblcooficgaaGreatDoor
namespace Go.Proofs.YtmniblcooficgaaGreatDoor
open Ev5
set_option linter.unusedSimpArgs false
set_option linter.unusedVariables false

theorem app_one {α : Type} {pre os : List α} {a : α} (h : pre ++ os = a :: os) : pre = [a] := List.append_cancel_right (show pre ++ os = [a] ++ os from h)
theorem app_two {α : Type} {pre os : List α} {a b : α} (h : pre ++ os = a :: b :: os) : pre = [a, b] := List.append_cancel_right (show pre ++ os = [a, b] ++ os from h)
theorem step_frame {R : Ev → Bool} {o : Ev5.Op} {os os2 : List Ev5.Op} {ov ov2 : Bool} {x : Ev} (hl : os2.length ≤ os.length) (h : (stepP R ⟨o :: os, ov⟩ x).2 = 0) :
    (stepP R ⟨o :: os2, ov2⟩ x).2 = 0 ∧ ∃ pre, (stepP R ⟨o :: os, ov⟩ x).1 = ⟨pre ++ os, ov⟩ ∧ (stepP R ⟨o :: os2, ov2⟩ x).1 = ⟨pre ++ os2, ov2⟩ := by
  have hv : valueP ⟨o :: os2, ov2⟩ x = valueP ⟨o :: os, ov⟩ x := rfl
  unfold stepP at h ⊢
  by_cases hr : R x = false
  · rw [if_pos hr] at h; cases h
  rw [if_neg hr] at h
  rw [if_neg hr, if_neg hr, hv]
  by_cases h1 : x.kind = 1 ∨ x.kind = 2 ∨ x.kind = 3 ∨ x.kind = 4
  · rw [if_pos h1] at h
    rw [if_pos h1, if_pos h1]
    by_cases hva : valueP ⟨o :: os, ov⟩ x = true
    · rw [if_pos hva, if_pos hva]
      exact ⟨rfl, [{ o with key := false, full := true, text := decide (x.kind = 4) }], rfl, rfl⟩
    · rw [if_neg hva] at h; cases h
  rw [if_neg h1] at h
  rw [if_neg h1, if_neg h1]
  by_cases h2 : x.kind = 5 ∨ x.kind = 7 ∨ x.kind = 10
  · rw [if_pos h2] at h
    rw [if_pos h2, if_pos h2]
    by_cases hva : valueP ⟨o :: os, ov⟩ x = false
    · rw [if_pos hva] at h; cases h
    · rw [if_neg hva] at h
      rw [if_neg hva, if_neg hva]
      by_cases h6 : 6 ≤ (⟨o :: os, ov⟩ : St).opn.length
      · rw [if_pos h6] at h; cases h
      · have h62 : ¬ 6 ≤ (⟨o :: os2, ov2⟩ : St).opn.length := by simp only [List.length_cons] at h6 ⊢; omega
        rw [if_neg h6, if_neg h62]
        exact ⟨rfl, [⟨x.kind, false, false, false, []⟩, { o with key := false, full := true, text := decide (x.kind = 4) }], rfl, rfl⟩
  rw [if_neg h2] at h
  rw [if_neg h2, if_neg h2]
  simp only [] at h ⊢
  by_cases h8 : x.kind = 8
  · rw [if_pos h8] at h
    rw [if_pos h8, if_pos h8]
    by_cases hc : o.kind ≠ 7 ∨ o.key = true
    · rw [if_pos hc] at h; cases h
    · rw [if_neg hc] at h
      rw [if_neg hc, if_neg hc]
      exact ⟨h, [(namedP o x).1], rfl, rfl⟩
  rw [if_neg h8] at h
  rw [if_neg h8, if_neg h8]
  by_cases h11 : x.kind = 11
  · rw [if_pos h11] at h
    rw [if_pos h11, if_pos h11]
    by_cases hc : o.kind ≠ 10 ∨ o.full = true
    · rw [if_pos hc] at h; cases h
    · rw [if_neg hc] at h
      rw [if_neg hc, if_neg hc]
      exact ⟨h, [(namedP o x).1], rfl, rfl⟩
  rw [if_neg h11] at h
  rw [if_neg h11, if_neg h11]
  by_cases hc : o.kind ≠ endOf x.kind ∨ o.key = true
  · rw [if_pos hc] at h; cases h
  · rw [if_neg hc, if_neg hc]
    exact ⟨rfl, [], rfl, rfl⟩
def Framed (R : Ev → Bool) (l : List Ev) : Prop := ∀ (o : Ev5.Op) (os os2 : List Ev5.Op) (ov ov2 : Bool), os2.length ≤ os.length → (runP R ⟨o :: os, ov⟩ l).2.2 = 0 →
  (runP R ⟨o :: os2, ov2⟩ l).2.2 = 0 ∧ ∃ o', (runP R ⟨o :: os, ov⟩ l).1 = ⟨o' :: os, ov⟩ ∧ (runP R ⟨o :: os2, ov2⟩ l).1 = ⟨o' :: os2, ov2⟩
theorem framed_list {R : Ev → Bool} : ∀ (ks : List Nd), (∀ x ∈ ks, Framed R x.evs) → Framed R (Nd.evss ks)
  | [], _ => fun o os os2 ov ov2 _ _ => by rw [evss_nil]; exact ⟨rfl, o, rfl, rfl⟩
  | x :: r, h => fun o os os2 ov ov2 hl hr => by
    rw [evss_cons] at hr ⊢
    obtain ⟨h1, h2⟩ := run_append R _ _ _ hr
    obtain ⟨a1, o1, a2, a3⟩ := h x (by simp) o os os2 ov ov2 hl h1
    rw [a2] at h2
    obtain ⟨b1, o2, b2, b3⟩ := framed_list r (fun y hy => h y (by simp [hy])) o1 os os2 ov ov2 hl h2
    rw [(run_more R _ _ _ a1).1, (run_more R _ _ _ a1).2, (run_more R _ _ _ h1).2, a2, a3]
    exact ⟨b1, o2, b2, b3⟩
theorem framed_all {R : Ev → Bool} (n : Nd) : n.good = true → Framed R n.evs := by
  refine Nd.ind (C := fun n => n.good = true → Framed R n.evs) ?_ n
  intro k t v ks ih hg o os os2 ov ov2 hl h
  obtain ⟨o9, e9, _⟩ := fin_keeps (fin_all _ hg) h
  rw [e9]
  rw [evs_good hg] at h e9 ⊢
  have hg' := hg
  rw [good_mk] at hg'
  simp only [Bool.and_eq_true, Bool.not_eq_true'] at hg'
  have hks := (goods_iff _).1 hg'.2
  have hfk : ∀ x ∈ ks, Framed R x.evs := fun x hx => ih x hx (hks x hx)
  obtain ⟨h0, h1, h2⟩ := runP_step h
  rw [h2] at e9
  obtain ⟨f0, pre, f1, f2⟩ := step_frame (os2 := os2) (ov2 := ov2) hl h0
  have go : ∀ (l : List Ev), (runP R (stepP R ⟨o :: os2, ov2⟩ (GoEv.ev ⟨k, t, v⟩)).1 l).2.2 = 0 → (runP R ⟨o :: os2, ov2⟩ (GoEv.ev ⟨k, t, v⟩ :: l)).2.2 = 0 ∧ (runP R ⟨o :: os2, ov2⟩ (GoEv.ev ⟨k, t, v⟩ :: l)).1 = (runP R (stepP R ⟨o :: os2, ov2⟩ (GoEv.ev ⟨k, t, v⟩)).1 l).1 := by
    intro l hl2
    simp only [runP, if_pos f0]
    exact ⟨hl2, trivial⟩
  rw [f1] at h1 e9
  rcases odd_kind hg'.1 with ⟨hk, hn⟩ | ⟨hk, hn⟩ | hk
  · obtain rfl := List.eq_nil_of_length_eq_zero hn
    have e0 : endK k = 0 := by rcases endK_cases k with ⟨a, _⟩ | ⟨a, _⟩ | ⟨a, _⟩ | ⟨_, _, _, a⟩; omega; omega; omega; exact a
    rw [e0, evss_nil] at e9 ⊢
    simp only [if_true, List.append_nil] at e9 ⊢
    have hp : pre = [o9] := by
      have : pre ++ os = [o9] ++ os := by
        have h3 : (⟨pre ++ os, ov⟩ : St) = ⟨o9 :: os, ov⟩ := e9
        injection h3
      exact List.append_cancel_right this
    obtain ⟨g1, g2⟩ := go [] rfl
    refine ⟨g1, o9, rfl, ?_⟩
    rw [g2, f2, hp]; rfl
  · match ks, hn with
    | [x], _ =>
      have e0 : endK k = 0 := by rw [hk]; rfl
      rw [e0] at h1 e9 ⊢
      simp only [if_true, List.append_nil, evss_cons, evss_nil] at h1 e9 ⊢
      obtain ⟨l, r, ho, hc⟩ := step_other h0 (by show ¬ (k = 1 ∨ k = 2 ∨ k = 3 ∨ k = 4); omega) (by show ¬ (k = 5 ∨ k = 7 ∨ k = 10); omega)
      have hp : ∃ o1, pre = [o1] := by
        simp only [List.cons.injEq] at ho
        obtain ⟨rfl, rfl⟩ := ho
        rcases hc with ⟨_, _, _, hs⟩ | ⟨a, _⟩ | ⟨a, _⟩
        · rw [f1] at hs
          injection hs with hs _
          exact ⟨_, app_one hs⟩
        · have : k = 11 := a; omega
        · exact absurd hk a
      obtain ⟨o1, rfl⟩ := hp
      obtain ⟨g0, o2, g3, g4⟩ := hfk x (by simp) o1 os os2 ov ov2 hl h1
      obtain ⟨g1, g2⟩ := go x.evs (by rw [f2]; exact g0)
      refine ⟨g1, o9, rfl, ?_⟩
      rw [g2, f2]
      have h3 : (⟨o2 :: os, ov⟩ : St) = ⟨o9 :: os, ov⟩ := g3.symm.trans e9
      injection h3 with h3 _
      injection h3 with h3 _
      rw [← h3]; exact g4
  · have hne : endK k ≠ 0 := by rcases endK_cases k with ⟨_, a⟩ | ⟨_, a⟩ | ⟨_, a⟩ | ⟨a, b, c, _⟩ <;> omega
    rw [if_neg hne] at h1 e9 ⊢
    have hs := step_open h0 hk
    have hp : ∃ o1 o2, pre = [o1, o2] := by
      rw [f1] at hs
      injection hs with hs _
      exact ⟨_, _, app_two hs⟩
    obtain ⟨o1, o2, rfl⟩ := hp
    obtain ⟨h3, h4⟩ := run_append R _ _ _ h1
    obtain ⟨a1, o3, a2, a3⟩ := framed_list ks hfk o1 (o2 :: os) (o2 :: os2) ov ov2 (by simp only [List.length_cons]; omega) h3
    have a2' : (runP R ⟨[o1, o2] ++ os, ov⟩ (Nd.evss ks)).1 = ⟨o3 :: o2 :: os, ov⟩ := a2
    rw [a2'] at h4
    rw [(run_more R _ _ _ h3).2, a2'] at e9
    obtain ⟨h5, _, h6⟩ := runP_step h4
    obtain ⟨b1, pre2, b2, b3⟩ := step_frame (os2 := o2 :: os2) (ov2 := ov2) (by simp only [List.length_cons]; omega) h5
    have hp2 : pre2 = [] ∧ o2 = o9 := by
      have h7 : (⟨pre2 ++ o2 :: os, ov⟩ : St) = ⟨o9 :: os, ov⟩ := by rw [← b2, ← e9, h6]; rfl
      injection h7 with h7 _
      have h8 := congrArg List.length h7
      simp only [List.length_append, List.length_cons] at h8
      have h9 : pre2 = [] := List.eq_nil_of_length_eq_zero (by omega)
      subst h9
      injection h7 with h7 _
      exact ⟨rfl, h7⟩
    obtain ⟨rfl, rfl⟩ := hp2
    have a3' : (runP R ⟨[o1, o2] ++ os2, ov2⟩ (Nd.evss ks)).1 = ⟨o3 :: o2 :: os2, ov2⟩ := a3
    have a1' : (runP R ⟨[o1, o2] ++ os2, ov2⟩ (Nd.evss ks)).2.2 = 0 := a1
    have c1 : (runP R ⟨o3 :: o2 :: os2, ov2⟩ [GoEv.ev (endEv k)]).2.2 = 0 := by simp only [runP, if_pos b1]
    have c2 : (runP R ⟨o3 :: o2 :: os2, ov2⟩ [GoEv.ev (endEv k)]).1 = ⟨o2 :: os2, ov2⟩ := by simp only [runP, if_pos b1]; rw [b3]; rfl
    obtain ⟨g1, g2⟩ := go (Nd.evss ks ++ [GoEv.ev (endEv k)]) (by rw [f2, (run_more R _ _ _ a1').1, a3']; exact c1)
    refine ⟨g1, o2, rfl, ?_⟩
    rw [g2, f2, (run_more R _ _ _ a1').2, a3', c2]
theorem wh_of_run {n : Nd} (hg : n.good = true) (hr : (runP RP St.new n.evs).2.2 = 0) : n.wh = 0 := by
  unfold Nd.wh wholeP
  rw [if_neg (by rw [show n.walk.map GoEv.ev = n.evs from rfl, hr]; simp)]
  have hd : (runP RP St.new (n.walk.map GoEv.ev)).1.done = true := by
    rcases fin_all (R := RP) n hg St.new hr with ⟨_, e⟩ | ⟨_, l, r, _, e, _⟩ | ⟨_, l, r, e, _⟩
    · show (runP RP St.new n.evs).1.done = true
      rw [e]; rfl
    · cases e
    · cases e
  rw [if_pos hd]
theorem new_leaf {R : Ev → Bool} {x : Ev} (hr : R x = true) (hk : x.kind = 1 ∨ x.kind = 2 ∨ x.kind = 3 ∨ x.kind = 4) : (stepP R St.new x).2 = 0 := by
  unfold stepP
  rw [if_neg (by rw [hr]; simp), if_pos hk]; rfl
theorem new_open {R : Ev → Bool} {x : Ev} (hr : R x = true) (hk : x.kind = 5 ∨ x.kind = 7 ∨ x.kind = 10) : stepP R St.new x = (⟨[⟨x.kind, false, false, false, []⟩], true⟩, 0) := by
  unfold stepP
  rw [if_neg (by rw [hr]; simp), if_neg (by omega), if_pos hk]; rfl
theorem sub_wh {n : Nd} (hg : n.good = true) (hv : valK n.k) {o : Ev5.Op} {os : List Ev5.Op} {ov : Bool} (h : (runP RP ⟨o :: os, ov⟩ n.evs).2.2 = 0) : n.wh = 0 := by
  refine wh_of_run hg ?_
  obtain ⟨k, t, v, ks⟩ := n
  rw [evs_good hg] at h ⊢
  have hg' := hg
  rw [good_mk] at hg'
  simp only [Bool.and_eq_true, Bool.not_eq_true'] at hg'
  have hks := (goods_iff _).1 hg'.2
  obtain ⟨h0, h1, _⟩ := runP_step h
  have hr := step_right h0
  have hv : valK k := hv
  by_cases hs : k = 1 ∨ k = 2 ∨ k = 3 ∨ k = 4
  · have hn : ks.length = 0 ∧ endK k = 0 := by
      constructor
      · rcases odd_kind hg'.1 with ⟨_, hn⟩ | ⟨hk, _⟩ | hk
        · exact hn
        · omega
        · omega
      · rcases endK_cases k with ⟨a, _⟩ | ⟨a, _⟩ | ⟨a, _⟩ | ⟨_, _, _, a⟩; omega; omega; omega; exact a
    obtain rfl := List.eq_nil_of_length_eq_zero hn.1
    rw [hn.2, evss_nil]
    simp only [if_true, List.append_nil]
    have e1 : (stepP RP St.new (GoEv.ev ⟨k, t, v⟩)).2 = 0 := new_leaf hr hs
    simp only [runP, if_pos e1]
  · have hk : k = 5 ∨ k = 7 ∨ k = 10 := by unfold valK at hv; omega
    have hne : endK k ≠ 0 := by rcases endK_cases k with ⟨_, a⟩ | ⟨_, a⟩ | ⟨_, a⟩ | ⟨a, b, c, _⟩ <;> omega
    rw [if_neg hne] at h1 ⊢
    rw [step_open h0 hk] at h1
    have e1 : stepP RP St.new (GoEv.ev ⟨k, t, v⟩) = (⟨[⟨(GoEv.ev ⟨k, t, v⟩).kind, false, false, false, []⟩], true⟩, 0) := new_open hr hk
    obtain ⟨h3, h4⟩ := run_append RP _ _ _ h1
    obtain ⟨a1, o3, a2, a3⟩ := framed_list ks (fun x hx => framed_all x (hks x hx)) _ _ [] _ true (Nat.zero_le _) h3
    have a2' := a2
    rw [a2'] at h4
    obtain ⟨h5, _, _⟩ := runP_step h4
    obtain ⟨b1, _⟩ := step_frame (os2 := []) (ov2 := true) (Nat.zero_le _) h5
    have c1 : (runP RP ⟨[o3], true⟩ [GoEv.ev (endEv k)]).2.2 = 0 := by simp only [runP, if_pos b1]
    have d1 : (runP RP ⟨[⟨(GoEv.ev ⟨k, t, v⟩).kind, false, false, false, []⟩], true⟩ (Nd.evss ks ++ [GoEv.ev (endEv k)])).2.2 = 0 := by
      rw [(run_more RP _ _ _ a1).1, a3]; exact c1
    simp only [runP, e1]
    exact d1
theorem kids_run {R : Ev → Bool} : ∀ (ks : List Nd), (∀ x ∈ ks, x.good = true) → ∀ {o : Ev5.Op} {os : List Ev5.Op} {ov : Bool}, (runP R ⟨o :: os, ov⟩ (Nd.evss ks)).2.2 = 0 → ∀ x ∈ ks, ∃ o', o'.kind = o.kind ∧ (runP R ⟨o' :: os, ov⟩ x.evs).2.2 = 0
  | [], _, o, os, ov, _ => fun x hx => by cases hx
  | y :: r, hg, o, os, ov, h => fun x hx => by
    rw [evss_cons] at h
    obtain ⟨h1, h2⟩ := run_append R _ _ _ h
    obtain ⟨o', e, hk⟩ := fin_keeps (fin_all y (hg y (by simp))) h1
    rcases List.mem_cons.1 hx with rfl | hx
    · exact ⟨o, rfl, h1⟩
    · rw [e] at h2
      obtain ⟨o2, h3, h4⟩ := kids_run r (fun z hz => hg z (by simp [hz])) h2 x hx
      exact ⟨o2, h3.trans hk, h4⟩
theorem key_fresh {R : Ev → Bool} {o : Ev5.Op} {os : List Ev5.Op} {ov : Bool} {x : Ev} (h : (stepP R ⟨o :: os, ov⟩ x).2 = 0) (h8 : x.kind = 8) : x.text ∉ o.had := by
  have hr := step_right h
  unfold stepP at h
  rw [if_neg (by rw [hr]; simp), if_neg (by omega), if_neg (by omega)] at h
  simp only [] at h
  rw [if_pos h8] at h
  split at h
  · cases h
  · intro hc
    unfold namedP at h
    rw [if_pos (by simpa using hc)] at h
    cases h
theorem keys_fresh {R : Ev → Bool} : ∀ (ks : List Nd), (∀ x ∈ ks, x.good = true) → (∀ x ∈ ks, x.k = 8) → ∀ {o : Ev5.Op} {os : List Ev5.Op} {ov : Bool}, (runP R ⟨o :: os, ov⟩ (Nd.evss ks)).2.2 = 0 →
    (∀ x ∈ ks, x.t.data.toList ∉ o.had) ∧ (ks.map fun x => x.t.data.toList).Nodup
  | [], _, _, o, os, ov, _ => ⟨fun x hx => (by cases hx), by simp⟩
  | y :: r, hg, h8, o, os, ov, h => by
    rw [evss_cons] at h
    obtain ⟨h1, h2⟩ := run_append R _ _ _ h
    have hf := key_fresh (step_head (hg y (by simp)) h1) (h8 y (by simp))
    have hf' : y.t.data.toList ∉ o.had := hf
    rcases fin_all y (hg y (by simp)) _ h1 with ⟨hv, _⟩ | ⟨_, l, r', b, e1, _, _, e⟩ | ⟨h11, _⟩
    · have := h8 y (by simp); unfold valK at hv; omega
    · simp only [List.cons.injEq] at e1
      obtain ⟨rfl, rfl⟩ := e1
      rw [e] at h2
      obtain ⟨a1, a2⟩ := keys_fresh r (fun z hz => hg z (by simp [hz])) (fun z hz => h8 z (by simp [hz])) h2
      refine ⟨fun x hx => ?_, ?_⟩
      · rcases List.mem_cons.1 hx with rfl | hx
        · exact hf'
        · intro hc; exact a1 x hx (by show _ ∈ o.had ++ [_]; simp [hc])
      · rw [List.map_cons, List.nodup_cons]
        refine ⟨fun hc => ?_, a2⟩
        obtain ⟨z, hz, hze⟩ := List.mem_map.1 hc
        exact a1 z hz (by show _ ∈ o.had ++ [_]; rw [hze]; exact List.mem_append_right _ (List.mem_singleton.2 rfl))
    · have := h8 y (by simp); omega
theorem map_wh {n : Nd} (h : n.wh = 0) (h7 : n.k = 7) : (n.kids.map fun x => x.t.data.toList).Nodup ∧ ∀ f ∈ n.kids, f.k = 8 ∧ ∃ v, f.kids = [v] ∧ v.wh = 0 := by
  have hg := wh_good h
  have hr : (runP RP St.new n.evs).2.2 = 0 := whole_run h
  have htf := (tf_wh h).1
  obtain ⟨k, t, v, ks⟩ := n
  have h7 : k = 7 := h7
  subst h7
  rw [evs_good hg] at hr
  have hg' := hg
  rw [good_mk] at hg'
  simp only [Bool.and_eq_true, Bool.not_eq_true'] at hg'
  have hks := (goods_iff _).1 hg'.2
  obtain ⟨h0, h1, _⟩ := runP_step hr
  rw [step_open h0 (.inr (.inl rfl))] at h1
  obtain ⟨h3, _⟩ := run_append RP _ _ _ h1
  have h8 : ∀ x ∈ ks, x.k = 8 := by
    cases htf with
    | mk _ _ _ _ _ _ hk _ =>
      intro x hx
      have := hk x hx
      unfold Kin valK at this
      omega
  refine ⟨(keys_fresh ks hks h8 h3).2, fun f hf => ⟨h8 f hf, ?_⟩⟩
  obtain ⟨o', _, hfr⟩ := kids_run ks hks h3 f hf
  have hgf := hks f hf
  have hf8 := h8 f hf
  obtain ⟨fk, ft, fv, fs⟩ := f
  have hf8 : fk = 8 := hf8
  subst hf8
  rw [evs_good hgf] at hfr
  have hgf' := hgf
  rw [good_mk] at hgf'
  simp only [Bool.and_eq_true, Bool.not_eq_true'] at hgf'
  have hfs := (goods_iff _).1 hgf'.2
  have hlen : fs.length = 1 := by
    rcases odd_kind hgf'.1 with ⟨hk, _⟩ | ⟨_, hn⟩ | hk
    · omega
    · exact hn
    · omega
  match fs, hlen with
  | [x], _ =>
    refine ⟨x, rfl, ?_⟩
    obtain ⟨a0, a1, _⟩ := runP_step hfr
    have e0 : endK 8 = 0 := rfl
    rw [e0] at a1
    simp only [if_true, List.append_nil, evss_cons, evss_nil] at a1
    obtain ⟨l, r, ho, hc⟩ := step_other a0 (by show ¬ ((8 : Int) = 1 ∨ (8 : Int) = 2 ∨ (8 : Int) = 3 ∨ (8 : Int) = 4); omega) (by show ¬ ((8 : Int) = 5 ∨ (8 : Int) = 7 ∨ (8 : Int) = 10); omega)
    have hxv : valK x.k := by
      have h := (htf.kid (n := .mk 7 t v ks) hf)
      cases h with
      | mk _ _ _ _ _ _ hk _ =>
        have := hk x (by simp)
        unfold Kin at this
        unfold valK at this ⊢
        omega
    rcases hc with ⟨_, _, _, hs⟩ | ⟨a, _⟩ | ⟨a, _⟩
    · rw [hs] at a1
      exact sub_wh (hfs x (by simp)) hxv a1
    · have : (8 : Int) = 11 := a; omega
    · exact absurd rfl a
theorem list_wh {n : Nd} (h : n.wh = 0) (h5 : n.k = 5) : ∀ x ∈ n.kids, x.wh = 0 := by
  have hg := wh_good h
  have hr : (runP RP St.new n.evs).2.2 = 0 := whole_run h
  have htf := (tf_wh h).1
  obtain ⟨k, t, v, ks⟩ := n
  have h5 : k = 5 := h5
  subst h5
  rw [evs_good hg] at hr
  have hg' := hg
  rw [good_mk] at hg'
  simp only [Bool.and_eq_true, Bool.not_eq_true'] at hg'
  have hks := (goods_iff _).1 hg'.2
  obtain ⟨h0, h1, _⟩ := runP_step hr
  rw [step_open h0 (.inl rfl)] at h1
  obtain ⟨h3, _⟩ := run_append RP _ _ _ h1
  intro x hx
  have hx : x ∈ ks := hx
  obtain ⟨o', _, hfr⟩ := kids_run ks hks h3 x hx
  have hxv : valK x.k := by
    cases htf with
    | mk _ _ _ _ _ _ hk _ =>
      have := hk x hx
      unfold Kin at this
      unfold valK at this ⊢
      omega
  exact sub_wh (hks x hx) hxv hfr
end Go.Proofs.YtmniblcooficgaaGreatDoor
namespace Go.Proofs.YtmniblcooficgaaGreatDoor
open Ev5
set_option linter.unusedSimpArgs false
set_option linter.unusedVariables false

structure Tb (n : Nd) : Prop where
  tf : Tf RP n
  el : n.elems = false
  k11 : n.k ≠ 11
theorem Tb.k10 {n : Nd} (h : Tb n) : n.k ≠ 10 := by
  have h1 := h.el
  rw [elems_any, Bool.or_eq_false_iff] at h1
  exact of_decide_eq_false h1.1
theorem Tb.kid {n x : Nd} (h : Tb n) (hx : x ∈ n.kids) : Tb x := by
  have h10 := h.k10
  have h1 := h.el
  rw [elems_any, Bool.or_eq_false_iff, List.any_eq_false] at h1
  obtain ⟨k, t, v, ks⟩ := n
  cases h.tf with
  | mk _ _ _ _ hr ho hk ht =>
    refine ⟨ht x hx, by simpa using h1.2 x hx, ?_⟩
    have h2 := hk x hx
    simp only [Nd.k] at h10
    unfold Kin valK at h2
    omega
end Go.Proofs.YtmniblcooficgaaGreatDoor
namespace Go.Proofs.YtmniblcooficgaaGreatDoor
open Ev5
set_option linter.unusedSimpArgs false
set_option linter.unusedVariables false

def spL (d : Nat) : List UInt8 := List.replicate d 32
/-! Words. -/
theorem okFrom_mem : ∀ (l : List UInt8) (i : Nat), okFrom i l = true → ∀ b ∈ l, letterB b = true ∨ moreB b = true
  | [], _, _ => fun b hb => by cases hb
  | x :: r, i, h => by
    intro b hb
    unfold okFrom at h
    rw [Bool.and_eq_true] at h
    rcases List.mem_cons.1 hb with rfl | hb
    · have h1 := h.1
      unfold okB at h1
      rw [Bool.or_eq_true] at h1
      rcases h1 with h1 | h1
      · exact .inl h1
      · rw [Bool.and_eq_true] at h1
        exact .inr h1.2
    · exact okFrom_mem r (i + 1) h.2 b hb
theorem plain_bytes {l : List UInt8} (h : plainW l = true) : (∃ x r, l = x :: r ∧ letterB x = true) ∧ ∀ b ∈ l, b ≠ 58 := by
  unfold plainW localP at h
  rw [Bool.and_eq_true, Bool.and_eq_true] at h
  obtain ⟨⟨h1, h2⟩, _⟩ := h
  have h1 := of_decide_eq_true h1
  refine ⟨?_, fun b hb => ?_⟩
  · match l, h1, h2 with
    | [], h1, _ => simp at h1
    | x :: r, _, h2 =>
      refine ⟨x, r, rfl, ?_⟩
      unfold okFrom at h2
      rw [Bool.and_eq_true] at h2
      have h3 := h2.1
      unfold okB at h3
      simpa using h3
  · rcases okFrom_mem l 0 h2 b hb with h3 | h3
    · rintro rfl; revert h3; decide
    · rintro rfl; revert h3; decide
theorem word_two {t : ByteArray} (h : qt t = quoteL t.data.toList) : (wordP t).1.data.toList = if plainW t.data.toList = true then t.data.toList else quoteL t.data.toList := by
  unfold wordP
  split
  · rfl
  · exact h
theorem word_head {t : ByteArray} (h : qt t = quoteL t.data.toList) : ∃ x r, (wordP t).1.data.toList = x :: r ∧ x ≠ 32 ∧ x ≠ 45 := by
  rw [word_two h]
  by_cases h1 : plainW t.data.toList = true
  · obtain ⟨⟨x, r1, e1, hx⟩, b1⟩ := plain_bytes h1
    rw [if_pos h1]
    refine ⟨x, r1, e1, ?_, ?_⟩ <;> (rintro rfl; revert hx; decide)
  · rw [if_neg h1]
    exact ⟨34, _, rfl, by decide, by decide⟩
/-! What follows a block. -/
def TermO (d : Nat) (r : List UInt8) : Prop := r = [] ∨ ∃ e c r', e < d ∧ r = spL e ++ c :: r' ∧ c ≠ 32
theorem TermO.mono {d e : Nat} {r : List UInt8} (h : TermO d r) (hd : d ≤ e) : TermO e r := by
  rcases h with h | ⟨f, c, r', hf, h⟩
  · exact .inl h
  · exact .inr ⟨f, c, r', by omega, h⟩
end Go.Proofs.YtmniblcooficgaaGreatDoor
namespace Go.Proofs.YtmniblcooficgaaGreatDoor
open Ev5
set_option linter.unusedSimpArgs false
set_option linter.unusedVariables false

def v0 (f : Nd) : Nd := f.kids.headD f
def deepS (f : Nd) : Bool := rowsS (v0 f) || decide ((v0 f).k = 7)
def dotE (p : List UInt8) (f : Nd) : List UInt8 := (if p = [] then [] else p ++ [46]) ++ (wordP f.t).1.data.toList
def tabG : List UInt8 → List Nd → Option (List UInt8)
  | _, [] => none
  | p, [_] => some p
  | _, [_, _] => none
  | p, [_, f, v] => if rowsS (v0 f) = true then none else if (v0 f).k = 7 then some (dotE p f) else none
  | p, _ :: f :: v :: r :: l => if rowsS (v0 f) = true then tabG (dotE p f) (r :: l) else if (v0 f).k = 7 then tabG (dotE p f) (v :: r :: l) else none
def tabS (l : List Nd) : Option (List UInt8) := match l with
  | [] => none
  | a :: r => if a.k = 7 then tabG [] (a :: r) else none
def aheadS (up n : Nd) : Bool := (up.kids.takeWhile fun x => decide (x.t ≠ n.t)).any deepS
def fieldS (q : List UInt8) (ln : Nat) (up n : Nd) : Bool :=
  if deepS n = true then decide ((wordP n.t).1.size + 2 + (if q ≠ [] ∨ 1 < ln then q.length + 1 else 0) + (if rowsS (v0 n) = true then 2 else 0) ≤ 160)
  else !(aheadS up n) && (n.elems || decide ((n.txt rowF).length ≤ 160))
def tpS (l : List Nd) : Bool := match l.getLast? with
  | none => true
  | some n => if n.k = 10 ∨ n.k = 1 ∨ (l.dropLast = [] ∧ n.k ≠ 7) then false else if n.k ≠ 8 then true else
    match tabS l.dropLast with
    | none => true
    | some q => fieldS q l.dropLast.length (l.dropLast.getLastD n) n
theorem tpS_last (way : List Nd) (n : Nd) : tpS (way ++ [n]) = if n.k = 10 ∨ n.k = 1 ∨ (way = [] ∧ n.k ≠ 7) then false else if n.k ≠ 8 then true else
    match tabS way with
    | none => true
    | some q => fieldS q way.length (way.getLastD n) n := by
  unfold tpS
  rw [List.getLast?_concat, List.dropLast_concat]
theorem tabG_snoc : ∀ (N : Nat) (way : List Nd) (n : Nd) (p q : List UInt8) (l : List Nd), way.length ≤ N → tabG p (way ++ [n]) = some q → tabG p (way ++ [n] ++ l) = tabG q (n :: l) := by
  intro N
  induction N with
  | zero =>
    intro way n p q l hN h
    obtain rfl := List.eq_nil_of_length_eq_zero (Nat.le_zero.1 hN)
    have h : some p = some q := h
    injection h with h
    rw [h]; rfl
  | succ N ih =>
    intro way n p q l hN h
    match way, hN, h with
    | [], _, h =>
      have h : some p = some q := h
      injection h with h
      rw [h]; rfl
    | [a], _, h => cases h
    | [a, f], _, h =>
      have h : (if rowsS (v0 f) = true then none else if (v0 f).k = 7 then some (dotE p f) else none) = some q := h
      by_cases h1 : rowsS (v0 f) = true
      · rw [if_pos h1] at h; cases h
      rw [if_neg h1] at h
      by_cases h2 : (v0 f).k = 7
      · rw [if_pos h2] at h
        injection h with h
        subst h
        match l with
        | [] =>
          show (if rowsS (v0 f) = true then none else if (v0 f).k = 7 then some (dotE p f) else none) = some (dotE p f)
          rw [if_neg h1, if_pos h2]
        | x :: l =>
          show (if rowsS (v0 f) = true then tabG (dotE p f) (x :: l) else if (v0 f).k = 7 then tabG (dotE p f) (n :: x :: l) else none) = _
          rw [if_neg h1, if_pos h2]
      · rw [if_neg h2] at h; cases h
    | a :: f :: v :: r, hN, h =>
      have hr : ∃ x y, r ++ [n] = x :: y := by
        cases r with
        | nil => exact ⟨n, [], rfl⟩
        | cons x y => exact ⟨x, y ++ [n], rfl⟩
      obtain ⟨x, y, hxy⟩ := hr
      have h : tabG p (a :: f :: v :: (r ++ [n])) = some q := h
      rw [hxy] at h
      have h : (if rowsS (v0 f) = true then tabG (dotE p f) (x :: y) else if (v0 f).k = 7 then tabG (dotE p f) (v :: x :: y) else none) = some q := h
      show tabG p (a :: f :: v :: (r ++ [n] ++ l)) = _
      rw [hxy]
      show (if rowsS (v0 f) = true then tabG (dotE p f) (x :: (y ++ l)) else if (v0 f).k = 7 then tabG (dotE p f) (v :: x :: (y ++ l)) else none) = _
      by_cases h1 : rowsS (v0 f) = true
      · rw [if_pos h1] at h ⊢
        have h3 := ih r n (dotE p f) q l (by simp only [List.length_cons] at hN; omega) (by rw [hxy]; exact h)
        rw [hxy] at h3
        exact h3
      · rw [if_neg h1] at h ⊢
        by_cases h2 : (v0 f).k = 7
        · rw [if_pos h2] at h ⊢
          have h3 := ih (v :: r) n (dotE p f) q l (by simp only [List.length_cons] at hN ⊢; omega) (by show tabG _ (v :: (r ++ [n])) = _; rw [hxy]; exact h)
          have h4 : tabG (dotE p f) (v :: (r ++ [n] ++ l)) = tabG q (n :: l) := h3
          rw [hxy] at h4
          exact h4
        · rw [if_neg h2] at h; cases h
theorem tabS_snoc {way : List Nd} {n : Nd} {q : List UInt8} (h : tabS (way ++ [n]) = some q) (l : List Nd) : tabS (way ++ [n] ++ l) = tabG q (n :: l) := by
  cases way with
  | nil =>
    unfold tabS at h ⊢
    simp only [List.nil_append, List.cons_append] at h ⊢
    by_cases h7 : n.k = 7
    · rw [if_pos h7] at h ⊢
      injection h with h
      rw [← h]
    · rw [if_neg h7] at h; cases h
  | cons a r =>
    unfold tabS at h ⊢
    simp only [List.cons_append] at h ⊢
    by_cases h7 : a.k = 7
    · rw [if_pos h7] at h ⊢
      exact tabG_snoc (a :: r).length (a :: r) n [] q l (Nat.le_refl _) h
    · rw [if_neg h7] at h; cases h
theorem tabS_map {way : List Nd} {n f v : Nd} {q : List UInt8} (h : tabS (way ++ [n]) = some q) (h1 : rowsS (v0 f) = false) (h2 : (v0 f).k = 7) : tabS (way ++ [n] ++ [f] ++ [v]) = some (dotE q f) := by
  have h3 := tabS_snoc h [f, v]
  have h4 : tabG q [n, f, v] = some (dotE q f) := by
    show (if rowsS (v0 f) = true then none else if (v0 f).k = 7 then some (dotE q f) else none) = _
    rw [if_neg (by rw [h1]; simp), if_pos h2]
  rw [h4] at h3
  simpa using h3
theorem tabS_rows {way : List Nd} {n f v r : Nd} {q : List UInt8} (h : tabS (way ++ [n]) = some q) (h1 : rowsS (v0 f) = true) : tabS (way ++ [n] ++ [f] ++ [v] ++ [r]) = some (dotE q f) := by
  have h3 := tabS_snoc h [f, v, r]
  have h4 : tabG q [n, f, v, r] = some (dotE q f) := by
    show (if rowsS (v0 f) = true then tabG (dotE q f) [r] else if (v0 f).k = 7 then tabG (dotE q f) (v :: [r]) else none) = _
    rw [if_pos h1]; rfl
  rw [h4] at h3
  simpa using h3
theorem tabS_flat {way : List Nd} {n f : Nd} {q : List UInt8} (h : tabS (way ++ [n]) = some q) (h1 : rowsS (v0 f) = false) (h2 : (v0 f).k ≠ 7) (l : List Nd) : tabS (way ++ [n] ++ [f] ++ l) = none := by
  have h3 := tabS_snoc h (f :: l)
  have h4 : tabG q (n :: f :: l) = none := by
    match l with
    | [] => rfl
    | [v] =>
      show (if rowsS (v0 f) = true then none else if (v0 f).k = 7 then some (dotE q f) else none) = _
      rw [if_neg (by rw [h1]; simp), if_neg h2]
    | v :: r :: l =>
      show (if rowsS (v0 f) = true then tabG (dotE q f) (r :: l) else if (v0 f).k = 7 then tabG (dotE q f) (v :: r :: l) else none) = _
      rw [if_neg (by rw [h1]; simp), if_neg h2]
  rw [h4] at h3
  simpa using h3
theorem tpS_flat {way : List Nd} {n f : Nd} {q : List UInt8} (h : tabS (way ++ [n]) = some q) (h1 : rowsS (v0 f) = false) (h2 : (v0 f).k ≠ 7) (l : List Nd) (x : Nd) : tpS (way ++ [n] ++ [f] ++ l ++ [x]) = plainK x := by
  rw [tpS_last, tabS_flat h h1 h2 l]
  unfold plainK
  by_cases h10 : x.k = 10
  · rw [if_pos (.inl h10)]; simp [h10]
  · by_cases h11 : x.k = 1
    · rw [if_pos (.inr (.inl h11))]; simp [h11]
    · rw [if_neg (by simp [h10, h11]), decide_eq_true h10, decide_eq_true h11]
      split <;> rfl
theorem tpS_field {way : List Nd} {n f : Nd} {q : List UInt8} (h : tabS (way ++ [n]) = some q) (h8 : f.k = 8) : tpS (way ++ [n] ++ [f]) = fieldS q (way.length + 1) n f := by
  rw [tpS_last, if_neg (by simp [h8]), if_neg (by simp [h8]), h]
  simp only [List.length_append, List.length_singleton, List.getLastD_concat]
theorem tpS_map {way : List Nd} {n : Nd} (h7 : n.k = 7) : tpS (way ++ [n]) = true := by
  rw [tpS_last, if_neg (by simp [h7]), if_pos (by omega)]
theorem tpS_list {way : List Nd} {n : Nd} (h5 : n.k = 5) (hw : way ≠ []) : tpS (way ++ [n]) = true := by
  rw [tpS_last, if_neg (by simp [h5, hw]), if_pos (by omega)]
def PathK (way : List Nd) (q : List UInt8) : Prop := (way = [] ∧ q = []) ∨ (way ≠ [] ∧ q ≠ [])
def pathL (way : List Nd) (q : List UInt8) : Nat := if way = [] then 0 else q.length + 1
theorem path_len {way : List Nd} {q : List UInt8} (h : PathK way q) (f : Nd) : (dotE q f).length = pathL way q + (wordP f.t).1.size := by
  have hs : (wordP f.t).1.data.toList.length = (wordP f.t).1.size := Array.length_toList
  unfold dotE pathL
  rcases h with ⟨h1, h2⟩ | ⟨h1, h2⟩
  · rw [if_pos h2, if_pos h1, List.nil_append, hs]; omega
  · rw [if_neg h2, if_neg h1]
    simp only [List.length_append, List.length_singleton, hs]
theorem dotE_ne {q : List UInt8} {f : Nd} (h : qt f.t = quoteL f.t.data.toList) : dotE q f ≠ [] := by
  obtain ⟨x, r, e, _⟩ := word_head h
  unfold dotE
  rw [e]; simp
theorem pathL_next {way : List Nd} {q : List UInt8} (hw : way ≠ []) : pathL way q = q.length + 1 := by unfold pathL; rw [if_neg hw]
theorem field_deep {way : List Nd} {n f : Nd} {q : List UInt8} (hp : PathK way q) (hd : deepS f = true) : fieldS q (way.length + 1) n f = decide (pathL way q + (wordP f.t).1.size + (if rowsS (v0 f) = true then 4 else 2) ≤ 160) := by
  unfold fieldS pathL
  rw [if_pos hd]
  apply decide_eq_decide.2
  rcases hp with ⟨h1, h2⟩ | ⟨h1, h2⟩
  · subst h1 h2
    rw [if_neg (by simp), if_pos rfl]
    split <;> omega
  · rw [if_pos (.inl h2), if_neg h1]
    split <;> omega
theorem ahead_take {n : Nd} (hnd : (n.kids.map fun x => x.t.data.toList).Nodup) {i : Nat} (hi : i < n.kids.length) : aheadS n n.kids[i] = (n.kids.take i).any deepS := by
  unfold aheadS
  congr 1
  have key : ∀ (l : List Nd) (i : Nat) (hi : i < l.length), (l.map fun x => x.t.data.toList).Nodup → (l.takeWhile fun x => decide (x.t ≠ l[i].t)) = l.take i := by
    intro l
    induction l with
    | nil => intro i hi; simp at hi
    | cons a r ih =>
      intro i hi hn
      rw [List.map_cons, List.nodup_cons] at hn
      cases i with
      | zero => simp
      | succ i =>
        have hi2 : i < r.length := by simpa using hi
        have hne : a.t ≠ r[i].t := fun e => hn.1 (List.mem_map.2 ⟨r[i], List.getElem_mem hi2, by rw [e]⟩)
        rw [List.getElem_cons_succ, List.takeWhile_cons, decide_eq_true hne, List.take_succ_cons]
        simp only [if_true]
        rw [ih i hi2 hn.2]
  exact key n.kids i hi hnd
end Go.Proofs.YtmniblcooficgaaGreatDoor
namespace Go.Proofs.YtmniblcooficgaaGreatDoor
open Go.RowKit Ev5
set_option linter.unusedSimpArgs false
set_option linter.unusedVariables false

theorem elems_field {f v : Nd} (h8 : f.k = 8) (hk : f.kids = [v]) : f.elems = v.elems := by
  cases f with
  | mk a b c d =>
    have hk : d = [v] := hk
    have h8 : a = 8 := h8
    subst hk h8
    rw [elems_mk, Nd.elemss, Nd.elemss]
    simp
set_option maxRecDepth 100000 in
set_option maxHeartbeats 4000000 in
theorem fits_any (f v : Nd) (hk : f.kids = [v]) (h8 : f.k = 8) (hw : v.wh = 0) (hok : f.ok) (hsz : f.size ≤ 50000) (W : World) (S : Nat → Prop) (X : Nat) (u : Value) (hE : EnvU W) (hv : NdV W S (ndV f u) f) :
    Calls Tryz.prog 60 #[.pointer (some ⟨X, 0, none⟩), ndV f u] W fun e w' => e = .returned (.bool (f.elems || decide ((f.txt rowF).length ≤ 160))) ∧ Below W.heap.size W w' := by
  obtain ⟨u2, e2, hs⟩ := hv
  obtain rfl : u = u2 := by simpa [ndV] using e2
  clear e2
  obtain ⟨ao, cap, rfl, hcap, hcm⟩ := hs.shape
  have hvk : v.ok ∧ v.size ≤ 50000 := by
    cases f with
    | mk a b c d =>
      have hk : d = [v] := hk
      subst hk
      rw [ok_mk] at hok
      rw [size_mk, sizes_cons] at hsz
      exact ⟨(oks_iff _).1 hok.2 v (by simp), by omega⟩
  have HB0 := Lib.hid (show Below W.heap.size W (W.alloc (.cells #[.int .i64 f.k, .string f.t, .string f.v, .slice ao f.kids.length cap] 24)) from (Below.refl _ _).alloc (Nat.le_refl _) _)
  have HX := Lib.hid (heap_alloc_new W (.cells #[.int .i64 f.k, .string f.t, .string f.v, .slice ao f.kids.length cap] 24))
  obtain ⟨E, hEq⟩ : ∃ E, (ofP tpB v).2 = E := ⟨_, rfl⟩
  obtain ⟨q, hq⟩ : ∃ q, plc (ofP tpB v) = q := ⟨_, rfl⟩
  have HQ := Lib.hid (fun (w' : World) (S : Nat → Prop) (x : Value) (h1 : EnvU w') (h2 : NdV w' S x v) => (carryBrace_any v w' S x h1 h2 hvk.1 hvk.2).mono fun e w2 h => h.to hEq hq)
  have hEE : E = if v.elems = true then 20 else 0 := by rw [← hEq, ofB_err, if_neg (by rw [hw]; simp)]
  obtain ⟨Y, hY, hYL⟩ : ∃ Y : ByteArray, strV (f.txt rowF) = .string Y ∧ Y.size = (f.txt rowF).length := ⟨_, rfl, rfl⟩
  have HRW := Lib.hid (fun (w' : World) (S : Nat → Prop) (x : Value) (h1 : EnvU w') (h2 : NdV w' S x f) => (row_any f hok hsz w' S x h1 h2).mono fun e w2 h => show e = .returned (.string Y) ∧ Below w'.heap.size w' w2 from ⟨by rw [h.1, hY], h.2⟩)
  have hfe := elems_field h8 hk
  have hlen : f.kids.length = 1 := by rw [hk]; rfl
  obtain ⟨kb, ko, kx, hko, hkw, k0, k1, k2, k3, hkx⟩ := hs.at_ 0 (by omega)
  obtain ⟨ay, cy, rfl, hy1, hy2⟩ := hkx.shape
  clear hy1 hy2
  subst hko
  have hget : f.kids[0]'(by omega) = v := by
    have h := List.getElem_of_eq hk (i := 0) (by omega)
    rw [h]; rfl
  rw [hget] at k0 k1 k2 k3 hkx
  rw [Nat.zero_mul, Nat.add_zero] at k0 k1 k2 k3
  have HVV := Lib.hid (show NdV W _ (.agg #[.int .i64 v.k, .string v.t, .string v.v, .slice ay v.kids.length cy]) v from NdV.mk hkx.ltC)
  have HFV := Lib.hid (show NdV W _ (.agg #[.int .i64 f.k, .string f.t, .string f.v, .slice (some ⟨kb, ko, none⟩) f.kids.length cap]) f from NdV.mk hs.ltC)
  have d0 := (HB0.out.cell (p := ⟨kb, ko, none⟩) hkw).trans k0
  have d1 := (HB0.out.cell (p := ⟨kb, ko + 1, none⟩) hkw).trans k1
  have d2 := (HB0.out.cell (p := ⟨kb, ko + 2, none⟩) hkw).trans k2
  have d3 := (HB0.out.cell (p := ⟨kb, ko + 3, none⟩) hkw).trans k3
  have hkl := Nat.lt_of_lt_of_le hkw HB0.out.size
  have hYs : Y.size ≤ 1050000 * 50000 := by
    have h1 := txt_len textF_row f hok
    rw [hYL]
    omega
  have HE := Lib.hid hE
  have hl1 : (0 : Int) < (f.kids.length : Int) := by omega
  clear hs hE hok hsz hvk hEq hq hY hw k0 k1 k2 k3 hkx hget h8
  unfold ndV
  unfold maxLen at *
  by_cases hel : v.elems = true
  · rw [if_pos hel] at hEE
    subst hEE
    have HR := Lib.hid (show (f.elems || decide ((f.txt rowF).length ≤ 160)) = true by rw [hfe, hel]; rfl)
    clear hel hfe hk hlen hYL
    go_enter Tryz.func60, Tryz.ntmps60
    go_wp2_with fail
    refine (HQ.out _ _ _ (HE.out.below HB0.out) (HVV.out.below HB0.out)).mono ?_
    rintro e w2 ⟨hb, a2, c2, rfl, hi⟩
    have HB2 := Lib.hid (bthen HB0.out hb)
    clear hb hi
    go_wp2_with fail
    go_ret
    exact ⟨by rw [HR.out]; rfl, HB2.out⟩
  · rw [if_neg hel] at hEE
    subst hEE
    have HR := Lib.hid (show (f.elems || decide ((f.txt rowF).length ≤ 160)) = decide ((Y.size : Int) ≤ 160) by
      rw [hfe, show v.elems = false by simpa using hel, Bool.false_or, ← hYL]
      exact decide_eq_decide.2 (by omega))
    clear hel hfe hk hlen hYL
    go_enter Tryz.func60, Tryz.ntmps60
    go_wp2_with fail
    refine (HQ.out _ _ _ (HE.out.below HB0.out) (HVV.out.below HB0.out)).mono ?_
    rintro e w2 ⟨hb, a2, c2, rfl, hi⟩
    have HB2 := Lib.hid (bthen HB0.out hb)
    have HX2 := Lib.hid ((hb.block _ (lt_blk HX.out)).trans HX.out)
    clear hb hi d0 d1 d2 d3
    obtain ⟨x0, x1, x2, x3, _, _, _, _, hxl⟩ := nd_cells HX2.out
    go_wp2_with fail
    refine (HRW.out _ _ _ (HE.out.below HB2.out) (HFV.out.below HB2.out)).mono ?_
    rintro e w3 ⟨rfl, hb⟩
    have HB3 := Lib.hid (bthen HB2.out hb)
    clear hb
    go_wp2_with fail
    go_ret
    exact ⟨by rw [HR.out]; rfl, HB3.out⟩
end Go.Proofs.YtmniblcooficgaaGreatDoor
