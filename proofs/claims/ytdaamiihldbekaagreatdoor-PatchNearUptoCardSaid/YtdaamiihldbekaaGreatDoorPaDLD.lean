import Derived.Test.YtdaamiihldbekaaGreatDoorPaN3
import Derived.Deep.RegionLaw
import Derived.Deep.Upon
import Derived.Deep.RegionHeldLaw
import Derived.Test.YtdaamiihldbekaaGreatDoorPaN4
/- Plain Lean: what makes a tree into another one. -/
namespace Go.Proofs.YtdaamiihldbekaaGreatDoor
open Ev5
set_option linter.unusedSimpArgs false
set_option linter.unusedVariables false

/-- Which kids are unlike. -/
noncomputable def unlikes (a b : Nd) : List Nat := open Classical in (List.range a.kids.length).filter fun i => decide (a.kids[i]? ≠ b.kids[i]?)
/-- May the unlike kids be made one after the other? -/
def Apart (a b : Nd) : Prop := ∀ i : Nat, a.kids[i]? ≠ b.kids[i]? → a.k = 5 ∨ (a.kids[i]?.map Nd.sk) = (b.kids[i]?.map Nd.sk)
def wholeOp (b : Nd) (p : List Int) : GoOp := ⟨3, p, b, ⟨#[]⟩⟩
/-- Is the whole replaced? -/
def Coarse (a b : Nd) : Prop := a.k ≠ b.k ∨ a.t ≠ b.t ∨ a.v ≠ b.v ∨ a.kids.length ≠ b.kids.length ∨ (1 < (unlikes a b).length ∧ ¬ Apart a b)
noncomputable def Nd.diff (a b : Nd) (p : List Int) : List GoOp :=
  open Classical in
  if a = b then []
  else if Coarse a b then [wholeOp b p]
  else (List.ofFn fun i : _root_.Fin a.kids.length => (a.kids[i]).diff (b.kids.getD i b) (p ++ [(i : Int)])).flatten
termination_by a.size
decreasing_by exact kid_size i.2
/-- What is done for a kid. -/
noncomputable def diffAt (a b : Nd) (p : List Int) (i : Nat) : List GoOp := if h : i < a.kids.length then (a.kids[i]).diff (b.kids.getD i b) (p ++ [(i : Int)]) else []
theorem diff_same (a : Nd) (p : List Int) : a.diff a p = [] := by rw [Nd.diff, if_pos rfl]
theorem diff_coarse {a b : Nd} {p : List Int} (h : a ≠ b) (hc : Coarse a b) : a.diff b p = [wholeOp b p] := by rw [Nd.diff, if_neg h, if_pos hc]
theorem diff_fine {a b : Nd} {p : List Int} (h : a ≠ b) (hc : ¬ Coarse a b) : a.diff b p = (List.range a.kids.length).flatMap (diffAt a b p) := by
  rw [Nd.diff, if_neg h, if_neg hc, List.flatMap_def]
  congr 1
  apply List.ext_getElem
  · simp
  · intro i h1 h2
    simp only [List.getElem_ofFn, List.getElem_map, List.getElem_range]
    unfold diffAt
    rw [dif_pos (by simpa using h1)]
    rfl
theorem coarse_free {a b : Nd} (hc : ¬ Coarse a b) : a.k = b.k ∧ a.t = b.t ∧ a.v = b.v ∧ a.kids.length = b.kids.length ∧ Free a.k a.kids b.kids := by
  unfold Coarse at hc
  have h1 : a.k = b.k := Classical.byContradiction fun h => hc (.inl h)
  have h2 : a.t = b.t := Classical.byContradiction fun h => hc (.inr (.inl h))
  have h3 : a.v = b.v := Classical.byContradiction fun h => hc (.inr (.inr (.inl h)))
  have h4 : a.kids.length = b.kids.length := Classical.byContradiction fun h => hc (.inr (.inr (.inr (.inl h))))
  refine ⟨h1, h2, h3, h4, ?_⟩
  by_cases ha : Apart a b
  · by_cases h5 : a.k = 5
    · exact .inr (.inl h5)
    · refine .inr (.inr (List.ext_getElem? fun i => ?_))
      rw [List.getElem?_map, List.getElem?_map]
      by_cases hi : a.kids[i]? = b.kids[i]?
      · rw [hi]
      · exact (ha i hi).resolve_left h5
  · left
    have hl : (unlikes a b).length ≤ 1 := Classical.byContradiction fun h => hc (.inr (.inr (.inr (.inr ⟨by omega, ha⟩))))
    intro i j hi hj
    have mem : ∀ i : Nat, a.kids[i]? ≠ b.kids[i]? → i ∈ unlikes a b := fun i hi => by
      unfold unlikes
      rw [List.mem_filter]
      refine ⟨?_, by simpa using hi⟩
      rw [List.mem_range]
      refine Classical.byContradiction fun h => hi ?_
      rw [List.getElem?_eq_none (by omega), List.getElem?_eq_none (by omega)]
    have h1 := mem i hi
    have h2 := mem j hj
    match h : unlikes a b with
    | [] => rw [h] at h1; cases h1
    | [x] => rw [h] at h1 h2; rw [List.mem_singleton.1 h1, List.mem_singleton.1 h2]
    | x :: y :: r => rw [h] at hl; simp at hl
theorem play_whole {root a b : Nd} {p : List Int} (hat : root.at_ p = some a) (hw : (root.put p [b]).wh = 0) : playP root [wholeOp b p] = (root.put p [b], 1, 0) := by
  have h1 : oneP root (wholeOp b p) = (root.put p [b], 0) := by
    unfold oneP wholeOp
    simp only []
    rw [if_neg (by omega), if_neg (by omega), hat]
    simp
  simp only [playP]
  rw [h1]
  simp [hw]
/-- What is told makes the one into the other. -/
theorem play_diff : ∀ (N : Nat) (a b root : Nd) (p : List Int), a.size ≤ N → root.at_ p = some a → (∀ m, Mdl a b m → (root.put p [m]).wh = 0) → playP root (a.diff b p) = (root.put p [b], (a.diff b p).length, 0) := by
  intro N
  induction N with
  | zero => intro a b root p hs; have := kids_size a; omega
  | succ N ih =>
    intro a b root p hs hat hm
    by_cases he : a = b
    · subst he
      rw [diff_same, put_self hat]; rfl
    · by_cases hc : Coarse a b
      · rw [diff_coarse he hc]
        exact play_whole hat (hm b (.right _ _))
      · rw [diff_fine he hc]
        obtain ⟨h1, h2, h3, h4, hf⟩ := coarse_free hc
        obtain ⟨c, hcc⟩ : ∃ c : Nat → Nd, ∀ i, c i = .mk a.k a.t a.v (b.kids.take i ++ a.kids.drop i) := ⟨_, fun _ => rfl⟩
        have key : ∀ i, i ≤ a.kids.length → playP root ((List.range i).flatMap (diffAt a b p)) = (root.put p [c i], ((List.range i).flatMap (diffAt a b p)).length, 0) := by
          intro i
          induction i with
          | zero =>
            intro _
            have : c 0 = a := by rw [hcc]; simp [nd_eta]
            rw [this, put_self hat]; rfl
          | succ i ih2 =>
            intro hi
            have hk := ih2 (by omega)
            have hi' : i < b.kids.length := by omega
            rw [List.range_succ, List.flatMap_append, play_app _ _ _ (by rw [hk]), hk]
            have hkid : (c i).kids.length = a.kids.length := by rw [hcc, kids_mk, List.length_append, List.length_take, List.length_drop]; omega
            have hgi : ((c i).kids[i]'(by omega)) = a.kids[i] := by
              have : (c i).kids = b.kids.take i ++ a.kids.drop i := by rw [hcc]; rfl
              simp only [this]
              rw [List.getElem_append_right (by simp; omega)]
              simp [List.length_take, Nat.min_eq_left (Nat.le_of_lt hi')]
            have hat1 := put_at (m := c i) hat
            have hat2 : (root.put p [c i]).at_ (p ++ [(i : Int)]) = some a.kids[i] := by
              rw [at_app hat1, at_yes (i := i) rfl (by omega), hgi]; rfl
            have hput : ∀ m, (root.put p [c i]).put (p ++ [(i : Int)]) [m] = root.put p [.mk a.k a.t a.v (b.kids.take i ++ m :: a.kids.drop (i + 1))] := by
              intro m
              rw [put_last hat1 (by omega), put_put hat]
              have e1 : (c i).kids = b.kids.take i ++ a.kids.drop i := by rw [hcc]; rfl
              have e2 : (c i).kids.take i = b.kids.take i := by rw [e1, List.take_append_of_le_length (by simp; omega), List.take_take, Nat.min_self]
              have e3 : (c i).kids.drop (i + 1) = a.kids.drop (i + 1) := by
                rw [e1, List.drop_append, List.drop_of_length_le (by simp; omega), List.nil_append, List.drop_drop]
                congr 1
                simp; omega
              have e4 : (c i).k = a.k ∧ (c i).t = a.t ∧ (c i).v = a.v := by rw [hcc]; exact ⟨rfl, rfl, rfl⟩
              rw [e2, e3, e4.1, e4.2.1, e4.2.2]; simp
            have hd : diffAt a b p i = (a.kids[i]).diff b.kids[i] (p ++ [(i : Int)]) := by
              unfold diffAt
              rw [dif_pos (by omega), List.getD_eq_getElem?_getD, List.getElem?_eq_getElem hi']; rfl
            have hkz := kid_size (n := a) (i := i) (by omega)
            have hstep := ih a.kids[i] b.kids[i] (root.put p [c i]) (p ++ [(i : Int)]) (by omega) hat2 (fun m hm2 => by
              rw [hput]
              refine hm _ ?_
              have ea : a = .mk a.k a.t a.v (a.kids.take i ++ a.kids[i] :: a.kids.drop (i + 1)) := by
                rw [← List.drop_eq_getElem_cons (by omega), List.take_append_drop, nd_eta]
              have eb : b = .mk a.k a.t a.v (b.kids.take i ++ b.kids[i] :: b.kids.drop (i + 1)) := by
                rw [← List.drop_eq_getElem_cons (by omega), List.take_append_drop, h1, h2, h3, nd_eta]
              have hs := Mdl.step a.k a.t a.v (a.kids.take i) (a.kids.drop (i + 1)) (b.kids.take i) (b.kids.drop (i + 1)) a.kids[i] b.kids[i] m (by simp; omega) (by simp; omega) (by
                rw [← List.drop_eq_getElem_cons (by omega), List.take_append_drop, ← List.drop_eq_getElem_cons (by omega), List.take_append_drop]; exact hf) hm2
              rw [← ea, ← eb] at hs
              exact hs)
            have e5 : c (i + 1) = .mk a.k a.t a.v (b.kids.take i ++ b.kids[i] :: a.kids.drop (i + 1)) := by
              rw [hcc, List.take_add_one, List.getElem?_eq_getElem hi', List.append_assoc]; rfl
            simp only [List.flatMap_cons, List.flatMap_nil, List.append_nil]
            rw [hd, hstep, hput, ← e5, List.length_append]
        have hfin := key a.kids.length (Nat.le_refl _)
        have e6 : c a.kids.length = b := by
          rw [hcc, List.drop_length, List.append_nil, h4, List.take_length, h1, h2, h3, nd_eta]
        rw [e6] at hfin
        exact hfin
/-- What is told makes a tree that stands into another one that stands. -/
theorem apply_diff {a b : Nd} (ha : a.wh = 0) (hb : b.wh = 0) : applyP a (a.diff b []) = (b, (a.diff b []).length, 0) := by
  have h := play_diff a.size a b a [] (Nat.le_refl _) (at_nil a) (fun m hm => by rw [put_nil]; exact mid_wh hm ha hb)
  rw [put_nil] at h
  unfold applyP
  rw [if_neg (by rw [ha]; simp), h, if_neg (by simp)]
theorem opsSize_app (l r : List GoOp) : opsSize (l ++ r) = opsSize l + opsSize r := by unfold opsSize; rw [List.map_append, List.sum_append]
theorem opsSize_one (o : GoOp) : opsSize [o] = o.node.size := by simp [opsSize]
/-- What is told is no greater than what is to be. -/
theorem diff_size : ∀ (N : Nat) (a b : Nd) (p : List Int), a.size ≤ N → opsSize (a.diff b p) ≤ b.size := by
  intro N
  induction N with
  | zero => intro a b p hs; have := kids_size a; omega
  | succ N ih =>
    intro a b p hs
    by_cases he : a = b
    · subst he; rw [diff_same]; simp [opsSize]
    · by_cases hc : Coarse a b
      · rw [diff_coarse he hc, opsSize_one]; exact Nat.le_refl _
      · rw [diff_fine he hc]
        obtain ⟨h1, h2, h3, h4, hf⟩ := coarse_free hc
        have key : ∀ i, i ≤ a.kids.length → opsSize ((List.range i).flatMap (diffAt a b p)) ≤ Nd.sizes (b.kids.take i) := by
          intro i
          induction i with
          | zero => intro _; simp [opsSize]
          | succ i ih2 =>
            intro hi
            have hi' : i < b.kids.length := by omega
            have hkz := kid_size (n := a) (i := i) (by omega)
            have hd : diffAt a b p i = (a.kids[i]).diff b.kids[i] (p ++ [(i : Int)]) := by
              unfold diffAt
              rw [dif_pos (by omega), List.getD_eq_getElem?_getD, List.getElem?_eq_getElem hi']; rfl
            rw [List.range_succ, List.flatMap_append, opsSize_app, List.take_add_one, List.getElem?_eq_getElem hi', sizes_app]
            simp only [List.flatMap_cons, List.flatMap_nil, List.append_nil, Option.toList]
            rw [hd, sizes_cons]
            have := ih2 (by omega)
            have := ih a.kids[i] b.kids[i] (p ++ [(i : Int)]) (by omega)
            omega
        have := key a.kids.length (Nat.le_refl _)
        rw [show b.kids.take a.kids.length = b.kids by rw [h4, List.take_length]] at this
        have := kids_size b
        omega
/-- Each operation told is a replacement behind the place. -/
theorem diff_ops : ∀ (N : Nat) (a b : Nd) (p : List Int), a.size ≤ N → ∀ o ∈ a.diff b p, o.k = 3 ∧ p <+: o.place ∧ o.t = ⟨#[]⟩ ∧ (b.ok → o.node.ok) ∧ ∀ x ∈ o.place, x ∈ p ∨ (0 ≤ x ∧ x < a.size) := by
  intro N
  induction N with
  | zero => intro a b p hs; have := kids_size a; omega
  | succ N ih =>
    intro a b p hs o ho
    by_cases he : a = b
    · subst he; rw [diff_same] at ho; cases ho
    · by_cases hc : Coarse a b
      · rw [diff_coarse he hc, List.mem_singleton] at ho
        subst ho
        exact ⟨rfl, List.prefix_refl _, rfl, id, fun x hx => .inl hx⟩
      · rw [diff_fine he hc, List.mem_flatMap] at ho
        obtain ⟨h1, h2, h3, h4, hf⟩ := coarse_free hc
        obtain ⟨i, hi, ho⟩ := ho
        rw [List.mem_range] at hi
        have hi' : i < b.kids.length := by omega
        have hkz := kid_size (n := a) (i := i) (by omega)
        have hd : diffAt a b p i = (a.kids[i]).diff b.kids[i] (p ++ [(i : Int)]) := by
          unfold diffAt
          rw [dif_pos (by omega), List.getD_eq_getElem?_getD, List.getElem?_eq_getElem hi']; rfl
        rw [hd] at ho
        obtain ⟨g1, g2, g3, g4, g5⟩ := ih _ _ _ (by omega) o ho
        refine ⟨g1, (List.prefix_append _ _).trans g2, g3, fun hb => g4 ?_, fun x hx => ?_⟩
        · exact (oks_iff _).1 (ok_kids.1 hb).2 _ (List.getElem_mem hi')
        · rcases g5 x hx with h | h
          · rcases List.mem_append.1 h with h | h
            · exact .inl h
            · right
              rw [List.mem_singleton.1 h]
              have := kids_size a
              have := sizes_len a.kids
              omega
          · right; omega
theorem wf_small {x : Int} (h : 0 ≤ x) (h2 : x ≤ 1048576) : (Lit.int .i64 x).wf = true := by
  have h3 : IntKind.i64.min = -9223372036854775808 := rfl
  have h4 : IntKind.i64.max = 9223372036854775807 := rfl
  simp only [Lit.wf, h3, h4, Bool.and_eq_true, decide_eq_true_eq]
  omega
theorem diff_opsok {a b : Nd} {p : List Int} (hb : b.ok) (hp : ∀ x ∈ p, (Lit.int .i64 x).wf = true) (hs : a.size ≤ 1048576) : ∀ o ∈ a.diff b p, o.ok := by
  intro o ho
  obtain ⟨g1, g2, g3, g4, g5⟩ := diff_ops a.size a b p (Nat.le_refl _) o ho
  refine ⟨by rw [g1]; rfl, fun x hx => ?_, g4 hb, by rw [g3]; exact Nat.zero_le _⟩
  rcases g5 x hx with h | h
  · exact hp x h
  · exact wf_small h.1 (by omega)
open Classical in
/-- What differs at a place alone is changed there. -/
theorem diff_near : ∀ (q : List Int) (a x y : Nd) (p : List Int), a.at_ q = some y → ∀ o ∈ a.diff (a.put q [x]) p, (p ++ q) <+: o.place := by
  intro q
  induction q with
  | nil =>
    intro a x y p h o ho
    rw [List.append_nil]
    exact (diff_ops a.size _ _ _ (Nat.le_refl _) o ho).2.1
  | cons k r ih =>
    intro a x y p h o ho
    obtain ⟨i, hi, rfl, h2⟩ := at_cons h
    have hput := put_one (n := a) (m := x) (r := r) (i := i) rfl hi
    obtain ⟨b, hb⟩ : ∃ b, a.put ((i : Int) :: r) [x] = b := ⟨_, rfl⟩
    rw [hb] at hput ho
    by_cases he : a = b
    · rw [← he, diff_same] at ho; cases ho
    · have hkb : b.kids = a.kids.take i ++ [a.kids[i].put r [x]] ++ a.kids.drop (i + 1) := by rw [hput]; rfl
      have hlen : b.kids.length = a.kids.length := by rw [hkb, len_mid _ _ hi]
      have hoth : ∀ j : Nat, j ≠ i → a.kids[j]? = b.kids[j]? := by
        intro j hj
        rw [hkb]
        rcases Nat.lt_or_gt_of_ne hj with hj | hj
        · rw [List.append_assoc, List.getElem?_append_left (by simp; omega), List.getElem?_take_of_lt hj]
        · rw [List.getElem?_append_right (by simp; omega), List.getElem?_drop]
          congr 1
          simp; omega
      have hun : (unlikes a b).length ≤ 1 := by
        have : List.Sublist (unlikes a b) [i] := by
          unfold unlikes
          have h3 : ∀ n, List.Sublist ((List.range n).filter fun j => decide (a.kids[j]? ≠ b.kids[j]?)) (if i < n then [i] else []) := by
            intro n
            induction n with
            | zero => simp
            | succ n ihn =>
              rw [List.range_succ, List.filter_append]
              by_cases hn : n = i
              · subst hn
                rw [if_neg (by omega)] at ihn
                rw [if_pos (by omega), List.sublist_nil.1 ihn, List.nil_append]
                simp only [List.filter_cons, List.filter_nil]
                split
                · exact List.Sublist.refl _
                · exact List.nil_sublist _
              · simp only [List.filter_cons, List.filter_nil]
                rw [if_neg (by simp [hoth n hn]), List.append_nil]
                refine ihn.trans ?_
                by_cases hin : i < n
                · rw [if_pos hin, if_pos (by omega)]; exact List.Sublist.refl _
                · rw [if_neg hin]; exact List.nil_sublist _
          have h4 := h3 a.kids.length
          rw [if_pos hi] at h4
          exact h4
        exact this.length_le
      have hc : ¬ Coarse a b := by
        rintro (h | h | h | h | h)
        · exact h (by rw [hput]; rfl)
        · exact h (by rw [hput]; rfl)
        · exact h (by rw [hput]; rfl)
        · exact h hlen.symm
        · omega
      rw [diff_fine he hc, List.mem_flatMap] at ho
      obtain ⟨j, hj, ho⟩ := ho
      rw [List.mem_range] at hj
      have hd : diffAt a b p j = (a.kids[j]).diff (b.kids[j]'(by omega)) (p ++ [(j : Int)]) := by
        unfold diffAt
        rw [dif_pos hj, List.getD_eq_getElem?_getD, List.getElem?_eq_getElem (by omega)]; rfl
      rw [hd] at ho
      by_cases hji : j = i
      · subst hji
        have hbj : (b.kids[j]'(by omega)) = a.kids[j].put r [x] := by
          simp only [hkb]
          exact get_mid _ _ hi _ _
        rw [hbj] at ho
        have := ih a.kids[j] x y (p ++ [(j : Int)]) h2 o ho
        rwa [List.append_assoc] at this
      · have h5 := hoth j hji
        rw [List.getElem?_eq_getElem hj, List.getElem?_eq_getElem (by omega)] at h5
        rw [← Option.some.inj h5, diff_same] at ho
        cases ho
end Go.Proofs.YtdaamiihldbekaaGreatDoor

/- The walk of patch.beside; slices.Clone at []int. -/
namespace Go.Proofs.YtdaamiihldbekaaGreatDoor
open Go.RowKit Ev5
set_option linter.unusedSimpArgs false
set_option linter.unusedVariables false

theorem sk_iff (a b : Nd) : a.sk = b.sk ↔ a.k = b.k ∧ (a.k ≠ 8 ∧ a.k ≠ 11 ∨ a.t = b.t) := by
  unfold Nd.sk
  rw [Prod.mk.injEq]
  constructor
  · rintro ⟨h1, h2⟩
    refine ⟨h1, ?_⟩
    by_cases h : a.k = 8 ∨ a.k = 11
    · rw [if_pos h, if_pos (h1 ▸ h)] at h2; exact .inr h2
    · left; omega
  · rintro ⟨h1, h2⟩
    refine ⟨h1, ?_⟩
    by_cases h : a.k = 8 ∨ a.k = 11
    · rw [if_pos h, if_pos (h1 ▸ h)]
      exact h2.resolve_left (by omega)
    · rw [if_neg h, if_neg (h1 ▸ h)]
theorem sk_iff2 (a b : Nd) : a.sk = b.sk ↔ a.k = b.k ∧ (a.k ≠ 8 ∧ a.k ≠ 11 ∨ a.t.toList = b.t.toList) := by
  rw [sk_iff]
  exact and_congr Iff.rfl (or_congr Iff.rfl ⟨fun h => by rw [h], toL_inj⟩)
set_option maxRecDepth 100000 in
set_option maxHeartbeats 4000000 in
theorem beside_any (w : World) (S S' : Nat → Prop) (va vb : Value) (a b : Nd) (hva : NdV w S va a) (hvb : NdV w S' vb b) :
    Calls Tryz.prog 67 #[va, vb] w fun e w' => (∃ r, e = .returned (.bool r) ∧ (r = true ↔ a.sk = b.sk)) ∧ Below w.heap.size w w' := by
  obtain ⟨ua, rfl, hsa⟩ := hva
  obtain ⟨ub, rfl, hsb⟩ := hvb
  obtain ⟨aa, ac, rfl, _, _⟩ := hsa.shape
  obtain ⟨ba, bc, rfl, _, _⟩ := hsb.shape
  clear hsa hsb
  have HS := Lib.hid (sk_iff2 a b)
  unfold ndV
  go_enter Tryz.func67, Tryz.ntmps67
  go_wp2_with fail
  all_goals
    go_ret
    refine ⟨⟨_, rfl, ?_⟩, ((Below.refl _ _).alloc (Nat.le_refl _) _).alloc (by simp) _⟩
    rw [HS.out]
    clear HS
    simp_all
/-! Rows of whole numbers. -/
def intRow (l : List Int) : List Value := l.map fun x => .int .i64 x
theorem infoZ : (Tryz.prog.info? 3).map (fun i => (i.zero, i.size, i.bytes)) = some (some (.int .i64 0), 1, 8) := by kernel_rfl
theorem intRow_len (l : List Int) : (intRow l).length = l.length := List.length_map ..
theorem intRow_one (l : List Int) : ∀ u ∈ intRow l, u.oneCell' = true := by
  intro u hu
  obtain ⟨x, _, rfl⟩ := List.mem_map.1 hu
  rfl
theorem owns_ints {w : World} {base : Nat} {v : Value} {l : List Int} (h : w.ownsRow base 3 1 v l.length (intRow l)) (hw : ∀ x ∈ l, (Lit.int .i64 x).wf = true) : IntsIn w v l := by
  rcases h.2 with ⟨rfl, h0⟩ | ⟨g, cap, cur, rfl, hb, hg, hc, hm, hs, ht⟩
  · obtain rfl : l = [] := List.eq_nil_of_length_eq_zero h0
    exact ⟨⟨none, 0, rfl, Nat.le_refl _, by decide, fun i hi => by simp at hi⟩, hw⟩
  · refine ⟨⟨some ⟨g, 0, none⟩, cap, rfl, hc, hm, fun i hi => ⟨g, 0, rfl, ?_⟩⟩, hw⟩
    rw [cell_of_row w g (0 + i) _ _ _ hg, Nat.zero_add]
    have h1 : cur.toList.take (l.length * 1) = intRow l := ht
    have h2 : (cur.toList.take (l.length * 1))[i]? = some (.int .i64 l[i]) := by rw [h1]; simp [intRow, hi]
    rw [List.getElem?_take_of_lt (by omega)] at h2
    simpa using h2
/-- What Clone of whole numbers hands back. -/
def IClone (l : List Int) (w : World) (e : Ending) (w' : World) : Prop := ∃ v, e = .returned v ∧ w'.ownsRow w.heap.size 3 1 v l.length (intRow l) ∧ Below w.heap.size w w'
set_option maxRecDepth 100000 in
set_option maxHeartbeats 4000000 in
theorem cloneI_any (w : World) (u : Value) (l : List Int) (hs : IntsIn w u l) (hl : l.length ≤ 1048576) :
    Calls Tryz.prog 66 #[u] w (IClone l w) := by
  obtain ⟨ao, cap, rfl, hc, hm, hcell⟩ := hs.ex
  obtain ⟨i0, hi, hz0, hz1, hz2⟩ := info_parts infoZ
  have HI := Lib.hid hi; clear hi
  have H1 := Lib.hid (intRow_one l)
  clear hs
  unfold maxLen at hm
  have q22 : ∀ (w : World) (a : Option Addr) (n c n' c' : Nat), (binOp .eql 40 (.slice a n c) (.slice none n' c')).run Tryz.prog w = .ok (.bool a.isNone) w := fun w a n c n' c' => Lib.run_eql_slice_nil w _ _ a n c n' c' Tryz.underlying40
  cases ao with
  | none =>
    obtain rfl : l = [] := by
      refine List.eq_nil_of_length_eq_zero (Nat.eq_zero_of_not_pos fun h => ?_)
      obtain ⟨b, o, e, _⟩ := hcell 0 h
      cases e
    go_enter Tryz.func66, Tryz.ntmps66
    go_wp2_with fail
    go_ret
    exact ⟨_, rfl, World.ownsRow_nil _ _ _ _, Below.refl _ _⟩
  | some a =>
    obtain ⟨ab, aoff, asp⟩ := a
    have HC := Lib.hid (show ∀ (w' : World), Below w.heap.size w w' → ∀ j u, (intRow l)[j]? = some u → w'.cell? ((⟨ab, aoff, asp⟩ : Addr).add j) = some u from fun w' hb j u hj => by
      obtain ⟨hj1, hj2⟩ := List.getElem?_eq_some_iff.1 hj
      rw [intRow_len] at hj1
      obtain ⟨b, o, e, h⟩ := hcell j hj1
      injection e with e; injection e with e1 e2 e3; subst e1; subst e2; subst e3
      have h5 : u = .int .i64 l[j] := by rw [← hj2]; simp [intRow]
      rw [Addr.add_lit, hb.cell (p := ⟨ab, aoff + j, none⟩) (cell_lt h), h5]
      exact h)
    clear hcell
    go_enter Tryz.func66, Tryz.ntmps66
    go_wp2_with (at_builtin; refine wpList_append_own_at _ rfl _ _ 40 rfl w.heap.size 3 i0 _ 1 8 Tryz.underlying40 HI.out hz0 hz1 hz2 rfl (by omega) _ 0 [] (by rfl) (World.ownsRow_made w #[] 0 (Nat.le_refl _) (by unfold maxLen; omega) rfl) ⟨ab, aoff, asp⟩ l.length cap (intRow l) (by rfl) (by rw [intRow_len]; omega) (HC.out _ ((Below.refl _ _).alloc (Nat.le_refl _) _)) H1.out (by unfold maxLen; omega) (by omega) (by simp) ?_; intro v' w' hown hgrow _ hat)
    all_goals
      go_ret
      refine ⟨v', rfl, ?_, ?_⟩
      · rw [Nat.zero_add, List.nil_append] at hown; exact hown
      · exact ((Below.refl _ _).alloc (Nat.le_refl _) _).grown hgrow (by simp) (fun k hk => by simp [Value.ownBlock] at hk; omega)
end Go.Proofs.YtdaamiihldbekaaGreatDoor

/- Rows of operations of the call's own. -/
namespace Go.Proofs.YtdaamiihldbekaaGreatDoor
open Go.RowKit Ev5
set_option linter.unusedSimpArgs false
set_option linter.unusedVariables false

theorem infoO : (Tryz.prog.info? 45).map (fun i => (i.zero, i.size, i.bytes)) = some (some (.agg #[.int .i64 0, .slice none 0 0, .int .i64 0, .string ⟨#[]⟩, .string ⟨#[]⟩, .slice none 0 0, .string ⟨#[]⟩]), 7, 112) := by kernel_rfl
/-- Whole numbers in a row that lies in S. -/
def IntsS (w : World) (S : Nat → Prop) (v : Value) (l : List Int) : Prop := IntsIn w v l ∧ ∀ b, v.ownBlock = some b → S b ∧ b < w.heap.size
theorem IntsS.alike {w w' : World} {S S' : Nat → Prop} {v : Value} {l : List Int} (h : IntsS w S v l) (ha : Alike S w w') (hS : ∀ b, S b → b < w.heap.size → S' b) : IntsS w' S' v l := by
  obtain ⟨⟨⟨ao, cap, rfl, h2, h3, h4⟩, h5⟩, h6⟩ := h
  refine ⟨⟨⟨ao, cap, rfl, h2, h3, fun i hi => ?_⟩, h5⟩, fun b hb => ⟨hS b (h6 b hb).1 (h6 b hb).2, Nat.lt_of_lt_of_le (h6 b hb).2 ha.1⟩⟩
  obtain ⟨b, o, rfl, hc⟩ := h4 i hi
  obtain ⟨hs, hl⟩ := h6 b rfl
  have e : w'.cell? ⟨b, o + i, none⟩ = w.cell? ⟨b, o + i, none⟩ := by
    unfold World.cell?
    rw [ha.2 b hs hl]
  exact ⟨b, o, rfl, e.trans hc⟩
abbrev OpQ := GoOp × Value × Value
def opRow (qs : List OpQ) : List Value := qs.flatMap fun q => (opL q.1 q.2.1 q.2.2).toList
theorem opRow_app (a b : List OpQ) : opRow (a ++ b) = opRow a ++ opRow b := by simp [opRow]
theorem opRow_len (qs : List OpQ) : (opRow qs).length = qs.length * 7 := by
  induction qs with
  | nil => rfl
  | cons q r ih => have : opRow (q :: r) = (opL q.1 q.2.1 q.2.2).toList ++ opRow r := by simp [opRow]
                   rw [this, List.length_append, ih, List.length_cons]; simp [opL]; omega
theorem opRow_at : ∀ (qs : List OpQ) (i : Nat) (h : i < qs.length) (j : Nat), j < 7 → (opRow qs)[i * 7 + j]? = (opL qs[i].1 qs[i].2.1 qs[i].2.2).toList[j]?
  | [], i, h, _, _ => by simp at h
  | q :: r, 0, _, j, hj => by
    have : opRow (q :: r) = (opL q.1 q.2.1 q.2.2).toList ++ opRow r := by simp [opRow]
    rw [this, List.getElem?_append_left (by simp [opL]; omega), Nat.zero_mul, Nat.zero_add]; rfl
  | q :: r, i + 1, h, j, hj => by
    have : opRow (q :: r) = (opL q.1 q.2.1 q.2.2).toList ++ opRow r := by simp [opRow]
    rw [this, List.getElem?_append_right (by simp [opL]; omega)]
    rw [show (i + 1) * 7 + j - (opL q.1 q.2.1 q.2.2).toList.length = i * 7 + j by simp [opL]; omega, opRow_at r i (by simpa using h) j hj]
    rfl
/-- A row of operations of the call's own: the nodes' rows lie in stretches of their own. -/
structure OwnO (w : World) (base : Nat) (v : Value) (qs : List OpQ) (m : Nat → Nat) : Prop where
  row : w.ownsRow base 45 7 v qs.length (opRow qs)
  lo : base ≤ m 0
  mono : ∀ i, m i ≤ m (i + 1)
  hi : m qs.length ≤ w.heap.size
  each : ∀ (i : Nat) (h : i < qs.length), IntsS w (fun b => base ≤ b ∧ v.ownBlock ≠ some b) qs[i].2.1 qs[i].1.place ∧ Rk w (fun b => m i ≤ b ∧ b < m (i + 1) ∧ v.ownBlock ≠ some b) qs[i].2.2 qs[i].1.node.kids
theorem OwnO.nil (w : World) (base : Nat) (h : base ≤ w.heap.size) : OwnO w base (.slice none 0 0) [] (fun _ => base) := ⟨World.ownsRow_nil _ _ _ _, Nat.le_refl _, fun _ => Nat.le_refl _, h, fun i hi => by simp at hi⟩
theorem OwnO.shape {w : World} {base : Nat} {v : Value} {qs : List OpQ} {m : Nat → Nat} (h : OwnO w base v qs m) : ∃ a cap, v = .slice a qs.length cap ∧ qs.length ≤ cap ∧ cap ≤ maxLen := by
  rcases h.row.2 with ⟨rfl, h0⟩ | ⟨g, cap, cur, rfl, _, _, h6, h7, _⟩
  · exact ⟨none, 0, by rw [h0], by omega, by decide⟩
  · exact ⟨_, _, rfl, h6, h7⟩
theorem OwnO.below {w w' : World} {base : Nat} {v : Value} {qs : List OpQ} {m : Nat → Nat} (h : OwnO w base v qs m) (hb : Below w.heap.size w w') : OwnO w' base v qs m :=
  ⟨h.row.kept (row := none) ⟨hb.os, hb.tape, hb.output, hb.size, fun k hk _ => hb.block k hk⟩ (by cases hv : v.ownBlock <;> simp), h.lo, h.mono, Nat.le_trans h.hi hb.size, fun i hi => ⟨(h.each i hi).1.alike (alike_below hb) fun _ h _ => h, (h.each i hi).2.below hb⟩⟩
theorem mono_le {m : Nat → Nat} (h : ∀ i, m i ≤ m (i + 1)) : ∀ {i j : Nat}, i ≤ j → m i ≤ m j := by
  intro i j hij
  induction hij with
  | refl => exact Nat.le_refl _
  | step _ ih => exact Nat.le_trans ih (h _)
/-- A row of one operation. -/
theorem OwnO.one {w : World} {base X : Nat} {o : GoOp} {pv u : Value} (hx : w.heap[X]? = some (.cells (opL o pv u) 45 (0, 0))) (hX : base ≤ X) (hp : IntsS w (fun b => base ≤ b ∧ b ≠ X) pv o.place) (hu : Rk w (fun b => base ≤ b ∧ b < X) u o.node.kids) :
    OwnO w base (.slice (some ⟨X, 0, none⟩) 1 1) [(o, pv, u)] (fun i => if i = 0 then base else X) := by
  refine ⟨⟨by simp [opRow, opL], .inr ⟨X, 1, _, rfl, hX, hx, Nat.le_refl _, by decide, by simp [opL], by simp [opRow, opL]⟩⟩, by simp, fun i => ?_, by simp; exact Nat.le_of_lt (lt_blk hx), fun i hi => ?_⟩
  · by_cases h : i = 0
    · simp [h]; exact hX
    · simp [h]
  · obtain rfl : i = 0 := by simpa using hi
    refine ⟨hp.alike ⟨Nat.le_refl _, fun _ _ _ => rfl⟩ fun b hb _ => ⟨hb.1, fun e => by simp [Value.ownBlock] at e; omega⟩, hu.alike ⟨Nat.le_refl _, fun _ _ _ => rfl⟩ fun b hb _ => ⟨by simpa using hb.1, by simpa using hb.2, fun e => by simp [Value.ownBlock] at e; omega⟩⟩
/-- Operations are appended. -/
theorem OwnO.app {w w' : World} {base base2 : Nat} {v v2 v' : Value} {qs qs2 : List OpQ} {m m2 : Nat → Nat} (h : OwnO w base v qs m) (h2 : OwnO w base2 v2 qs2 m2) (hb : m qs.length ≤ base2) (hbb : base ≤ base2) (hv : ∀ b, v.ownBlock = some b → b < base2)
    (hown : w'.ownsRow base 45 7 v' (qs.length + qs2.length) (opRow qs ++ opRow qs2)) (hg : w.grownBy w' v.ownBlock) (hat : v'.ownBlock = v.ownBlock ∨ ∀ b, v'.ownBlock = some b → w.heap.size ≤ b) :
    ∃ m', OwnO w' base v' (qs ++ qs2) m' := by
  have hne : ∀ b, b < w.heap.size → v.ownBlock ≠ some b → v'.ownBlock ≠ some b := fun b hl hn e => by
    rcases hat with h | h
    · exact hn (h ▸ e)
    · have := h b e; omega
  have h1m := @mono_le _ h.mono
  have h2m := @mono_le _ h2.mono
  refine ⟨fun i => if i < qs.length then m i else m2 (i - qs.length), ⟨by rw [opRow_app, List.length_append]; exact hown, ?_, fun i => ?_, ?_, fun i hi => ?_⟩⟩
  · show base ≤ if 0 < qs.length then m 0 else m2 (0 - qs.length)
    have := h.lo; have := h2.lo
    split
    · omega
    · rw [Nat.zero_sub]; omega
  · show (if i < qs.length then m i else m2 (i - qs.length)) ≤ if i + 1 < qs.length then m (i + 1) else m2 (i + 1 - qs.length)
    by_cases h3 : i + 1 < qs.length
    · rw [if_pos (by omega), if_pos h3]; exact h.mono i
    · rw [if_neg h3]
      by_cases h4 : i < qs.length
      · rw [if_pos h4, show i + 1 - qs.length = 0 by omega]
        have := h1m (i := i) (j := qs.length) (by omega); have := h2.lo; omega
      · rw [if_neg h4, show i + 1 - qs.length = (i - qs.length) + 1 by omega]; exact h2.mono _
  · show (if (qs ++ qs2).length < qs.length then _ else m2 ((qs ++ qs2).length - qs.length)) ≤ _
    rw [List.length_append, if_neg (by omega), Nat.add_sub_cancel_left]
    exact Nat.le_trans h2.hi hg.size
  · by_cases h3 : i < qs.length
    · obtain ⟨e1, e2⟩ := h.each i h3
      rw [List.getElem_append_left h3]
      refine ⟨e1.alike ⟨hg.size, fun b hb hl => hg.block b hl fun e => hb.2 e.symm⟩ fun b hb hl => ⟨hb.1, hne b hl hb.2⟩, e2.alike ⟨hg.size, fun b hb hl => hg.block b hl fun e => hb.2.2 e.symm⟩ fun b hb hl => ?_⟩
      show (if i < qs.length then m i else m2 (i - qs.length)) ≤ b ∧ b < (if i + 1 < qs.length then m (i + 1) else m2 (i + 1 - qs.length)) ∧ _
      rw [if_pos h3]
      refine ⟨hb.1, ?_, hne b hl hb.2.2⟩
      split
      · exact hb.2.1
      · have h5 := h1m (i := i + 1) (j := qs.length) (by omega)
        have h6 := h2m (i := 0) (j := i + 1 - qs.length) (by omega)
        have := h2.lo; have := hb.2.1; omega
    · have h4 : i - qs.length < qs2.length := by rw [List.length_append] at hi; omega
      obtain ⟨e1, e2⟩ := h2.each _ h4
      rw [List.getElem_append_right (by omega)]
      have hx : ∀ b, base2 ≤ b → v.ownBlock ≠ some b := fun b h e => by have := hv b e; omega
      refine ⟨e1.alike ⟨hg.size, fun b hb hl => hg.block b hl fun e => hx b hb.1 e.symm⟩ fun b hb hl => ⟨by omega, hne b hl (hx b hb.1)⟩, e2.alike ⟨hg.size, fun b hb hl => hg.block b hl fun e => hx b (by have := h2m (i := 0) (j := i - qs.length) (by omega); have := h2.lo; omega) e.symm⟩ fun b hb hl => ?_⟩
      show (if i < qs.length then m i else m2 (i - qs.length)) ≤ b ∧ b < (if i + 1 < qs.length then m (i + 1) else m2 (i + 1 - qs.length)) ∧ _
      rw [if_neg h3, if_neg (by omega), show i + 1 - qs.length = (i - qs.length) + 1 by omega]
      exact ⟨hb.1, hb.2.1, hne b hl (hx b (by have := h2m (i := 0) (j := i - qs.length) (by omega); have := h2.lo; omega))⟩
/-- The row can be read. -/
theorem OwnO.ops {w : World} {base : Nat} {v : Value} {qs : List OpQ} {m : Nat → Nat} (h : OwnO w base v qs m) : OpsIn w v (qs.map (·.1)) := by
  rcases h.row.2 with ⟨rfl, h0⟩ | ⟨g, cap, cur, rfl, hb, hg, hc, hm, hs, ht⟩
  · obtain rfl : qs = [] := List.eq_nil_of_length_eq_zero h0
    exact ⟨⟨none, 0, rfl, Nat.le_refl _, by decide, fun i hi => by simp at hi⟩⟩
  · refine ⟨⟨some ⟨g, 0, none⟩, cap, by rw [List.length_map], by rw [List.length_map]; exact hc, hm, fun i hi => ?_⟩⟩
    have hi' : i < qs.length := by rw [List.length_map] at hi; exact hi
    obtain ⟨e1, e2⟩ := h.each i hi'
    have cc : ∀ j u, j < 7 → (opL qs[i].1 qs[i].2.1 qs[i].2.2).toList[j]? = some u → w.cell? ⟨g, 0 + i * 7 + j, none⟩ = some u := fun j u hj hu => by
      rw [cell_of_row w g _ _ _ _ hg, Nat.zero_add]
      have h1 : (cur.toList.take (qs.length * 7))[i * 7 + j]? = some u := by rw [ht, opRow_at qs i hi' j hj]; exact hu
      rw [List.getElem?_take_of_lt (by omega)] at h1
      simpa using h1
    refine ⟨g, 0, qs[i].2.1, qs[i].2.2, rfl, ?_⟩
    rw [List.getElem_map]
    exact ⟨by simpa using cc 0 _ (by omega) rfl, cc 1 _ (by omega) rfl, cc 2 _ (by omega) rfl, cc 3 _ (by omega) rfl, cc 4 _ (by omega) rfl, cc 5 _ (by omega) rfl, cc 6 _ (by omega) rfl, lt_blk hg, e1.1, e2.1.lt⟩
end Go.Proofs.YtdaamiihldbekaaGreatDoor

/- Plain facts behind the second loop of patch.diff; an append as a step of a region that draws. -/
namespace Go.Proofs.YtdaamiihldbekaaGreatDoor
open Go.RowKit Ev5
set_option linter.unusedSimpArgs false
set_option linter.unusedVariables false

theorem kid_diff {a b : Nd} {p : List Int} {i : Nat} (hi : i < a.kids.length) (hi' : i < b.kids.length) : diffAt a b p i = (a.kids[i]).diff b.kids[i] (p ++ [(i : Int)]) := by
  unfold diffAt
  rw [dif_pos hi, List.getD_eq_getElem?_getD, List.getElem?_eq_getElem hi']; rfl
theorem diff_ne : ∀ (N : Nat) (a b : Nd) (p : List Int), a.size ≤ N → a ≠ b → a.diff b p ≠ [] := by
  intro N
  induction N with
  | zero => intro a b p h; have := kids_size a; omega
  | succ N ih =>
    intro a b p hs hne
    by_cases hc : Coarse a b
    · rw [diff_coarse hne hc]; exact List.cons_ne_nil _ _
    · rw [diff_fine hne hc]
      obtain ⟨h1, h2, h3, h4, _⟩ := coarse_free hc
      intro e
      apply hne
      have hk : a.kids = b.kids := List.ext_getElem h4 fun i h5 h6 => Classical.byContradiction fun hn => by
        have h7 := List.flatMap_eq_nil_iff.1 e i (List.mem_range.2 h5)
        rw [kid_diff h5 h6] at h7
        have := kid_size (n := a) (i := i) h5
        exact ih _ _ _ (by omega) hn h7
      rw [← nd_eta a, ← nd_eta b, h1, h2, h3, hk]
theorem flat_filter {l : List Nat} {q : Nat → Bool} {f : Nat → List GoOp} (h : ∀ x ∈ l, q x = false → f x = []) : (l.filter q).flatMap f = l.flatMap f := by
  induction l with
  | nil => rfl
  | cons x r ih =>
    have ih' := ih fun y hy => h y (List.mem_cons_of_mem _ hy)
    cases hq : q x
    · rw [List.filter_cons_of_neg (by simp [hq]), List.flatMap_cons, h x (List.mem_cons_self ..) hq, List.nil_append, ih']
    · rw [List.filter_cons_of_pos hq, List.flatMap_cons, List.flatMap_cons, ih']
theorem fine_unl {a b : Nd} {p : List Int} (h : a ≠ b) (hc : ¬ Coarse a b) : (unlikes a b).flatMap (diffAt a b p) = a.diff b p := by
  rw [diff_fine h hc]
  obtain ⟨_, _, _, h4, _⟩ := coarse_free hc
  unfold unlikes
  refine flat_filter fun i hi hq => ?_
  have h5 := List.mem_range.1 hi
  have h6 : i < b.kids.length := by omega
  have hq' : a.kids[i]? = b.kids[i]? := by simpa using hq
  rw [List.getElem?_eq_getElem h5, List.getElem?_eq_getElem h6] at hq'
  rw [kid_diff h5 h6, Option.some.inj hq', diff_same]
theorem unl_mem {a b : Nd} {i : Nat} (h : i ∈ unlikes a b) : i < a.kids.length ∧ a.kids[i]? ≠ b.kids[i]? := by
  unfold unlikes at h
  obtain ⟨h1, h2⟩ := List.mem_filter.1 h
  exact ⟨List.mem_range.1 h1, by simpa using h2⟩
theorem flat_take {l : List Nat} {f : Nat → List GoOp} {j : Nat} (hj : j < l.length) : (l.take (j + 1)).flatMap f = (l.take j).flatMap f ++ f l[j] := by
  rw [List.take_add_one, List.getElem?_eq_getElem hj, List.flatMap_append]; simp
theorem flat_len (l : List Nat) (f : Nat → List GoOp) (j : Nat) : ((l.take j).flatMap f).length ≤ (l.flatMap f).length := by
  conv => rhs; rw [← List.take_append_drop j l, List.flatMap_append, List.length_append]
  omega
theorem ops_len (l : List GoOp) : l.length ≤ opsSize l := by
  induction l with
  | nil => simp
  | cons o r ih =>
    have h1 : opsSize (o :: r) = o.node.size + opsSize r := by simp [opsSize]
    have := kids_size o.node
    rw [h1, List.length_cons]; omega
theorem diff_len (a b : Nd) (p : List Int) : (a.diff b p).length ≤ b.size := Nat.le_trans (ops_len _) (diff_size a.size a b p (Nat.le_refl _))
theorem coarse_iff {a b : Nd} (h1 : a.k = b.k) (h2 : a.t = b.t) (h3 : a.v = b.v) (h4 : a.kids.length = b.kids.length) : Coarse a b ↔ 1 < (unlikes a b).length ∧ ¬ Apart a b :=
  ⟨fun h => by
    rcases h with h | h | h | h | h
    · exact absurd h1 h
    · exact absurd h2 h
    · exact absurd h3 h
    · exact absurd h4 h
    · exact h, fun h => .inr (.inr (.inr (.inr h)))⟩

theorem intRow_app (l r : List Int) : intRow (l ++ r) = intRow l ++ intRow r := List.map_append ..
def natRow (l : List Nat) : List Value := l.map fun (x : Nat) => .int .i64 x
theorem natRow_int (l : List Nat) : natRow l = intRow (l.map fun x : Nat => (x : Int)) := by unfold natRow intRow; rw [List.map_map]; rfl
theorem nat_ints {w : World} {base : Nat} {v : Value} {l : List Nat} (h : w.ownsRow base 3 1 v l.length (natRow l)) (hl : ∀ x ∈ l, x ≤ 1048576) : IntsIn w v (l.map fun x : Nat => (x : Int)) := by
  refine owns_ints (base := base) ?_ ?_
  · rw [List.length_map, ← natRow_int]; exact h
  · intro x hx
    obtain ⟨y, hy, rfl⟩ := List.mem_map.1 hx
    exact wf_small (by omega) (by have := hl y hy; omega)
theorem OwnO.lower {w : World} {base base' : Nat} {v : Value} {qs : List OpQ} {m : Nat → Nat} (h : OwnO w base v qs m) (hb : base' ≤ base) : OwnO w base' v qs m :=
  ⟨⟨h.row.1, h.row.2.imp id fun ⟨g, cap, cur, h1, h2, h3⟩ => ⟨g, cap, cur, h1, Nat.le_trans hb h2, h3⟩⟩, Nat.le_trans hb h.lo, h.mono, h.hi,
    fun i hi => ⟨(h.each i hi).1.alike ⟨Nat.le_refl _, fun _ _ _ => rfl⟩ fun b hb' _ => ⟨Nat.le_trans hb hb'.1, hb'.2⟩, (h.each i hi).2⟩⟩

/-- append onto a row of the call's own, as one step of a region that draws. -/
theorem step_append_own_at {P : Program} {ops : Array Oper} {o : Oper} {a : Act} {w : World} {K : Act → World → Prop} {Q : Exit → Act → World → Prop} {E : Prop}
    (hg : o.guard = none) (s x : Operand) (t : TypeId) (hop : o.op = Op.call { callee := Callee.builtin Builtin.append, args := #[s, x], argTypes := #[t, t] })
    (base : Nat) (e : TypeId) (i : TypeInfo) (z : Value) (size bytes : Nat) (ht : P.underlying t = some (.slice e)) (hi : P.info? e = some i) (hz : i.zero = some z)
    (hsize : i.size = size) (hby : i.bytes = bytes) (hzs : z.cells.size = size) (hsz : 0 < size)
    (v : Value) (n : Nat) (xs : List Value) (hs : a.eval s = v) (hown : w.ownsRow base e size v n xs)
    (ad : Addr) (m c : Nat) (news : List Value) (hx : a.eval x = .slice (some ad) m c) (hl : news.length = m * size) (hnews : ∀ j u, news[j]? = some u → w.cell? (ad.add j) = some u) (h1 : ∀ u ∈ news, u.oneCell' = true)
    (h63 : n + m ≤ maxLen) (hbytes : (n + m) * bytes ≤ 140737488355328) (hbase : base ≤ w.heap.size)
    (hK : ∀ v' w', w'.ownsRow base e size v' (n + m) (xs ++ news) → w.grownBy w' v.ownBlock → (v'.ownBlock = v.ownBlock ∨ v'.ownBlock = some w.heap.size) → K (a.put o.dst v') w') :
    if Region.wanted o (yielded ops a.tmps) = true then Oper.wp P o a w K Q else E := by
  have hw : Region.wanted o (yielded ops a.tmps) = true := by simp [Region.wanted, hg]
  rw [if_pos hw]
  obtain ⟨v', w', hr, h2, h3, _, h5⟩ := run_append_own_at (P := P) w base t o.type e i z size bytes ht hi hz hsize hby hzs hsz v n xs hown ad m c news hl hnews h1 h63 hbytes hbase
  unfold Oper.wp execOp
  simp only [hop, resolve, invoke, builtin, Sem.run_bind, Sem.run_pure, Result.andThen_ok, List.map_toArray, List.map_cons, List.map_nil, hs, hx, hr]
  exact hK _ _ h2 h3 h5
theorem own_below {w w' : World} {base size n : Nat} {e : TypeId} {v : Value} {xs : List Value} (h : w.ownsRow base e size v n xs) (hb : Below w.heap.size w w') : w'.ownsRow base e size v n xs :=
  h.kept (row := none) ⟨hb.os, hb.tape, hb.output, hb.size, fun k hk _ => hb.block k hk⟩ (by cases hv : v.ownBlock <;> simp)
theorem own_alloc {w : World} {base size n : Nat} {e : TypeId} {v : Value} {xs : List Value} (h : w.ownsRow base e size v n xs) (o : Obj) : (w.alloc o).ownsRow base e size v n xs := own_below h ((Below.refl _ _).alloc (Nat.le_refl _) _)
/-- A whole number behind a place. -/
theorem place_app {w0 W w1 : World} {base : Nat} {v v1 : Value} {p : List Int} {i : Int} (hown : W.ownsRow base 3 1 v p.length (intRow p)) (hb : Below w0.heap.size w0 W) (hbase : w0.heap.size ≤ base)
    (hown1 : w1.ownsRow base 3 1 v1 (p.length + 1) (intRow p ++ [.int .i64 i])) (hg : W.grownBy w1 v.ownBlock) (hw : ∀ x ∈ p, (Lit.int .i64 x).wf = true) (hi : (Lit.int .i64 i).wf = true) :
    IntsIn w1 v1 (p ++ [i]) ∧ Below w0.heap.size w0 w1 := by
  refine ⟨owns_ints (base := base) ?_ ?_, hb.grown hg hb.size (fun k hk => Nat.le_trans hbase (hown.lt k hk).1)⟩
  · rw [List.length_append, List.length_singleton, intRow_app]; exact hown1
  · intro x hx
    rcases List.mem_append.1 hx with h | h
    · exact hw x h
    · rw [List.mem_singleton.1 h]; exact hi
theorem OwnO.some_of {w : World} {base : Nat} {v : Value} {qs : List OpQ} {m : Nat → Nat} (h : OwnO w base v qs m) (hne : qs ≠ []) : ∃ g c, v = .slice (some ⟨g, 0, none⟩) qs.length c := by
  rcases h.row.2 with ⟨_, h0⟩ | ⟨g, cap, cur, e, _⟩
  · exact absurd (List.eq_nil_of_length_eq_zero h0) hne
  · exact ⟨g, cap, e⟩
theorem OwnO.cells1 {w : World} {base : Nat} {v : Value} {qs : List OpQ} {m : Nat → Nat} (h : OwnO w base v qs m) : ∀ u ∈ opRow qs, u.oneCell' = true := by
  intro u hu
  unfold opRow at hu
  obtain ⟨q, hq, hu⟩ := List.mem_flatMap.1 hu
  obtain ⟨i, hi, rfl⟩ := List.mem_iff_getElem.1 hq
  obtain ⟨e1, e2⟩ := h.each i hi
  obtain ⟨pa, pc, ep, _⟩ := e1.1.ex
  obtain ⟨ua, uc, eu, _⟩ := e2.1.shape
  rw [ep, eu] at hu
  simp only [opL, List.mem_cons, List.not_mem_nil, or_false] at hu
  rcases hu with rfl | rfl | rfl | rfl | rfl | rfl | rfl <;> rfl
end Go.Proofs.YtdaamiihldbekaaGreatDoor

/- The walk of patch.diff. -/
namespace Go.Proofs.YtdaamiihldbekaaGreatDoor
open Go.RowKit Ev5
set_option linter.unusedSimpArgs false
set_option linter.unusedVariables false

/-- What diff hands back. -/
def DiffPost (l : List GoOp) (w : World) (e : Ending) (w' : World) : Prop := ∃ v qs m, e = .returned v ∧ qs.map (·.1) = l ∧ OwnO w' w.heap.size v qs m ∧ Below w.heap.size w w'
theorem split_key3 {F P : World → Nat → Option Addr → Nat → Option Addr → Nat → Prop} {G : Prop} (main : (∀ W X x y a c, F W X x y a c → P W X x y a c) → G) (key : ∀ W X x y a c, F W X x y a c → P W X x y a c) : G := main key
theorem own_shape {w : World} {base : Nat} {e : TypeId} {size : Nat} {v : Value} {n : Nat} {xs : List Value} (h : w.ownsRow base e size v n xs) : ∃ a c, v = .slice a n c := by
  rcases h.2 with ⟨rfl, rfl⟩ | ⟨g, cap, cur, rfl, _⟩
  · exact ⟨none, 0, rfl⟩
  · exact ⟨_, _, rfl⟩
theorem split_key_r {F P : World → Bool → Prop} {G : Prop} (main : (∀ W r, F W r → P W r) → G) (key : ∀ W r, F W r → P W r) : G := main key
/-- A call's two boxes. -/
structure Two (w wr : World) (a b : Nd) (ua ub : Value) : Prop where
  b0 : wr.heap[w.heap.size]? = some (.cells #[.int .i64 a.k, .string a.t, .string a.v, ua] 24 (0, 0))
  b1 : wr.heap[w.heap.size + 1]? = some (.cells #[.int .i64 b.k, .string b.t, .string b.v, ub] 24 (0, 0))
  bel : Below w.heap.size w wr
theorem Two.below {w wr w' : World} {a b : Nd} {ua ub : Value} (h : Two w wr a b ua ub) (hb : Below wr.heap.size wr w') : Two w w' a b ua ub :=
  ⟨(hb.block _ (lt_blk h.b0)).trans h.b0, (hb.block _ (lt_blk h.b1)).trans h.b1, bthen h.bel hb⟩
/-- The cloned place as a row of the call's own. -/
theorem clone_ints {w' : World} {base : Nat} {v : Value} {l : List Int} (h : w'.ownsRow base 3 1 v l.length (intRow l)) (hw : ∀ x ∈ l, (Lit.int .i64 x).wf = true) : IntsS w' (fun b => base ≤ b) v l := ⟨owns_ints h hw, fun b hb => h.lt b hb⟩

/-- The unlike kids ahead of one. -/
noncomputable def unl (a b : Nd) (i : Nat) : List Nat := open Classical in (List.range i).filter fun j => decide (a.kids[j]? ≠ b.kids[j]?)
theorem unl_yes {a b : Nd} {i : Nat} (h : a.kids[i]? ≠ b.kids[i]?) : unl a b (i + 1) = unl a b i ++ [i] := by
  unfold unl
  rw [List.range_succ, List.filter_append]
  simp [h]
theorem unl_no {a b : Nd} {i : Nat} (h : a.kids[i]? = b.kids[i]?) : unl a b (i + 1) = unl a b i := by
  unfold unl
  rw [List.range_succ, List.filter_append]
  simp [h]
theorem unl_len (a b : Nd) (i : Nat) : (unl a b i).length ≤ i := by
  unfold unl
  exact Nat.le_trans (List.length_filter_le _ _) (by simp)
/-- May the unlike kids ahead of one stand beside each other? -/
def ApTo (a b : Nd) (i : Nat) : Prop := ∀ j : Nat, j < i → a.kids[j]? ≠ b.kids[j]? → a.k = 5 ∨ (a.kids[j]?.map Nd.sk) = (b.kids[j]?.map Nd.sk)
theorem apto_apart {a b : Nd} (h4 : a.kids.length = b.kids.length) : ApTo a b a.kids.length ↔ Apart a b :=
  ⟨fun h i hn => by
    by_cases hi : i < a.kids.length
    · exact h i hi hn
    · exact absurd (by rw [List.getElem?_eq_none (by omega), List.getElem?_eq_none (by omega)]) hn, fun h j _ hn => h j hn⟩
theorem DiffPost.below {l : List GoOp} {w W W' : World} {e : Ending} (h : DiffPost l w e W) (hb : Below W.heap.size W W') : DiffPost l w e W' := by
  obtain ⟨v, qs, m, rfl, h1, h2, h3⟩ := h
  exact ⟨v, qs, m, rfl, h1, h2.below hb, bthen h3 hb⟩
/-- A kid's four cells. -/
structure KidC (w : World) (b q : Nat) (x : Nd) (u : Value) : Prop where
  lt : b < w.heap.size
  c0 : w.cell? ⟨b, q, none⟩ = some (.int .i64 x.k)
  c1 : w.cell? ⟨b, q + 1, none⟩ = some (.string x.t)
  c2 : w.cell? ⟨b, q + 2, none⟩ = some (.string x.v)
  c3 : w.cell? ⟨b, q + 3, none⟩ = some u
theorem KidC.below {w W : World} {b q : Nat} {x : Nd} {u : Value} (h : KidC w b q x u) (hb : Below w.heap.size w W) : KidC W b q x u :=
  ⟨Nat.lt_of_lt_of_le h.lt hb.size, (hb.cell (p := ⟨b, q, none⟩) h.lt).trans h.c0, (hb.cell (p := ⟨b, q + 1, none⟩) h.lt).trans h.c1, (hb.cell (p := ⟨b, q + 2, none⟩) h.lt).trans h.c2, (hb.cell (p := ⟨b, q + 3, none⟩) h.lt).trans h.c3⟩
set_option maxRecDepth 100000 in
set_option maxHeartbeats 16000000 in
theorem diff_any : ∀ (N : Nat) (a b : Nd) (w : World) (S S' : Nat → Prop) (va vb pv : Value) (p : List Int), a.size ≤ N → NdV w S va a → NdV w S' vb b → (∀ b, S b → b < w.heap.size) → (∀ b, S' b → b < w.heap.size) → IntsIn w pv p → a.size ≤ 100000 → b.size ≤ 100000 → p.length + a.size ≤ 200000 →
    Calls Tryz.prog 42 #[va, vb, pv] w (DiffPost (a.diff b p) w) := by
  intro N
  induction N with
  | zero => intro a b w S S' va vb pv p h; have := kids_size a; omega
  | succ N ih =>
    intro a b w S S' va vb pv p hN hva hvb hS hS' hp hsa hsb hpa
    obtain ⟨ua, rfl, hka⟩ := hva
    obtain ⟨ub, rfl, hkb⟩ := hvb
    obtain ⟨aa, ac, rfl, hac, ham⟩ := hka.shape
    obtain ⟨ba, bc, rfl, hbc, hbm⟩ := hkb.shape
    obtain ⟨pa, pcap, rfl, hpc, hpm, _⟩ := hp.ex
    have HIH := Lib.hid ih; have HKA := Lib.hid hka; have HKB := Lib.hid hkb; have HSS := Lib.hid (And.intro hS hS'); have HP := Lib.hid hp; have HN := Lib.hid hN
    have HSZ := Lib.hid (And.intro hsa (And.intro hsb hpa))
    have hpl : p.length ≤ 1048576 := by omega
    have hkl : b.kids.length ≤ 1048576 := by have := kids_size b; have := sizes_len b.kids; omega
    have hks : Nd.sizes b.kids ≤ 1048576 := by have := kids_size b; omega
    have HKL := Lib.hid (And.intro hpl (And.intro hkl hks))
    clear ih hka hkb hS hS' hp hN hsa hsb hpa hkl hks hpl
    unfold maxLen at ham hbm hpm
    unfold ndV
    go_enter Tryz.func42, Tryz.ntmps42
    go_wp2_with fail
    have H0 := Lib.hid (show Two w ((w.alloc (.cells #[.int .i64 a.k, .string a.t, .string a.v, .slice aa a.kids.length ac] 24)).alloc (.cells #[.int .i64 b.k, .string b.t, .string b.v, .slice ba b.kids.length bc] 24)) a b (.slice aa a.kids.length ac) (.slice ba b.kids.length bc) from
      ⟨two_first _ _ _, two_last _ _ _, ((Below.refl _ _).alloc (Nat.le_refl _) _).alloc (by simp) _⟩)
    refine (same_any a _ _ _ _ _ b ⟨_, rfl, HKA.out.below H0.out.bel⟩ ⟨_, rfl, HKB.out.below H0.out.bel⟩).mono ?_
    rintro e w1 ⟨r, rfl, hr, hb⟩
    have H1 := Lib.hid (H0.out.below hb)
    have HR := Lib.hid hr
    clear hb hr
    obtain ⟨x0, x1, x2, x3, _, _, _, _, hxl⟩ := nd_cells H1.out.b0
    obtain ⟨y0, y1, y2, y3, _, _, _, _, hyl⟩ := nd_cells H1.out.b1
    cases r with
    | true =>
      obtain rfl := HR.out.1 rfl
      go_wp2_with fail
      go_ret
      exact ⟨_, [], fun _ => w.heap.size, rfl, by rw [diff_same]; rfl, OwnO.nil _ _ H1.out.bel.size, H1.out.bel⟩
    | false =>
      have HNE := Lib.hid (show a ≠ b from fun h => by have := HR.out.2 h; cases this)
      clear HR
      go_upto_region 3 with (fail)
      have hbd : Below w1.heap.size w1 w1.drew := (Below.refl _ _).drew
      have hy' := nd_cells (H1.out.below hbd).b1
      obtain ⟨y0', y1', y2', y3', _, _, _, _, hyl'⟩ := hy'
      apply split_key3 (F := fun W X qa qc ca cc => Two w W a b (.slice aa a.kids.length ac) (.slice ba b.kids.length bc) ∧ W.heap[X]? = some (.cells (opL (wholeOp b p) (.slice qa p.length qc) (.slice ca b.kids.length cc)) 45 (0, 0)) ∧ w.heap.size + 2 ≤ X ∧ IntsS W (fun b => w.heap.size ≤ b ∧ b ≠ X) (.slice qa p.length qc) p ∧ Rk W (fun b => w.heap.size ≤ b ∧ b < X) (.slice ca b.kids.length cc) b.kids)
      case main =>
        intro key
        go_region_law ((go_simp; first
          | (go_at_call 37; refine (copyR_any b w2 _ _ ⟨_, rfl, HKB.out.below (bthen H1.out.bel hb2)⟩ HKL.out.2.1 HKL.out.2.2).mono ?_; rintro e w3 ⟨ca, cc, rfl, hrk, hb3⟩)
          | (go_at_call 66; refine (cloneI_any w2 _ p (HP.out.below (bthen H1.out.bel hb2)) HKL.out.1).mono ?_; rintro e w3 ⟨v, rfl, hown, hb3⟩; obtain ⟨qa, qc, rfl⟩ := own_shape hown)
          | (go_at_call 66; refine (cloneI_any w1.drew _ p (HP.out.below (bthen H1.out.bel hbd)) HKL.out.1).mono ?_; rintro e w2 ⟨v, rfl, hown, hb⟩; obtain ⟨qa, qc, rfl⟩ := own_shape hown; have hb2 : Below w1.heap.size w1 w2 := bthen hbd hb; obtain ⟨y0'', y1'', y2'', y3'', _, _, _, _, hyl''⟩ := nd_cells (H1.out.below hb2).b1)
          | (go_at_call 37; refine (copyR_any b w1.drew _ _ ⟨_, rfl, HKB.out.below (bthen H1.out.bel hbd)⟩ HKL.out.2.1 HKL.out.2.2).mono ?_; rintro e w2 ⟨ca, cc, rfl, hrk, hb⟩; have hb2 : Below w1.heap.size w1 w2 := bthen hbd hb)))
        all_goals
          have hL : w.heap.size + 2 ≤ w1.heap.size := lt_blk H1.out.b1
          have hbx : Below w3.heap.size w3 (w3.alloc (.cells #[.int .i64 3, .slice qa p.length qc, .int .i64 b.k, .string b.t, .string b.v, .slice ca b.kids.length cc, .string ⟨#[]⟩] 45)) := (Below.refl _ _).alloc (Nat.le_refl _) _
          have hf := heap_alloc_new w3 (.cells #[.int .i64 3, .slice qa p.length qc, .int .i64 b.k, .string b.t, .string b.v, .slice ca b.kids.length cc, .string ⟨#[]⟩] 45)
          have hs2 := hb2.size
          have hs3 := hb3.size
          have h9 := (H1.out.below (bthen hb2 hb3)).below hbx
          have hX : w.heap.size + 2 ≤ w3.heap.size := by omega
          have hlast : IntsS (w3.alloc (.cells #[.int .i64 3, .slice qa p.length qc, .int .i64 b.k, .string b.t, .string b.v, .slice ca b.kids.length cc, .string ⟨#[]⟩] 45)) (fun b => w.heap.size ≤ b ∧ b ≠ w3.heap.size) (.slice qa p.length qc) p ∧ Rk (w3.alloc (.cells #[.int .i64 3, .slice qa p.length qc, .int .i64 b.k, .string b.t, .string b.v, .slice ca b.kids.length cc, .string ⟨#[]⟩] 45)) (fun b => w.heap.size ≤ b ∧ b < w3.heap.size) (.slice ca b.kids.length cc) b.kids := by
            first
            | exact ⟨((clone_ints hown HP.out.ok).alike (S' := fun b => w.heap.size ≤ b) (alike_below hb3) fun b hb _ => by have hb' : w1.heap.size ≤ b := hb; omega).alike (alike_below hbx) fun b hb hl => ⟨hb, by omega⟩, hrk.alike (alike_below hbx) fun b hb hl => ⟨by have hb' : w2.heap.size ≤ b := hb; omega, hl⟩⟩
            | exact ⟨(clone_ints hown HP.out.ok).alike (alike_below hbx) fun b hb hl => ⟨by have hb' : w2.heap.size ≤ b := hb; omega, by omega⟩, (hrk.below hb3).alike (alike_below hbx) fun b hb hl => ⟨by have hb' : w1.heap.size ≤ b := hb; omega, hl⟩⟩
          obtain ⟨W9, hW9⟩ : ∃ W9, w3.alloc (.cells #[.int .i64 3, .slice qa p.length qc, .int .i64 b.k, .string b.t, .string b.v, .slice ca b.kids.length cc, .string ⟨#[]⟩] 45) = W9 := ⟨_, rfl⟩
          obtain ⟨X, hXe⟩ : ∃ X, w3.heap.size = X := ⟨_, rfl⟩
          rw [hW9] at hf h9 hlast
          rw [hW9]
          rw [hXe] at hf hX hlast ⊢
          exact key W9 X qa qc ca cc ⟨h9, hf, hX, hlast.1, hlast.2⟩
      case key =>
        rintro W9 X qa qc ca cc ⟨h9, hf, hX, hin, hrk⟩
        have H9 := Lib.hid h9; have HF := Lib.hid hf; have HX := Lib.hid hX; have HIN := Lib.hid hin; have HRK := Lib.hid hrk
        clear h9 hf hX hin hrk x0 x1 x2 x3 hxl y0 y1 y2 y3 hyl hbd y0' y1' y2' y3' hyl'
        have HW := Lib.hid (show Coarse a b → DiffPost (a.diff b p) w (.returned (.slice (some ⟨X, 0, none⟩) 1 1)) W9 from fun hc => ⟨_, [(wholeOp b p, .slice qa p.length qc, .slice ca b.kids.length cc)], _, rfl, by rw [diff_coarse HNE.out hc]; rfl, OwnO.one HF.out (by have := HX.out; omega) HIN.out HRK.out, H9.out.bel⟩)
        obtain ⟨x0, x1, x2, x3, _, _, _, _, hxl⟩ := nd_cells H9.out.b0
        obtain ⟨y0, y1, y2, y3, _, _, _, _, hyl⟩ := nd_cells H9.out.b1
        by_cases hk : a.k = b.k
        · have hkb : decide (a.k = b.k) = true := decide_eq_true hk
          have hkc : (a.k == b.k) = true := by simp [hk]
          have hkd : (a.k != b.k) = false := by simp [hk]
          by_cases ht : a.t = b.t
          · have htb : (a.t.toList == b.t.toList) = true := by rw [ht]; exact beq_self_eq_true _
            have htd : (a.t.toList != b.t.toList) = false := by unfold bne; rw [htb]; rfl
            by_cases hv : a.v = b.v
            · have hvb : (a.v.toList == b.v.toList) = true := by rw [hv]; exact beq_self_eq_true _
              have hvd : (a.v.toList != b.v.toList) = false := by unfold bne; rw [hvb]; rfl
              by_cases hl : a.kids.length = b.kids.length
              · have hlb : decide (a.kids.length = b.kids.length) = true := decide_eq_true hl
                have hlc : (((a.kids.length : Nat) : Int) == ((b.kids.length : Nat) : Int)) = true := by simp [hl]
                have hld : (((a.kids.length : Nat) : Int) != ((b.kids.length : Nat) : Int)) = false := by simp [hl]
                have HKT := Lib.hid (And.intro hk (And.intro ht (And.intro hv hl)))
                clear hk ht hv hl
                go_wp2_with fail
                go_loopw [8, 9, 55] (fun v8 v9 v55 wr => ∃ (i : Nat) (ap : Bool), i ≤ a.kids.length ∧ v55 = .int .i64 i ∧ v9 = .bool ap ∧ Hid (ap = true ↔ ApTo a b i) ∧ Hid (wr.ownsRow W9.heap.size 3 1 v8 (unl a b i).length (natRow (unl a b i))) ∧ Hid (Below W9.heap.size W9 wr))
                  (fun _ _ v55 _ => a.kids.length - (intOf v55).toNat)
                case atStart => exact ⟨0, true, Nat.zero_le _, rfl, rfl, by show _ ↔ _; exact ⟨fun _ j hj => by omega, fun _ => rfl⟩, World.ownsRow_nil _ _ _ _, Below.refl _ _⟩
                case round =>
                  obtain ⟨i, ap, hi, rfl, rfl, HAP, HOW, HBW⟩ := hrel
                  obtain ⟨qa8, qc8, rfl⟩ := own_shape HOW.out
                  obtain ⟨x0', x1', x2', x3', _, _, _, _, hxl'⟩ := nd_cells (H9.out.below HBW.out).b0
                  obtain ⟨y0', y1', y2', y3', _, _, _, _, hyl'⟩ := nd_cells (H9.out.below HBW.out).b1
                  by_cases hlt : i < a.kids.length
                  · obtain ⟨hltb, hnk⟩ : i < b.kids.length ∧ True := ⟨by have := HKT.out.2.2.2; omega, trivial⟩
                    have hB := bthen H9.out.bel HBW.out
                    obtain ⟨bb, oo, ux, hao, hbw, c0, c1, c2, c3, hsx⟩ := HKA.out.at_ i hlt
                    obtain ⟨bb', oo', uy, hao', hbw', c0', c1', c2', c3', hsy⟩ := HKB.out.at_ i hltb
                    subst hao; subst hao'
                    obtain ⟨ax, cx, rfl, _, _⟩ := hsx.shape
                    obtain ⟨ay, cy, rfl, _, _⟩ := hsy.shape
                    have HAI := Lib.hid (show a.kids[i]? = some a.kids[i] ∧ b.kids[i]? = some b.kids[i] from ⟨List.getElem?_eq_getElem hlt, List.getElem?_eq_getElem hltb⟩)
                    obtain ⟨x, hx⟩ : ∃ x, a.kids[i] = x := ⟨_, rfl⟩
                    obtain ⟨y, hy⟩ : ∃ y, b.kids[i] = y := ⟨_, rfl⟩
                    rw [hx] at c0 c1 c2 c3 hsx HAI
                    rw [hy] at c0' c1' c2' c3' hsy HAI
                    have HKX := Lib.hid (show KidC w bb (oo + i * 4) x (.slice ax x.kids.length cx) from ⟨hbw, c0, c1, c2, c3⟩)
                    have HKY := Lib.hid (show KidC w bb' (oo' + i * 4) y (.slice ay y.kids.length cy) from ⟨hbw', c0', c1', c2', c3'⟩)
                    have hbr : bb < wr.heap.size := Nat.lt_of_lt_of_le hbw hB.size
                    have hbr' : bb' < wr.heap.size := Nat.lt_of_lt_of_le hbw' hB.size
                    have hBd : Below w.heap.size w wr.drew := bthen hB (Below.refl _ _).drew
                    obtain ⟨_, d0, d1, d2, d3⟩ := HKX.out.below hBd
                    obtain ⟨_, d0', d1', d2', d3'⟩ := HKY.out.below hBd
                    have x3d : wr.drew.cell? ⟨w.heap.size, 3, none⟩ = some (.slice (some ⟨bb, oo, none⟩) a.kids.length ac) := x3'
                    have y3d : wr.drew.cell? ⟨w.heap.size + 1, 3, none⟩ = some (.slice (some ⟨bb', oo', none⟩) b.kids.length bc) := y3'
                    have HNX := Lib.hid (show NdV w S (ndV x (.slice ax x.kids.length cx)) x from .mk hsx)
                    have HNY := Lib.hid (show NdV w S' (ndV y (.slice ay y.kids.length cy)) y from .mk hsy)
                    have hi0 : (0 : Int) ≤ (i : Int) := Int.natCast_nonneg _
                    have hi1 : (i : Int) < (a.kids.length : Int) := by omega
                    have hi2 : (i : Int) < (b.kids.length : Int) := by omega
                    have HBD := Lib.hid hBd
                    clear c0 c1 c2 c3 c0' c1' c2' c3' hsx hsy hx hy hB hBd
                    go_upto_region 11 with (fail)
                    have HBR := Lib.hid (show Below wr.heap.size wr wr.drew from (Below.refl _ _).drew)
                    apply split_key_r (F := fun W r => (r = true ↔ x = y) ∧ Below W9.heap.size W9 W ∧ Below wr.heap.size wr W)
                    case main =>
                      intro key
                      go_region_law ((go_simp; go_at_call 65; refine (same_any x wr.drew _ _ _ _ y (HNX.out.below HBD.out) (HNY.out.below HBD.out)).mono ?_; rintro e w2 ⟨r, rfl, hr, hbq⟩))
                      all_goals exact key w2 r ⟨hr, bthen HBW.out (bthen HBR.out hbq), bthen HBR.out hbq⟩
                    case key =>
                      rintro w2 r ⟨hr, hb2, hb2w⟩
                      have HR := Lib.hid hr; have HB2 := Lib.hid hb2; have HB2w := Lib.hid hb2w
                      have HOW2 := Lib.hid (HOW.out.kept (row := none) ⟨HB2w.out.os, HB2w.out.tape, HB2w.out.output, HB2w.out.size, fun k hk _ => HB2w.out.block k hk⟩ (by cases hv : (Value.slice qa8 (unl a b i).length qc8).ownBlock <;> simp))
                      clear hr hb2 hb2w x0' x1' x2' x3' hxl' y0' y1' y2' y3' hyl' d0 d1 d2 d3 d0' d1' d2' d3' x3d y3d
                      cases r with
                      | true =>
                        obtain rfl := HR.out.1 rfl
                        have hsame : a.kids[i]? = b.kids[i]? := by rw [HAI.out.1, HAI.out.2]
                        have HU := Lib.hid (unl_no hsame)
                        have HAP2 := Lib.hid (show ap = true ↔ ApTo a b (i + 1) from HAP.out.trans ⟨fun h j hj hn => h j (by rcases Nat.lt_or_eq_of_le (Nat.le_of_lt_succ hj) with h1 | h1; exact h1; exact absurd (h1 ▸ hsame) hn) hn, fun h j hj hn => h j (by omega) hn⟩)
                        clear hsame
                        go_wp2_with fail
                        go_roundw
                        case rel => exact ⟨i + 1, ap, by omega, by go_num, rfl, HAP2.out, by show World.ownsRow _ _ _ _ _ _ _; rw [HU.out]; exact HOW2.out, HB2.out⟩
                        case measure => simp [intOf]; omega
                      | false =>
                        have hne : a.kids[i]? ≠ b.kids[i]? := by rw [HAI.out.1, HAI.out.2]; intro h; have := HR.out.2 (Option.some.inj h); cases this
                        have HU := Lib.hid (unl_yes hne)
                        have HUL := Lib.hid (unl_len a b i)
                        have HNEQ := Lib.hid hne
                        have hul : (unl a b i).length ≤ 100000 := by have := HUL.out; have := kids_size a; have := sizes_len a.kids; have := HSZ.out.1; omega
                        obtain ⟨i0, hinf, hz0, hz1, hz2⟩ := info_parts infoZ
                        have HI := Lib.hid hinf
                        have hb4 : Below w2.heap.size w2 (w2.alloc (.cells #[.int .i64 i] 3)) := (Below.refl _ _).alloc (Nat.le_refl _) _
                        have HOW3 := Lib.hid (HOW2.out.kept (row := none) ⟨hb4.os, hb4.tape, hb4.output, hb4.size, fun k hk _ => hb4.block k hk⟩ (by cases hv : (Value.slice qa8 (unl a b i).length qc8).ownBlock <;> simp))
                        have hbz : W9.heap.size ≤ (w2.alloc (.cells #[.int .i64 i] 3)).heap.size := by have := HB2.out.size; simp; omega
                        clear hinf hne hb4
                        go_upto_region 13 with (at_builtin; refine wpList_append_own_at _ rfl _ _ 40 rfl W9.heap.size 3 i0 _ 1 8 Tryz.underlying40 HI.out hz0 hz1 hz2 rfl (by omega) _ (unl a b i).length (natRow (unl a b i)) (by rfl) HOW3.out ⟨w2.heap.size, 0, none⟩ 1 1 [.int .i64 i] (by rfl) (by rfl) (World.news_of_block (heap_alloc_new w2 _)) (by intro u hu; rw [List.mem_singleton.1 hu]; rfl) (by unfold maxLen; omega) (by omega) hbz ?_; intro v' w' hown hgrow _ hat)
                        have hb5 : Below W9.heap.size W9 w' := (bthen HB2.out ((Below.refl _ _).alloc (Nat.le_refl _) (.cells #[.int .i64 i] 3))).grown hgrow hbz (fun k hk => (HOW3.out.lt k hk).1)
                        have HB5 := Lib.hid hb5
                        have HOW5 := Lib.hid (show w'.ownsRow W9.heap.size 3 1 v' (unl a b (i + 1)).length (natRow (unl a b (i + 1))) by rw [HU.out, List.length_append]; simpa [natRow] using hown)
                        obtain ⟨va5, vc5, rfl⟩ := own_shape hown
                        clear hb5 hown hgrow hat
                        obtain ⟨p0, p1, p2, p3, _, _, _, _, hpl⟩ := nd_cells (H9.out.below (bthen HB5.out (Below.refl _ _).drew)).b0
                        obtain ⟨q0, q1, q2, q3, _, _, _, _, hql⟩ := nd_cells (H9.out.below (bthen HB5.out (Below.refl _ _).drew)).b1
                        have HB5d := Lib.hid (show Below W9.heap.size W9 w'.drew from bthen HB5.out (Below.refl _ _).drew)
                        cases ap with
                        | false =>
                          have HAP2 := Lib.hid (show false = true ↔ ApTo a b (i + 1) from ⟨fun h => (by cases h), fun h => by have := HAP.out.2 fun j hj hn => h j (by omega) hn; cases this⟩)
                          go_quiet (fail)
                          go_wp2_with fail
                          go_roundw
                          case rel => exact ⟨i + 1, false, by omega, by go_num, rfl, HAP2.out, HOW5.out, bthen HB5.out (below_drewN _ _)⟩
                          case measure => simp [intOf]; omega
                        | true =>
                          obtain ⟨p0', p1', p2', p3', _, _, _, _, hpl'⟩ := nd_cells (H9.out.below HB5.out).b0
                          by_cases h5 : a.k = 5
                          · have HAP2 := Lib.hid (show true = true ↔ ApTo a b (i + 1) from ⟨fun _ j hj hn => .inl h5, fun _ => rfl⟩)
                            have h5b : (a.k == 5) = true := by simp [h5]
                            have h5c : decide (a.k = 5) = true := decide_eq_true h5
                            clear h5
                            go_quiet (fail)
                            go_wp2_with fail
                            go_roundw
                            case rel => exact ⟨i + 1, true, by omega, by go_num, rfl, HAP2.out, HOW5.out, bthen HB5.out (below_drewN _ _)⟩
                            case measure => simp [intOf]; omega
                          · have h5b : (a.k == 5) = false := by simp [h5]
                            have h5c : decide (a.k = 5) = false := decide_eq_false h5
                            have H5 := Lib.hid h5
                            obtain ⟨q0', q1', q2', q3', _, _, _, _, hql'⟩ := nd_cells (H9.out.below HB5.out).b1
                            obtain ⟨_, d0, d1, d2, d3⟩ := HKX.out.below (bthen H9.out.bel HB5.out)
                            obtain ⟨_, d0', d1', d2', d3'⟩ := HKY.out.below (bthen H9.out.bel HB5.out)
                            obtain ⟨_, f0, f1, f2, f3⟩ := HKX.out.below (bthen H9.out.bel HB5d.out)
                            obtain ⟨_, f0', f1', f2', f3'⟩ := HKY.out.below (bthen H9.out.bel HB5d.out)
                            have HBR5 := Lib.hid (show Below w'.heap.size w' w'.drew from (Below.refl _ _).drew)
                            have HNX5 := Lib.hid (HNX.out.below (bthen H9.out.bel HB5d.out))
                            have HNY5 := Lib.hid (HNY.out.below (bthen H9.out.bel HB5d.out))
                            apply split_key_r (F := fun W r => (r = true ↔ x.sk = y.sk) ∧ Below W9.heap.size W9 W ∧ Below w'.heap.size w' W)
                            case main =>
                              intro key
                              go_region_law ((go_simp; go_at_call 67; refine (beside_any w'.drew _ _ _ _ x y HNX5.out HNY5.out).mono ?_; rintro e w3 ⟨⟨r, rfl, hr⟩, hbq⟩))
                              all_goals exact key w3 r ⟨hr, bthen HB5.out (bthen HBR5.out hbq), bthen HBR5.out hbq⟩
                            case key =>
                              rintro w3 r ⟨hr, hb3, hb3w⟩
                              have HB3 := Lib.hid hb3
                              have HAP2 := Lib.hid (show r = true ↔ ApTo a b (i + 1) from hr.trans ⟨fun h j hj hn => by
                                rcases Nat.lt_or_eq_of_le (Nat.le_of_lt_succ hj) with h1 | h1
                                · exact HAP.out.1 rfl j h1 hn
                                · rw [h1, HAI.out.1, HAI.out.2]; exact .inr (congrArg some h), fun h => by
                                have h1 := h i (Nat.lt_succ_self i) HNEQ.out
                                rw [HAI.out.1, HAI.out.2] at h1
                                exact Option.some.inj (h1.resolve_left H5.out)⟩)
                              have HOW6 := Lib.hid (HOW5.out.kept (row := none) ⟨hb3w.os, hb3w.tape, hb3w.output, hb3w.size, fun k hk _ => hb3w.block k hk⟩ (by cases hv : (Value.slice va5 ((unl a b i).length + 1) vc5).ownBlock <;> simp))
                              clear hr hb3 hb3w p0 p1 p2 p3 hpl q0 q1 q2 q3 hql p0' p1' p2' p3' hpl' q0' q1' q2' q3' hql' d0 d1 d2 d3 d0' d1' d2' d3' f0 f1 f2 f3 f0' f1' f2' f3'
                              go_wp2_with fail
                              go_roundw
                              case rel => exact ⟨i + 1, r, by omega, by go_num, rfl, HAP2.out, HOW6.out, HB3.out⟩
                              case measure => simp [intOf]; omega
                  · obtain rfl : i = a.kids.length := by omega
                    have hi1 : ¬ ((a.kids.length : Nat) : Int) < (a.kids.length : Int) := by omega
                    rw [show unl a b a.kids.length = unlikes a b from rfl] at HOW
                    rw [show unl a b a.kids.length = unlikes a b from rfl]
                    have HCO := Lib.hid (coarse_iff HKT.out.1 HKT.out.2.1 HKT.out.2.2.1 HKT.out.2.2.2)
                    have HAA := Lib.hid (HAP.out.trans (apto_apart HKT.out.2.2.2))
                    have HFU := Lib.hid (fun hc : ¬ Coarse a b => fine_unl (p := p) HNE.out hc)
                    have HMEM := Lib.hid (fun i (h : i ∈ unlikes a b) => unl_mem h)
                    have hul : (unlikes a b).length ≤ 100000 := by have h1 : (unlikes a b).length ≤ a.kids.length := unl_len a b a.kids.length; have := kids_size a; have := sizes_len a.kids; have := HSZ.out.1; omega
                    obtain ⟨U, hU⟩ : ∃ U, unlikes a b = U := ⟨_, rfl⟩
                    rw [hU] at HOW HCO HFU HMEM hul
                    rw [hU]
                    obtain ⟨W8, hW8⟩ : ∃ W8, W8 = wr := ⟨_, rfl⟩
                    subst hW8
                    have HUI := Lib.hid (nat_ints HOW.out fun x hx => by have := (HMEM.out x hx).1; have := kids_size a; have := sizes_len a.kids; have := HSZ.out.1; omega)
                    clear hU
                    have hcase : (1 < U.length ∧ ap = false) ∨ (1 < U.length ∧ ap = true) ∨ ¬ (1 < U.length) := by cases ap <;> simp <;> omega
                    rcases hcase with ⟨hu, rfl⟩ | hcase
                    · have hu1 : (1 : Int) < (U.length : Int) := by omega
                      have HC := Lib.hid (HW.out (HCO.out.2 ⟨hu, fun h => by have := HAA.out.2 h; cases this⟩))
                      go_wp2_with fail
                      go_ret
                      exact HC.out.below HBW.out
                    · have HNC := Lib.hid (show ¬ Coarse a b from fun hc => by
                        obtain ⟨h1, h2⟩ := HCO.out.1 hc
                        rcases hcase with ⟨_, h⟩ | h
                        · exact h2 (HAA.out.1 h)
                        · exact h h1)
                      have HFL := Lib.hid (HFU.out HNC.out)
                      have HLEN := Lib.hid (show ∀ j, ((U.take j).flatMap (diffAt a b p)).length ≤ 100000 from fun j => by
                        have h1 := flat_len U (diffAt a b p) j
                        rw [HFL.out] at h1
                        have := diff_len a b p; have := HSZ.out.2.1; omega)
                      have hc2 : ((1 : Int) < (U.length : Int) ∧ ap = true) ∨ ¬ ((1 : Int) < (U.length : Int)) := by
                        rcases hcase with ⟨h, e⟩ | h
                        · left; exact ⟨by omega, e⟩
                        · right; omega
                      clear hcase
                      have HBW8 := Lib.hid (bthen H9.out.bel HBW.out)
                      rcases hc2 with ⟨hu1, rfl⟩ | hu1
                      all_goals
                        go_wp2_with fail
                        go_loopw [11, 104] (fun v11 v104 wr => ∃ (j : Nat) (qs : List OpQ) (m : Nat → Nat), j ≤ U.length ∧ v104 = .int .i64 j ∧ Hid (qs.map (·.1) = (U.take j).flatMap (diffAt a b p)) ∧ Hid (OwnO wr W8.heap.size v11 qs m) ∧ Hid (Below W8.heap.size W8 wr))
                          (fun _ v104 _ => U.length - (intOf v104).toNat)
                        case atStart => exact ⟨0, [], _, Nat.zero_le _, rfl, by show _ = _; rfl, OwnO.nil _ _ (Nat.le_refl _), Below.refl _ _⟩
                        case round =>
                          obtain ⟨j, qs, m, hj, rfl, HQ, HO, HB⟩ := hrel
                          obtain ⟨ao11, c11, rfl, hc11, hm11⟩ := HO.out.shape
                          by_cases hlt : j < U.length
                          · have hj0 : (0 : Int) ≤ (j : Int) := Int.natCast_nonneg _
                            have hj1 : (j : Int) < (U.length : Int) := by omega
                            obtain ⟨ao8, c8, e8, _, _, hcells8⟩ := (HUI.out.below HB.out).ex
                            injection e8 with e1 e2 e3
                            subst e1; subst e3
                            obtain ⟨b8, o8, rfl, hc8⟩ := hcells8 j (by rw [List.length_map]; exact hlt)
                            rw [List.getElem_map] at hc8
                            have HM := Lib.hid (HMEM.out U[j] (List.getElem_mem hlt))
                            have HFT := Lib.hid (flat_take (f := diffAt a b p) hlt)
                            obtain ⟨i, hi⟩ : ∃ i, U[j] = i := ⟨_, rfl⟩
                            rw [hi] at hc8 HM HFT
                            have hia : i < a.kids.length := HM.out.1
                            have hib : i < b.kids.length := by have := HKT.out.2.2.2; omega
                            obtain ⟨bb, oo, ux, hao, hbw, c0, c1, c2, c3, hsx⟩ := HKA.out.at_ i hia
                            obtain ⟨bb', oo', uy, hao', hbw', c0', c1', c2', c3', hsy⟩ := HKB.out.at_ i hib
                            subst hao; subst hao'
                            obtain ⟨ax, cx, rfl, _, _⟩ := hsx.shape
                            obtain ⟨ay, cy, rfl, _, _⟩ := hsy.shape
                            have HKD := Lib.hid (show diffAt a b p i = (a.kids[i]).diff b.kids[i] (p ++ [(i : Int)]) from kid_diff hia hib)
                            have HNEQ := Lib.hid (show a.kids[i] ≠ b.kids[i] from fun h => HM.out.2 (by rw [List.getElem?_eq_getElem hia, List.getElem?_eq_getElem hib, h]))
                            have HZX := Lib.hid (And.intro (kid_size (n := a) hia) (kid_size (n := b) hib))
                            obtain ⟨x, hx⟩ : ∃ x, a.kids[i] = x := ⟨_, rfl⟩
                            obtain ⟨y, hy⟩ : ∃ y, b.kids[i] = y := ⟨_, rfl⟩
                            rw [hx] at c0 c1 c2 c3 hsx HKD HNEQ HZX
                            rw [hy] at c0' c1' c2' c3' hsy HKD HNEQ HZX
                            have HKX := Lib.hid (show KidC w bb (oo + i * 4) x (.slice ax x.kids.length cx) from ⟨hbw, c0, c1, c2, c3⟩)
                            have HKY := Lib.hid (show KidC w bb' (oo' + i * 4) y (.slice ay y.kids.length cy) from ⟨hbw', c0', c1', c2', c3'⟩)
                            have HNX := Lib.hid (show NdV w S (ndV x (.slice ax x.kids.length cx)) x from .mk hsx)
                            have HNY := Lib.hid (show NdV w S' (ndV y (.slice ay y.kids.length cy)) y from .mk hsy)
                            have hi0 : (0 : Int) ≤ (i : Int) := Int.natCast_nonneg _
                            have hi1 : (i : Int) < (a.kids.length : Int) := by omega
                            have hi2 : (i : Int) < (b.kids.length : Int) := by omega
                            have HBW2 := Lib.hid (bthen HBW8.out HB.out)
                            have HIS := Lib.hid (show (Lit.int .i64 (i : Int)).wf = true from wf_small hi0 (by have := kids_size a; have := sizes_len a.kids; have := HSZ.out.1; omega))
                            clear c0 c1 c2 c3 c0' c1' c2' c3' hsx hsy hx hy hi hcells8 e2
                            go_upto_region 21 with (fail)
                            clear hc8
                            have hbd : Below wr.heap.size wr wr.drew := (Below.refl _ _).drew
                            obtain ⟨iz, hinfz, hz0, hz1, hz2⟩ := info_parts infoZ
                            obtain ⟨io, hinfo, ho0, ho1, ho2'⟩ := info_parts infoO
                            have HIz := Lib.hid hinfz; have HIo := Lib.hid hinfo
                            clear hinfz hinfo
                            have HPW := Lib.hid (show ∀ W, Below wr.heap.size wr W → IntsIn W (.slice pa p.length pcap) p from fun W hb => HP.out.below (bthen HBW2.out hb))
                            have HREC := Lib.hid (show ∀ W (v : Value), Below wr.heap.size wr W → IntsIn W v (p ++ [(i : Int)]) → Calls Tryz.prog 42 #[ndV x (.slice ax x.kids.length cx), ndV y (.slice ay y.kids.length cy), v] W (DiffPost (x.diff y (p ++ [(i : Int)])) W) from fun W v hb hv =>
                              HIH.out x y W S S' _ _ v (p ++ [(i : Int)]) (by have := HZX.out.1; have := HN.out; omega) (HNX.out.below (bthen HBW2.out hb)) (HNY.out.below (bthen HBW2.out hb)) (fun b h => Nat.lt_of_lt_of_le (HSS.out.1 b h) (bthen HBW2.out hb).size) (fun b h => Nat.lt_of_lt_of_le (HSS.out.2 b h) (bthen HBW2.out hb).size) hv (by have := HZX.out.1; have := HSZ.out.1; omega) (by have := HZX.out.2; have := HSZ.out.2.1; omega) (by have := HZX.out.1; have := HSZ.out.2.2; rw [List.length_append, List.length_singleton]; omega))
                            have HS21 := Lib.hid (show ∀ w', Below W8.heap.size W8 w' → w'.cell? ⟨w.heap.size, 3, none⟩ = some (.slice (some ⟨bb, oo, none⟩) a.kids.length ac) ∧ w'.cell? ⟨w.heap.size + 1, 3, none⟩ = some (.slice (some ⟨bb', oo', none⟩) b.kids.length bc) ∧ w'.cell? ⟨bb, oo + i * 4, none⟩ = some (.int .i64 x.k) ∧ w'.cell? ⟨bb, oo + i * 4 + 1, none⟩ = some (.string x.t) ∧ w'.cell? ⟨bb, oo + i * 4 + 2, none⟩ = some (.string x.v) ∧ w'.cell? ⟨bb, oo + i * 4 + 3, none⟩ = some (.slice ax x.kids.length cx) ∧ w'.cell? ⟨bb', oo' + i * 4, none⟩ = some (.int .i64 y.k) ∧ w'.cell? ⟨bb', oo' + i * 4 + 1, none⟩ = some (.string y.t) ∧ w'.cell? ⟨bb', oo' + i * 4 + 2, none⟩ = some (.string y.v) ∧ w'.cell? ⟨bb', oo' + i * 4 + 3, none⟩ = some (.slice ay y.kids.length cy) from fun W hb => by
                              obtain ⟨_, _, _, x3, _, _, _, _, _⟩ := nd_cells (H9.out.below (bthen HBW.out hb)).b0
                              obtain ⟨_, _, _, y3, _, _, _, _, _⟩ := nd_cells (H9.out.below (bthen HBW.out hb)).b1
                              obtain ⟨_, d0, d1, d2, d3⟩ := HKX.out.below (bthen HBW8.out hb)
                              obtain ⟨_, d0', d1', d2', d3'⟩ := HKY.out.below (bthen HBW8.out hb)
                              exact ⟨x3, y3, d0, d1, d2, d3, d0', d1', d2', d3'⟩)
                            go_region_held_law (fun w' => w'.cell? ⟨w.heap.size, 3, none⟩ = some (.slice (some ⟨bb, oo, none⟩) a.kids.length ac) ∧ w'.cell? ⟨w.heap.size + 1, 3, none⟩ = some (.slice (some ⟨bb', oo', none⟩) b.kids.length bc) ∧ w'.cell? ⟨bb, oo + i * 4, none⟩ = some (.int .i64 x.k) ∧ w'.cell? ⟨bb, oo + i * 4 + 1, none⟩ = some (.string x.t) ∧ w'.cell? ⟨bb, oo + i * 4 + 2, none⟩ = some (.string x.v) ∧ w'.cell? ⟨bb, oo + i * 4 + 3, none⟩ = some (.slice ax x.kids.length cx) ∧ w'.cell? ⟨bb', oo' + i * 4, none⟩ = some (.int .i64 y.k) ∧ w'.cell? ⟨bb', oo' + i * 4 + 1, none⟩ = some (.string y.t) ∧ w'.cell? ⟨bb', oo' + i * 4 + 2, none⟩ = some (.string y.v) ∧ w'.cell? ⟨bb', oo' + i * 4 + 3, none⟩ = some (.slice ay y.kids.length cy))
                              (first | exact HS21.out _ hb3 | exact HS21.out _ (bthen HB.out hb2) | exact HS21.out _ (bthen HB.out hb1) | exact HS21.out _ (bthen HB.out (hbc.alloc hbc.size _)) | exact HS21.out _ (bthen HB.out hbc) | exact HS21.out _ (bthen HB.out (hbd.alloc hbd.size _)) | exact HS21.out _ (bthen HB.out hbd))
                              (first
                                | (go_at_call 66; refine (cloneI_any wr.drew _ p (HPW.out _ hbd) HKL.out.1).mono ?_; rintro e wc ⟨vc, rfl, hown, hbq⟩; obtain ⟨qa, qc, rfl⟩ := own_shape hown; have hbc : Below wr.heap.size wr wc := bthen hbd hbq)
                                | (go_at_call 66; refine (cloneI_any (wr.drew.alloc (.cells #[.int .i64 i] 3)) _ p (HPW.out _ (hbd.alloc hbd.size _)) HKL.out.1).mono ?_; rintro e wc ⟨vc, rfl, hown, hbq⟩; obtain ⟨qa, qc, rfl⟩ := own_shape hown; have hbc : Below wr.heap.size wr wc := bthen (hbd.alloc hbd.size _) hbq; have hnew := (hbq.block wr.heap.size (by simp)).trans (heap_alloc_new wr.drew (.cells #[.int .i64 i] 3)))
                                | (go_at_call 42; refine (HREC.out w1 _ hb1 hints1).mono ?_; rintro e w2 ⟨v2, qs2, m2, rfl, hq2, ho2, hbq2⟩; obtain ⟨g2, c2, rfl⟩ := ho2.some_of (by rintro rfl; exact diff_ne _ _ _ _ (Nat.le_refl _) HNEQ.out hq2.symm); have hb2 : Below wr.heap.size wr w2 := bthen hb1 hbq2; have hsum : qs.length + qs2.length ≤ 100000 := (by have h1 := congrArg List.length HQ.out; have h2 := congrArg List.length hq2; have h3 := congrArg List.length HFT.out; have h4 := HLEN.out (j + 1); rw [HKD.out] at h3; simp only [List.length_map, List.length_append] at h1 h2 h3; omega))
                                | (refine step_append_own_at rfl (.tmp 120) (.tmp 122) 40 rfl _ 3 iz _ 1 8 Tryz.underlying40 HIz.out hz0 hz1 hz2 rfl (by omega) _ p.length (intRow p) (by rfl) (own_alloc hown (.cells #[.int .i64 i] 3)) ⟨wc.heap.size, 0, none⟩ 1 1 [.int .i64 i] (by rfl) (by rfl) (World.news_of_block (heap_alloc_new wc _)) (by intro u hu; rw [List.mem_singleton.1 hu]; rfl) (by have := HKL.out.1; unfold maxLen; omega) (by have := HKL.out.1; omega) (Nat.le_trans hbq.size (by simp)) ?_; intro v1 w1 hown1 hgrow1 hat1; obtain ⟨hints1, hb1⟩ := place_app (own_alloc hown (.cells #[.int .i64 i] 3)) (hbc.alloc hbc.size _) (by exact Nat.le_refl _) hown1 hgrow1 HP.out.ok HIS.out; obtain ⟨a1, cc1, rfl⟩ := own_shape hown1)
                                | (refine step_append_own_at rfl (.tmp 120) (.tmp 122) 40 rfl _ 3 iz _ 1 8 Tryz.underlying40 HIz.out hz0 hz1 hz2 rfl (by omega) _ p.length (intRow p) (by rfl) hown ⟨wr.heap.size, 0, none⟩ 1 1 [.int .i64 i] (by rfl) (by rfl) (World.news_of_block hnew) (by intro u hu; rw [List.mem_singleton.1 hu]; rfl) (by have := HKL.out.1; unfold maxLen; omega) (by have := HKL.out.1; omega) hbq.size ?_; intro v1 w1 hown1 hgrow1 hat1; obtain ⟨hints1, hb1⟩ := place_app hown hbc (by simp) hown1 hgrow1 HP.out.ok HIS.out; obtain ⟨a1, cc1, rfl⟩ := own_shape hown1)
                                | (refine step_append_own_at rfl (.tmp 108) (.tmp 124) 25 rfl W8.heap.size 45 io _ 7 112 Tryz.underlying25 HIo.out ho0 ho1 ho2' rfl (by omega) _ qs.length (opRow qs) (by rfl) (HO.out.below hb2).row ⟨g2, 0, none⟩ qs2.length c2 (opRow qs2) (by rfl) (opRow_len qs2) (ho2.row.cells (g := g2) rfl) ho2.cells1 (by unfold maxLen; omega) (by omega) (Nat.le_trans HB.out.size hb2.size) ?_; intro v3 w3 hown3 hgrow3 hat3; obtain ⟨m3, ho3⟩ := OwnO.app (HO.out.below hb2) ho2 (Nat.le_trans HO.out.hi hb1.size) (Nat.le_trans HB.out.size hb1.size) (fun b hb => Nat.lt_of_lt_of_le (HO.out.row.lt b hb).2 hb1.size) hown3 hgrow3 (hat3.imp id fun h b hb => by rw [h] at hb; exact Nat.le_of_eq (Option.some.inj hb)); have hb3 : Below W8.heap.size W8 w3 := (bthen HB.out hb2).grown hgrow3 (Nat.le_trans HB.out.size hb2.size) (fun k hk => ((HO.out.below hb2).row.lt k hk).1); obtain ⟨a3, c3, rfl⟩ := own_shape hown3))
                            all_goals
                              have HQ3 := Lib.hid (show (qs ++ qs2).map (·.1) = (U.take (j + 1)).flatMap (diffAt a b p) by rw [List.map_append, HQ.out, hq2, HFT.out, HKD.out])
                              have HO3 := Lib.hid ho3
                              have HB3 := Lib.hid hb3
                              clear hq2 ho3 hb3 hown3 hgrow3 hat3 hb2 hbq2 ho2 hown1 hgrow1 hat1 hints1 hb1 hown hbq hbc hbd
                              go_wp2_with fail
                              go_roundw
                              case rel => exact ⟨j + 1, qs ++ qs2, m3, by omega, by go_num, HQ3.out, HO3.out, HB3.out⟩
                              case measure => simp [intOf]; omega
                          · obtain rfl : j = U.length := by omega
                            have hj1 : ¬ ((U.length : Nat) : Int) < (U.length : Int) := by omega
                            go_wp2_with fail
                            go_ret
                            exact ⟨_, qs, m, rfl, by rw [HQ.out, List.take_length, HFL.out], HO.out.lower (HBW8.out.size), bthen HBW8.out HB.out⟩
              · have hlb : decide (a.kids.length = b.kids.length) = false := decide_eq_false hl
                have hlc : (((a.kids.length : Nat) : Int) == ((b.kids.length : Nat) : Int)) = false := by simp; omega
                have hld : (((a.kids.length : Nat) : Int) != ((b.kids.length : Nat) : Int)) = true := by simp; omega
                have HC := Lib.hid (HW.out (.inr (.inr (.inr (.inl hl)))))
                clear hk ht hv HW
                go_wp2_with fail
                go_ret
                exact HC.out
            · have hvb : (a.v.toList == b.v.toList) = false := by rw [beq_eq_false_iff_ne]; exact fun e => hv (toL_inj e)
              have hvd : (a.v.toList != b.v.toList) = true := by unfold bne; rw [hvb]; rfl
              have HC := Lib.hid (HW.out (.inr (.inr (.inl hv))))
              clear hk ht hv HW
              go_wp2_with fail
              go_ret
              exact HC.out
          · have htb : (a.t.toList == b.t.toList) = false := by rw [beq_eq_false_iff_ne]; exact fun e => ht (toL_inj e)
            have htd : (a.t.toList != b.t.toList) = true := by unfold bne; rw [htb]; rfl
            have HC := Lib.hid (HW.out (.inr (.inl ht)))
            clear hk ht HW
            go_wp2_with fail
            go_ret
            exact HC.out
        · have hkb : decide (a.k = b.k) = false := decide_eq_false hk
          have hkc : (a.k == b.k) = false := by simp [hk]
          have hkd : (a.k != b.k) = true := by simp [hk]
          have HC := Lib.hid (HW.out (.inl hk))
          clear hk HW
          go_wp2_with fail
          go_ret
          exact HC.out
end Go.Proofs.YtdaamiihldbekaaGreatDoor

/- The walk of patch.Diff. -/
namespace Go.Proofs.YtdaamiihldbekaaGreatDoor
open Go.RowKit Ev5
set_option linter.unusedSimpArgs false
set_option linter.unusedVariables false

/-- What Diff tells. -/
noncomputable def diffTop (a b : Nd) : List GoOp × Int := if a.wh ≠ 0 then ([], a.wh) else if b.wh ≠ 0 then ([], b.wh) else (a.diff b [], 0)
def DTopPost (r : List GoOp × Int) (w : World) (e : Ending) (w' : World) : Prop := ∃ v qs m, e = .returned (.tuple #[v, .int .i64 r.2]) ∧ qs.map (·.1) = r.1 ∧ OwnO w' w.heap.size v qs m ∧ Below w.heap.size w w'
theorem ints_nil (w : World) : IntsIn w (.slice none 0 0) [] := ⟨⟨none, 0, rfl, Nat.le_refl _, by decide, fun i hi => by simp at hi⟩, fun x hx => by cases hx⟩
set_option maxRecDepth 100000 in
set_option maxHeartbeats 4000000 in
theorem diffTop_any (a b : Nd) (w : World) (S S' : Nat → Prop) (va vb : Value) (hE : EnvU w) (ha : NdV w S va a) (hb : NdV w S' vb b) (hoka : a.ok) (hokb : b.ok) (hNa : a.walk.length ≤ 100000) (hNb : b.walk.length ≤ 100000) (hsa : a.size ≤ 100000) (hsb : b.size ≤ 100000) :
    Calls Tryz.prog 20 #[va, vb] w (DTopPost (diffTop a b) w) := by
  obtain ⟨u, rfl, hs⟩ := ha
  obtain ⟨u', rfl, hs'⟩ := hb
  obtain ⟨ao, cap, rfl, hcap, hcm⟩ := hs.shape
  obtain ⟨ao', cap', rfl, hcap', hcm'⟩ := hs'.shape
  have HS := Lib.hid hs.lt; have HS' := Lib.hid hs'.lt; have HE := Lib.hid hE; have HOK := Lib.hid (And.intro hoka hokb); have HN := Lib.hid (And.intro hNa hNb); have HSZ := Lib.hid (And.intro hsa hsb)
  have HB2 := Lib.hid (show Below w.heap.size w ((w.alloc (.cells #[.int .i64 a.k, .string a.t, .string a.v, .slice ao a.kids.length cap] 24)).alloc (.cells #[.int .i64 b.k, .string b.t, .string b.v, .slice ao' b.kids.length cap'] 24)) from ((Below.refl _ _).alloc (Nat.le_refl _) _).alloc (by simp) _)
  have HT := Lib.hid (And.intro (two_first w (.cells #[.int .i64 a.k, .string a.t, .string a.v, .slice ao a.kids.length cap] 24) (.cells #[.int .i64 b.k, .string b.t, .string b.v, .slice ao' b.kids.length cap'] 24)) (two_last w (.cells #[.int .i64 a.k, .string a.t, .string a.v, .slice ao a.kids.length cap] 24) (.cells #[.int .i64 b.k, .string b.t, .string b.v, .slice ao' b.kids.length cap'] 24)))
  clear hs hs' hE hoka hokb hNa hNb hsa hsb
  unfold ndV
  go_enter Tryz.func20, Tryz.ntmps20
  go_wp2_with fail
  refine (treeMay_any a _ _ _ (HE.out.below HB2.out) ⟨_, rfl, HS.out.below HB2.out⟩ (fun b hb => Nat.lt_of_lt_of_le hb HB2.out.size) HOK.out.1 HN.out.1).mono ?_
  rintro e w3 ⟨rfl, hb⟩
  have hx1 := (hb.block w.heap.size (by simp; omega)).trans HT.out.1
  have hx2 := (hb.block (w.heap.size + 1) (by simp)).trans HT.out.2
  have HX := Lib.hid (And.intro hx1 hx2)
  have HB3 := Lib.hid (bthen HB2.out hb)
  obtain ⟨x0, x1, x2, x3, _, _, _, _, hxl⟩ := nd_cells hx1
  obtain ⟨y0, y1, y2, y3, _, _, _, _, hyl⟩ := nd_cells hx2
  obtain ⟨E, hEq⟩ : ∃ E, (wholeP RP (a.walk.map GoEv.ev)).2 = E := ⟨_, rfl⟩
  have HEQ := Lib.hid (show a.wh = E from hEq)
  rw [hEq]
  clear hb hx1 hx2 hEq
  by_cases hz : E = 0
  · subst hz
    go_wp2_with fail
    refine (treeMay_any b _ _ _ (HE.out.below HB3.out) ⟨_, rfl, HS'.out.below HB3.out⟩ (fun b hb => Nat.lt_of_lt_of_le hb HB3.out.size) HOK.out.2 HN.out.2).mono ?_
    rintro e w4 ⟨rfl, hb⟩
    have hx1 := (hb.block _ hxl).trans HX.out.1
    have hx2 := (hb.block _ hyl).trans HX.out.2
    have HB4 := Lib.hid (bthen HB3.out hb)
    clear x0 x1 x2 x3 y0 y1 y2 y3 hxl hyl
    obtain ⟨x0, x1, x2, x3, _, _, _, _, hxl⟩ := nd_cells hx1
    obtain ⟨y0, y1, y2, y3, _, _, _, _, hyl⟩ := nd_cells hx2
    obtain ⟨E, hEq⟩ : ∃ E, (wholeP RP (b.walk.map GoEv.ev)).2 = E := ⟨_, rfl⟩
    have HEQ2 := Lib.hid (show b.wh = E from hEq)
    rw [hEq]
    clear hb hx1 hx2 hEq
    by_cases hz : E = 0
    · subst hz
      go_wp2_with fail
      refine (diff_any a.size a b w4 _ _ _ _ (.slice none 0 0) [] (Nat.le_refl _) ⟨_, rfl, HS.out.below HB4.out⟩ ⟨_, rfl, HS'.out.below HB4.out⟩ (fun b hb => Nat.lt_of_lt_of_le hb HB4.out.size) (fun b hb => Nat.lt_of_lt_of_le hb HB4.out.size) (ints_nil w4) HSZ.out.1 HSZ.out.2 (by have := HSZ.out.1; simp; omega)).mono ?_
      rintro e w5 ⟨v, qs, m, rfl, hq, ho, hb⟩
      obtain ⟨va, vc, rfl, _, _⟩ := ho.shape
      have HQ := Lib.hid hq
      have HO := Lib.hid (ho.lower HB4.out.size)
      have HB5 := Lib.hid (bthen HB4.out hb)
      clear hb hq ho
      go_wp2_with fail
      refine bodyPost_ret (v := .tuple #[.slice va qs.length vc, .int .i64 0]) (by simp [results, Tryz.results20, go_sem]) rfl ⟨_, qs, m, ?_, ?_, HO.out, HB5.out⟩
      · unfold diffTop; rw [if_neg (by rw [HEQ.out]; simp), if_neg (by rw [HEQ2.out]; simp)]
      · unfold diffTop; rw [if_neg (by rw [HEQ.out]; simp), if_neg (by rw [HEQ2.out]; simp)]; exact HQ.out
    · have hzb : (E != 0) = true := by simp [hz]
      go_wp2_with fail
      refine bodyPost_ret (v := .tuple #[.slice none 0 0, .int .i64 E]) (by simp [results, Tryz.results20, go_sem]) rfl ⟨_, [], fun _ => w.heap.size, ?_, ?_, OwnO.nil _ _ HB4.out.size, HB4.out⟩
      · unfold diffTop; rw [if_neg (by rw [HEQ.out]; simp), if_pos (by rw [HEQ2.out]; exact hz), HEQ2.out]
      · unfold diffTop; rw [if_neg (by rw [HEQ.out]; simp), if_pos (by rw [HEQ2.out]; exact hz)]; rfl
  · have hzb : (E != 0) = true := by simp [hz]
    go_wp2_with fail
    refine bodyPost_ret (v := .tuple #[.slice none 0 0, .int .i64 E]) (by simp [results, Tryz.results20, go_sem]) rfl ⟨_, [], fun _ => w.heap.size, ?_, ?_, OwnO.nil _ _ HB3.out.size, HB3.out⟩
    · unfold diffTop; rw [if_pos (by rw [HEQ.out]; exact hz), HEQ.out]
    · unfold diffTop; rw [if_pos (by rw [HEQ.out]; exact hz)]; rfl
end Go.Proofs.YtdaamiihldbekaaGreatDoor

/- The walk of the law PatchNear. -/
namespace Go.Proofs.YtdaamiihldbekaaGreatDoor
open Go.RowKit Ev5
set_option linter.unusedSimpArgs false
set_option linter.unusedVariables false

theorem prefix_at {p q : List Int} (h : p <+: q) {k : Nat} (hk : k < p.length) : ∃ hq : k < q.length, q[k] = p[k] := by
  obtain ⟨r, rfl⟩ := h
  exact ⟨by rw [List.length_append]; omega, List.getElem_append_left hk⟩
set_option maxRecDepth 100000 in
set_option maxHeartbeats 16000000 in
theorem patchNear_law (va : Value) (a : Nd) (pv : Value) (p : List Int) (vx : Value) (x : Nd) (w : World) (hE : EnvU w) (ha : NdV w (fun b => b < w.heap.size) va a ∧ a.ok ∧ 5 * a.size ≤ 1048576) (hp : IntsIn w pv p) (hx : NdV w (fun b => b < w.heap.size) vx x ∧ x.ok ∧ 5 * x.size ≤ 1048576) :
    Calls Tryz.prog 6 #[va, pv, vx] w fun e w' => e = .returned (.bool true) ∧ Below w.heap.size w w' := by
  obtain ⟨⟨ua, rfl, hsa⟩, hoka, hza⟩ := ha
  obtain ⟨⟨ub, rfl, hsb⟩, hokb, hzb⟩ := hx
  obtain ⟨aa, ac, rfl, _, _⟩ := hsa.shape
  obtain ⟨ba, bc, rfl, _, _⟩ := hsb.shape
  obtain ⟨pa, pcap, rfl, hpc, hpm, _⟩ := hp.ex
  unfold maxLen at hpm
  have hB0 : Below w.heap.size w ((w.alloc (.cells #[.int .i64 a.k, .string a.t, .string a.v, .slice aa a.kids.length ac] 24)).alloc (.cells #[.int .i64 x.k, .string x.t, .string x.v, .slice ba x.kids.length bc] 24)) := ((Below.refl _ _).alloc (Nat.le_refl _) _).alloc (by simp) _
  have hx0 := two_first w (.cells #[.int .i64 a.k, .string a.t, .string a.v, .slice aa a.kids.length ac] 24) (.cells #[.int .i64 x.k, .string x.t, .string x.v, .slice ba x.kids.length bc] 24)
  have hy0 := two_last w (.cells #[.int .i64 a.k, .string a.t, .string a.v, .slice aa a.kids.length ac] 24) (.cells #[.int .i64 x.k, .string x.t, .string x.v, .slice ba x.kids.length bc] 24)
  have HB0' := Lib.hid hB0; have HX0' := Lib.hid hx0; have HY0' := Lib.hid hy0
  have HA := Lib.hid (NdV.mk hsa); have HBV := Lib.hid (NdV.mk hsb); have HE := Lib.hid hE; have HOK := Lib.hid (And.intro hoka hokb); have HP := Lib.hid hp; have HZ := Lib.hid hza; have HXS := Lib.hid hsb
  clear hsa hsb hE hoka hokb hza hzb hB0 hx0 hy0 hp
  unfold ndV
  go_enter Tryz.func6, Tryz.ntmps6
  go_wp2_with fail
  obtain ⟨W0, hW0⟩ : ∃ W0, (w.alloc (.cells #[.int .i64 a.k, .string a.t, .string a.v, .slice aa a.kids.length ac] 24)).alloc (.cells #[.int .i64 x.k, .string x.t, .string x.v, .slice ba x.kids.length bc] 24) = W0 := ⟨_, rfl⟩
  have HB0 := Lib.hid (show Below w.heap.size w W0 by rw [← hW0]; exact HB0'.out)
  have HX0 := Lib.hid (show W0.heap[w.heap.size]? = some (.cells #[.int .i64 a.k, .string a.t, .string a.v, .slice aa a.kids.length ac] 24 (0, 0)) by rw [← hW0]; exact HX0'.out)
  have HY0 := Lib.hid (show W0.heap[w.heap.size + 1]? = some (.cells #[.int .i64 x.k, .string x.t, .string x.v, .slice ba x.kids.length bc] 24 (0, 0)) by rw [← hW0]; exact HY0'.out)
  rw [hW0]
  clear hW0 HB0' HX0' HY0'
  have HG := Lib.hid (show ∀ W', Below W0.heap.size W0 W' → NdCells W' w.heap.size a.k a.t a.v (.slice aa a.kids.length ac) ∧ NdCells W' (w.heap.size + 1) x.k x.t x.v (.slice ba x.kids.length bc) from fun W' hb => ⟨nd_cells ((hb.block _ (lt_blk HX0.out)).trans HX0.out), nd_cells ((hb.block _ (lt_blk HY0.out)).trans HY0.out)⟩)
  have HOUT := Lib.hid (show ∀ w5, Below W0.heap.size W0 w5 → Calls Tryz.prog 15 #[] w5 fun e w' => e = .returned (.bool true) ∧ Below w.heap.size w w' from fun w5 hb =>
    (lives23_any _ (HE.out.below (bthen HB0.out hb))).mono fun e w' h => ⟨h.1, bthen (bthen HB0.out hb) h.2⟩)
  refine (few23_any a W0 _ _ (HA.out.below HB0.out)).mono ?_
  rintro e w1 ⟨rfl, hb⟩
  have H1 := Lib.hid hb
  obtain ⟨⟨x0, x1, x2, x3, _, _, _, _, hxl⟩, y0, y1, y2, y3, _, _, _, _, hyl⟩ := HG.out _ H1.out
  obtain ⟨fa, hfa⟩ : ∃ fa, decide (0 ≤ a.few 150 20) = fa := ⟨_, rfl⟩
  rw [hfa]
  have HFA := Lib.hid hfa
  clear hb hfa
  go_wp2_with fail
  refine (few23_any x w1 _ _ (HBV.out.below (bthen HB0.out H1.out))).mono ?_
  rintro e w2 ⟨rfl, hb⟩
  have H2 := Lib.hid (bthen H1.out hb)
  clear x0 x1 x2 x3 hxl y0 y1 y2 y3 hyl
  obtain ⟨⟨x0, x1, x2, x3, _, _, _, _, hxl⟩, y0, y1, y2, y3, _, _, _, _, hyl⟩ := HG.out _ H2.out
  obtain ⟨fb, hfb⟩ : ∃ fb, decide (0 ≤ x.few 150 20) = fb := ⟨_, rfl⟩
  rw [hfb]
  have HFB := Lib.hid hfb
  clear hb hfb
  go_wp2_with fail
  refine (ref23At_any a w2 _ _ _ p (HA.out.below (bthen HB0.out H2.out)) (HP.out.below (bthen HB0.out H2.out)) (by have := HZ.out; omega) (fun b hb => Nat.lt_of_lt_of_le hb (bthen HB0.out H2.out).size)).mono ?_
  rintro e w3 ⟨hb, hq⟩
  have H3 := Lib.hid (bthen H2.out hb)
  obtain ⟨qk, qt, qv, qa, qn, qc, th, rfl, hth⟩ : ∃ qk qt qv qa qn qc th, e = .returned (.tuple #[.agg #[.int .i64 qk, .string qt, .string qv, .slice qa qn qc], .bool th]) ∧ (th = true ↔ ∃ y, a.at_ p = some y) := by
    cases hat : a.at_ p with
    | none => rw [hat] at hq; obtain rfl := hq; exact ⟨0, ⟨#[]⟩, ⟨#[]⟩, none, 0, 0, false, rfl, by simp⟩
    | some y => rw [hat] at hq; obtain ⟨a3, c3, rfl, _⟩ := hq; exact ⟨_, _, _, _, _, _, true, rfl, by simp⟩
  have hbQ : Below w3.heap.size w3 (w3.alloc (.cells #[.int .i64 qk, .string qt, .string qv, .slice qa qn qc] 24)) := (Below.refl _ _).alloc (Nat.le_refl _) _
  have H3q := Lib.hid (bthen H3.out hbQ)
  have HTH := Lib.hid hth
  clear hb hq hth hbQ x0 x1 x2 x3 hxl y0 y1 y2 y3 hyl
  have hcase : fa = false ∨ (fa = true ∧ fb = false) ∨ (fa = true ∧ fb = true ∧ th = false) ∨ (fa = true ∧ fb = true ∧ th = true) := by cases fa <;> cases fb <;> cases th <;> simp
  rcases hcase with rfl | ⟨rfl, rfl⟩ | ⟨rfl, rfl, rfl⟩ | ⟨rfl, rfl, rfl⟩
  · go_wp2_with fail
    refine (HOUT.out _ H3q.out).mono ?_
    rintro e w6 ⟨rfl, hb⟩
    have HB6 := Lib.hid hb
    clear hb
    go_wp2_with fail
    go_ret
    exact ⟨rfl, HB6.out⟩
  · go_wp2_with fail
    refine (HOUT.out _ H3q.out).mono ?_
    rintro e w6 ⟨rfl, hb⟩
    have HB6 := Lib.hid hb
    clear hb
    go_wp2_with fail
    go_ret
    exact ⟨rfl, HB6.out⟩
  · go_wp2_with fail
    refine (HOUT.out _ H3q.out).mono ?_
    rintro e w6 ⟨rfl, hb⟩
    have HB6 := Lib.hid hb
    clear hb
    go_wp2_with fail
    go_ret
    exact ⟨rfl, HB6.out⟩
  · obtain ⟨y, hy⟩ := HTH.out.1 rfl
    have HSA := Lib.hid (few23_size (of_decide_eq_true HFA.out))
    have HSX := Lib.hid (few23_size (of_decide_eq_true HFB.out))
    obtain ⟨B, hBe⟩ : ∃ B, a.put p [x] = B := ⟨_, rfl⟩
    have HBE := Lib.hid hBe
    have HSB := Lib.hid (show B.size ≤ 300 by have := put_size (m := x) hy; rw [hBe] at this; have := HSA.out; have := HSX.out; omega)
    have HOB := Lib.hid (show B.ok from hBe ▸ put_ok hy HOK.out.1 HOK.out.2)
    have HAT := Lib.hid hy
    have HNEAR := Lib.hid (show ∀ o ∈ a.diff B [], p <+: o.place from fun o ho => by have := diff_near p a x y [] hy o (by rw [hBe]; exact ho); simpa using this)
    have HWA := Lib.hid (show a.walk.length ≤ 100000 by have := walk_len a; have := HSA.out; omega)
    have HWB := Lib.hid (show B.walk.length ≤ 100000 by have := walk_len B; have := HSB.out; omega)
    clear HFA HFB HTH hy hBe
    obtain ⟨⟨x0, x1, x2, x3, _, _, _, _, hxl⟩, y0, y1, y2, y3, _, _, _, _, hyl⟩ := HG.out _ H3.out
    go_wp2_with fail
    obtain ⟨w4q, hw4q⟩ : ∃ w4q, (w3.alloc (.cells #[.int .i64 qk, .string qt, .string qv, .slice qa qn qc] 24)) = w4q := ⟨_, rfl⟩
    have hsz4 : w3.heap.size + 1 = w4q.heap.size := by rw [← hw4q]; simp
    rw [hw4q] at H3q
    try rw [hw4q]
    try rw [hsz4]
    clear hw4q hsz4
    have hb4 : Below w4q.heap.size w4q (w4q.alloc (.cells #[.int .i64 x.k, .string x.t, .string x.v, .slice ba x.kids.length bc] 24)) := (Below.refl _ _).alloc (Nat.le_refl _) _
    have hr4 := heap_alloc_new w4q (.cells #[.int .i64 x.k, .string x.t, .string x.v, .slice ba x.kids.length bc] 24)
    have H4 := Lib.hid (bthen H3q.out hb4)
    refine (put_any p a (w4q.alloc (.cells #[.int .i64 x.k, .string x.t, .string x.v, .slice ba x.kids.length bc] 24)) (fun b => b < (w4q.alloc (.cells #[.int .i64 x.k, .string x.t, .string x.v, .slice ba x.kids.length bc] 24)).heap.size) _ _ (.slice (some ⟨w4q.heap.size, 0, none⟩) 1 1) [x] ((HA.out.below (bthen HB0.out H4.out)).alike ⟨Nat.le_refl _, fun _ _ _ => rfl⟩ fun b _ hl => hl) (HP.out.below (bthen HB0.out H4.out)) (one_row hr4 (by simp) ((HXS.out.below (bthen HB0.out H4.out)).alike ⟨Nat.le_refl _, fun _ _ _ => rfl⟩ fun b _ hl => hl)) (fun b hb => hb) (fun _ => by simp) (by have := HSA.out; omega) (by simp)).mono ?_
    clear hb4 hr4
    rintro e w5 ⟨ra, rc, he, hsr, hb⟩
    rw [HBE.out] at he hsr
    subst he
    have hb6 : Below w5.heap.size w5 (w5.alloc (.cells #[.int .i64 B.k, .string B.t, .string B.v, .slice ra B.kids.length rc] 24)) := (Below.refl _ _).alloc (Nat.le_refl _) _
    have H5 := Lib.hid (bthen H4.out hb)
    have H6 := Lib.hid (bthen (bthen H4.out hb) hb6)
    have HY6 := Lib.hid (heap_alloc_new w5 (.cells #[.int .i64 B.k, .string B.t, .string B.v, .slice ra B.kids.length rc] 24))
    have HS6 := Lib.hid (NdV.mk (hsr.lt.below hb6))
    clear hb hsr hb6 x0 x1 x2 x3 hxl y0 y1 y2 y3 hyl
    obtain ⟨⟨x0, x1, x2, x3, _, _, _, _, hxl⟩, y0, y1, y2, y3, _, _, _, _, hyl⟩ := HG.out _ H5.out
    go_wp2_with fail
    obtain ⟨w6, hw6⟩ : ∃ w6, (w5.alloc (.cells #[.int .i64 B.k, .string B.t, .string B.v, .slice ra B.kids.length rc] 24)) = w6 := ⟨_, rfl⟩
    obtain ⟨Y, hY⟩ : ∃ Y, w5.heap.size = Y := ⟨_, rfl⟩
    rw [hw6] at H6 HY6 HS6
    rw [hY] at HY6 HS6
    try rw [hw6]
    try rw [hY]
    clear hw6 hY x0 x1 x2 x3 hxl y0 y1 y2 y3 hyl
    have HG2 := Lib.hid (show ∀ W', Below w6.heap.size w6 W' → NdCells W' w.heap.size a.k a.t a.v (.slice aa a.kids.length ac) ∧ NdCells W' Y B.k B.t B.v (.slice ra B.kids.length rc) from fun W' hb => ⟨(HG.out _ (bthen H6.out hb)).1, nd_cells ((hb.block _ (lt_blk HY6.out)).trans HY6.out)⟩)
    refine (refTreeWalk_any a w6 _ _ (HA.out.below (bthen HB0.out H6.out)) (fun b hb => Nat.lt_of_lt_of_le hb (bthen HB0.out H6.out).size) HOK.out.1 (by have := HWA.out; omega)).mono ?_
    rintro e w7 ⟨rv, rfl, hb, _, _⟩
    have I7 := Lib.hid hb
    obtain ⟨FA, hFA⟩ : ∃ FA, (wholeP RP (a.walk.map GoEv.ev)).2 = FA := ⟨_, rfl⟩
    rw [hFA]
    have HFA := Lib.hid (show a.wh = FA from hFA)
    clear hb hFA
    obtain ⟨⟨x0, x1, x2, x3, _, _, _, _, hxl⟩, y0, y1, y2, y3, _, _, _, _, hyl⟩ := HG2.out _ I7.out
    go_wp2_with fail
    refine (refTreeWalk_any B w7 _ _ (HS6.out.below I7.out) (fun b hb => Nat.lt_of_lt_of_le hb (by have := H6.out.size; have := I7.out.size; have := lt_blk HY6.out; omega)) HOB.out (by have := HWB.out; omega)).mono ?_
    rintro e w8 ⟨rv', rfl, hb, _, _⟩
    have I8 := Lib.hid (bthen I7.out hb)
    obtain ⟨FB, hFB⟩ : ∃ FB, (wholeP RP (B.walk.map GoEv.ev)).2 = FB := ⟨_, rfl⟩
    rw [hFB]
    have HFB := Lib.hid (show B.wh = FB from hFB)
    clear hb hFB x0 x1 x2 x3 hxl y0 y1 y2 y3 hyl
    have hcase : FA ≠ 0 ∨ (FA = 0 ∧ FB ≠ 0) ∨ (FA = 0 ∧ FB = 0) := by omega
    rcases hcase with hfa | ⟨rfl, hfb⟩ | ⟨rfl, rfl⟩
    · have hzb : (FA != 0) = true := by simp [hfa]
      go_wp2_with fail
      refine (HOUT.out _ (bthen H6.out I8.out)).mono ?_
      rintro e w6 ⟨rfl, hb⟩
      have HB6 := Lib.hid hb
      clear hb
      go_wp2_with fail
      go_ret
      exact ⟨rfl, HB6.out⟩
    · have hzb : (FB != 0) = true := by simp [hfb]
      go_wp2_with fail
      refine (HOUT.out _ (bthen H6.out I8.out)).mono ?_
      rintro e w6 ⟨rfl, hb⟩
      have HB6 := Lib.hid hb
      clear hb
      go_wp2_with fail
      go_ret
      exact ⟨rfl, HB6.out⟩
    · obtain ⟨⟨x0, x1, x2, x3, _, _, _, _, hxl⟩, y0, y1, y2, y3, _, _, _, _, hyl⟩ := HG2.out _ I8.out
      go_wp2_with fail
      refine (diffTop_any a B w8 _ _ _ _ (HE.out.below (bthen HB0.out (bthen H6.out I8.out))) (HA.out.below (bthen HB0.out (bthen H6.out I8.out))) (HS6.out.below I8.out) HOK.out.1 HOB.out HWA.out HWB.out (by have := HSA.out; omega) (by have := HSB.out; omega)).mono ?_
      rintro e w9 ⟨lv, qs, m, rfl, hq, ho, hb⟩
      obtain ⟨la, lc, rfl, hlc, hlm⟩ := ho.shape
      have I9 := Lib.hid (bthen I8.out hb)
      have hdt : diffTop a B = (a.diff B [], 0) := by unfold diffTop; rw [if_neg (by rw [HFA.out]; simp), if_neg (by rw [HFB.out]; simp)]
      rw [hdt] at hq
      rw [hdt]
      obtain ⟨L, hL⟩ : ∃ L, a.diff B [] = L := ⟨_, rfl⟩
      have hqL : qs.map (·.1) = L := hq.trans hL
      have hql : qs.length = L.length := by rw [← hqL, List.length_map]
      have HQ := Lib.hid (show OpsIn w9 (.slice la L.length lc) L by have h1 := ho.ops; rw [hqL, hql] at h1; exact h1)
      have HAP := Lib.hid (show applyP a L = (B, L.length, 0) by rw [← hL]; exact apply_diff HFA.out HFB.out)
      have HLO := Lib.hid (show ∀ o ∈ L, o.ok by rw [← hL]; exact diff_opsok HOB.out (fun x hx => by cases hx) (by have := HSA.out; omega))
      have HSZ := Lib.hid (show a.size + opsSize L ≤ 40000 by rw [← hL]; have := diff_size a.size a B [] (Nat.le_refl _); have := HSA.out; have := HSB.out; omega)
      have HNR := Lib.hid (show ∀ o ∈ L, p <+: o.place by rw [← hL]; exact HNEAR.out)
      unfold maxLen at hlm
      rw [hql] at hlc
      rw [hql]
      clear hb hq ho hdt hL hqL hql x0 x1 x2 x3 hxl y0 y1 y2 y3 hyl HNEAR
      have hll : L.length ≤ 9223372036854775807 := by omega
      go_wp2_with fail
      go_loopw [18] (fun vi wr => ∃ i : Nat, i ≤ L.length ∧ vi = .int .i64 i ∧ Hid (Below w9.heap.size w9 wr)) (fun vi _ => L.length - (intOf vi).toNat)
      case atStart => exact ⟨0, Nat.zero_le _, rfl, Below.refl _ _⟩
      case round =>
        obtain ⟨i, hi, rfl, HB⟩ := hrel
        by_cases hlt : i < L.length
        · obtain ⟨la', lc', e', _, _, hcells⟩ := (HQ.out.below HB.out).ex
          injection e' with e1 e2 e3
          subst e1; subst e3
          obtain ⟨g, o, opv, ou, rfl, hat⟩ := hcells i hlt
          have HPRE := Lib.hid (HNR.out _ (List.getElem_mem hlt))
          obtain ⟨X, hX⟩ : ∃ X, L[i] = X := ⟨_, rfl⟩
          rw [hX] at hat HPRE
          obtain ⟨oa, oc, rfl, hoc, hom, _⟩ := hat.place.ex
          unfold maxLen at hom
          have HAT := Lib.hid hat
          have d1 := hat.c1
          have hgl := hat.lt
          have hlen : p.length ≤ X.place.length := HPRE.out.length_le
          have hlX : ¬ ((X.place.length : Int) < (p.length : Int)) := by omega
          have hi0 : (0 : Int) ≤ (i : Int) := Int.natCast_nonneg _
          have hi1 : (i : Int) < (L.length : Int) := by omega
          obtain ⟨Wo, hWo⟩ : ∃ Wo, Wo = wr := ⟨_, rfl⟩
          subst hWo
          clear hcells hat hX
          go_wp2_with fail
          go_loopw [19] (fun vk wr => ∃ k : Nat, k ≤ p.length ∧ vk = .int .i64 k ∧ Hid (Below Wo.heap.size Wo wr)) (fun vk _ => p.length - (intOf vk).toNat)
          case atStart => exact ⟨0, Nat.zero_le _, rfl, Below.refl _ _⟩
          case round =>
            obtain ⟨k, hk, rfl, HBI⟩ := hrel
            by_cases hltk : k < p.length
            · obtain ⟨hkX, heq⟩ := prefix_at HPRE.out hltk
              obtain ⟨oa', oc', e', _, _, hcx⟩ := (HAT.out.place.below HBI.out).ex
              injection e' with e1 e2 e3
              subst e1; subst e3
              obtain ⟨bx, ox, rfl, cx⟩ := hcx k hkX
              obtain ⟨pa', pc', e', _, _, hcp⟩ := (HP.out.below (bthen HB0.out (bthen H6.out (bthen I9.out (bthen HB.out HBI.out))))).ex
              injection e' with e1 e2 e3
              subst e1; subst e3
              obtain ⟨bp, op, rfl, cp⟩ := hcp k hltk
              rw [heq] at cx
              obtain ⟨Z, hZ⟩ : ∃ Z, p[k] = Z := ⟨_, rfl⟩
              rw [hZ] at cx cp
              have hbd : Below wr.heap.size wr wr.drew := (Below.refl _ _).drew
              have k1 := (HAT.out.below HBI.out).c1
              have hkl := (HAT.out.below HBI.out).lt
              have k1' := (HAT.out.below (bthen HBI.out hbd)).c1
              have cx' : wr.drew.cell? ⟨bx, ox + k, none⟩ = some (.int .i64 Z) := cx
              have cp' : wr.drew.cell? ⟨bp, op + k, none⟩ = some (.int .i64 Z) := cp
              have hk0 : (0 : Int) ≤ (k : Int) := Int.natCast_nonneg _
              have hk1 : (k : Int) < (p.length : Int) := by omega
              have hk2 : (k : Int) < (X.place.length : Int) := by omega
              clear hcx hcp hZ heq hbd d1
              go_upto_region 22 with (fail)
              go_quiet (fail)
              go_wp2_with fail
              go_roundw
              case rel => exact ⟨k + 1, by omega, by go_num, bthen HBI.out (below_drewN _ _)⟩
              case measure => simp [intOf]; omega
            · obtain rfl : k = p.length := by omega
              have hk1 : ¬ ((p.length : Nat) : Int) < (p.length : Int) := by omega
              go_wp2_with fail
              go_roundw
              case rel => exact ⟨i + 1, by omega, by go_num, bthen HB.out HBI.out⟩
              case measure => simp [intOf]; omega
        · obtain rfl : i = L.length := by omega
          have hi1 : ¬ ((L.length : Nat) : Int) < (L.length : Int) := by omega
          have I10 := Lib.hid (bthen I9.out HB.out)
          obtain ⟨⟨x0, x1, x2, x3, _, _, _, _, hxl⟩, y0, y1, y2, y3, _, _, _, _, hyl⟩ := HG2.out _ I10.out
          go_wp2_with fail
          refine (apply_any wr _ _ _ a L (HE.out.below (bthen HB0.out (bthen H6.out I10.out))) (HA.out.below (bthen HB0.out (bthen H6.out I10.out))) (HQ.out.below HB.out) HOK.out.1 HLO.out HSZ.out).mono ?_
          rintro e w10 ⟨a5, c5, he5, hrk, hb⟩
          rw [HAP.out] at he5 hrk
          have he6 : e = .returned (.tuple #[.agg #[.int .i64 B.k, .string B.t, .string B.v, .slice a5 B.kids.length c5], .int .i64 L.length, .int .i64 0]) := he5
          subst he6
          have hb6 : Below w10.heap.size w10 (w10.alloc (.cells #[.int .i64 B.k, .string B.t, .string B.v, .slice a5 B.kids.length c5] 24)) := (Below.refl _ _).alloc (Nat.le_refl _) _
          have I11 := Lib.hid (bthen I10.out hb)
          have I12 := Lib.hid (bthen (bthen I10.out hb) hb6)
          have HK12 := Lib.hid (NdV.mk (hrk.1.below hb6))
          obtain ⟨z0, z1, z2, z3, _, _, _, _, hzl⟩ := nd_cells (heap_alloc_new w10 (.cells #[.int .i64 B.k, .string B.t, .string B.v, .slice a5 B.kids.length c5] 24))
          clear he5 hrk hb hb6 x0 x1 x2 x3 hxl y0 y1 y2 y3 hyl
          obtain ⟨⟨x0, x1, x2, x3, _, _, _, _, hxl⟩, y0, y1, y2, y3, _, _, _, _, hyl⟩ := HG2.out _ I11.out
          go_wp2_with fail
          refine (refSame_any B (w10.alloc (.cells #[.int .i64 B.k, .string B.t, .string B.v, .slice a5 B.kids.length c5] 24)) _ _ _ _ B (HS6.out.below I12.out) HK12.out).mono ?_
          rintro e w13 ⟨r, rfl, hr, hb⟩
          obtain rfl : r = true := hr.2 rfl
          have I13 := Lib.hid (bthen I12.out hb)
          clear hr hb x0 x1 x2 x3 hxl y0 y1 y2 y3 hyl z0 z1 z2 z3 hzl
          go_wp2_with fail
          refine (HOUT.out _ (bthen H6.out I13.out)).mono ?_
          rintro e w14 ⟨rfl, hb⟩
          have HB14 := Lib.hid hb
          clear hb
          go_wp2_with fail
          go_ret
          exact ⟨rfl, HB14.out⟩
end Go.Proofs.YtdaamiihldbekaaGreatDoor
