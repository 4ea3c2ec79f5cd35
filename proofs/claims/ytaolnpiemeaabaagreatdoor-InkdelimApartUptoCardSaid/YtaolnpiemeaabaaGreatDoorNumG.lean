/- Plain Lean: what the reference's Read makes of a text is what num's may makes of it. -/
import Derived.Test.YtaolnpiemeaabaaGreatDoorNumK
import Derived.Test.YtaolnpiemeaabaaGreatDoorNumC
import Derived.Test.YtaolnpiemeaabaaGreatDoorNumQ
namespace Go.Proofs.YtaolnpiemeaabaaGreatDoor
open Go.RowKit Num2
set_option linter.unusedSimpArgs false
set_option linter.unusedVariables false

theorem scan_big (l : List UInt8) (s : Bool) (n : Int) (hd : digs l) (hn : 1099511627776 ≤ n) : l.foldl scan (s, n) = (s, n) := by
  induction l with
  | nil => rfl
  | cons c r ih =>
    have hc := hd c (by simp)
    have h45 : ¬ c.toNat = 45 := by simp [dig] at hc; omega
    have : scan (s, n) c = (s, n) := by
      simp only [scan]; rw [if_neg (by omega)]; simp [h45]
    rw [List.foldl_cons, this]
    exact ih (fun b hb => hd b (by simp [hb]))

def Jn (n u : Nat) : Prop := (n = u) ∨ (1099511627776 ≤ n ∧ 1099511627776 ≤ u)

theorem scan_parse : ∀ (l : List UInt8) (acc n : Nat) (s : Bool), digs l → Jn n acc →
    (∃ u n' : Nat, Lib.parseUint10 acc l = .ok u ∧ l.foldl scan (s, (n : Int)) = (s, (n' : Int)) ∧ Jn n' u) ∨
    (Lib.parseUint10 acc l = .range ∧ ∃ n' : Nat, l.foldl scan (s, (n : Int)) = (s, (n' : Int)) ∧ 1099511627776 ≤ n')
  | [], acc, n, s, _, h => .inl ⟨acc, n, rfl, rfl, h⟩
  | c :: r, acc, n, s, hd, h => by
    have hc := hd c (by simp)
    have hr : digs r := fun b hb => hd b (by simp [hb])
    simp [dig] at hc
    have h45 : ¬ c.toNat = 45 := by omega
    have hdg : dig c = true := by simp [dig]; omega
    rw [List.foldl_cons]
    simp only [Lib.parseUint10]
    rw [if_pos hc]
    by_cases hb : (n : Int) < 1099511627776
    · have hs : scan (s, (n : Int)) c = (s, ((n * 10 + (c.toNat - 48) : Nat) : Int)) := by
        simp only [scan]; rw [if_pos ⟨hdg, hb⟩]
        simp [h45]; omega
      have hna : n = acc := by
        unfold Jn at h; omega
      subst hna
      rw [hs, if_neg (by omega), if_neg (by omega)]
      exact scan_parse r _ _ s hr (.inl rfl)
    · have hs : scan (s, (n : Int)) c = (s, (n : Int)) := by
        simp only [scan]; rw [if_neg (by omega)]
        simp [h45]
      have ha : 1099511627776 ≤ acc := by unfold Jn at h; omega
      rw [hs]
      split
      · exact .inr ⟨rfl, n, scan_big r s n hr (by omega), by omega⟩
      · split
        · exact .inr ⟨rfl, n, scan_big r s n hr (by omega), by omega⟩
        · exact scan_parse r _ _ s hr (.inr ⟨by omega, by omega⟩)

def expS (t : List UInt8) : Int := signed (t.foldl scan (false, 0))
def ExpJ (a b : Int) : Prop :=
  (a = b ∧ -10995116277769 ≤ a ∧ a ≤ 10995116277769) ∨ (1099511627776 ≤ a ∧ a ≤ 9223372036854775807 ∧ 1099511627776 ≤ b) ∨ (-9223372036854775808 ≤ a ∧ a ≤ -1099511627776 ∧ b ≤ -1099511627776)

theorem exp_body (neg : Bool) (t l : List UInt8) (hl : l ≠ []) (hd : digs l) (ht : t ≠ []) (h45 : t.head? = some 45 ↔ neg = true)
    (hs : t.foldl scan (false, 0) = l.foldl scan (neg, 0))
    (ha : Lib.atoiAll t = (match Lib.parseMag l with
      | .ok u => if ¬ (neg = true) ∧ 9223372036854775808 ≤ u then .range else if neg = true ∧ 9223372036854775808 < u then .range else .ok (if neg = true then -(u : Int) else u)
      | .range => .range
      | e => Lib.atoiAll t)) : ExpJ (expOf t) (expS t) := by
  unfold expS
  rw [hs]
  unfold expOf
  rw [if_neg ht]
  have hb := scan_bd l (neg, 0) (by simp) (by simp)
  unfold Lib.parseMag at ha
  rw [if_neg hl] at ha
  rcases scan_parse l 0 0 neg hd (.inl rfl) with ⟨u, n', h1, h2, h3⟩ | ⟨h1, n', h2, h3⟩
  · rw [h1] at ha
    simp only [] at ha
    have h2' : l.foldl scan (neg, 0) = (neg, (n' : Int)) := h2
    rw [h2'] at hb ⊢
    simp only [] at hb
    unfold signed
    cases neg with
    | true =>
      simp only [not_true_eq_false, false_and, if_false, true_and, if_true] at ha ⊢
      have e45 := h45.2 rfl
      by_cases hu : 9223372036854775808 < u
      · rw [if_pos hu] at ha
        rw [ha]
        simp only []
        rw [if_pos e45]
        unfold Jn at h3; unfold ExpJ; omega
      · rw [if_neg hu] at ha
        rw [ha]
        simp only []
        unfold Jn at h3; unfold ExpJ; omega
    | false =>
      simp only [Bool.false_eq_true, not_false_eq_true, false_and, if_false, true_and] at ha ⊢
      have e45 : ¬ t.head? = some 45 := fun h => by have := h45.1 h; simp at this
      by_cases hu : 9223372036854775808 ≤ u
      · rw [if_pos hu] at ha
        rw [ha]
        simp only []
        rw [if_neg e45]
        unfold Jn at h3; unfold ExpJ; omega
      · rw [if_neg hu] at ha
        rw [ha]
        simp only []
        unfold Jn at h3; unfold ExpJ; omega
  · rw [h1] at ha
    simp only [] at ha
    have h2' : l.foldl scan (neg, 0) = (neg, (n' : Int)) := h2
    rw [h2'] at hb ⊢
    rw [ha]
    simp only [] at hb ⊢
    unfold signed
    cases neg with
    | true => rw [if_pos (h45.2 rfl)]; simp only [if_true]; unfold ExpJ; omega
    | false =>
      rw [if_neg (fun h => by have := h45.1 h; simp at this)]
      simp only [Bool.false_eq_true, if_false]
      unfold ExpJ; omega

theorem exp_cmp (t : List UInt8) (ht : t = [] ∨ (digs (unsgn2 t) ∧ unsgn2 t ≠ [])) : ExpJ (expOf t) (expS t) := by
  rcases ht with rfl | ⟨hd, hn⟩
  · exact .inl ⟨rfl, by decide, by decide⟩
  · cases t with
    | nil => exact absurd rfl hn
    | cons c r =>
      by_cases hc : isSign c = true
      · have hu : unsgn2 (c :: r) = r := by simp [unsgn2, hc]
        rw [hu] at hd hn
        have hnd := sign_not_dig hc
        have hs' : c.toNat = 43 ∨ c.toNat = 45 := by simp [isSign] at hc; exact hc
        refine exp_body (decide (c.toNat = 45)) (c :: r) r hn hd (by simp) ?_ ?_ ?_
        · simp only [List.head?_cons, Option.some.injEq, decide_eq_true_eq]
          exact ⟨fun h => by rw [h]; rfl, fun h => UInt8.toNat_inj.1 (by simpa using h)⟩
        · rw [List.foldl_cons]
          congr 1
          simp [scan, hnd]
        · simp only [Lib.atoiAll, decide_eq_true_eq]
          rw [if_pos hs']
          split <;> rename_i h <;> simp [h]
      · have hu : unsgn2 (c :: r) = c :: r := by simp [unsgn2, hc]
        rw [hu] at hd hn
        have hcd := hd c (by simp)
        have h45 : ¬ c.toNat = 45 := by simp [dig] at hcd; omega
        have hs' : ¬ (c.toNat = 43 ∨ c.toNat = 45) := by simp [dig] at hcd; omega
        refine exp_body false (c :: r) (c :: r) hn hd (by simp) ?_ rfl ?_
        · simp only [List.head?_cons, Option.some.injEq, Bool.false_eq_true, iff_false]
          intro h; rw [h] at h45; exact h45 rfl
        · simp only [Lib.atoiAll]
          rw [if_neg hs']
          split <;> rename_i h <;> simp [h, h45]

theorem drop_all {p : UInt8 → Bool} : ∀ {l : List UInt8}, (∀ x ∈ l, p x = true) → l.dropWhile p = []
  | [], _ => rfl
  | c :: r, h => by rw [List.dropWhile_cons, h c (by simp)]; exact drop_all (fun x hx => h x (by simp [hx]))
theorem all_drop {p : UInt8 → Bool} : ∀ {l : List UInt8}, l.dropWhile p = [] → ∀ x ∈ l, p x = true
  | [], _, x, hx => by cases hx
  | c :: r, h, x, hx => by
    rw [List.dropWhile_cons] at h
    by_cases hc : p c = true
    · rw [if_pos hc] at h
      rcases List.mem_cons.1 hx with rfl | hx
      · exact hc
      · exact all_drop h x hx
    · rw [if_neg hc] at h; cases h
theorem take_all {p : UInt8 → Bool} {x : UInt8} : ∀ {l : List UInt8}, x ∈ l.takeWhile p → p x = true
  | c :: r, h => by
    rw [List.takeWhile_cons] at h
    by_cases hc : p c = true
    · rw [if_pos hc] at h
      rcases List.mem_cons.1 h with rfl | h
      · exact hc
      · exact take_all h
    · rw [if_neg hc] at h; cases h
/-- Zeros away on both sides. -/
theorem trims (L : List UInt8) :
    Lib.trimRightB (Lib.trimLeftB L 48) 48 = Lib.trimLeftB (Lib.trimRightB L 48) 48 ∧
    (Lib.trimLeftB (Lib.trimRightB L 48) 48 ≠ [] → (Lib.trimLeftB L 48).length + (Lib.trimRightB L 48).length = L.length + (Lib.trimRightB (Lib.trimLeftB L 48) 48).length) := by
  have hlast := trimR_last L
  obtain ⟨b, hb⟩ := trimR_pre L
  have hb48 : b.reverse.dropWhile (· == 48) = [] := by
    have h1 : L.reverse = b.reverse ++ (Lib.trimRightB L 48).reverse := by rw [← List.reverse_append, hb]
    have h2 : (Lib.trimRightB L 48).reverse = L.reverse.dropWhile (· == 48) := by unfold Lib.trimRightB; rw [List.reverse_reverse]
    have h3 := congrArg List.length hb
    rw [List.length_append] at h3
    have h4 := List.takeWhile_append_dropWhile (p := (· == 48)) (l := L.reverse)
    rw [← h2] at h4
    have h5 : b.reverse = L.reverse.takeWhile (· == 48) := List.append_cancel_right (h1.symm.trans h4.symm)
    rw [h5]
    apply drop_all
    intro x hx
    exact take_all (p := (· == 48)) hx
  generalize hr : Lib.trimRightB L 48 = r at *
  subst hb
  have hball : b.dropWhile (· == 48) = [] := by
    exact drop_all (fun x hx => all_drop hb48 x (by simpa using hx))
  have hL : Lib.trimLeftB (r ++ b) 48 = if (Lib.trimLeftB r 48).isEmpty then [] else Lib.trimLeftB r 48 ++ b := by
    unfold Lib.trimLeftB
    rw [List.dropWhile_append, hball]
  rw [hL]
  by_cases he : Lib.trimLeftB r 48 = []
  · rw [he]; simp [Lib.trimRightB]
  · have hne : (Lib.trimLeftB r 48).isEmpty = false := by cases h : Lib.trimLeftB r 48 with | nil => exact absurd h he | cons x y => rfl
    rw [hne]
    simp only [Bool.false_eq_true, if_false]
    have hlast2 : (Lib.trimLeftB r 48).getLast? = r.getLast? := by
      obtain ⟨a, ha⟩ := List.dropWhile_suffix (l := r) (· == 48)
      have ha' : a ++ Lib.trimLeftB r 48 = r := ha
      conv => rhs; rw [← ha']
      rw [List.getLast?_append]
      have : (Lib.trimLeftB r 48).getLast?.isSome = true := by rw [List.getLast?_isSome]; exact he
      cases h : (Lib.trimLeftB r 48).getLast? with
      | none => rw [h] at this; simp at this
      | some x => rfl
    have hR : Lib.trimRightB (Lib.trimLeftB r 48 ++ b) 48 = Lib.trimLeftB r 48 := by
      unfold Lib.trimRightB
      rw [List.reverse_append, List.dropWhile_append, hb48]
      simp only [List.isEmpty_nil, if_true]
      have : (Lib.trimLeftB r 48).reverse.dropWhile (· == 48) = (Lib.trimLeftB r 48).reverse := by
        cases h : (Lib.trimLeftB r 48).reverse with
        | nil => rfl
        | cons x y =>
          have h2 : (Lib.trimLeftB r 48).getLast? = some x := by rw [List.getLast?_eq_head?_reverse, h]; rfl
          rw [hlast2] at h2
          have : (x == 48) = false := by
            rw [Bool.eq_false_iff]; intro e
            rw [h2] at hlast; exact hlast (by rw [beq_iff_eq] at e; rw [e])
          rw [List.dropWhile_cons, this]; rfl
      rw [this, List.reverse_reverse]
    rw [hR]
    refine ⟨rfl, fun _ => ?_⟩
    rw [List.length_append, List.length_append]; omega

/-- The reference's power. -/
def refPow (l : List UInt8) : Int :=
  -((parts l).2.1.length : Int) + expS (parts l).2.2.1 + ((((parts l).1 ++ (parts l).2.1).length : Int) - (Lib.trimRightB ((parts l).1 ++ (parts l).2.1) 48).length)
def refDig (l : List UInt8) : List UInt8 := Lib.trimLeftB (Lib.trimRightB ((parts l).1 ++ (parts l).2.1) 48) 48

theorem ref_may (l : List UInt8) (hm : (may l).2 = true) (h30 : l.length ≤ 30) :
    mayP l = if refDig l = [] then (zeroV, 0)
      else if 999 < refPow l ∨ refPow l < -999 ∨ 30 < (formP (decide (l.head? = some 45), refDig l, refPow l)).length then (zeroV, 8)
      else ((decide (l.head? = some 45), refDig l, refPow l), 0) := by
  have hlen := wp_len l hm
  have hmade := parts_made l hm
  have hex := exp_cmp _ hmade.ht
  obtain ⟨t1, t2⟩ := trims ((parts l).1 ++ (parts l).2.1)
  have hRP : readP l = if refDig l = [] then (zeroV, true) else ((decide (l.head? = some 45), refDig l, wrap64 (expOf (parts l).2.2.1 + ((Lib.trimLeftB ((parts l).1 ++ (parts l).2.1) 48).length - (Lib.trimRightB (Lib.trimLeftB ((parts l).1 ++ (parts l).2.1) 48) 48).length - (parts l).2.1.length))), true) := by
    unfold readP refDig
    rw [if_pos ⟨hm, h30⟩, t1]
  by_cases hd : refDig l = []
  · rw [if_pos hd] at hRP ⊢
    unfold mayP
    rw [hRP]
    rfl
  · rw [if_neg hd] at hRP ⊢
    have h2 := t2 hd
    have hrl : (Lib.trimRightB ((parts l).1 ++ (parts l).2.1) 48).length ≤ ((parts l).1 ++ (parts l).2.1).length := (trimR_pre _).length_le
    have hpq : (wrap64 (expOf (parts l).2.2.1 + ((Lib.trimLeftB ((parts l).1 ++ (parts l).2.1) 48).length - (Lib.trimRightB (Lib.trimLeftB ((parts l).1 ++ (parts l).2.1) 48) 48).length - (parts l).2.1.length)) = refPow l) ∨
        (¬ (wrap64 (expOf (parts l).2.2.1 + ((Lib.trimLeftB ((parts l).1 ++ (parts l).2.1) 48).length - (Lib.trimRightB (Lib.trimLeftB ((parts l).1 ++ (parts l).2.1) 48) 48).length - (parts l).2.1.length)) ≤ 999 ∧ -999 ≤ wrap64 (expOf (parts l).2.2.1 + ((Lib.trimLeftB ((parts l).1 ++ (parts l).2.1) 48).length - (Lib.trimRightB (Lib.trimLeftB ((parts l).1 ++ (parts l).2.1) 48) 48).length - (parts l).2.1.length))) ∧ (999 < refPow l ∨ refPow l < -999)) := by
      rw [List.length_append] at h2 hrl
      unfold refPow
      rw [List.length_append]
      generalize (Lib.trimLeftB ((parts l).1 ++ (parts l).2.1) 48).length = A at *
      generalize (Lib.trimRightB ((parts l).1 ++ (parts l).2.1) 48).length = B at *
      generalize (Lib.trimRightB (Lib.trimLeftB ((parts l).1 ++ (parts l).2.1) 48) 48).length = C at *
      generalize expOf (parts l).2.2.1 = X at *
      generalize expS (parts l).2.2.1 = Y at *
      unfold ExpJ at hex
      unfold wrap64
      omega
    unfold mayP
    rw [hRP]
    simp only [true_and]
    rcases hpq with hpq | ⟨hn, ho⟩
    · rw [hpq]
      by_cases hc : 999 < refPow l ∨ refPow l < -999 ∨ 30 < (formP (decide (l.head? = some 45), refDig l, refPow l)).length
      · rw [if_pos hc, if_neg (by omega)]
      · rw [if_neg hc, if_pos (by omega)]
    · rw [if_neg (fun h => hn ⟨h.1, h.2.1⟩), if_pos (ho.elim .inl (fun h => .inr (.inl h)))]
end Go.Proofs.YtaolnpiemeaabaaGreatDoor
