/- Plain Lean: what num's read makes of a text, out of the text's parts. -/
import Derived.Test.YtaolnpiemeaabaaGreatDoorNumA
import Derived.Lib.Strings
import Derived.Lib.IndexMore
import Derived.Lib.Case
import Derived.Lib.TrimByte
import Derived.Lib.AtoiAll
import Derived.Lib.ItoaNum
import Derived.Lib.Bytealg
import Derived.WalkKit
namespace Go.Proofs.YtaolnpiemeaabaaGreatDoor.Num2
open Go.RowKit
set_option linter.unusedSimpArgs false
set_option linter.unusedVariables false

theorem index_not {c : UInt8} : ∀ {a : List UInt8}, c ∉ a → Lib.index a [c] = -1
  | [], _ => rfl
  | x :: a, h => by
    have hx : ¬ c = x := fun e => h (by simp [e])
    have ha : c ∉ a := fun e => h (by simp [e])
    simp [Lib.index, List.isPrefixOf, hx, index_not ha]
theorem index_at {c : UInt8} {b : List UInt8} : ∀ {a : List UInt8}, c ∉ a → Lib.index (a ++ c :: b) [c] = a.length
  | [], _ => by simp [Lib.index, List.isPrefixOf]
  | x :: a, h => by
    have hx : ¬ c = x := fun e => h (by simp [e])
    have ha : c ∉ a := fun e => h (by simp [e])
    have ih := index_at (b := b) ha
    rw [List.cons_append]
    simp only [Lib.index]
    rw [ih]
    have : ([c] : List UInt8).isPrefixOf (x :: (a ++ c :: b)) = false := by simp [List.isPrefixOf, hx]
    rw [this]
    have h2 : ((a.length : Int) == -1) = false := beq_eq_false_iff_ne.2 (by omega)
    rw [h2]
    simp
theorem cut_not {c : UInt8} {a : List UInt8} (h : c ∉ a) : Lib.cut a [c] = (a, [], false) := by
  simp [Lib.cut, index_not h]
theorem cut_at {c : UInt8} {a b : List UInt8} (h : c ∉ a) : Lib.cut (a ++ c :: b) [c] = (a, b, true) := by
  simp only [Lib.cut, index_at h]
  rw [if_pos (by omega)]
  simp

def digs (l : List UInt8) : Prop := ∀ b ∈ l, dig b = true
def unsgn2 (r : List UInt8) : List UInt8 := match r with | [] => [] | x :: y => if isSign x = true then y else x :: y
/-- How a number is made up. -/
structure Made (l w p t : List UInt8) : Prop where
  hw : digs w
  hp : digs p
  ht : t = [] ∨ (digs (unsgn2 t) ∧ unsgn2 t ≠ [])
  all : ∃ D E, l = w ++ D ++ E ∧ ((D = [] ∧ p = []) ∨ D = 46 :: p) ∧ ((E = [] ∧ t = []) ∨ ∃ e, isE e = true ∧ E = e :: t)

theorem digs_take (l : List UInt8) : digs (l.takeWhile dig) := takeWhile_dig l
theorem digs_all {l : List UInt8} (h : l.dropWhile dig = []) : digs l := by
  have e := List.takeWhile_append_dropWhile (p := dig) (l := l)
  rw [h, List.append_nil] at e
  rw [← e]; exact digs_take l

theorem expo_made (w p r : List UInt8) (h : (expo w p r).2.2.2.2 = true) : (expo w p r).1 = w ∧ (expo w p r).2.1 = p ∧ (digs (unsgn2 (expo w p r).2.2.1) ∧ unsgn2 (expo w p r).2.2.1 ≠ []) ∧ ∃ e, isE e = true ∧ r = e :: (expo w p r).2.2.1 := by
  cases r with
  | nil => simp [expo, no] at h
  | cons c r =>
    simp only [expo] at h ⊢
    by_cases hc : isE c = true
    · rw [if_pos hc] at h ⊢
      change ((if (unsgn2 r).dropWhile dig = [] then (w, p, r, true, !((unsgn2 r).takeWhile dig).isEmpty) else no : R)).2.2.2.2 = true at h
      change _ ∧ _ ∧ _ ∧ _
      by_cases hd : (unsgn2 r).dropWhile dig = []
      · rw [if_pos hd] at h
        have e : (if (unsgn2 r).dropWhile dig = [] then (w, p, r, true, !((unsgn2 r).takeWhile dig).isEmpty) else no : R) = (w, p, r, true, !((unsgn2 r).takeWhile dig).isEmpty) := if_pos hd
        change (if (unsgn2 r).dropWhile dig = [] then (w, p, r, true, !((unsgn2 r).takeWhile dig).isEmpty) else no : R).1 = w ∧ (if (unsgn2 r).dropWhile dig = [] then (w, p, r, true, !((unsgn2 r).takeWhile dig).isEmpty) else no : R).2.1 = p ∧ (digs (unsgn2 (if (unsgn2 r).dropWhile dig = [] then (w, p, r, true, !((unsgn2 r).takeWhile dig).isEmpty) else no : R).2.2.1) ∧ unsgn2 (if (unsgn2 r).dropWhile dig = [] then (w, p, r, true, !((unsgn2 r).takeWhile dig).isEmpty) else no : R).2.2.1 ≠ []) ∧ ∃ e, isE e = true ∧ c :: r = e :: (if (unsgn2 r).dropWhile dig = [] then (w, p, r, true, !((unsgn2 r).takeWhile dig).isEmpty) else no : R).2.2.1
        rw [e]
        refine ⟨rfl, rfl, ⟨digs_all hd, ?_⟩, c, hc, rfl⟩
        intro hn
        rw [hn] at h; simp at h
      · rw [if_neg hd] at h; simp [no] at h
    · rw [if_neg hc] at h; simp [no] at h

theorem body_made (l : List UInt8) (h : (body l).2.2.2.2 = true) : Made l (body l).1 (body l).2.1 (body l).2.2.1 := by
  have split := List.takeWhile_append_dropWhile (p := dig) (l := l)
  unfold body at h ⊢
  simp only [] at h ⊢
  by_cases h1 : l.takeWhile dig = [] ∧ l.dropWhile dig ≠ []
  · rw [if_pos h1] at h; simp [no] at h
  rw [if_neg h1] at h ⊢
  by_cases h2 : 1 < (l.takeWhile dig).length ∧ (l.takeWhile dig).head? = some 48
  · rw [if_pos h2] at h; simp [no] at h
  rw [if_neg h2] at h ⊢
  cases hr : l.dropWhile dig with
  | nil =>
    rw [hr] at split
    exact ⟨digs_take l, by intro b hb; simp at hb, .inl rfl, [], [], by simpa using split.symm, .inl ⟨rfl, rfl⟩, .inl ⟨rfl, rfl⟩⟩
  | cons c q =>
    rw [hr] at h split
    have hqs := List.takeWhile_append_dropWhile (p := dig) (l := q)
    simp only [] at h ⊢
    by_cases hc : c.toNat = 46
    · have hc' : c = 46 := UInt8.toNat_inj.1 (by simpa using hc)
      rw [if_pos hc] at h ⊢
      by_cases h3 : q.dropWhile dig = []
      · rw [if_pos h3] at h ⊢
        rw [h3, List.append_nil] at hqs
        exact ⟨digs_take l, digs_take q, .inl rfl, 46 :: q.takeWhile dig, [], by rw [hqs, ← hc', List.append_nil]; exact split.symm, .inr rfl, .inl ⟨rfl, rfl⟩⟩
      · rw [if_neg h3] at h ⊢
        by_cases h4 : q.takeWhile dig = []
        · rw [if_pos h4] at h; simp [no] at h
        · rw [if_neg h4] at h ⊢
          obtain ⟨a1, a2, a3, e, he, a4⟩ := expo_made _ _ _ h
          refine ⟨by rw [a1]; exact digs_take l, by rw [a2]; exact digs_take q, .inr a3, 46 :: q.takeWhile dig, q.dropWhile dig, ?_, .inr (by rw [a2]), .inr ⟨e, he, a4⟩⟩
          rw [a1, List.append_assoc, List.cons_append, hqs, ← hc']; exact split.symm
    · rw [if_neg hc] at h ⊢
      obtain ⟨a1, a2, a3, e, he, a4⟩ := expo_made _ _ _ h
      refine ⟨by rw [a1]; exact digs_take l, by rw [a2]; intro b hb; simp at hb, .inr a3, [], c :: q, ?_, .inl ⟨rfl, a2⟩, .inr ⟨e, he, a4⟩⟩
      rw [a1, List.append_nil]; exact split.symm

theorem parts_made (l : List UInt8) (h : (may l).2 = true) : Made (unsign l) (parts l).1 (parts l).2.1 (parts l).2.2.1 := by
  rw [may_parts] at h
  exact body_made _ h

/-- The lower case. -/
theorem lower_dig {b : UInt8} (h : dig b = true) : Lib.lowerB b = b := by
  simp [dig] at h
  have : Lib.isUpperB b = false := by
    unfold Lib.isUpperB
    simp [UInt8.le_iff_toNat_le]; omega
  simp [Lib.lowerB, this]
theorem lower_digs {l : List UInt8} (h : digs l) : Lib.toLowerA l = l := by
  unfold Lib.toLowerA
  induction l with
  | nil => rfl
  | cons c r ih => rw [List.map_cons, lower_dig (h c (by simp)), ih (fun b hb => h b (by simp [hb]))]
theorem lower_app (a b : List UInt8) : Lib.toLowerA (a ++ b) = Lib.toLowerA a ++ Lib.toLowerA b := List.map_append
theorem lower_sign {b : UInt8} (h : isSign b = true) : Lib.lowerB b = b := by
  simp [isSign] at h
  rcases h with h | h
  · have : b = 43 := UInt8.toNat_inj.1 (by simpa using h)
    subst this; rfl
  · have : b = 45 := UInt8.toNat_inj.1 (by simpa using h)
    subst this; rfl
theorem lower_e {b : UInt8} (h : isE b = true) : Lib.lowerB b = 101 := by
  simp [isE] at h
  rcases h with h | h
  · have : b = 101 := UInt8.toNat_inj.1 (by simpa using h)
    subst this; rfl
  · have : b = 69 := UInt8.toNat_inj.1 (by simpa using h)
    subst this; rfl
theorem lower_tail {t : List UInt8} (h : digs (unsgn2 t)) : Lib.toLowerA t = t := by
  cases t with
  | nil => rfl
  | cons x y =>
    by_cases hx : isSign x = true
    · have : unsgn2 (x :: y) = y := by simp [unsgn2, hx]
      rw [this] at h
      show Lib.lowerB x :: Lib.toLowerA y = _
      rw [lower_sign hx, lower_digs h]
    · have : unsgn2 (x :: y) = x :: y := by simp [unsgn2, hx]
      rw [this] at h
      exact lower_digs h

theorem not_e_digs {l : List UInt8} (h : digs l) : (101 : UInt8) ∉ l := fun hm => by have := h _ hm; revert this; decide
theorem not_dot_digs {l : List UInt8} (h : digs l) : (46 : UInt8) ∉ l := fun hm => by have := h _ hm; revert this; decide

/-- The text behind its sign, in lower case, cut at the e, and cut at the point. -/
theorem made_cut {l w p t : List UInt8} (h : Made l w p t) :
    (Lib.cut (Lib.toLowerA l) [101]).2.1 = t ∧ (Lib.cut (Lib.cut (Lib.toLowerA l) [101]).1 [46]).1 = w ∧ (Lib.cut (Lib.cut (Lib.toLowerA l) [101]).1 [46]).2.1 = p := by
  obtain ⟨hw, hp, ht, D, E, rfl, hD, hE⟩ := h
  have hDl : Lib.toLowerA D = D := by
    rcases hD with ⟨rfl, _⟩ | rfl
    · rfl
    · show Lib.lowerB 46 :: Lib.toLowerA p = _
      rw [lower_digs hp]; rfl
  have hnD : (101 : UInt8) ∉ w ++ D := by
    intro hm
    rcases List.mem_append.1 hm with hm | hm
    · exact not_e_digs hw hm
    · rcases hD with ⟨rfl, _⟩ | rfl
      · simp at hm
      · rcases List.mem_cons.1 hm with h | h
        · revert h; decide
        · exact not_e_digs hp h
  have h2 : (Lib.cut (w ++ D) [46]).1 = w ∧ (Lib.cut (w ++ D) [46]).2.1 = p := by
    rcases hD with ⟨rfl, rfl⟩ | rfl
    · rw [List.append_nil, cut_not (not_dot_digs hw)]; exact ⟨rfl, rfl⟩
    · rw [cut_at (not_dot_digs hw)]; exact ⟨rfl, rfl⟩
  rw [lower_app, lower_app, lower_digs hw, hDl]
  rcases hE with ⟨rfl, rfl⟩ | ⟨e, he, rfl⟩
  · have : Lib.toLowerA ([] : List UInt8) = [] := rfl
    rw [this, List.append_nil, cut_not hnD]
    exact ⟨rfl, h2⟩
  · have h3 : Lib.toLowerA (e :: t) = 101 :: t := by
      show Lib.lowerB e :: Lib.toLowerA t = _
      rw [lower_e he]
      rcases ht with rfl | ht
      · rfl
      · rw [lower_tail ht.1]
    rw [h3, cut_at hnD]
    exact ⟨rfl, h2⟩

/-- The exponent as num's read tells it. -/
def expOf (t : List UInt8) : Int :=
  if t = [] then 0 else match Lib.atoiAll t with
  | .ok v => v
  | _ => if t.head? = some 45 then -1099511627776 else 1099511627776

abbrev Val := Bool × List UInt8 × Int
def zeroV : Val := (false, [], 0)
/-- What num's read tells. -/
def readP (l : List UInt8) : Val × Bool :=
  if (may l).2 = true ∧ l.length ≤ 30 then
    if Lib.trimRightB (Lib.trimLeftB ((parts l).1 ++ (parts l).2.1) 48) 48 = [] then (zeroV, true)
    else ((decide (l.head? = some 45), Lib.trimRightB (Lib.trimLeftB ((parts l).1 ++ (parts l).2.1) 48) 48,
      wrap64 (expOf (parts l).2.2.1 + ((Lib.trimLeftB ((parts l).1 ++ (parts l).2.1) 48).length - (Lib.trimRightB (Lib.trimLeftB ((parts l).1 ++ (parts l).2.1) 48) 48).length - (parts l).2.1.length))), true)
  else (zeroV, false)
/-- A value's normal form. -/
def formP (v : Val) : List UInt8 :=
  if v.2.1 = [] then [48] else (if v.1 = true then [45] else []) ++ v.2.1 ++ (if v.2.2 = 0 then [] else 101 :: Lib.itoa v.2.2)
def mayP (l : List UInt8) : Val × Int :=
  if (readP l).2 = true ∧ (readP l).1.2.2 ≤ 999 ∧ -999 ≤ (readP l).1.2.2 ∧ (formP (readP l).1).length ≤ 30 then ((readP l).1, 0) else (zeroV, 8)
def normP (l : List UInt8) : List UInt8 × Int := if (mayP l).2 = 0 then (formP (mayP l).1, 0) else ([], 8)
def sizedP (a b : Val) : Int :=
  if a.2.1 = [] ∨ b.2.1 = [] then (a.2.1.length : Int) - b.2.1.length
  else if (a.2.1.length : Int) + a.2.2 ≠ b.2.1.length + b.2.2 then a.2.1.length + a.2.2 - b.2.1.length - b.2.2
  else Lib.compareBytes a.2.1 b.2.1
def clamp (n : Int) : Int := max (-1) (min 1 n)
def compareV (x y : Val) : Int :=
  clamp (if x.1 = true ∧ y.1 = true then sizedP y x else if x.1 = true then -1 else if y.1 = true then 1 else sizedP x y)
def compareP (a b : List UInt8) : Int × Int :=
  if (mayP a).2 = 0 ∧ (mayP b).2 = 0 then (compareV (mayP a).1 (mayP b).1, 0) else (0, 8)
end Go.Proofs.YtaolnpiemeaabaaGreatDoor.Num2
