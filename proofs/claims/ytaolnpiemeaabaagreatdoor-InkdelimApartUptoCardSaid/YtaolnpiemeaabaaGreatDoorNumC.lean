/- Plain Lean: what is read is in normal form; a normal form reads as itself; numbers have an order. -/
import Derived.Test.YtaolnpiemeaabaaGreatDoorNumB
namespace Go.Proofs.YtaolnpiemeaabaaGreatDoor.Num2
open Go.RowKit
set_option linter.unusedSimpArgs false
set_option linter.unusedVariables false

/-- A value as it should be: 0, or digits with no nought at either end. -/
def Canon (v : Val) : Prop := v = zeroV ∨ (v.2.1 ≠ [] ∧ digs v.2.1 ∧ v.2.1.head? ≠ some 48 ∧ v.2.1.getLast? ≠ some 48)

theorem dropWhile_head48 (l : List UInt8) : (l.dropWhile (· == 48)).head? ≠ some 48 := by
  induction l with
  | nil => simp
  | cons c r ih =>
    by_cases h : c = 48
    · subst h; simpa using ih
    · have : (c == 48) = false := by simp [h]
      rw [List.dropWhile_cons_of_neg (by simp [h])]; simp [h]
theorem trimR_last (l : List UInt8) : (Lib.trimRightB l 48).getLast? ≠ some 48 := by
  unfold Lib.trimRightB
  rw [List.getLast?_reverse]
  exact dropWhile_head48 _
theorem trimR_pre (l : List UInt8) : Lib.trimRightB l 48 <+: l := by
  unfold Lib.trimRightB
  have : l.reverse.dropWhile (· == 48) <:+ l.reverse := List.dropWhile_suffix _
  have h2 := List.reverse_prefix.2 this
  rwa [List.reverse_reverse] at h2
theorem trimR_head (l : List UInt8) (h : Lib.trimRightB l 48 ≠ []) : (Lib.trimRightB l 48).head? = l.head? := by
  obtain ⟨t, ht⟩ := trimR_pre l
  cases hx : Lib.trimRightB l 48 with
  | nil => exact absurd hx h
  | cons c r => rw [hx] at ht; rw [← ht]; rfl

theorem readP_canon (l : List UInt8) : Canon (readP l).1 := by
  unfold readP
  split
  · rename_i h
    split
    · exact .inl rfl
    · rename_i hd
      refine .inr ⟨hd, ?_, ?_, trimR_last _⟩
      · have hm := parts_made l h.1
        intro b hb
        have h1 : b ∈ Lib.trimLeftB ((parts l).1 ++ (parts l).2.1) 48 := (trimR_pre _).subset hb
        have h2 : b ∈ (parts l).1 ++ (parts l).2.1 := (List.dropWhile_sublist _).subset h1
        rcases List.mem_append.1 h2 with h2 | h2
        · exact hm.hw b h2
        · exact hm.hp b h2
      · rw [trimR_head _ hd]; exact dropWhile_head48 _
  · exact .inl rfl

theorem mayP_canon (l : List UInt8) : Canon (mayP l).1 := by
  unfold mayP; split
  · exact readP_canon l
  · exact .inl rfl
theorem mayP_ok {l : List UInt8} (h : (mayP l).2 = 0) : -999 ≤ (mayP l).1.2.2 ∧ (mayP l).1.2.2 ≤ 999 ∧ (formP (mayP l).1).length ≤ 30 ∧ (mayP l).1.2.1.length ≤ 30 := by
  unfold mayP at h ⊢
  split
  · rename_i hc
    refine ⟨hc.2.2.1, hc.2.1, hc.2.2.2, ?_⟩
    have h2 := hc.2.2.2
    unfold formP at h2
    split at h2
    · rename_i hz
      have : (readP l).1.2.1 = [] := hz
      simp only []
      rw [this]; simp
    · simp only [List.length_append] at h2
      simp only []
      omega
  · rename_i hc; rw [if_neg hc] at h; simp at h

/-- Powers of ten of up to three digits. -/
def chk (p : Int) : Bool := decide (Lib.atoiAll (Lib.itoa p) = .ok p) && (unsgn2 (Lib.itoa p)).all dig && !(unsgn2 (Lib.itoa p)).isEmpty
theorem chk_all : ∀ i : Fin 1999, chk ((i.val : Int) - 999) = true := by decide +kernel
theorem itoa_ok (p : Int) (h0 : -999 ≤ p) (h1 : p ≤ 999) : Lib.atoiAll (Lib.itoa p) = .ok p ∧ digs (unsgn2 (Lib.itoa p)) ∧ unsgn2 (Lib.itoa p) ≠ [] := by
  have h := chk_all ⟨(p + 999).toNat, by omega⟩
  have e : (((p + 999).toNat : Int) - 999) = p := by omega
  simp only [] at h
  rw [e] at h
  simp only [chk, Bool.and_eq_true, decide_eq_true_eq, List.all_eq_true] at h
  exact ⟨h.1.1, h.1.2, fun hn => by rw [hn] at h; simp at h⟩

theorem takeWhile_app {a b : List UInt8} (ha : digs a) (hb : ∀ c r, b = c :: r → dig c = false) : (a ++ b).takeWhile dig = a ∧ (a ++ b).dropWhile dig = b := by
  induction a with
  | nil =>
    cases b with
    | nil => exact ⟨rfl, rfl⟩
    | cons c r => have := hb c r rfl; simp [List.takeWhile_cons, List.dropWhile_cons, this]
  | cons x y ih =>
    have hx := ha x (by simp)
    have := ih (fun b hb => ha b (by simp [hb]))
    simp [List.takeWhile_cons, List.dropWhile_cons, hx, this.1, this.2]

theorem digs_drop {l : List UInt8} (h : digs l) : l.takeWhile dig = l ∧ l.dropWhile dig = [] := by
  have := takeWhile_app (b := []) h (fun c r e => by cases e)
  simpa using this

/-- The parts of a normal form. -/
theorem form_parts (v : Val) (hc : v.2.1 ≠ [] ∧ digs v.2.1 ∧ v.2.1.head? ≠ some 48 ∧ v.2.1.getLast? ≠ some 48) (h0 : -999 ≤ v.2.2) (h1 : v.2.2 ≤ 999) :
    parts (formP v) = (v.2.1, [], (if v.2.2 = 0 then [] else Lib.itoa v.2.2), true, true) ∧ ((formP v).head? = some 45 ↔ v.1 = true) := by
  obtain ⟨b, d, p⟩ := v
  simp only [] at hc h0 h1 ⊢
  obtain ⟨hn, hd, hh, hl⟩ := hc
  have hform : formP (b, d, p) = (if b = true then [45] else []) ++ (d ++ (if p = 0 then [] else 101 :: Lib.itoa p)) := by
    simp only [formP, hn, if_false, List.append_assoc]
  obtain ⟨x, y, rfl⟩ : ∃ x y, d = x :: y := by cases d with | nil => exact absurd rfl hn | cons x y => exact ⟨x, y, rfl⟩
  have hx := hd x (by simp)
  have hx45 : ¬ x.toNat = 45 := by simp [dig] at hx; omega
  have hun : unsign (formP (b, x :: y, p)) = (x :: y) ++ (if p = 0 then [] else 101 :: Lib.itoa p) := by
    rw [hform]
    cases b
    · show unsign (x :: (y ++ _)) = _
      simp only [unsign]; rw [if_neg hx45]; rfl
    · show unsign (45 :: (x :: y ++ _)) = _
      simp [unsign]
  have hhd : (formP (b, x :: y, p)).head? = some 45 ↔ b = true := by
    rw [hform]
    cases b
    · simp only [Bool.false_eq_true, if_false, List.nil_append, List.cons_append, List.head?_cons, Option.some.injEq, iff_false]
      intro e; rw [e] at hx45; exact hx45 rfl
    · simp
  refine ⟨?_, hhd⟩
  unfold parts
  rw [hun]
  have htw := takeWhile_app (a := x :: y) (b := if p = 0 then [] else 101 :: Lib.itoa p) hd (fun c r e => by
    by_cases hp : p = 0
    · rw [if_pos hp] at e; cases e
    · rw [if_neg hp] at e; injection e with e _; rw [← e]; decide)
  have h48 : ¬ (1 < (x :: y).length ∧ (x :: y).head? = some 48) := fun h => hh h.2
  unfold body
  simp only [htw.1, htw.2]
  rw [if_neg (by simp), if_neg h48]
  by_cases hp : p = 0
  · simp [hp]
  · simp only [hp, if_false]
    have e101 : ¬ (101 : UInt8).toNat = 46 := by decide
    rw [if_neg e101]
    obtain ⟨a1, a2, a3⟩ := itoa_ok p h0 h1
    have := digs_drop a2
    have hE : isE 101 = true := by decide
    simp only [expo, hE, if_true]
    change (if (unsgn2 (Lib.itoa p)).dropWhile dig = [] then (x :: y, [], Lib.itoa p, true, !((unsgn2 (Lib.itoa p)).takeWhile dig).isEmpty) else no : R) = _
    rw [if_pos this.2, this.1]
    cases hz : unsgn2 (Lib.itoa p) with
    | nil => exact absurd hz a3
    | cons u v => rfl

/-- A normal form reads as its value. -/
theorem form_reads (v : Val) (hc : Canon v) (h0 : -999 ≤ v.2.2) (h1 : v.2.2 ≤ 999) (hl : (formP v).length ≤ 30) : readP (formP v) = (v, true) := by
  rcases hc with rfl | hc
  · decide
  · obtain ⟨hp, hh⟩ := form_parts v hc h0 h1
    have hm : (may (formP v)).2 = true := by rw [may_parts, hp]
    obtain ⟨hn, hd, hh48, hl48⟩ := hc
    have t1 : Lib.trimLeftB v.2.1 48 = v.2.1 := by
      unfold Lib.trimLeftB
      cases hx : v.2.1 with
      | nil => rfl
      | cons x y => rw [hx] at hh48; rw [List.dropWhile_cons_of_neg]; simpa using hh48
    have t2 : Lib.trimRightB v.2.1 48 = v.2.1 := by
      unfold Lib.trimRightB
      have : v.2.1.reverse.dropWhile (· == 48) = v.2.1.reverse := by
        have hr : v.2.1.reverse.head? ≠ some 48 := by rw [List.head?_reverse]; exact hl48
        cases hx : v.2.1.reverse with
        | nil => rfl
        | cons x y => rw [hx] at hr; rw [List.dropWhile_cons_of_neg]; simpa using hr
      rw [this, List.reverse_reverse]
    unfold readP
    rw [if_pos ⟨hm, hl⟩, hp]
    simp only [List.append_nil]
    rw [t1, t2, if_neg hn]
    have hx : expOf (if v.2.2 = 0 then [] else Lib.itoa v.2.2) = v.2.2 := by
      by_cases hp : v.2.2 = 0
      · rw [if_pos hp, hp]; rfl
      · rw [if_neg hp]
        obtain ⟨a1, a2, a3⟩ := itoa_ok v.2.2 h0 h1
        have hne : Lib.itoa v.2.2 ≠ [] := fun h => a3 (by rw [h]; rfl)
        simp [expOf, hne, a1]
    rw [hx]
    have hb : decide ((formP v).head? = some 45) = v.1 := by
      cases hv : v.1
      · rw [hv] at hh; simpa using hh
      · rw [hv] at hh; simpa using hh
    rw [hb]
    have hw : wrap64 (v.2.2 + ((v.2.1.length : Int) - v.2.1.length - (([] : List UInt8).length : Int))) = v.2.2 := by
      unfold wrap64; simp; omega
    rw [hw]

theorem form_may (v : Val) (hc : Canon v) (h0 : -999 ≤ v.2.2) (h1 : v.2.2 ≤ 999) (hl : (formP v).length ≤ 30) : mayP (formP v) = (v, 0) := by
  unfold mayP
  rw [form_reads v hc h0 h1 hl, if_pos ⟨rfl, h1, h0, hl⟩]

theorem may_of_ok {l : List UInt8} (h : (mayP l).2 = 0) : (may l).2 = true := by
  unfold mayP readP at h
  by_cases hc : (may l).2 = true ∧ l.length ≤ 30
  · exact hc.1
  · rw [if_neg hc] at h; simp at h

/-- A normal form is its own, and a number. -/
theorem norm_stays (l : List UInt8) (h : (mayP l).2 = 0) : normP (formP (mayP l).1) = (formP (mayP l).1, 0) ∧ (may (formP (mayP l).1)).2 = true ∧ (formP (mayP l).1).length ≤ 30 := by
  obtain ⟨h0, h1, h2, h3⟩ := mayP_ok h
  have hf := form_may (mayP l).1 (mayP_canon l) h0 h1 h2
  refine ⟨?_, may_of_ok (by rw [hf]), h2⟩
  unfold normP
  rw [hf, if_pos rfl]
theorem norm_err {l : List UInt8} (h : ¬ (mayP l).2 = 0) : normP l = ([], 8) := by unfold normP; rw [if_neg h]
theorem norm_ok {l : List UInt8} (h : (mayP l).2 = 0) : normP l = (formP (mayP l).1, 0) := by unfold normP; rw [if_pos h]
end Go.Proofs.YtaolnpiemeaabaaGreatDoor.Num2
