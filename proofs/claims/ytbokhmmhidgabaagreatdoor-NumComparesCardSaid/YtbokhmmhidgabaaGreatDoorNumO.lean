/- Plain Lean: numbers have an order: the comparison is that of whole numbers. -/
import Derived.Test.YtbokhmmhidgabaaGreatDoorNumC
namespace Go.Proofs.YtbokhmmhidgabaaGreatDoor.Num2
open Go.RowKit
set_option linter.unusedSimpArgs false
set_option linter.unusedVariables false

/-- Digits as a number of K places. -/
def pad : List UInt8 → Nat → Nat
  | [], _ => 0
  | c :: r, K => (c.toNat - 48) * 10 ^ (K - 1) + pad r (K - 1)
theorem pad_lt : ∀ (l : List UInt8) (K : Nat), digs l → l.length ≤ K → pad l K < 10 ^ K
  | [], K, _, _ => by simp [pad]; exact Nat.pow_pos (by decide)
  | c :: r, K, h, hl => by
    have hc := h c (by simp)
    simp [dig] at hc
    obtain ⟨k, rfl⟩ : ∃ k, K = k + 1 := ⟨K - 1, by simp at hl; omega⟩
    have ih := pad_lt r k (fun b hb => h b (by simp [hb])) (by simp at hl; omega)
    simp only [pad, Nat.add_sub_cancel]
    rw [Nat.pow_succ]
    have : (c.toNat - 48) * 10 ^ k ≤ 9 * 10 ^ k := Nat.mul_le_mul_right _ (by omega)
    omega
theorem pad_pos : ∀ (l : List UInt8) (K : Nat), digs l → l ≠ [] → l.getLast? ≠ some 48 → 0 < pad l K
  | [], _, _, h, _ => absurd rfl h
  | [c], K, h, _, hl => by
    have hc := h c (by simp)
    simp [dig] at hc
    have : ¬ c = 48 := by simpa using hl
    have h2 : ¬ c.toNat = 48 := fun e => this (UInt8.toNat_inj.1 (by simpa using e))
    simp only [pad]
    have : 0 < (c.toNat - 48) * 10 ^ (K - 1) := Nat.mul_pos (by omega) (Nat.pow_pos (by decide))
    omega
  | c :: x :: r, K, h, _, hl => by
    have ih := pad_pos (x :: r) (K - 1) (fun b hb => h b (by simp [hb])) (by simp) (by simpa [List.getLast?_cons_cons] using hl)
    simp only [pad] at ih ⊢
    omega

/-- The digits' comparison is that of the numbers. -/
theorem cmp_pad : ∀ (a b : List UInt8) (K : Nat), digs a → digs b → a.length ≤ K → b.length ≤ K → a.getLast? ≠ some 48 → b.getLast? ≠ some 48 →
    (Lib.compareBytes a b = -1 ∧ pad a K < pad b K) ∨ (Lib.compareBytes a b = 0 ∧ a = b) ∨ (Lib.compareBytes a b = 1 ∧ pad b K < pad a K)
  | [], [], _, _, _, _, _, _, _ => .inr (.inl ⟨rfl, rfl⟩)
  | [], y :: s, K, _, hb, _, _, _, lb => .inl ⟨rfl, pad_pos (y :: s) K hb (by simp) lb⟩
  | x :: r, [], K, ha, _, _, _, la, _ => .inr (.inr ⟨rfl, pad_pos (x :: r) K ha (by simp) la⟩)
  | x :: r, y :: s, K, ha, hb, hla, hlb, la, lb => by
    have hx := ha x (by simp)
    have hy := hb y (by simp)
    simp [dig] at hx hy
    obtain ⟨k, rfl⟩ : ∃ k, K = k + 1 := ⟨K - 1, by simp at hla; omega⟩
    have hr : digs r := fun b hb => ha b (by simp [hb])
    have hs : digs s := fun b hb' => hb b (by simp [hb'])
    have pr := pad_lt r k hr (by simp at hla; omega)
    have ps := pad_lt s k hs (by simp at hlb; omega)
    simp only [Lib.compareBytes, pad, Nat.add_sub_cancel]
    by_cases h1 : x < y
    · rw [if_pos h1]
      refine .inl ⟨rfl, ?_⟩
      have h1' : x.toNat < y.toNat := h1
      have : (x.toNat - 48 + 1) * 10 ^ k ≤ (y.toNat - 48) * 10 ^ k := Nat.mul_le_mul_right _ (by omega)
      rw [Nat.add_mul] at this
      omega
    · rw [if_neg h1]
      by_cases h2 : y < x
      · rw [if_pos h2]
        refine .inr (.inr ⟨rfl, ?_⟩)
        have h2' : y.toNat < x.toNat := h2
        have : (y.toNat - 48 + 1) * 10 ^ k ≤ (x.toNat - 48) * 10 ^ k := Nat.mul_le_mul_right _ (by omega)
        rw [Nat.add_mul] at this
        omega
      · rw [if_neg h2]
        have hxy : x = y := UInt8.toNat_inj.1 (by
          have a1 : ¬ x.toNat < y.toNat := h1
          have a2 : ¬ y.toNat < x.toNat := h2
          omega)
        subst hxy
        have la' : r.getLast? ≠ some 48 := by
          cases r with | nil => simp | cons u v => simpa [List.getLast?_cons_cons] using la
        have lb' : s.getLast? ≠ some 48 := by
          cases s with | nil => simp | cons u v => simpa [List.getLast?_cons_cons] using lb
        rcases cmp_pad r s k hr hs (by simp at hla; omega) (by simp at hlb; omega) la' lb' with ⟨e, h⟩ | ⟨e, h⟩ | ⟨e, h⟩
        · exact .inl ⟨e, by omega⟩
        · exact .inr (.inl ⟨e, by rw [h]⟩)
        · exact .inr (.inr ⟨e, by omega⟩)

/-- The number behind a value, times ten to the 1100th or so: its digits, the first standing at place 'len + pow'. -/
def big (v : Val) : Nat := if v.2.1 = [] then 0 else pad v.2.1 (v.2.1.length + v.2.2 + 1100).toNat
def sgd (v : Val) : Int := if v.1 = true then -(big v : Int) else big v

structure Fine (v : Val) : Prop where
  canon : Canon v
  lo : -999 ≤ v.2.2
  hi : v.2.2 ≤ 999
  len : v.2.1.length ≤ 30

theorem Fine.zero {v : Val} (h : Fine v) (hz : v.2.1 = []) : v = zeroV := by
  rcases h.canon with h | h
  · exact h
  · exact absurd hz h.1
theorem Fine.big_zero {v : Val} (h : Fine v) : big v = 0 ↔ v.2.1 = [] := by
  constructor
  · intro hb
    rcases h.canon with h | ⟨h1, h2, h3, h4⟩
    · rw [h]; rfl
    · unfold big at hb; rw [if_neg h1] at hb
      have := pad_pos v.2.1 (v.2.1.length + v.2.2 + 1100).toNat h2 h1 h4
      omega
  · intro hz; unfold big; rw [if_pos hz]

theorem pad_ge (l : List UInt8) (K : Nat) (hd : digs l) (hn : l ≠ []) (hh : l.head? ≠ some 48) : 10 ^ (K - 1) ≤ pad l K := by
  cases l with
  | nil => exact absurd rfl hn
  | cons c r =>
    have hc := hd c (by simp)
    simp [dig] at hc
    have h48 : ¬ c.toNat = 48 := fun e => hh (by simp; exact UInt8.toNat_inj.1 (by simpa using e))
    simp only [pad]
    have : 1 * 10 ^ (K - 1) ≤ (c.toNat - 48) * 10 ^ (K - 1) := Nat.mul_le_mul_right _ (by omega)
    omega

/-- Sizes are compared as the numbers are; the same size is the same value but for the sign. -/
theorem sized_big (x y : Val) (hx : Fine x) (hy : Fine y) :
    (sizedP x y < 0 ∧ big x < big y) ∨ (sizedP x y = 0 ∧ x.2 = y.2) ∨ (0 < sizedP x y ∧ big y < big x) := by
  by_cases hx0 : x.2.1 = []
  · have ex := hx.zero hx0
    by_cases hy0 : y.2.1 = []
    · have ey := hy.zero hy0
      exact .inr (.inl ⟨by unfold sizedP; rw [if_pos (.inl hx0), hx0, hy0]; rfl, by rw [ex, ey]⟩)
    · refine .inl ⟨?_, ?_⟩
      · unfold sizedP; rw [if_pos (.inl hx0), hx0]
        have : 0 < y.2.1.length := List.length_pos_iff.2 hy0
        simp; omega
      · have h1 : big x = 0 := hx.big_zero.2 hx0
        have h2 : ¬ big y = 0 := fun h => hy0 (hy.big_zero.1 h)
        omega
  · by_cases hy0 : y.2.1 = []
    · refine .inr (.inr ⟨?_, ?_⟩)
      · unfold sizedP; rw [if_pos (.inr hy0), hy0]
        have : 0 < x.2.1.length := List.length_pos_iff.2 hx0
        simp; omega
      · have h1 : big y = 0 := hy.big_zero.2 hy0
        have h2 : ¬ big x = 0 := fun h => hx0 (hx.big_zero.1 h)
        omega
    · have cx := (hx.canon).resolve_left (fun h => hx0 (by rw [h]; rfl))
      have cy := (hy.canon).resolve_left (fun h => hy0 (by rw [h]; rfl))
      obtain ⟨a1, a2, a3, a4⟩ := cx
      obtain ⟨b1, b2, b3, b4⟩ := cy
      have hxl := hx.lo; have hyl := hy.lo; have hxh := hx.hi; have hyh := hy.hi
      have lx : 0 < x.2.1.length := List.length_pos_iff.2 hx0
      have ly : 0 < y.2.1.length := List.length_pos_iff.2 hy0
      unfold sizedP big
      rw [if_neg (by simp [hx0, hy0]), if_neg hx0, if_neg hy0]
      by_cases hc : (x.2.1.length : Int) + x.2.2 = y.2.1.length + y.2.2
      · rw [if_neg (by simpa using hc), hc]
        rcases cmp_pad x.2.1 y.2.1 (y.2.1.length + y.2.2 + 1100).toNat a2 b2 (by omega) (by omega) a4 b4 with ⟨e, h⟩ | ⟨e, h⟩ | ⟨e, h⟩
        · exact .inl ⟨by omega, h⟩
        · refine .inr (.inl ⟨e, ?_⟩)
          have : x.2.2 = y.2.2 := by rw [h] at hc; omega
          exact Prod.ext h this
        · exact .inr (.inr ⟨by omega, h⟩)
      · rw [if_pos hc]
        rcases Int.lt_or_lt_of_ne hc with h | h
        · refine .inl ⟨by omega, ?_⟩
          have h1 := pad_lt x.2.1 (x.2.1.length + x.2.2 + 1100).toNat a2 (by omega)
          have h2 := pad_ge y.2.1 (y.2.1.length + y.2.2 + 1100).toNat b2 b1 b3
          have h3 : 10 ^ (x.2.1.length + x.2.2 + 1100).toNat ≤ 10 ^ ((y.2.1.length + y.2.2 + 1100).toNat - 1) := Nat.pow_le_pow_right (by decide) (by omega)
          omega
        · refine .inr (.inr ⟨by omega, ?_⟩)
          have h1 := pad_lt y.2.1 (y.2.1.length + y.2.2 + 1100).toNat b2 (by omega)
          have h2 := pad_ge x.2.1 (x.2.1.length + x.2.2 + 1100).toNat a2 a1 a3
          have h3 : 10 ^ (y.2.1.length + y.2.2 + 1100).toNat ≤ 10 ^ ((x.2.1.length + x.2.2 + 1100).toNat - 1) := Nat.pow_le_pow_right (by decide) (by omega)
          omega

theorem clamp_neg {n : Int} (h : n < 0) : clamp n = -1 := by unfold clamp; omega
theorem clamp_pos {n : Int} (h : 0 < n) : clamp n = 1 := by unfold clamp; omega
theorem clamp_zero : clamp 0 = 0 := by decide

/-- The comparison is that of the numbers with their signs; 0 just for the same value. -/
theorem compare_sgd (x y : Val) (hx : Fine x) (hy : Fine y) :
    (compareV x y = -1 ∧ sgd x < sgd y) ∨ (compareV x y = 0 ∧ x = y) ∨ (compareV x y = 1 ∧ sgd y < sgd x) := by
  have nz : ∀ v : Val, Fine v → v.1 = true → 0 < big v := by
    intro v hv hs
    rcases Nat.eq_zero_or_pos (big v) with h | h
    · have := hv.zero (hv.big_zero.1 h); rw [this] at hs; cases hs
    · exact h
  obtain ⟨b, d⟩ := x
  obtain ⟨b', d'⟩ := y
  cases b <;> cases b' <;> simp only [compareV, sgd, and_self, and_true, if_true, if_false, Bool.false_eq_true, and_false]
  · rcases sized_big _ _ hx hy with ⟨h1, h2⟩ | ⟨h1, h2⟩ | ⟨h1, h2⟩
    · exact .inl ⟨clamp_neg h1, by omega⟩
    · exact .inr (.inl ⟨by rw [h1]; exact clamp_zero, Prod.ext rfl h2⟩)
    · exact .inr (.inr ⟨clamp_pos h1, by omega⟩)
  · have := nz _ hy rfl
    exact .inr (.inr ⟨clamp_pos (by decide), by omega⟩)
  · have := nz _ hx rfl
    exact .inl ⟨clamp_neg (by decide), by omega⟩
  · rcases sized_big _ _ hy hx with ⟨h1, h2⟩ | ⟨h1, h2⟩ | ⟨h1, h2⟩
    · exact .inl ⟨clamp_neg h1, by omega⟩
    · exact .inr (.inl ⟨by rw [h1]; exact clamp_zero, Prod.ext rfl h2.symm⟩)
    · exact .inr (.inr ⟨clamp_pos h1, by omega⟩)

theorem fine_of {l : List UInt8} (h : (mayP l).2 = 0) : Fine (mayP l).1 := by
  obtain ⟨h0, h1, h2, h3⟩ := mayP_ok h
  exact ⟨mayP_canon l, h0, h1, h3⟩

/-- The law's five points. -/
theorem order_law (a b c : List UInt8) (ha : (mayP a).2 = 0) (hb : (mayP b).2 = 0) (hc : (mayP c).2 = 0) :
    let x := compareV (mayP a).1 (mayP b).1
    let y := compareV (mayP b).1 (mayP c).1
    let z := compareV (mayP a).1 (mayP c).1
    compareV (mayP b).1 (mayP a).1 = -x ∧ compareV (mayP a).1 (mayP a).1 = 0 ∧ (0 < x ∨ 0 < y ∨ z ≤ 0) ∧ (x = 0 ↔ formP (mayP a).1 = formP (mayP b).1) ∧ -1 ≤ x ∧ x ≤ 1 := by
  have fa := fine_of ha; have fb := fine_of hb; have fc := fine_of hc
  have inj : formP (mayP a).1 = formP (mayP b).1 → (mayP a).1 = (mayP b).1 := by
    intro h
    obtain ⟨p0, p1, p2, p3⟩ := mayP_ok ha
    obtain ⟨q0, q1, q2, q3⟩ := mayP_ok hb
    have e1 := form_may (mayP a).1 (mayP_canon a) p0 p1 p2
    have e2 := form_may (mayP b).1 (mayP_canon b) q0 q1 q2
    rw [h, e2] at e1
    exact (congrArg Prod.fst e1).symm
  generalize (mayP a).1 = u at *
  generalize (mayP b).1 = v at *
  generalize (mayP c).1 = w at *
  have h1 := compare_sgd u v fa fb
  have h2 := compare_sgd v u fb fa
  have h3 := compare_sgd u u fa fa
  have h4 := compare_sgd v w fb fc
  have h5 := compare_sgd u w fa fc
  simp only []
  refine ⟨?_, ?_, ?_, ?_, ?_, ?_⟩
  · rcases h1 with ⟨e, h⟩ | ⟨e, h⟩ | ⟨e, h⟩ <;> rcases h2 with ⟨e', h'⟩ | ⟨e', h'⟩ | ⟨e', h'⟩ <;> first | omega | (rw [h] at h'; omega) | (rw [h'] at h; omega) | (subst h; omega)
  · rcases h3 with ⟨e, h⟩ | ⟨e, h⟩ | ⟨e, h⟩
    · omega
    · exact e
    · omega
  · rcases h1 with ⟨e, h⟩ | ⟨e, h⟩ | ⟨e, h⟩
    · rcases h4 with ⟨e', h'⟩ | ⟨e', h'⟩ | ⟨e', h'⟩
      · rcases h5 with ⟨e'', h''⟩ | ⟨e'', h''⟩ | ⟨e'', h''⟩ <;> omega
      · subst h'; omega
      · omega
    · subst h
      rcases h4 with ⟨e', h'⟩ | ⟨e', h'⟩ | ⟨e', h'⟩ <;> omega
    · omega
  · constructor
    · intro hx
      rcases h1 with ⟨e, h⟩ | ⟨e, h⟩ | ⟨e, h⟩
      · omega
      · rw [h]
      · omega
    · intro hf
      have := inj hf
      subst this
      rcases h1 with ⟨e, h⟩ | ⟨e, h⟩ | ⟨e, h⟩
      · omega
      · exact e
      · omega
  · rcases h1 with ⟨e, h⟩ | ⟨e, h⟩ | ⟨e, h⟩ <;> omega
  · rcases h1 with ⟨e, h⟩ | ⟨e, h⟩ | ⟨e, h⟩ <;> omega
end Go.Proofs.YtbokhmmhidgabaaGreatDoor.Num2
