/- Plain Lean: two sizes compared place by place. -/
import Derived.Test.YtbokhmmhidgabaaGreatDoorNumO
namespace Go.Proofs.YtbokhmmhidgabaaGreatDoor.Num2
open Go.RowKit
set_option linter.unusedSimpArgs false
set_option linter.unusedVariables false

/-- The digit at the place j of a numeral that ends K places up. -/
def digAt (l : List UInt8) (K j : Nat) : Nat := if j < K then (match l[K - 1 - j]? with | some c => c.toNat - 48 | none => 0) else 0

theorem pad_dig : ∀ (l : List UInt8) (K j : Nat), digs l → l.length ≤ K → pad l K / 10 ^ j % 10 = digAt l K j
  | [], K, j, _, _ => by simp [pad, digAt]
  | c :: r, K, j, hd, hl => by
    have hc := hd c (by simp)
    simp [dig] at hc
    have hr : digs r := fun b hb => hd b (by simp [hb])
    rw [List.length_cons] at hl
    have hlt := pad_lt r (K - 1) hr (by omega)
    have hlt2 := pad_lt (c :: r) K hd (by simp; omega)
    rcases Nat.lt_trichotomy j (K - 1) with h | h | h
    · have ih := pad_dig r (K - 1) j hr (by omega)
      have e : pad (c :: r) K / 10 ^ j % 10 = pad r (K - 1) / 10 ^ j % 10 := by
        simp only [pad]
        have e1 : (10 : Nat) ^ (K - 1) = 10 ^ j * (10 * 10 ^ (K - 1 - j - 1)) := by
          rw [← Nat.pow_succ', ← Nat.pow_add]; congr 1; omega
        rw [e1, Nat.mul_left_comm, Nat.mul_add_div (Nat.pow_pos (by decide)), Nat.mul_left_comm, Nat.mul_add_mod]
      rw [e, ih]
      unfold digAt
      rw [if_pos (by omega), if_pos (by omega)]
      rw [show K - 1 - j = (K - 1 - 1 - j) + 1 by omega, List.getElem?_cons_succ]
    · subst h
      simp only [pad]
      rw [Nat.mul_comm, Nat.mul_add_div (Nat.pow_pos (by decide)), Nat.div_eq_of_lt hlt, Nat.add_zero]
      unfold digAt
      rw [if_pos (by omega), Nat.sub_self, List.getElem?_cons_zero]
      simp only []
      omega
    · have : pad (c :: r) K < 10 ^ j := Nat.lt_of_lt_of_le hlt2 (Nat.pow_le_pow_right (by decide) (by omega))
      rw [Nat.div_eq_of_lt this]
      unfold digAt
      rw [if_neg (by omega)]

/-- A value's digit at a power of ten. -/
def vAt (v : Val) (j : Nat) : Nat := digAt v.2.1 (v.2.1.length + v.2.2 + 1100).toNat j
theorem big_dig (v : Val) (h : Fine v) (j : Nat) : big v / 10 ^ j = 10 * (big v / 10 ^ (j + 1)) + vAt v j := by
  have e : big v / 10 ^ j % 10 = vAt v j := by
    unfold big vAt
    by_cases h0 : v.2.1 = []
    · rw [if_pos h0, h0]; simp [digAt]
    · rw [if_neg h0]
      have hc := h.canon.resolve_left (fun e => h0 (by rw [e]; rfl))
      have := h.lo; have := h.hi
      exact pad_dig _ _ _ hc.2.1 (by omega)
  rw [Nat.pow_succ, ← Nat.div_div_eq_div_mul, ← e]
  exact (Nat.div_add_mod _ _).symm
theorem big_lt (v : Val) (h : Fine v) (N : Nat) (hN : 2201 ≤ N) : big v / 10 ^ N = 0 := by
  apply Nat.div_eq_of_lt
  unfold big
  by_cases h0 : v.2.1 = []
  · rw [if_pos h0]; exact Nat.pow_pos (by decide)
  · rw [if_neg h0]
    have hc := h.canon.resolve_left (fun e => h0 (by rw [e]; rfl))
    have := h.lo; have := h.hi; have := h.len
    exact Nat.lt_of_lt_of_le (pad_lt _ _ hc.2.1 (by omega)) (Nat.pow_le_pow_right (by decide) (by omega))

theorem big_step {x y : Val} (hx : Fine x) (hy : Fine y) {j : Nat} (h : big x / 10 ^ (j + 1) = big y / 10 ^ (j + 1)) :
    (vAt x j < vAt y j → clamp (sizedP x y) = -1) ∧ (vAt y j < vAt x j → clamp (sizedP x y) = 1) ∧ (vAt x j = vAt y j → big x / 10 ^ j = big y / 10 ^ j) := by
  have h1 := big_dig x hx j
  have h2 := big_dig y hy j
  have hs := sized_big x y hx hy
  have key : ∀ {a b : Nat}, a / 10 ^ j < b / 10 ^ j → a < b := fun {a b} hab => by
    rcases Nat.lt_or_ge a b with h | h
    · exact h
    · have := Nat.div_le_div_right (c := 10 ^ j) h
      omega
  have ebig : x.2 = y.2 → big x = big y := fun e => by unfold big; rw [e]
  refine ⟨fun hl => ?_, fun hl => ?_, fun he => by omega⟩
  · have := key (a := big x) (b := big y) (by omega)
    rcases hs with ⟨a, _⟩ | ⟨a, b⟩ | ⟨a, b⟩
    · exact clamp_neg a
    · have := ebig b; omega
    · omega
  · have := key (a := big y) (b := big x) (by omega)
    rcases hs with ⟨a, b⟩ | ⟨a, b⟩ | ⟨a, b⟩
    · omega
    · have := ebig b; omega
    · exact clamp_pos a
theorem big_same {x y : Val} (hx : Fine x) (hy : Fine y) (h : big x / 10 ^ 0 = big y / 10 ^ 0) : clamp (sizedP x y) = 0 := by
  rw [Nat.pow_zero, Nat.div_one, Nat.div_one] at h
  rcases sized_big x y hx hy with ⟨_, a⟩ | ⟨a, b⟩ | ⟨_, a⟩
  · omega
  · rw [a]; exact clamp_zero
  · omega
theorem vAt_le (v : Val) (h : Fine v) (j : Nat) : vAt v j ≤ 9 := by
  have := big_dig v h j
  have e : vAt v j = big v / 10 ^ j % 10 := by
    rw [Nat.pow_succ, ← Nat.div_div_eq_div_mul] at this; omega
  omega
end Go.Proofs.YtbokhmmhidgabaaGreatDoor.Num2
