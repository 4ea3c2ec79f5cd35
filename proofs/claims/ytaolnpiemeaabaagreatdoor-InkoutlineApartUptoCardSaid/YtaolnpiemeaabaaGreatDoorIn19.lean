import Derived.Test.YtaolnpiemeaabaaGreatDoorIn4
import Derived.Deep.RegionHeld3
import Derived.Laws.EntriesVeiled
import Derived.Laws.IdiomStrings
/- Plain Lean: a node's text in the outline syntax; two trees told alike there are the same. -/
namespace Go.Proofs.YtaolnpiemeaabaaGreatDoor
open Ev5
set_option linter.unusedSimpArgs false
set_option linter.unusedVariables false

/-- Blanks. -/
def spL (d : Nat) : List UInt8 := List.replicate d 32
mutual
/-- A value behind its sign, its kids so many blanks further in. -/
def Nd.outV : Nd → Nat → List UInt8
  | .mk k t v ks, d => if ks.isEmpty then 32 :: (rowF k t v [] ++ [10]) else 10 :: Nd.outB ks d
/-- A kid's line, without the blanks ahead of it. -/
def Nd.outL : Nd → Nat → List UInt8
  | .mk k t v ks, d => if k = 8 then (wordP t).1.data.toList ++ 58 :: Nd.outH ks (d + 2)
    else 45 :: (if ks.isEmpty then 32 :: (rowF k t v [] ++ [10]) else 10 :: Nd.outB ks (d + 2))
/-- A block's lines. -/
def Nd.outB : List Nd → Nat → List UInt8
  | [], _ => []
  | n :: r, d => spL d ++ (n.outL d ++ Nd.outB r d)
def Nd.outH : List Nd → Nat → List UInt8
  | [], _ => []
  | n :: _, d => n.outV d
end
theorem outV_mk (k : Int) (t v : ByteArray) (ks : List Nd) (d : Nat) : (Nd.mk k t v ks).outV d = if ks.isEmpty then 32 :: (rowF k t v [] ++ [10]) else 10 :: Nd.outB ks d := by rw [Nd.outV]
theorem outL_mk (k : Int) (t v : ByteArray) (ks : List Nd) (d : Nat) : (Nd.mk k t v ks).outL d = if k = 8 then (wordP t).1.data.toList ++ 58 :: Nd.outH ks (d + 2) else 45 :: (Nd.mk k t v ks).outV (d + 2) := by rw [Nd.outL, outV_mk]
theorem outB_nil (d : Nat) : Nd.outB [] d = [] := by rw [Nd.outB]
theorem outB_cons (n : Nd) (r : List Nd) (d : Nat) : Nd.outB (n :: r) d = spL d ++ (n.outL d ++ Nd.outB r d) := by rw [Nd.outB]
theorem outH_cons (n : Nd) (r : List Nd) (d : Nat) : Nd.outH (n :: r) d = n.outV d := by rw [Nd.outH]
theorem outL_val {n : Nd} (h : n.k ≠ 8) (d : Nat) : n.outL d = 45 :: n.outV (d + 2) := by
  obtain ⟨k, t, v, ks⟩ := n
  rw [outL_mk, if_neg (show ¬ k = 8 from h)]
theorem outL_key (t v : ByteArray) (x : Nd) (d : Nat) : (Nd.mk 8 t v [x]).outL d = (wordP t).1.data.toList ++ 58 :: x.outV (d + 2) := by
  rw [outL_mk, if_pos rfl, outH_cons]
/-- A node's text in the outline syntax. -/
def Nd.outP (n : Nd) : List UInt8 := if n.kids.isEmpty then n.txt rowF ++ [10] else Nd.outB n.kids 0
theorem spL_add (a b : Nat) : spL (a + b) = spL a ++ spL b := by unfold spL; rw [List.replicate_append_replicate]
/-! Bytes up to what ends them. -/
theorem cutC (c : UInt8) : ∀ (l m r s : List UInt8), (∀ b ∈ l, b ≠ c) → (∀ b ∈ m, b ≠ c) → l ++ c :: r = m ++ c :: s → l = m ∧ r = s
  | [], [], r, s, _, _, h => by injection h with _ h; exact ⟨rfl, h⟩
  | [], d :: m, r, s, _, hm, h => by
    injection h with h _
    exact absurd h.symm (hm d (by simp))
  | a :: l, [], r, s, hl, _, h => by
    injection h with h _
    exact absurd h (hl a (by simp))
  | a :: l, d :: m, r, s, hl, hm, h => by
    injection h with h1 h2
    obtain ⟨e1, e2⟩ := cutC c l m r s (fun b hb => hl b (by simp [hb])) (fun b hb => hm b (by simp [hb])) h2
    exact ⟨by rw [h1, e1], e2⟩
theorem q_no10F : ∀ n : _root_.Fin 256, ∀ b ∈ qByte (UInt8.ofNat n.val), b ≠ 10 := by decide +kernel
theorem q_no10 (c : UInt8) : ∀ b ∈ qByte c, b ≠ 10 := by
  have h := q_no10F ⟨c.toNat, UInt8.toNat_lt c⟩
  rwa [show UInt8.ofNat (⟨c.toNat, UInt8.toNat_lt c⟩ : _root_.Fin 256).val = c from UInt8.ofNat_toNat] at h
theorem quote_no10 (l : List UInt8) : ∀ b ∈ quoteL l, b ≠ 10 := by
  intro b hb
  unfold quoteL at hb
  rcases List.mem_cons.1 hb with rfl | hb
  · decide
  rcases List.mem_append.1 hb with hb | hb
  · obtain ⟨c, _, hc⟩ := List.mem_flatMap.1 hb
    exact q_no10 c b hc
  · obtain rfl := List.mem_singleton.1 hb
    decide
theorem numB_no {b c : UInt8} (h : numB b) (hc : ¬ numB c) : b ≠ c := fun e => hc (e ▸ h)
theorem num10 : ¬ numB 10 := by unfold numB; decide
theorem num32 : ¬ numB 32 := by unfold numB; decide
theorem num58 : ¬ numB 58 := by unfold numB; decide
/-- What a tree without kids is. -/
theorem leaf_kinds {n : Nd} (h : Tb n) (hk : n.kids = []) : n.k = 1 ∨ n.k = 2 ∨ n.k = 3 ∨ n.k = 4 ∨ n.k = 5 ∨ n.k = 7 := by
  have h10 := h.k10; have h11 := h.k11
  obtain ⟨k, t, v, ks⟩ := n
  simp only [Nd.kids] at hk
  subst hk
  simp only [Nd.k] at h10 h11 ⊢
  cases h.tf with
  | mk _ _ _ _ hr ho hk ht =>
    rcases odd_kind ho with ⟨h1, _⟩ | ⟨_, h1⟩ | h1
    · omega
    · simp at h1
    · omega
theorem leaf_br {n : Nd} (h : Tb n) (hk : n.kids = []) : rowF n.k n.t n.v [] = n.txt brF := by
  have h8 := leaf_kinds h hk
  obtain ⟨k, t, v, ks⟩ := n
  simp only [Nd.kids] at hk
  subst hk
  simp only [Nd.k, Nd.t, Nd.v] at h8 ⊢
  rw [txt_mk, txts_nil]
  unfold rowF brF
  rw [Lib.join_nil, Lib.join_nil]
  rw [if_neg (show ¬ k = 8 by omega), if_neg (show ¬ k = 8 by omega)]
/-- Such a row's bytes. -/
theorem leaf_row {n : Nd} (h : Tb n) (hk : n.kids = []) : (∀ b ∈ rowF n.k n.t n.v [], b ≠ 10) ∧
    ((∀ b ∈ rowF n.k n.t n.v [], b ≠ 58 ∧ (b = 32 → (rowF n.k n.t n.v []).head? ≠ some 45)) ∧ (rowF n.k n.t n.v [] ≠ [45]) ∨ ∃ l, rowF n.k n.t n.v [] = quoteL l) := by
  have h8 := leaf_kinds h hk
  obtain ⟨k, t, v, ks⟩ := n
  simp only [Nd.kids] at hk
  subst hk
  simp only [Nd.k, Nd.t, Nd.v] at h8 ⊢
  cases h.tf with
  | mk _ _ _ _ hr ho hk ht =>
    unfold rowF
    rw [Lib.join_nil]
    rcases h8 with rfl | rfl | rfl | rfl | rfl | rfl
    · rw [if_pos rfl]
      exact ⟨by decide, .inl ⟨by decide, by decide⟩⟩
    · obtain ⟨_, h2⟩ := right_bool hr
      simp only [show ¬ ((2 : Int) = 1) by omega, show ¬ ((2 : Int) = 4) by omega, show ¬ ((2 : Int) = 5) by omega, show ¬ ((2 : Int) = 7) by omega, show ¬ ((2 : Int) = 8) by omega, if_false]
      rcases h2 with h2 | h2 <;> rw [h2] <;> exact ⟨by decide, .inl ⟨by decide, by decide⟩⟩
    · obtain ⟨_, h2⟩ := right_num hr
      simp only [show ¬ ((3 : Int) = 1) by omega, show ¬ ((3 : Int) = 4) by omega, show ¬ ((3 : Int) = 5) by omega, show ¬ ((3 : Int) = 7) by omega, show ¬ ((3 : Int) = 8) by omega, if_false]
      have h3 := num_cls _ 0 h2
      refine ⟨fun b hb => numB_no (h3 b hb) num10, .inl ⟨fun b hb => ⟨numB_no (h3 b hb) num58, fun e => absurd e (numB_no (h3 b hb) num32)⟩, fun e => ?_⟩⟩
      rw [e] at h2
      revert h2
      decide
    · rw [if_neg (by omega), if_pos rfl, (right_text hr (.inl rfl)).2]
      exact ⟨quote_no10 _, .inr ⟨_, rfl⟩⟩
    · rw [if_neg (by omega), if_neg (by omega), if_pos rfl]
      exact ⟨by decide, .inl ⟨by decide, by decide⟩⟩
    · rw [if_neg (by omega), if_neg (by omega), if_neg (by omega), if_pos rfl]
      exact ⟨by decide, .inl ⟨by decide, by decide⟩⟩
theorem leaf_inj {n m : Nd} (hn : Tb n) (hm : Tb m) (kn : n.kids = []) (km : m.kids = []) (h : rowF n.k n.t n.v [] = rowF m.k m.t m.v []) : n = m := by
  rw [leaf_br hn kn, leaf_br hm km] at h
  have h1 := leaf_kinds hn kn
  have h2 := leaf_kinds hm km
  exact (br_inj n hn m hm ⟨fun e => by omega, fun e => by omega⟩ [] [] (.inl rfl) (.inl rfl) (by rw [h])).1
/-! Words. -/
theorem okFrom_mem : ∀ (l : List UInt8) (i : Nat), okFrom i l = true → ∀ b ∈ l, letterB b = true ∨ moreB b = true
  | [], _, _ => fun b hb => by cases hb
  | x :: r, i, h => by
    intro b hb
    unfold okFrom at h
    rw [Bool.and_eq_true] at h
    rcases List.mem_cons.1 hb with rfl | hb
    · have h1 := h.1
      unfold okB at h1
      rw [Bool.or_eq_true] at h1
      rcases h1 with h1 | h1
      · exact .inl h1
      · rw [Bool.and_eq_true] at h1
        exact .inr h1.2
    · exact okFrom_mem r (i + 1) h.2 b hb
theorem plain_bytes {l : List UInt8} (h : plainW l = true) : (∃ x r, l = x :: r ∧ letterB x = true) ∧ ∀ b ∈ l, b ≠ 58 := by
  unfold plainW localP at h
  rw [Bool.and_eq_true, Bool.and_eq_true] at h
  obtain ⟨⟨h1, h2⟩, _⟩ := h
  have h1 := of_decide_eq_true h1
  refine ⟨?_, fun b hb => ?_⟩
  · match l, h1, h2 with
    | [], h1, _ => simp at h1
    | x :: r, _, h2 =>
      refine ⟨x, r, rfl, ?_⟩
      unfold okFrom at h2
      rw [Bool.and_eq_true] at h2
      have h3 := h2.1
      unfold okB at h3
      simpa using h3
  · rcases okFrom_mem l 0 h2 b hb with h3 | h3
    · rintro rfl; revert h3; decide
    · rintro rfl; revert h3; decide
theorem word_two {t : ByteArray} (h : qt t = quoteL t.data.toList) : (wordP t).1.data.toList = if plainW t.data.toList = true then t.data.toList else quoteL t.data.toList := by
  unfold wordP
  split
  · rfl
  · exact h
theorem word_inj {t u : ByteArray} {r s : List UInt8} (ht : qt t = quoteL t.data.toList) (hu : qt u = quoteL u.data.toList) (h : (wordP t).1.data.toList ++ 58 :: r = (wordP u).1.data.toList ++ 58 :: s) : t = u ∧ r = s := by
  rw [word_two ht, word_two hu] at h
  by_cases h1 : plainW t.data.toList = true
  · obtain ⟨⟨x, r1, e1, hx⟩, b1⟩ := plain_bytes h1
    rw [if_pos h1] at h
    by_cases h2 : plainW u.data.toList = true
    · rw [if_pos h2] at h
      obtain ⟨e, e2⟩ := cutC 58 _ _ _ _ b1 (plain_bytes h2).2 h
      exact ⟨ba_ext e, e2⟩
    · rw [if_neg h2, e1] at h
      injection h with h _
      subst h
      exact absurd hx (by decide)
  · rw [if_neg h1] at h
    by_cases h2 : plainW u.data.toList = true
    · obtain ⟨⟨x, r1, e1, hx⟩, b1⟩ := plain_bytes h2
      rw [if_pos h2, e1] at h
      injection h with h _
      subst h
      exact absurd hx (by decide)
    · rw [if_neg h2] at h
      obtain ⟨e, e2⟩ := quote_inj h
      injection e2 with _ e2
      exact ⟨ba_ext e, e2⟩
theorem word_head {t : ByteArray} (h : qt t = quoteL t.data.toList) : ∃ x r, (wordP t).1.data.toList = x :: r ∧ x ≠ 32 ∧ x ≠ 45 := by
  rw [word_two h]
  by_cases h1 : plainW t.data.toList = true
  · obtain ⟨⟨x, r1, e1, hx⟩, b1⟩ := plain_bytes h1
    rw [if_pos h1]
    refine ⟨x, r1, e1, ?_, ?_⟩ <;> (rintro rfl; revert hx; decide)
  · rw [if_neg h1]
    exact ⟨34, _, rfl, by decide, by decide⟩
/-! What follows a block. -/
def TermO (d : Nat) (r : List UInt8) : Prop := r = [] ∨ ∃ e c r', e < d ∧ r = spL e ++ c :: r' ∧ c ≠ 32
theorem TermO.mono {d e : Nat} {r : List UInt8} (h : TermO d r) (hd : d ≤ e) : TermO e r := by
  rcases h with h | ⟨f, c, r', hf, h⟩
  · exact .inl h
  · exact .inr ⟨f, c, r', by omega, h⟩
theorem termO_clash {d : Nat} {r X : List UInt8} {c : UInt8} (h : TermO d r) (he : r = spL d ++ c :: X) : False := by
  rcases h with rfl | ⟨e, b, r', hlt, h2, hb⟩
  · have := congrArg List.length he
    simp at this
  · rw [h2] at he
    obtain ⟨f, rfl⟩ : ∃ f, d = e + (f + 1) := ⟨d - e - 1, by omega⟩
    rw [spL_add, List.append_assoc] at he
    have h3 := List.append_cancel_left he
    unfold spL at h3
    rw [List.replicate_succ] at h3
    injection h3 with h3 _
    exact hb h3
theorem outL_head {n : Nd} (h : Tb n) (d : Nat) : ∃ x r, n.outL d = x :: r ∧ x ≠ 32 ∧ (x = 45 ↔ n.k ≠ 8) := by
  by_cases h8 : n.k = 8
  · obtain ⟨k, t, v, ks⟩ := n
    simp only [Nd.k] at h8
    subst h8
    cases h.tf with
    | mk _ _ _ _ hr ho hk ht =>
      obtain ⟨x, r, e, hx, hy⟩ := word_head (right_text hr (.inr rfl)).2
      rw [outL_mk, if_pos rfl, e]
      exact ⟨x, _, rfl, hx, ⟨fun e => absurd e hy, fun e => absurd rfl e⟩⟩
  · rw [outL_val h8]
    exact ⟨45, _, rfl, by decide, ⟨fun _ => h8, fun _ => rfl⟩⟩
theorem termO_B {d : Nat} {r : List UInt8} (h : TermO d r) (ks : List Nd) (hk : ∀ x ∈ ks, Tb x) : TermO (d + 2) (Nd.outB ks d ++ r) := by
  cases ks with
  | nil => rw [outB_nil]; exact h.mono (by omega)
  | cons y ks =>
    obtain ⟨x, l, e, hx, _⟩ := outL_head (hk y (by simp)) d
    rw [outB_cons, e]
    exact .inr ⟨d, x, l ++ (Nd.outB ks d ++ r), by omega, by simp, hx⟩
/-- What is shown of a line: it begins no other's. -/
def OutInj (n : Nd) : Prop := Tb n → ∀ m, Tb m → (n.k = 8 ↔ m.k = 8) → ∀ (d : Nat) (r s : List UInt8), TermO (d + 2) r → TermO (d + 2) s → n.outL d ++ r = m.outL d ++ s → n = m ∧ r = s
theorem outB_inj (d : Nat) : ∀ (ks : List Nd), (∀ x ∈ ks, OutInj x) → (∀ x ∈ ks, Tb x) → ∀ (ms : List Nd), (∀ x ∈ ms, Tb x) → (∀ x ∈ ks, ∀ y ∈ ms, (x.k = 8 ↔ y.k = 8)) → ∀ r s, TermO d r → TermO d s → Nd.outB ks d ++ r = Nd.outB ms d ++ s → ks = ms ∧ r = s
  | [], _, _, [], _, _, r, s, _, _, h => by
    rw [outB_nil] at h
    exact ⟨rfl, h⟩
  | [], _, _, y :: ms, hM, _, r, s, hr, _, h => by
    exfalso
    obtain ⟨x, l, e, _, _⟩ := outL_head (hM y (by simp)) d
    rw [outB_nil, outB_cons, e] at h
    exact termO_clash (c := x) (X := l ++ (Nd.outB ms d ++ s)) hr (by rw [List.nil_append] at h; rw [h]; simp)
  | y :: ks, _, hT, [], _, _, r, s, _, hs, h => by
    exfalso
    obtain ⟨x, l, e, _, _⟩ := outL_head (hT y (by simp)) d
    rw [outB_nil, outB_cons, e] at h
    exact termO_clash (c := x) (X := l ++ (Nd.outB ks d ++ r)) hs (by rw [List.nil_append] at h; rw [← h]; simp)
  | x :: ks, hC, hT, y :: ms, hM, hK, r, s, hr, hs, h => by
    rw [outB_cons, outB_cons] at h
    simp only [List.append_assoc] at h
    have h := List.append_cancel_left h
    obtain ⟨e1, e2⟩ := hC x (by simp) (hT x (by simp)) y (hM y (by simp)) (hK x (by simp) y (by simp)) d _ _ (termO_B hr ks fun z hz => hT z (by simp [hz])) (termO_B hs ms fun z hz => hM z (by simp [hz])) h
    obtain ⟨e3, e4⟩ := outB_inj d ks (fun z hz => hC z (by simp [hz])) (fun z hz => hT z (by simp [hz])) ms (fun z hz => hM z (by simp [hz])) (fun z hz u hu => hK z (by simp [hz]) u (by simp [hu])) r s hr hs e2
    exact ⟨by rw [e1, e3], e4⟩
/-- A list or a map. -/
theorem block_kinds {n : Nd} (h : Tb n) (h8 : n.k ≠ 8) (hk : n.kids ≠ []) : (n.k = 5 ∨ n.k = 7) ∧ n.t = emp ∧ n.v = emp := by
  have h10 := h.k10
  obtain ⟨k, t, v, ks⟩ := n
  simp only [Nd.k, Nd.t, Nd.v, Nd.kids] at *
  cases h.tf with
  | mk _ _ _ _ hr ho hk' ht =>
    rcases odd_kind ho with ⟨_, h1⟩ | ⟨h1, _⟩ | h1
    · exact absurd (List.eq_nil_of_length_eq_zero h1) hk
    · exact absurd h1 h8
    · have h2 : k = 5 ∨ k = 7 := by omega
      exact ⟨h2, right_plain hr (by omega)⟩
theorem block_kid {n x : Nd} (h : Tb n) (hx : x ∈ n.kids) : x.k = 8 ↔ n.k = 7 := by
  obtain ⟨k, t, v, ks⟩ := n
  cases h.tf with
  | mk _ _ _ _ hr ho hk ht => exact kin_key (hk x hx)
/-- Two blocks alike, so far in. -/
theorem blocks_inj {n m : Nd} (hn : Tb n) (hm : Tb m) (n8 : n.k ≠ 8) (m8 : m.k ≠ 8) (nk : n.kids ≠ []) (mk : m.kids ≠ []) (ih : ∀ x ∈ n.kids, OutInj x) (d : Nat) (r s : List UInt8) (hr : TermO d r) (hs : TermO d s)
    (h : Nd.outB n.kids d ++ r = Nd.outB m.kids d ++ s) : n = m ∧ r = s := by
  obtain ⟨k1, t1, v1⟩ := block_kinds hn n8 nk
  obtain ⟨k2, t2, v2⟩ := block_kinds hm m8 mk
  have hkk : n.k = m.k := by
    obtain ⟨x, l1, e1⟩ := List.exists_cons_of_ne_nil nk
    obtain ⟨y, l2, e2⟩ := List.exists_cons_of_ne_nil mk
    have hx : x ∈ n.kids := by rw [e1]; simp
    have hy : y ∈ m.kids := by rw [e2]; simp
    obtain ⟨c, l3, e3, _, c3⟩ := outL_head (hn.kid hx) d
    obtain ⟨c', l4, e4, _, c4⟩ := outL_head (hm.kid hy) d
    rw [e1, e2, outB_cons, outB_cons, e3, e4] at h
    simp only [List.append_assoc, List.cons_append] at h
    have h := List.append_cancel_left h
    injection h with h _
    have k3 := block_kid hn hx
    have k4 := block_kid hm hy
    rw [← h] at c4
    have : x.k = 8 ↔ y.k = 8 := by
      have := c3.symm.trans c4
      omega
    omega
  have hK : ∀ x ∈ n.kids, ∀ y ∈ m.kids, (x.k = 8 ↔ y.k = 8) := fun x hx y hy => by rw [block_kid hn hx, block_kid hm hy, hkk]
  obtain ⟨e1, e2⟩ := outB_inj d n.kids ih (fun x hx => hn.kid hx) m.kids (fun x hx => hm.kid hx) hK r s hr hs h
  refine ⟨?_, e2⟩
  obtain ⟨a1, a2, a3, a4⟩ := n
  obtain ⟨b1, b2, b3, b4⟩ := m
  simp only [Nd.k, Nd.t, Nd.v, Nd.kids] at *
  rw [hkk, t1, t2, v1, v2, e1]
theorem nilE : ([] : List Nd).isEmpty = true := rfl
theorem out_inj (n : Nd) : OutInj n := by
  refine Nd.ind (C := OutInj) ?_ n
  intro k t v ks ih hn m hm hkey d r s hr hs h
  by_cases h8 : k = 8
  · obtain ⟨k', t', v', ks'⟩ := m
    obtain rfl : k' = 8 := hkey.1 h8
    subst h8
    have nT : ∀ x ∈ ks, Tb x := fun x hx => hn.kid hx
    have mT : ∀ x ∈ ks', Tb x := fun x hx => hm.kid hx
    have hn := hn.tf; have hm := hm.tf
    cases hn with
    | mk _ _ _ _ nr no nk nt =>
      cases hm with
      | mk _ _ _ _ mr mo mk' mt =>
        have hl : ks.length = 1 := by
          rcases odd_kind no with ⟨e, _⟩ | ⟨_, e⟩ | e
          · omega
          · exact e
          · omega
        have hl' : ks'.length = 1 := by
          rcases odd_kind mo with ⟨e, _⟩ | ⟨_, e⟩ | e
          · omega
          · exact e
          · omega
        match ks, ks', hl, hl' with
        | [x], [y], _, _ =>
          obtain ⟨rfl, n2⟩ := right_text nr (.inr rfl)
          obtain ⟨rfl, m2⟩ := right_text mr (.inr rfl)
          rw [outL_key, outL_key] at h
          simp only [List.append_assoc, List.cons_append] at h
          obtain ⟨rfl, e2⟩ := word_inj n2 m2 h
          have x8 : x.k ≠ 8 := fun e => by have := (kin_key (nk x (by simp))).1 e; omega
          have y8 : y.k ≠ 8 := fun e => by have := (kin_key (mk' y (by simp))).1 e; omega
          obtain ⟨rfl, e4⟩ := ih x (by simp) (nT x (by simp)) y (mT y (by simp)) ⟨fun e => absurd e x8, fun e => absurd e y8⟩ d r s hr hs (by rw [outL_val x8, outL_val y8, List.cons_append, List.cons_append, e2])
          exact ⟨rfl, e4⟩
  · have m8 : m.k ≠ 8 := fun e => h8 (hkey.2 e)
    rw [outL_val (show (Nd.mk k t v ks).k ≠ 8 from h8), outL_val m8, List.cons_append, List.cons_append] at h
    injection h with _ h
    by_cases nk : ks = []
    · subst nk
      by_cases mk : m.kids = []
      · obtain ⟨k', t', v', ks'⟩ := m
        simp only [Nd.kids] at mk
        subst mk
        rw [outV_mk, outV_mk, if_pos nilE, if_pos nilE] at h
        simp only [List.append_assoc, List.cons_append, List.nil_append] at h
        injection h with _ h
        obtain ⟨e1, e2⟩ := cutC 10 _ _ _ _ (leaf_row hn rfl).1 (leaf_row hm rfl).1 h
        exact ⟨leaf_inj hn hm rfl rfl e1, e2⟩
      · obtain ⟨k', t', v', ks'⟩ := m
        simp only [Nd.kids] at mk
        rw [outV_mk, outV_mk, if_pos nilE, if_neg (show ¬ ks'.isEmpty = true by simpa using mk)] at h
        injection h with h _
        exact absurd h (by decide)
    · by_cases mk : m.kids = []
      · obtain ⟨k', t', v', ks'⟩ := m
        simp only [Nd.kids] at mk
        subst mk
        rw [outV_mk, outV_mk, if_pos nilE, if_neg (show ¬ ks.isEmpty = true by simpa using nk)] at h
        injection h with h _
        exact absurd h (by decide)
      · obtain ⟨k', t', v', ks'⟩ := m
        simp only [Nd.kids] at mk
        rw [outV_mk, outV_mk, if_neg (by simpa using nk), if_neg (by simpa using mk), List.cons_append, List.cons_append] at h
        injection h with _ h
        exact blocks_inj hn hm h8 m8 nk mk ih (d + 2) r s hr hs h
/-- A row alone is no block. -/
theorem leaf_block {n m : Nd} (hn : Tb n) (hm : Tb m) (m8 : m.k ≠ 8) (nk : n.kids = []) (mk : m.kids ≠ []) : rowF n.k n.t n.v [] ++ [10] ≠ Nd.outB m.kids 0 := by
  intro h
  obtain ⟨hr1, hr2⟩ := leaf_row hn nk
  obtain ⟨y, l, e⟩ := List.exists_cons_of_ne_nil mk
  have hy : y ∈ m.kids := by rw [e]; simp
  have hT := hm.kid hy
  rw [e, outB_cons, show spL 0 = [] from rfl, List.nil_append] at h
  generalize rowF n.k n.t n.v [] = R at *
  by_cases y8 : y.k = 8
  · obtain ⟨k', t', v', ks'⟩ := y
    simp only [Nd.k] at y8
    subst y8
    cases hT.tf with
    | mk _ _ _ _ hr ho hk ht =>
      have hq := (right_text hr (.inr rfl)).2
      rw [outL_mk, if_pos rfl] at h
      simp only [List.append_assoc, List.cons_append] at h
      have h58 : (58 : UInt8) ∈ R ++ [10] := by rw [h]; simp
      rcases hr2 with hr2 | ⟨q, rfl⟩
      · rcases List.mem_append.1 h58 with h1 | h1
        · exact (hr2.1 58 h1).1 rfl
        · simp at h1
      · rw [word_two hq] at h
        by_cases hp : plainW t'.data.toList = true
        · obtain ⟨⟨x, r1, e1, hx⟩, b1⟩ := plain_bytes hp
          rw [if_pos hp, e1] at h
          injection h with h _
          subst h
          exact absurd hx (by decide)
        · rw [if_neg hp] at h
          obtain ⟨_, e2⟩ := quote_inj h
          injection e2 with e2 _
          exact absurd e2 (by decide)
  · rw [outL_val y8] at h
    rcases hr2 with ⟨hr2, hr3⟩ | ⟨q, rfl⟩
    · match R, h, hr1, hr2, hr3 with
      | [], h, _, _, _ =>
        injection h with h _
        exact absurd h (by decide)
      | c :: R, h, hr1, hr2, hr3 =>
        injection h with hc h
        subst hc
        have hR : R ≠ [] := fun e => hr3 (by rw [e])
        obtain ⟨b, R', rfl⟩ := List.exists_cons_of_ne_nil hR
        obtain ⟨k', t', v', ks'⟩ := y
        rw [outV_mk] at h
        split at h
        · injection h with h _
          exact (hr2 b (by simp)).2 h rfl
        · injection h with h _
          exact hr1 b (by simp) h
    · injection h with h _
      exact absurd h (by decide)
theorem firstO_elems : ∀ (N : Nat) (n : Nd) (way : List Nd) (p : List Int), n.size ≤ N → firstP tpO way n p = none → n.elems = false := by
  intro N
  induction N with
  | zero => intro n way p hn; have := kids_size n; omega
  | succ N ih =>
    intro n way p hn h
    rw [elems_any]
    by_cases hk : tpO (way ++ [n]) = false
    · rw [firstP_no hk] at h
      cases h
    · have hk : tpO (way ++ [n]) = true := by simpa using hk
      have h10 : n.k ≠ 10 := fun e => by rw [tpO_last, if_pos e] at hk; cases hk
      rw [firstP_kids hk, kidsO_none_iff] at h
      rw [decide_eq_false h10, Bool.false_or, List.any_eq_false]
      intro x hx
      obtain ⟨i, hi, rfl⟩ := List.getElem_of_mem hx
      have h2 := h i hi
      rw [dif_pos hi] at h2
      rw [ih n.kids[i] (way ++ [n]) (p ++ [(i : Int)]) (by have := kid_size (n := n) hi; omega) h2]; simp
theorem tbO_of {n : Nd} (h : (ofP tpO n).2 = 0) : n.wh = 0 ∧ Tb n ∧ n.k ≠ 8 := by
  unfold ofP at h
  by_cases hw : n.wh = 0
  · rw [if_neg (by rw [hw]; simp)] at h
    cases hf : firstP tpO [] n [] with
    | some q => rw [hf] at h; cases h
    | none =>
      obtain ⟨h1, h2⟩ := tf_wh hw
      refine ⟨hw, ⟨h1, firstO_elems _ n [] [] (Nat.le_refl _) hf, ?_⟩, ?_⟩ <;> (unfold valK at h2; omega)
  · rw [if_pos hw] at h; exact absurd h hw
/-- Two trees that the outline syntax tells are printed alike just if they are the same. -/
theorem out_same {a b : Nd} (ha : (ofP tpO a).2 = 0) (hb : (ofP tpO b).2 = 0) : a.outP = b.outP ↔ a = b := by
  refine ⟨fun h => ?_, fun h => by rw [h]⟩
  obtain ⟨_, h1, h2⟩ := tbO_of ha
  obtain ⟨_, h3, h4⟩ := tbO_of hb
  unfold Nd.outP at h
  by_cases ka : a.kids = []
  · rw [if_pos (by rw [ka]; rfl), ← row_end ka] at h
    by_cases kb : b.kids = []
    · rw [if_pos (by rw [kb]; rfl), ← row_end kb] at h
      exact leaf_inj h1 h3 ka kb (List.append_cancel_right h)
    · rw [if_neg (by simpa using kb)] at h
      exact absurd h (leaf_block h1 h3 h4 ka kb)
  · rw [if_neg (by simpa using ka)] at h
    by_cases kb : b.kids = []
    · rw [if_pos (by rw [kb]; rfl), ← row_end kb] at h
      exact absurd h.symm (leaf_block h3 h1 h2 kb ka)
    · rw [if_neg (by simpa using kb)] at h
      exact (blocks_inj h1 h3 h2 h4 ka kb (fun x _ => out_inj x) 0 [] [] (.inl rfl) (.inl rfl) (by rw [h])).1
end Go.Proofs.YtaolnpiemeaabaaGreatDoor

/- Plain Lean: how long an outline's text may be; a leaf by itself has a walk. -/
namespace Go.Proofs.YtaolnpiemeaabaaGreatDoor
open Ev5
set_option linter.unusedSimpArgs false
set_option linter.unusedVariables false

theorem spL_len (d : Nat) : (spL d).length = d := List.length_replicate
theorem outB_app (a b : List Nd) (d : Nat) : Nd.outB (a ++ b) d = Nd.outB a d ++ Nd.outB b d := by
  induction a with
  | nil => rw [List.nil_append, outB_nil, List.nil_append]
  | cons x a ih => rw [List.cons_append, outB_cons, outB_cons, ih]; simp only [List.append_assoc]
theorem rowF_leaf_len {k : Int} {t v : ByteArray} (ht : t.size ≤ 1048576) (hv : v.size ≤ 1048576) : (rowF k t v []).length ≤ 1049998 := by
  have h := textF_row k t v [] ht hv
  simp only [lenS] at h
  omega
/-- How long a line, or a value, may be. -/
def LenO (n : Nd) : Prop := n.ok → ∀ d, d + 2 * n.size ≤ 200000 → (n.outL d).length + 200000 ≤ 1300000 * n.size ∧ (n.outV d).length + 200000 ≤ 1300000 * n.size
theorem outB_len (ks : List Nd) (d : Nat) (h : ∀ x ∈ ks, LenO x) (hok : Nd.oks ks) (hd : d + 2 * Nd.sizes ks ≤ 200000) : (Nd.outB ks d).length ≤ 1300000 * Nd.sizes ks := by
  induction ks with
  | nil => rw [outB_nil]; exact Nat.zero_le _
  | cons x r ih =>
    rw [sizes_cons] at hd ⊢
    have hok2 := (oks_iff _).1 hok
    have h1 := (h x (by simp) (hok2 x (by simp)) d (by omega)).1
    have h2 := ih (fun y hy => h y (by simp [hy])) ((oks_iff _).2 fun y hy => hok2 y (by simp [hy])) (by omega)
    rw [outB_cons, List.length_append, List.length_append, spL_len]
    omega
set_option maxRecDepth 1000000 in
theorem len_out (n : Nd) : LenO n := by
  refine Nd.ind (C := LenO) ?_ n
  intro k t v ks ih hok d hd
  rw [ok_mk] at hok
  rw [size_mk] at hd ⊢
  have hV : ∀ e, e ≤ d + 2 → ((Nd.mk k t v ks).outV e).length + 200001 ≤ 1300000 * (1 + Nd.sizes ks) := by
    intro e he
    rw [outV_mk]
    split
    · have h1 : (rowF k t v []).length ≤ 1049998 := rowF_leaf_len hok.1.t hok.1.v
      rw [List.length_cons, List.length_append, List.length_singleton]
      omega
    · have h1 := outB_len ks e ih hok.2 (by omega)
      rw [List.length_cons]
      omega
  refine ⟨?_, by have := hV d (by omega); omega⟩
  rw [outL_mk]
  split
  · have hw := word_len t hok.1.t
    cases ks with
    | nil =>
      rw [Nd.outH, List.length_append, List.length_singleton]
      omega
    | cons x r =>
      rw [outH_cons, List.length_append, List.length_cons]
      rw [sizes_cons] at hd ⊢
      have := (ih x (by simp) ((oks_iff _).1 hok.2 x (by simp)) (d + 2) (by omega)).2
      omega
  · have := hV (d + 2) (Nat.le_refl _)
    rw [List.length_cons]
    omega
theorem outB_all_len {ks : List Nd} (hok : Nd.oks ks) {d : Nat} (hd : d + 2 * Nd.sizes ks ≤ 200000) : (Nd.outB ks d).length ≤ 1300000 * Nd.sizes ks := outB_len ks d (fun x _ => len_out x) hok hd
theorem sizes_take (l : List Nd) (i : Nat) : Nd.sizes (l.take i) ≤ Nd.sizes l := by
  induction l generalizing i with
  | nil => rw [List.take_nil]; exact Nat.le_refl _
  | cons x r ih =>
    cases i with
    | zero => rw [List.take_zero, sizes_nil]; omega
    | succ i => rw [List.take_succ_cons, sizes_cons, sizes_cons]; have := ih i; omega
theorem outB_take_len {ks : List Nd} (hok : Nd.oks ks) {d : Nat} (hd : d + 2 * Nd.sizes ks ≤ 200000) (i : Nat) : (Nd.outB (ks.take i) d).length ≤ 1300000 * Nd.sizes ks := by
  have h1 := sizes_take ks i
  have h2 := outB_all_len (ks := ks.take i) ((oks_iff _).2 fun x hx => (oks_iff _).1 hok x (List.mem_of_mem_take hx)) (d := d) (by omega)
  omega
/-- A leaf by itself has a walk. -/
theorem leaf_wh {n : Nd} (h : Tb n) (hk : n.kids = []) : n.wh = 0 := by
  have h8 := leaf_kinds h hk
  obtain ⟨k, t, v, ks⟩ := n
  simp only [Nd.kids] at hk
  subst hk
  simp only [Nd.k] at h8
  cases h.tf with
  | mk _ _ _ _ hr ho hk ht =>
    unfold Nd.wh
    rcases h8 with rfl | rfl | rfl | rfl | rfl | rfl
    · rw [show (Nd.mk 1 t v []).walk = [⟨1, t, v⟩] by simp [Nd.walk, Nd.walks, oddK, leafK, endK, endEv, emp]]
      simp [wholeP, runP, stepP, hr, GoEv.ev, valueP, St.new, standsP, St.done] at hr ⊢
    · rw [show (Nd.mk 2 t v []).walk = [⟨2, t, v⟩] by simp [Nd.walk, Nd.walks, oddK, leafK, endK, endEv, emp]]
      simp [wholeP, runP, stepP, hr, GoEv.ev, valueP, St.new, standsP, St.done] at hr ⊢
    · rw [show (Nd.mk 3 t v []).walk = [⟨3, t, v⟩] by simp [Nd.walk, Nd.walks, oddK, leafK, endK, endEv, emp]]
      simp [wholeP, runP, stepP, hr, GoEv.ev, valueP, St.new, standsP, St.done] at hr ⊢
    · rw [show (Nd.mk 4 t v []).walk = [⟨4, t, v⟩] by simp [Nd.walk, Nd.walks, oddK, leafK, endK, endEv, emp]]
      simp [wholeP, runP, stepP, hr, GoEv.ev, valueP, St.new, standsP, St.done] at hr ⊢
    · obtain ⟨rfl, rfl⟩ := right_plain hr (by omega)
      decide +kernel
    · obtain ⟨rfl, rfl⟩ := right_plain hr (by omega)
      decide +kernel
theorem leaf_of {n : Nd} (h : Tb n) (hk : n.kids = []) : (ofP tpB n).2 = 0 := by
  rw [ofB_err, if_neg (by rw [leaf_wh h hk]; simp), if_neg (by rw [h.el]; simp)]
theorem Tb.key_kid {t v : ByteArray} {ks : List Nd} (h : Tb (.mk 8 t v ks)) : ∃ x, ks = [x] ∧ Tb x ∧ x.k ≠ 8 ∧ v = emp ∧ qt t = quoteL t.data.toList := by
  have hK : ∀ x ∈ ks, Tb x := fun x hx => h.kid hx
  cases h.tf with
  | mk _ _ _ _ hr ho hk ht =>
    have hl : ks.length = 1 := by
      rcases odd_kind ho with ⟨e, _⟩ | ⟨_, e⟩ | e
      · omega
      · exact e
      · omega
    match ks, hl with
    | [x], _ => exact ⟨x, rfl, hK x (by simp), fun e => by have := (kin_key (hk x (by simp))).1 e; omega, (right_text hr (.inr rfl)).1, (right_text hr (.inr rfl)).2⟩
end Go.Proofs.YtaolnpiemeaabaaGreatDoor

/- The walk of inkoutline.Print and what it calls. -/
namespace Go.Proofs.YtaolnpiemeaabaaGreatDoor
open Go.RowKit Ev5
set_option linter.unusedSimpArgs false
set_option linter.unusedVariables false

set_option maxRecDepth 100000 in
set_option maxHeartbeats 4000000 in
theorem outRow_any (n : Nd) (w : World) (S : Nat → Prop) (v : Value) (hE : EnvU w) (hv : NdV w S v n) (hok : n.ok) (hsz : n.size ≤ 50000) (h0 : (ofP tpB n).2 = 0) :
    Calls Tryz.prog 30 #[v] w fun e w' => e = .returned (strV (n.txt rowF)) ∧ Below w.heap.size w w' := by
  obtain ⟨u, rfl, hs⟩ := hv
  obtain ⟨ao, cap, rfl, hcap, hcm⟩ := hs.shape
  have HV := Lib.hid (NdV.mk hs.ltC); have HE := Lib.hid hE
  have HX := Lib.hid (heap_alloc_new w (.cells #[.int .i64 n.k, .string n.t, .string n.v, .slice ao n.kids.length cap] 24))
  have HB0 := Lib.hid (show Below w.heap.size w (w.alloc (.cells #[.int .i64 n.k, .string n.t, .string n.v, .slice ao n.kids.length cap] 24)) from (Below.refl _ _).alloc (Nat.le_refl _) _)
  obtain ⟨Y, hY⟩ : ∃ Y : ByteArray, strV (n.txt rowF) = .string Y := ⟨_, rfl⟩
  have HC := Lib.hid (fun (w' : World) (S : Nat → Prop) (v : Value) (h1 : EnvU w') (h2 : NdV w' S v n) => (carryRow_any n w' S v h1 h2 hok hsz).mono fun e w2 h => show e = .returned (.tuple #[.string Y, .int .i64 0]) ∧ Below w'.heap.size w' w2 from ⟨by rw [h.1, h0, if_pos rfl, hY], h.2⟩)
  rw [hY]
  clear hs hE hok hsz h0 hY
  unfold ndV
  go_enter Tryz.func30, Tryz.ntmps30
  go_wp2_with fail
  refine (HC.out _ _ _ (HE.out.below HB0.out) (HV.out.below HB0.out)).mono ?_
  rintro e w2 ⟨rfl, hb⟩
  have HB2 := Lib.hid (bthen HB0.out hb)
  clear hb
  go_wp2_with fail
  go_ret
  exact ⟨rfl, HB2.out⟩
theorem outV_leaf {x : Nd} (h : x.kids = []) (d : Nat) : x.outV d = 32 :: (x.txt rowF ++ [10]) := by
  obtain ⟨k, t, v, ks⟩ := x
  simp only [Nd.kids] at h
  subst h
  rw [outV_mk, if_pos nilE, txt_mk, txts_nil]
theorem outV_block {x : Nd} (h : x.kids ≠ []) (d : Nat) : x.outV d = 10 :: Nd.outB x.kids d := by
  obtain ⟨k, t, v, ks⟩ := x
  simp only [Nd.kids] at h
  rw [outV_mk, if_neg (by simpa using h)]; rfl
set_option maxRecDepth 100000 in
set_option maxHeartbeats 8000000 in
/-- block's closure: what stands behind a sign. -/
theorem behind_any (x : Nd) (d : Nat) (F : ByteArray) (W : World) (fb : Nat) (S : Nat → Prop) (v : Value) (hE : EnvU W) (hv : NdV W S v x) (hT : Tb x) (hok : x.ok) (hsz : x.size ≤ 50000) (hd : d + 2 + 2 * x.size ≤ 200000)
    (hF : F.data.toList = spL d) (hfb : W.heap[fb]? = some (.cells #[.string F] 9 (0, 0)))
    (hcall : x.kids ≠ [] → ∀ (W' : World) (G : ByteArray) (v' : Value), EnvU W' → NdV W' (fun b => b < W.heap.size) v' x → G.data.toList = spL (d + 2) → Calls Tryz.prog 29 #[v', .string G] W' fun e w' => e = .returned (strV (Nd.outB x.kids (d + 2))) ∧ Below W'.heap.size W' w') :
    Calls Tryz.prog 45 #[v, .pointer (some ⟨fb, 0, none⟩)] W fun e w' => e = .returned (strV (x.outV (d + 2))) ∧ Below W.heap.size W w' := by
  obtain ⟨u, rfl, hs⟩ := hv
  obtain ⟨ao, cap, rfl, hcap, hcm⟩ := hs.shape
  obtain ⟨c0, f0⟩ := blk_cell hfb 0 (by simp)
  have hlt := lt_blk hfb
  have hFs : F.size ≤ 200000 := by
    have h1 : F.data.toList.length = F.size := Array.length_toList
    rw [hF, spL_len] at h1
    omega
  have HV := Lib.hid (NdV.mk hs.ltC); have HE := Lib.hid hE; have HT := Lib.hid hT; have HOK := Lib.hid hok; have HSZ := Lib.hid hsz; have HC := Lib.hid hcall; have HF := Lib.hid hF
  have HX := Lib.hid (heap_alloc_new W (.cells #[.int .i64 x.k, .string x.t, .string x.v, .slice ao x.kids.length cap] 24))
  have HB0 := Lib.hid (show Below W.heap.size W (W.alloc (.cells #[.int .i64 x.k, .string x.t, .string x.v, .slice ao x.kids.length cap] 24)) from (Below.refl _ _).alloc (Nat.le_refl _) _)
  have HD := Lib.hid hd
  clear hs hE hT hok hsz hcall hF hd
  unfold ndV
  unfold maxLen at *
  by_cases hk : x.kids = []
  · have hlen : ¬ (0 : Int) < (x.kids.length : Int) := by rw [hk]; simp
    obtain ⟨Y, hY, hY2⟩ : ∃ Y : ByteArray, strV (x.txt rowF) = .string Y ∧ Y.data.toList = x.txt rowF := ⟨_, rfl, rfl⟩
    have hYs : Y.size ≤ 1050000 * 50000 := by
      have h1 := txt_len textF_row x HOK.out
      have h2 := HSZ.out
      have h3 : Y.data.toList.length = Y.size := Array.length_toList
      rw [← hY2] at h1
      omega
    have HK := Lib.hid hk; have HY := Lib.hid hY2
    have HR := Lib.hid (fun (w' : World) (S : Nat → Prop) (v : Value) (h1 : EnvU w') (h2 : NdV w' S v x) => (outRow_any x w' S v h1 h2 HOK.out HSZ.out (leaf_of HT.out hk)).mono fun e w2 h => show e = .returned (.string Y) ∧ Below w'.heap.size w' w2 from ⟨by rw [h.1, hY], h.2⟩)
    clear hk hY hY2
    go_enter Tryz.func45, Tryz.ntmps45
    go_wp2_with fail
    refine (HR.out _ _ _ (HE.out.below HB0.out) (HV.out.below HB0.out)).mono ?_
    rintro e w2 ⟨rfl, hb⟩
    have HB2 := Lib.hid (bthen HB0.out hb)
    clear hb
    go_wp2_with fail
    go_ret
    refine ⟨congrArg _ (strV_of ?_), HB2.out⟩
    rw [outV_leaf HK.out, ByteArray.data_append, ByteArray.data_append, Array.toList_append, Array.toList_append, HY.out]
    simp
  · have hlen : (0 : Int) < (x.kids.length : Int) := by have := List.length_pos_iff.2 hk; omega
    obtain ⟨Y, hY, hY2⟩ : ∃ Y : ByteArray, strV (Nd.outB x.kids (d + 2)) = .string Y ∧ Y.data.toList = Nd.outB x.kids (d + 2) := ⟨_, rfl, rfl⟩
    have hYs : Y.size ≤ 1300000 * 50000 := by
      have h0 := HOK.out
      have h2 := HSZ.out
      have h4 := HD.out
      have h3 : Y.data.toList.length = Y.size := Array.length_toList
      obtain ⟨k, t, vv, ks⟩ := x
      rw [ok_mk] at h0
      rw [size_mk] at h2 h4
      have h1 := outB_all_len h0.2 (d := d + 2) (by omega)
      have hY3 : Y.data.toList = Nd.outB ks (d + 2) := hY2
      rw [← hY3] at h1
      omega
    have HK := Lib.hid hk; have HY := Lib.hid hY2
    have HR := Lib.hid (fun (W' : World) (v' : Value) (h1 : EnvU W') (h2 : NdV W' (fun b => b < W.heap.size) v' x) => (HC.out hk W' (F ++ (⟨#[32, 32]⟩ : ByteArray)) v' h1 h2 (by
      rw [ByteArray.data_append, Array.toList_append, HF.out, spL_add]; rfl)).mono fun e w2 h => show e = .returned (.string Y) ∧ Below W'.heap.size W' w2 from ⟨by rw [h.1, hY], h.2⟩)
    clear hk hY hY2
    go_enter Tryz.func45, Tryz.ntmps45
    go_wp2_with fail
    refine (HR.out _ _ (HE.out.below HB0.out) (HV.out.below HB0.out)).mono ?_
    rintro e w2 ⟨rfl, hb⟩
    have HB2 := Lib.hid (bthen HB0.out hb)
    clear hb
    go_wp2_with fail
    go_ret
    refine ⟨congrArg _ (strV_of ?_), HB2.out⟩
    rw [outV_block HK.out, ByteArray.data_append, Array.toList_append, HY.out]
    simp
end Go.Proofs.YtaolnpiemeaabaaGreatDoor

/- hexaplaref19's text of a tree. -/
namespace Go.Proofs.YtaolnpiemeaabaaGreatDoor
open Go.RowKit Ev5
set_option linter.unusedSimpArgs false
set_option linter.unusedVariables false

theorem outL_keyL {t v : ByteArray} {x : Nd} (h : x.kids = []) (d : Nat) : (Nd.mk 8 t v [x]).outL d = (wordP t).1.data.toList ++ 58 :: 32 :: (x.txt rowF ++ [10]) := by
  obtain ⟨k, tx, vx, ks⟩ := x
  simp only [Nd.kids] at h
  subst h
  rw [outL_key, outV_mk, if_pos nilE, txt_mk, txts_nil]
theorem outL_keyB {t v : ByteArray} {x : Nd} (h : x.kids ≠ []) (d : Nat) : (Nd.mk 8 t v [x]).outL d = (wordP t).1.data.toList ++ 58 :: 10 :: Nd.outB x.kids (d + 2) := by
  obtain ⟨k, tx, vx, ks⟩ := x
  simp only [Nd.kids] at h
  rw [outL_key, outV_mk, if_neg (by simpa using h)]; rfl
theorem outL_itemL {x : Nd} (h8 : x.k ≠ 8) (h : x.kids = []) (d : Nat) : x.outL d = 45 :: 32 :: (x.txt rowF ++ [10]) := by
  rw [outL_val h8]
  obtain ⟨k, tx, vx, ks⟩ := x
  simp only [Nd.kids] at h
  subst h
  rw [outV_mk, if_pos nilE, txt_mk, txts_nil]
theorem outL_itemB {x : Nd} (h8 : x.k ≠ 8) (h : x.kids ≠ []) (d : Nat) : x.outL d = 45 :: 10 :: Nd.outB x.kids (d + 2) := by
  rw [outL_val h8]
  obtain ⟨k, tx, vx, ks⟩ := x
  simp only [Nd.kids] at h
  rw [outV_mk, if_neg (by simpa using h)]; rfl
theorem sp_step {O : ByteArray} {A : List UInt8} {k : Nat} (h : O.data.toList = A ++ spL k) : (O ++ (⟨#[32]⟩ : ByteArray)).data.toList = A ++ spL (k + 1) := by
  rw [ByteArray.data_append, Array.toList_append, h, spL_add, List.append_assoc]; rfl
theorem conv_new (w : World) : (convert 44 9 (.slice (some ⟨w.heap.size, 0, none⟩) 1 1)).run Tryz.prog (w.alloc (.cells #[.int .u8 10] 5)) = .ok (.string ⟨#[10]⟩) (w.alloc (.cells #[.int .u8 10] 5)) :=
  conv_own (B := w.heap.size) (l := [10]) ⟨rfl, .inr ⟨w.heap.size, 1, #[.int .u8 10], rfl, Nat.le_refl _, heap_alloc_new w _, Nat.le_refl _, by decide, rfl, rfl⟩⟩ (by simp)
theorem conv_cell (W : World) (g : Nat) (h : W.cell? ⟨g, 0, none⟩ = some (.int .u8 10)) : (convert 44 9 (.slice (some ⟨g, 0, none⟩) 1 1)).run Tryz.prog W = .ok (.string ⟨#[10]⟩) W :=
  run_convert_bytes_back W 44 9 5 ⟨g, 0, none⟩ 1 [10] Tryz.underlying44 Tryz.underlying5 Tryz.underlying9 fun j hj => by
    obtain rfl : j = 0 := by simp at hj; omega
    exact h
theorem ba_size (b : ByteArray) : b.data.toList.length = b.size := Array.length_toList
theorem block_k {n : Nd} (h : Tb n) (h8 : n.k ≠ 8) (hk : n.kids ≠ []) : n.k = 5 ∨ n.k = 7 := (block_kinds h h8 hk).1
set_option maxRecDepth 100000 in
set_option maxHeartbeats 16000000 in
theorem refLines_any : ∀ (N : Nat) (n : Nd) (d : Nat) (w : World) (S : Nat → Prop) (nv : Value), n.size ≤ N → Tb n → (n.k = 5 ∨ n.k = 7) → n.ok → n.size ≤ 50000 → d + 2 * n.size ≤ 200000 → NdV w S nv n →
    Calls Tryz.prog 32 #[nv, .int .i64 (d : Int)] w fun e w' => e = .returned (strV (Nd.outB n.kids d)) ∧ Below w.heap.size w w' := by
  intro N
  induction N with
  | zero => intro n d w S nv hN; have := kids_size n; omega
  | succ N ih =>
  intro n d w S nv hN hT hk57 hok hsz hd hv
  obtain ⟨k, t, v, ks⟩ := n
  simp only [Nd.k, Nd.kids] at hk57 ⊢
  have hKT : ∀ x ∈ ks, Tb x := fun x hx => hT.kid hx
  have hK8 : ∀ x ∈ ks, (x.k = 8 ↔ k = 7) := fun x hx => block_kid hT hx
  rw [ok_mk] at hok
  rw [size_mk] at hsz hd hN
  have hkl : ks.length ≤ 50000 := by have := sizes_len ks; omega
  obtain ⟨u, rfl, hs⟩ := hv
  simp only [ndV, Nd.k, Nd.t, Nd.v, Nd.kids] at hs ⊢
  obtain ⟨ao, cap, rfl, hcap, hcm⟩ := hs.shape
  have HLEN := Lib.hid (show ∀ i, (Nd.outB (ks.take i) d).length ≤ 1300000 * 50000 from fun i => by
    have h1 := outB_take_len hok.2 (d := d) (by omega) i
    have h2 : Nd.sizes ks ≤ 50000 := by omega
    omega)
  have HIH := Lib.hid ih; have HS := Lib.hid hs.ltC; have HOK := Lib.hid hok; have HSZ := Lib.hid hsz; have HD := Lib.hid hd; have HN := Lib.hid hN; have HKT := Lib.hid hKT; have HK8 := Lib.hid hK8; have H57 := Lib.hid hk57
  have HX := Lib.hid (two_first w (.cells #[.int .i64 k, .string t, .string v, .slice ao ks.length cap] 24) (.cells #[.int .u8 10] 5))
  have HB0 := Lib.hid (show Below w.heap.size w ((w.alloc (.cells #[.int .i64 k, .string t, .string v, .slice ao ks.length cap] 24)).alloc (.cells #[.int .u8 10] 5)) from ((Below.refl _ _).alloc (Nat.le_refl _) _).alloc (by simp) _)
  have hcv := conv_new (w.alloc (.cells #[.int .i64 k, .string t, .string v, .slice ao ks.length cap] 24))
  rw [show (w.alloc (.cells #[.int .i64 k, .string t, .string v, .slice ao ks.length cap] 24)).heap.size = w.heap.size + 1 by simp] at hcv
  have hd0 : (0 : Int) ≤ (d : Int) := Int.natCast_nonneg _
  have hd1 : d ≤ 200000 := by omega
  clear ih hs hok hsz hd hN hKT hK8 hk57 hT
  unfold maxLen at *
  go_enter Tryz.func32, Tryz.ntmps32
  go_wp2_with fail
  clear hcv
  go_loopw [6, 7] (fun v5 v6 wr => ∃ (i : Nat) (O : ByteArray), i ≤ ks.length ∧ v6 = .int .i64 i ∧ v5 = .string O ∧ Hid (O.data.toList = Nd.outB (ks.take i) d) ∧ Hid (wr.heap[w.heap.size]? = some (.cells #[.int .i64 k, .string t, .string v, .slice ao ks.length cap] 24 (0, 0))) ∧ Hid (Below w.heap.size w wr)) (fun _ v6 _ => ks.length - (intOf v6).toNat)
  case atStart => exact ⟨0, ⟨#[]⟩, Nat.zero_le _, rfl, rfl, by show _ = _; rw [List.take_zero, outB_nil], HX.out, HB0.out⟩
  case round =>
    obtain ⟨i, O, hi, rfl, rfl, HO, HXR, HBR⟩ := hrel
    have hOs : O.size ≤ 1300000 * 50000 := by
      have h1 := HLEN.out i
      rw [← HO.out, ba_size] at h1
      exact h1
    obtain ⟨x0, x1, x2, x3, _, _, _, _, hxl⟩ := nd_cells HXR.out
    by_cases hlt : i < ks.length
    · have hi0 : (0 : Int) ≤ (i : Int) := Int.natCast_nonneg _
      have hi1 : (i : Int) < (ks.length : Int) := by omega
      go_wp2_with fail
      go_loopw [6, 8] (fun v5 v7 wq => ∃ (j : Nat) (O2 : ByteArray), j ≤ d ∧ v7 = .int .i64 j ∧ v5 = .string O2 ∧ Hid (O2.data.toList = Nd.outB (ks.take i) d ++ spL j) ∧ wq = wr) (fun _ v7 _ => d - (intOf v7).toNat)
      case atStart => exact ⟨0, O, Nat.zero_le _, rfl, rfl, by show _ = _; rw [HO.out]; simp [spL], rfl⟩
      case round =>
        obtain ⟨j, O2, hj, rfl, rfl, HO2, rfl⟩ := hrel
        have hO2s : O2.size ≤ 1300000 * 50000 + 200000 := by
          have h1 := HLEN.out i
          have h2 := congrArg List.length HO2.out
          rw [ba_size, List.length_append, spL_len] at h2
          omega
        by_cases hjd : j < d
        · have hj0 : (0 : Int) ≤ (j : Int) := Int.natCast_nonneg _
          have hj1 : (j : Int) < (d : Int) := by omega
          go_wp2_with fail
          go_roundw
          case rel => exact ⟨j + 1, O2 ++ (⟨#[32]⟩ : ByteArray), by omega, by go_num, rfl, sp_step HO2.out, trivial⟩
          case measure => simp [intOf]; omega
        · obtain rfl : d = j := by omega
          have hj1 : ¬ ((d : Nat) : Int) < (d : Int) := by omega
          obtain ⟨kb, ko, kx, hko, hkw, k0, k1, k2, k3, hkx⟩ := HS.out.at_ i hlt
          obtain ⟨ay, cy, rfl, _, _⟩ := hkx.shape
          subst hko
          have hmem := List.getElem_mem hlt
          have hkok := (oks_iff ks).1 HOK.out.2 _ hmem
          have hksz := size_mem hmem
          have hkT := HKT.out _ hmem
          have hk8 := HK8.out _ hmem
          have htk : ks.take (i + 1) = ks.take i ++ [ks[i]] := by rw [List.take_add_one, List.getElem?_eq_getElem hlt]; rfl
          obtain ⟨y, hy⟩ : ∃ y, ks[i] = y := ⟨_, rfl⟩
          rw [hy] at k0 k1 k2 k3 hkx hkok hksz hkT hk8 htk
          have hbw := HBR.out
          have d0 : wr.cell? ⟨kb, ko + i * 4, none⟩ = some (.int .i64 y.k) := (hbw.cell (p := ⟨kb, ko + i * 4, none⟩) hkw).trans k0
          have d1 : wr.cell? ⟨kb, ko + i * 4 + 1, none⟩ = some (.string y.t) := (hbw.cell (p := ⟨kb, ko + i * 4 + 1, none⟩) hkw).trans k1
          have d2 : wr.cell? ⟨kb, ko + i * 4 + 2, none⟩ = some (.string y.v) := (hbw.cell (p := ⟨kb, ko + i * 4 + 2, none⟩) hkw).trans k2
          have d3 : wr.cell? ⟨kb, ko + i * 4 + 3, none⟩ = some (.slice ay y.kids.length cy) := (hbw.cell (p := ⟨kb, ko + i * 4 + 3, none⟩) hkw).trans k3
          have hkl2 : kb < wr.heap.size := Nat.lt_of_lt_of_le hkw hbw.size
          have HTK := Lib.hid (show Nd.outB (ks.take (i + 1)) d = Nd.outB (ks.take i) d ++ spL d ++ y.outL d by rw [htk, outB_app, outB_cons, outB_nil, List.append_nil, List.append_assoc])
          clear k0 k1 k2 k3 hy htk hmem hbw
          by_cases h7 : k = 7
          · subst h7
            obtain ⟨yk, yt, yv, yks⟩ := y
            obtain rfl : yk = 8 := hk8.2 rfl
            obtain ⟨x, rfl, hxT, hx8, rfl, _⟩ := hkT.key_kid
            simp only [Nd.k, Nd.t, Nd.v, Nd.kids] at d0 d1 d2 d3 hkx
            obtain ⟨xb, xo, xu, hxo, hxw, z0, z1, z2, z3, hxu⟩ := hkx.at_ 0 (by simp)
            obtain ⟨az, cz, rfl, _, _⟩ := hxu.shape
            subst hxo
            rw [Nat.zero_mul, Nat.add_zero] at z0 z1 z2 z3
            simp only [List.getElem_cons_zero] at z0 z1 z2 z3 hxu
            rw [ok_mk] at hkok
            have hxok : x.ok := (oks_iff _).1 hkok.2 x (by simp)
            have hxsz : x.size + 2 ≤ 1 + Nd.sizes ks := by rw [size_mk, sizes_cons, sizes_nil] at hksz; omega
            have hwl := word_len yt hkok.1.t
            have hyt := hkok.1.t
            have HXV := Lib.hid (show NdV w _ (ndV x (.slice az x.kids.length cz)) x from NdV.mk hxu.ltC)
            have HXE := Lib.hid (show ∀ W : World, Below w.heap.size w W → W.cell? ⟨xb, xo, none⟩ = some (.int .i64 x.k) ∧ W.cell? ⟨xb, xo + 1, none⟩ = some (.string x.t) ∧ W.cell? ⟨xb, xo + 2, none⟩ = some (.string x.v) ∧ W.cell? ⟨xb, xo + 3, none⟩ = some (.slice az x.kids.length cz) from fun W hb => ⟨(hb.cell (p := ⟨xb, xo, none⟩) hxw).trans z0, (hb.cell (p := ⟨xb, xo + 1, none⟩) hxw).trans z1, (hb.cell (p := ⟨xb, xo + 2, none⟩) hxw).trans z2, (hb.cell (p := ⟨xb, xo + 3, none⟩) hxw).trans z3⟩)
            have HVB := Lib.hid (heap_alloc_new wr (.cells #[.int .i64 8, .string yt, .string emp, .slice (some ⟨xb, xo, none⟩) 1 cy] 24))
            have HBA := Lib.hid (show Below wr.heap.size wr (wr.alloc (.cells #[.int .i64 8, .string yt, .string emp, .slice (some ⟨xb, xo, none⟩) 1 cy] 24)) from (Below.refl _ _).alloc (Nat.le_refl _) _)
            clear z0 z1 z2 z3 hxu hkx
            go_wp2_with fail
            refine (refWord_any yt _ hyt).mono ?_
            rintro e w3 ⟨rfl, hb⟩
            have HB3 := Lib.hid (show Below wr.heap.size wr w3 from bthen HBA.out hb)
            have HVB3 := Lib.hid ((hb.block wr.heap.size (by simp)).trans HVB.out)
            have HX3 := Lib.hid ((HB3.out.block _ hxl).trans HXR.out)
            obtain ⟨Y, hY⟩ : ∃ Y, (wordP yt).1 = Y := ⟨_, rfl⟩
            rw [hY] at hwl
            rw [hY]
            have hYs : Y.size ≤ 1048576 := hwl
            have HY := Lib.hid (congrArg (fun b : ByteArray => b.data.toList) hY)
            obtain ⟨w4, hw4⟩ : ∃ w4, ((((w3.setCell ⟨wr.heap.size, 0, none⟩ (.int .i64 x.k)).setCell ⟨wr.heap.size, 1, none⟩ (.string x.t)).setCell ⟨wr.heap.size, 2, none⟩ (.string x.v)).setCell ⟨wr.heap.size, 3, none⟩ (.slice az x.kids.length cz)) = w4 := ⟨_, rfl⟩
            obtain ⟨hf, hgr⟩ := fill4 (.int .i64 x.k) (.string x.t) (.string x.v) (.slice az x.kids.length cz) HVB3.out
            rw [hw4] at hf hgr
            have HBN := Lib.hid (bthen HBR.out HB3.out)
            have hwn := HBR.out.size
            have HB4 := Lib.hid (show Below w.heap.size w w4 from HBN.out.grown hgr HBN.out.size (fun g e => by injection e with e; omega))
            have HX4 := Lib.hid (show w4.heap[w.heap.size]? = some (.cells #[.int .i64 7, .string t, .string v, .slice (some ⟨kb, ko, none⟩) ks.length cap] 24 (0, 0)) from (hgr.block w.heap.size (lt_blk HX3.out) (fun e => by injection e with e; omega)).trans HX3.out)
            have HF := Lib.hid hf
            clear hb hf hgr hwl hY d0 d1 d2 d3 x0 x1 x2 x3 hxl
            obtain ⟨z0, z1, z2, z3⟩ := HXE.out w3 HBN.out
            obtain ⟨v0, v1, v2, v3, g0, g1, g2, g3, hvl⟩ := nd_cells HVB3.out
            have hxl3 : xb < w3.heap.size := Nat.lt_of_lt_of_le hxw HBN.out.size
            obtain ⟨y0, y1, y2, y3, f0, f1, f2, f3, hyl⟩ := nd_cells HF.out
            have HOW := Lib.hid (show (O2 ++ Y ++ (⟨#[58]⟩ : ByteArray)).data.toList = Nd.outB (ks.take i) d ++ spL d ++ ((wordP yt).1.data.toList ++ [58]) by
              rw [ByteArray.data_append, ByteArray.data_append, Array.toList_append, Array.toList_append, HO2.out, ← HY.out]; simp only [List.append_assoc])
            have hs1 : (O2 ++ Y).size ≤ 1300000 * 50000 + 200000 + 1048576 := by rw [ByteArray.size_append]; omega
            have hs2 : (O2 ++ Y ++ (⟨#[58]⟩ : ByteArray)).size ≤ 1300000 * 50000 + 200000 + 1048577 := by
              rw [ByteArray.size_append]
              have : (⟨#[58]⟩ : ByteArray).size = 1 := rfl
              omega
            obtain ⟨P, hP⟩ : ∃ P, O2 ++ Y ++ (⟨#[58]⟩ : ByteArray) = P := ⟨_, rfl⟩
            rw [hP] at HOW hs2
            by_cases hk0 : x.kids = []
            · have hl0 : ((x.kids.length : Int) == 0) = true := by rw [hk0]; rfl
              have HL := Lib.hid (outL_keyL (t := yt) (v := emp) (x := x) hk0 d)
              obtain ⟨R, hR1, hR2⟩ : ∃ R : ByteArray, strV (x.txt rowF) = .string R ∧ R.data.toList = x.txt rowF := ⟨_, rfl, rfl⟩
              have hRs : R.size ≤ 1050000 * 50000 := by
                have h1 := txt_len textF_row x hxok
                rw [← hR2, ba_size] at h1
                have := HSZ.out
                omega
              have HR := Lib.hid hR2
              have HROW := Lib.hid (fun (W : World) (S : Nat → Prop) (nv : Value) (h : NdV W S nv x) => (refRow15_any x hxok (by have := HSZ.out; omega) W S nv h).mono fun e w2 h => show e = .returned (.string R) ∧ Below W.heap.size W w2 from ⟨by rw [h.1, hR1], h.2⟩)
              clear hk0 hR1 hR2
              go_wp2_with fail
              refine (HROW.out _ _ _ (HXV.out.below HB4.out)).mono ?_
              rintro e w5 ⟨rfl, hb⟩
              have HB5 := Lib.hid (bthen HB4.out hb)
              have HX5 := Lib.hid ((hb.block _ (lt_blk HX4.out)).trans HX4.out)
              have HO5 := Lib.hid (show (P ++ (⟨#[32]⟩ : ByteArray) ++ R ++ (⟨#[10]⟩ : ByteArray)).data.toList = Nd.outB (ks.take (i + 1)) d by
                rw [HTK.out, HL.out, ByteArray.data_append, ByteArray.data_append, ByteArray.data_append, Array.toList_append, Array.toList_append, Array.toList_append, HOW.out, HR.out]
                simp)
              clear hb
              go_wp2_with fail
              go_roundw
              case rel => exact ⟨i + 1, P ++ (⟨#[32]⟩ : ByteArray) ++ R ++ (⟨#[10]⟩ : ByteArray), by omega, by go_num, rfl, HO5.out, HX5.out, HB5.out⟩
              case measure => simp [intOf]; omega
            · have hl0 : ((x.kids.length : Int) == 0) = false := by have := List.length_pos_iff.2 hk0; simp; omega
              have HL := Lib.hid (outL_keyB (t := yt) (v := emp) (x := x) hk0 d)
              obtain ⟨R, hR1, hR2⟩ : ∃ R : ByteArray, strV (Nd.outB x.kids (d + 2)) = .string R ∧ R.data.toList = Nd.outB x.kids (d + 2) := ⟨_, rfl, rfl⟩
              have hRs : R.size ≤ 1300000 * 50000 := by
                have h0 := hxok
                have h2 := hxsz
                have h3 := HSZ.out
                have h4 := HD.out
                obtain ⟨xk, xt, xv, xs⟩ := x
                rw [ok_mk] at h0
                rw [size_mk] at h2
                have h1 := outB_all_len h0.2 (d := d + 2) (by omega)
                have hR3 : R.data.toList = Nd.outB xs (d + 2) := hR2
                rw [← hR3, ba_size] at h1
                omega
              have HR := Lib.hid hR2
              have HD2 := Lib.hid (show (d : Int) + 2 = ((d + 2 : Nat) : Int) by omega)
              have HROW := Lib.hid (fun (W : World) (S : Nat → Prop) (nv : Value) (h : NdV W S nv x) => (HIH.out x (d + 2) W S nv (by have := HN.out; omega) hxT (block_k hxT hx8 hk0) hxok (by have := HSZ.out; omega) (by have := HD.out; omega) h).mono fun e w2 h => show e = .returned (.string R) ∧ Below W.heap.size W w2 from ⟨by rw [h.1, hR1], h.2⟩)
              clear hk0 hR1 hR2
              go_wp2_with fail
              rw [HD2.out]
              refine (HROW.out _ _ _ (HXV.out.below HB4.out)).mono ?_
              rintro e w5 ⟨rfl, hb⟩
              have HB5 := Lib.hid (bthen HB4.out hb)
              have HX5 := Lib.hid ((hb.block _ (lt_blk HX4.out)).trans HX4.out)
              have HO5 := Lib.hid (show (P ++ (⟨#[10]⟩ : ByteArray) ++ R).data.toList = Nd.outB (ks.take (i + 1)) d by
                rw [HTK.out, HL.out, ByteArray.data_append, ByteArray.data_append, Array.toList_append, Array.toList_append, HOW.out, HR.out]
                simp)
              clear hb
              go_wp2_with fail
              go_roundw
              case rel => exact ⟨i + 1, P ++ (⟨#[10]⟩ : ByteArray) ++ R, by omega, by go_num, rfl, HO5.out, HX5.out, HB5.out⟩
              case measure => simp [intOf]; omega
          · obtain rfl : k = 5 := by have := H57.out; omega
            have hx8 : y.k ≠ 8 := fun e => by have := hk8.1 e; omega
            have hxsz : y.size + 1 ≤ 1 + Nd.sizes ks := by omega
            have HXV := Lib.hid (show NdV w _ (ndV y (.slice ay y.kids.length cy)) y from NdV.mk hkx.ltC)
            obtain ⟨x, hyx⟩ : ∃ x, y = x := ⟨_, rfl⟩
            subst hyx
            have hxT := hkT; have hxok := hkok
            obtain ⟨w4, hw4⟩ : ∃ w4, wr.alloc (.cells #[.int .i64 y.k, .string y.t, .string y.v, .slice ay y.kids.length cy] 24) = w4 := ⟨_, rfl⟩
            have HB4 := Lib.hid (show Below w.heap.size w w4 from by rw [← hw4]; exact HBR.out.alloc HBR.out.size _)
            have HX4 := Lib.hid (show w4.heap[w.heap.size]? = some (.cells #[.int .i64 5, .string t, .string v, .slice (some ⟨kb, ko, none⟩) ks.length cap] 24 (0, 0)) from by
              rw [← hw4, Below.heap_alloc wr _ w.heap.size hxl]; exact HXR.out)
            have HF := Lib.hid (show w4.heap[wr.heap.size]? = some (.cells #[.int .i64 y.k, .string y.t, .string y.v, .slice ay y.kids.length cy] 24 (0, 0)) from by rw [← hw4]; exact heap_alloc_new wr _)
            obtain ⟨y0, y1, y2, y3, f0, f1, f2, f3, hyl⟩ := nd_cells HF.out
            obtain ⟨u0, u1, u2, u3, _, _, _, _, hul⟩ := nd_cells HX4.out
            have HOW := Lib.hid (show (O2 ++ (⟨#[45]⟩ : ByteArray)).data.toList = Nd.outB (ks.take i) d ++ spL d ++ [45] by
              rw [ByteArray.data_append, Array.toList_append, HO2.out])
            have hs2 : (O2 ++ (⟨#[45]⟩ : ByteArray)).size ≤ 1300000 * 50000 + 200000 + 1048577 := by
              rw [ByteArray.size_append]
              have : (⟨#[45]⟩ : ByteArray).size = 1 := rfl
              omega
            obtain ⟨P, hP⟩ : ∃ P, O2 ++ (⟨#[45]⟩ : ByteArray) = P := ⟨_, rfl⟩
            rw [hP] at HOW hs2
            by_cases hk0 : y.kids = []
            · have hl0 : ((y.kids.length : Int) == 0) = true := by rw [hk0]; rfl
              have HL := Lib.hid (outL_itemL hx8 hk0 d)
              obtain ⟨R, hR1, hR2⟩ : ∃ R : ByteArray, strV (y.txt rowF) = .string R ∧ R.data.toList = y.txt rowF := ⟨_, rfl, rfl⟩
              have hRs : R.size ≤ 1050000 * 50000 := by
                have h1 := txt_len textF_row y hxok
                rw [← hR2, ba_size] at h1
                have := HSZ.out
                omega
              have HR := Lib.hid hR2
              have HROW := Lib.hid (fun (W : World) (S : Nat → Prop) (nv : Value) (h : NdV W S nv y) => (refRow15_any y hxok (by have := HSZ.out; omega) W S nv h).mono fun e w2 h => show e = .returned (.string R) ∧ Below W.heap.size W w2 from ⟨by rw [h.1, hR1], h.2⟩)
              clear hk0 hR1 hR2
              go_wp2_with fail
              refine (HROW.out _ _ _ (HXV.out.below HB4.out)).mono ?_
              rintro e w5 ⟨rfl, hb⟩
              have HB5 := Lib.hid (bthen HB4.out hb)
              have HX5 := Lib.hid ((hb.block _ (lt_blk HX4.out)).trans HX4.out)
              have HO5 := Lib.hid (show (P ++ (⟨#[32]⟩ : ByteArray) ++ R ++ (⟨#[10]⟩ : ByteArray)).data.toList = Nd.outB (ks.take (i + 1)) d by
                rw [HTK.out, HL.out, ByteArray.data_append, ByteArray.data_append, ByteArray.data_append, Array.toList_append, Array.toList_append, Array.toList_append, HOW.out, HR.out]
                simp)
              clear hb
              go_wp2_with fail
              go_roundw
              case rel => exact ⟨i + 1, P ++ (⟨#[32]⟩ : ByteArray) ++ R ++ (⟨#[10]⟩ : ByteArray), by omega, by go_num, rfl, HO5.out, HX5.out, HB5.out⟩
              case measure => simp [intOf]; omega
            · have hl0 : ((y.kids.length : Int) == 0) = false := by have := List.length_pos_iff.2 hk0; simp; omega
              have HL := Lib.hid (outL_itemB hx8 hk0 d)
              obtain ⟨R, hR1, hR2⟩ : ∃ R : ByteArray, strV (Nd.outB y.kids (d + 2)) = .string R ∧ R.data.toList = Nd.outB y.kids (d + 2) := ⟨_, rfl, rfl⟩
              have hRs : R.size ≤ 1300000 * 50000 := by
                have h0 := hxok
                have h2 := hxsz
                have h3 := HSZ.out
                have h4 := HD.out
                obtain ⟨xk, xt, xv, xs⟩ := y
                rw [ok_mk] at h0
                rw [size_mk] at h2
                have h1 := outB_all_len h0.2 (d := d + 2) (by omega)
                have hR3 : R.data.toList = Nd.outB xs (d + 2) := hR2
                rw [← hR3, ba_size] at h1
                omega
              have HR := Lib.hid hR2
              have HD2 := Lib.hid (show (d : Int) + 2 = ((d + 2 : Nat) : Int) by omega)
              have HROW := Lib.hid (fun (W : World) (S : Nat → Prop) (nv : Value) (h : NdV W S nv y) => (HIH.out y (d + 2) W S nv (by have := HN.out; omega) hxT (block_k hxT hx8 hk0) hxok (by have := HSZ.out; omega) (by have := HD.out; omega) h).mono fun e w2 h => show e = .returned (.string R) ∧ Below W.heap.size W w2 from ⟨by rw [h.1, hR1], h.2⟩)
              clear hk0 hR1 hR2
              go_wp2_with fail
              rw [HD2.out]
              refine (HROW.out _ _ _ (HXV.out.below HB4.out)).mono ?_
              rintro e w5 ⟨rfl, hb⟩
              have HB5 := Lib.hid (bthen HB4.out hb)
              have HX5 := Lib.hid ((hb.block _ (lt_blk HX4.out)).trans HX4.out)
              have HO5 := Lib.hid (show (P ++ (⟨#[10]⟩ : ByteArray) ++ R).data.toList = Nd.outB (ks.take (i + 1)) d by
                rw [HTK.out, HL.out, ByteArray.data_append, ByteArray.data_append, Array.toList_append, Array.toList_append, HOW.out, HR.out]
                simp)
              clear hb
              go_wp2_with fail
              go_roundw
              case rel => exact ⟨i + 1, P ++ (⟨#[10]⟩ : ByteArray) ++ R, by omega, by go_num, rfl, HO5.out, HX5.out, HB5.out⟩
              case measure => simp [intOf]; omega
    · obtain rfl : i = ks.length := by omega
      have hi1 : ¬ ((ks.length : Nat) : Int) < (ks.length : Int) := by omega
      have HE := Lib.hid (show O.data.toList = Nd.outB ks d by have h := HO.out; rwa [List.take_length] at h)
      go_wp2_with fail
      go_ret
      exact ⟨congrArg _ (strV_of HE.out), HBR.out⟩
set_option maxRecDepth 100000 in
set_option maxHeartbeats 4000000 in
theorem refPrint19_any (n : Nd) (hok : n.ok) (hN : n.size ≤ 50000) (h0 : (ofP tpO n).2 = 0) (w : World) (S : Nat → Prop) (v : Value) (hv : NdV w S v n) :
    Calls Tryz.prog 19 #[v] w fun e w' => e = .returned (strV n.outP) ∧ Below w.heap.size w w' := by
  obtain ⟨_, hT, h8⟩ := tbO_of h0
  obtain ⟨u, rfl, hs⟩ := hv
  obtain ⟨ao, cap, rfl, hcap, hcm⟩ := hs.shape
  have HV := Lib.hid (NdV.mk hs.ltC)
  have HX := Lib.hid (heap_alloc_new w (.cells #[.int .i64 n.k, .string n.t, .string n.v, .slice ao n.kids.length cap] 24))
  have HB0 := Lib.hid (show Below w.heap.size w (w.alloc (.cells #[.int .i64 n.k, .string n.t, .string n.v, .slice ao n.kids.length cap] 24)) from (Below.refl _ _).alloc (Nat.le_refl _) _)
  have HT := Lib.hid hT; have H8 := Lib.hid h8; have HOK := Lib.hid hok; have HSZ := Lib.hid hN
  clear hs hok hN h0 hT h8
  obtain ⟨x0, x1, x2, x3, _, _, _, _, hxl⟩ := nd_cells HX.out
  unfold ndV
  by_cases hk : n.kids = []
  · have hl0 : ((n.kids.length : Int) == 0) = true := by rw [hk]; rfl
    have HP := Lib.hid (show n.outP = n.txt rowF ++ [10] by unfold Nd.outP; rw [if_pos (by rw [hk]; rfl)])
    obtain ⟨R, hR1, hR2⟩ : ∃ R : ByteArray, strV (n.txt rowF) = .string R ∧ R.data.toList = n.txt rowF := ⟨_, rfl, rfl⟩
    have hRs : R.size ≤ 1050000 * 50000 := by
      have h1 := txt_len textF_row n HOK.out
      rw [← hR2, ba_size] at h1
      have := HSZ.out
      omega
    have HR := Lib.hid hR2
    have HROW := Lib.hid (fun (W : World) (S : Nat → Prop) (nv : Value) (h : NdV W S nv n) => (refRow15_any n HOK.out HSZ.out W S nv h).mono fun e w2 h => show e = .returned (.string R) ∧ Below W.heap.size W w2 from ⟨by rw [h.1, hR1], h.2⟩)
    clear hk hR1 hR2
    obtain ⟨W0, hW0⟩ : ∃ W0, w.alloc (.cells #[.int .i64 n.k, .string n.t, .string n.v, .slice ao n.kids.length cap] 24) = W0 := ⟨_, rfl⟩
    have HBW := Lib.hid (show Below w.heap.size w W0 from hW0 ▸ HB0.out)
    have HXW := Lib.hid (show W0.heap[w.heap.size]? = some (.cells #[.int .i64 n.k, .string n.t, .string n.v, .slice ao n.kids.length cap] 24 (0, 0)) from hW0 ▸ HX.out)
    have hbA : Below W0.heap.size W0 (W0.alloc (.cells #[.int .u8 10] 5)).drew := ((Below.refl _ _).alloc (Nat.le_refl _) _).drew
    have hcA : (W0.alloc (.cells #[.int .u8 10] 5)).drew.cell? ⟨W0.heap.size, 0, none⟩ = some (.int .u8 10) := (blk_cell (heap_alloc_new W0 _) 0 (by simp)).1
    have hcv1 := conv_cell _ _ hcA
    have HVG := Lib.hid (show NdV w _ (.agg #[.int .i64 n.k, .string n.t, .string n.v, .slice ao n.kids.length cap]) n from HV.out)
    have hbr : Below W0.heap.size W0 W0.drew := (Below.refl _ _).drew
    have HDC := Lib.hid (show ∀ w' : World, Below W0.heap.size W0 w' → w'.cell? ⟨w.heap.size, 0, none⟩ = some (.int .i64 n.k) ∧ w'.cell? ⟨w.heap.size, 1, none⟩ = some (.string n.t) ∧ w'.cell? ⟨w.heap.size, 2, none⟩ = some (.string n.v) ∧ w'.cell? ⟨w.heap.size, 3, none⟩ = some (.slice ao n.kids.length cap) from fun w' hb => by
      obtain ⟨x0, x1, x2, x3, _⟩ := nd_cells ((hb.block _ (lt_blk HXW.out)).trans HXW.out)
      exact ⟨x0, x1, x2, x3⟩)
    have hl0w := lt_blk HXW.out
    go_enter Tryz.func19, Tryz.ntmps19
    clear x0 x1 x2 x3 hxl
    obtain ⟨x0, x1, x2, x3, _, _, _, _, hxl⟩ := nd_cells HXW.out
    go_wp2_with fail
    clear x0 x1 x2 x3
    obtain ⟨x0, x1, x2, x3⟩ := HDC.out _ hbr
    obtain ⟨y0, y1, y2, y3⟩ := HDC.out _ hbA
    have hz1 : ¬ (9223372036854775807 < R.size + 1) := by omega
    go_region_with ((first
      | (go_at_call 31
         first
           | with_reducible refine (HROW.out _ _ _ (HVG.out.below (bthen HBW.out hbr))).mono ?_
             rintro e wq ⟨rfl, hbn⟩
             have hcv2 := conv_new wq
             have hbo := hbr
             clear hbr
             have hbr := bthen hbo hbn
             clear hbo hbn
           | with_reducible refine (HROW.out _ _ _ (HVG.out.below (bthen HBW.out hbA))).mono ?_
             rintro e wq ⟨rfl, hbn⟩
             have hcv3 := conv_cell wq W0.heap.size ((hbn.cell (p := ⟨W0.heap.size, 0, none⟩) (by simp)).trans hcA)
             clear hbr
             have hbr := bthen hbA hbn
             clear hbn)))
    all_goals
      go_wp2_with fail
      go_ret
      refine ⟨congrArg _ (strV_of ?_), ?_⟩
      · rw [HP.out, ByteArray.data_append, Array.toList_append, HR.out]
      · first
          | exact bthen HBW.out hbr
          | exact (bthen HBW.out hbr).alloc (bthen HBW.out hbr).size _
  · have hl0 : ((n.kids.length : Int) == 0) = false := by have := List.length_pos_iff.2 hk; simp; omega
    have HP := Lib.hid (show n.outP = Nd.outB n.kids 0 by unfold Nd.outP; rw [if_neg (by simpa using hk)])
    obtain ⟨R, hR1⟩ : ∃ R : ByteArray, strV (Nd.outB n.kids 0) = .string R := ⟨_, rfl⟩
    have HROW := Lib.hid (fun (W : World) (S : Nat → Prop) (nv : Value) (h : NdV W S nv n) => (refLines_any n.size n 0 W S nv (Nat.le_refl _) HT.out (block_k HT.out H8.out hk) HOK.out HSZ.out (by have := HSZ.out; omega) h).mono fun e w2 h => show e = .returned (.string R) ∧ Below W.heap.size W w2 from ⟨by rw [h.1, hR1], h.2⟩)
    have HR := Lib.hid hR1
    clear hk hR1
    go_enter Tryz.func19, Tryz.ntmps19
    go_wp2_with fail
    refine (HROW.out _ _ _ (HV.out.below HB0.out)).mono ?_
    rintro e w2 ⟨rfl, hb⟩
    have HB2 := Lib.hid (bthen HB0.out hb)
    clear hb x0 x1 x2 x3 hxl
    go_wp2_with fail
    go_ret
    exact ⟨by rw [HP.out, HR.out]; rfl, HB2.out⟩
theorem refEq19 {n : Nd} (h : (ofP tpO n).2 = 0) : n.outP = n.outP := rfl
end Go.Proofs.YtaolnpiemeaabaaGreatDoor

/- The walk of inkoutline.block, inkoutline.Print. -/
namespace Go.Proofs.YtaolnpiemeaabaaGreatDoor
open Go.RowKit Ev5
set_option linter.unusedSimpArgs false
set_option linter.unusedVariables false

set_option maxRecDepth 100000 in
set_option maxHeartbeats 16000000 in
theorem block_any : ∀ (N : Nat) (n : Nd) (d : Nat) (w : World) (S : Nat → Prop) (nv : Value) (F : ByteArray), n.size ≤ N → Tb n → (n.k = 5 ∨ n.k = 7) → n.ok → n.size ≤ 50000 → d + 2 * n.size ≤ 200000 → EnvU w → NdV w S nv n → F.data.toList = spL d →
    Calls Tryz.prog 29 #[nv, .string F] w fun e w' => e = .returned (strV (Nd.outB n.kids d)) ∧ Below w.heap.size w w' := by
  intro N
  induction N with
  | zero => intro n d w S nv F hN; have := kids_size n; omega
  | succ N ih =>
  intro n d w S nv F hN hT hk57 hok hsz hd hE hv hF
  obtain ⟨k, t, v, ks⟩ := n
  simp only [Nd.k, Nd.kids] at hk57 ⊢
  have hKT : ∀ x ∈ ks, Tb x := fun x hx => hT.kid hx
  have hK8 : ∀ x ∈ ks, (x.k = 8 ↔ k = 7) := fun x hx => block_kid hT hx
  rw [ok_mk] at hok
  rw [size_mk] at hsz hd hN
  have hkl : ks.length ≤ 50000 := by have := sizes_len ks; omega
  have hFs : F.size ≤ 200000 := by
    have h1 := ba_size F
    rw [hF, spL_len] at h1
    omega
  obtain ⟨u, rfl, hs⟩ := hv
  simp only [ndV, Nd.k, Nd.t, Nd.v, Nd.kids] at hs ⊢
  obtain ⟨ao, cap, rfl, hcap, hcm⟩ := hs.shape
  have HLEN := Lib.hid (show ∀ i, (Nd.outB (ks.take i) d).length ≤ 1300000 * 50000 from fun i => by
    have h1 := outB_take_len hok.2 (d := d) (by omega) i
    have h2 : Nd.sizes ks ≤ 50000 := by omega
    omega)
  have hmf : ∀ (fn : Fn) (first cap : Array Value) (w : World), (Instr.makeFunc fn first cap).run Tryz.prog w = .ok (.func fn first cap) w := fun _ _ _ _ => rfl
  have HIH := Lib.hid ih; have HS := Lib.hid hs.ltC; have HOK := Lib.hid hok; have HSZ := Lib.hid hsz; have HD := Lib.hid hd; have HN := Lib.hid hN; have HKT := Lib.hid hKT; have HK8 := Lib.hid hK8; have H57 := Lib.hid hk57; have HE := Lib.hid hE; have HFD := Lib.hid hF
  have HX := Lib.hid (two_first w (.cells #[.int .i64 k, .string t, .string v, .slice ao ks.length cap] 24) (.cells #[.string F] 9))
  have HFX := Lib.hid (two_last w (.cells #[.int .i64 k, .string t, .string v, .slice ao ks.length cap] 24) (.cells #[.string F] 9))
  have HB0 := Lib.hid (show Below w.heap.size w ((w.alloc (.cells #[.int .i64 k, .string t, .string v, .slice ao ks.length cap] 24)).alloc (.cells #[.string F] 9)) from ((Below.refl _ _).alloc (Nat.le_refl _) _).alloc (by simp) _)
  have hd0 : (0 : Int) ≤ (d : Int) := Int.natCast_nonneg _
  have hd1 : d ≤ 200000 := by omega
  clear ih hs hok hsz hd hN hKT hK8 hk57 hT hE hF
  unfold maxLen at *
  go_enter Tryz.func29, Tryz.ntmps29
  go_wp2_with fail
  go_loopw [6, 17] (fun vs vi wr => ∃ (i : Nat) (O : ByteArray), i ≤ ks.length ∧ vi = .int .i64 i ∧ vs = .string O ∧ Hid (O.data.toList = Nd.outB (ks.take i) d) ∧ Hid (wr.heap[w.heap.size]? = some (.cells #[.int .i64 k, .string t, .string v, .slice ao ks.length cap] 24 (0, 0))) ∧ Hid (wr.heap[w.heap.size + 1]? = some (.cells #[.string F] 9 (0, 0))) ∧ Hid (Below w.heap.size w wr)) (fun _ vi _ => ks.length - (intOf vi).toNat)
  case atStart => exact ⟨0, ⟨#[]⟩, Nat.zero_le _, rfl, rfl, by show _ = _; rw [List.take_zero, outB_nil], HX.out, HFX.out, HB0.out⟩
  case round =>
    obtain ⟨i, O, hi, rfl, rfl, HO, HXR, HFR, HBR⟩ := hrel
    have hOs : O.size ≤ 1300000 * 50000 := by
      have h1 := HLEN.out i
      rw [← HO.out, ba_size] at h1
      exact h1
    obtain ⟨x0, x1, x2, x3, _, _, _, _, hxl⟩ := nd_cells HXR.out
    have hfl := lt_blk HFR.out
    by_cases hlt : i < ks.length
    · have hi0 : (0 : Int) ≤ (i : Int) := Int.natCast_nonneg _
      have hi1 : (i : Int) < (ks.length : Int) := by omega
      obtain ⟨kb, ko, kx, hko, hkw, k0, k1, k2, k3, hkx⟩ := HS.out.at_ i hlt
      obtain ⟨ay, cy, rfl, _, _⟩ := hkx.shape
      subst hko
      have hmem := List.getElem_mem hlt
      have hkok := (oks_iff ks).1 HOK.out.2 _ hmem
      have hksz := size_mem hmem
      have hkT := HKT.out _ hmem
      have hk8 := HK8.out _ hmem
      have htk : ks.take (i + 1) = ks.take i ++ [ks[i]] := by rw [List.take_add_one, List.getElem?_eq_getElem hlt]; rfl
      obtain ⟨y, hy⟩ : ∃ y, ks[i] = y := ⟨_, rfl⟩
      rw [hy] at k0 k1 k2 k3 hkx hkok hksz hkT hk8 htk
      have hbw := HBR.out
      have d0 : wr.cell? ⟨kb, ko + i * 4, none⟩ = some (.int .i64 y.k) := (hbw.cell (p := ⟨kb, ko + i * 4, none⟩) hkw).trans k0
      have d1 : wr.cell? ⟨kb, ko + i * 4 + 1, none⟩ = some (.string y.t) := (hbw.cell (p := ⟨kb, ko + i * 4 + 1, none⟩) hkw).trans k1
      have d2 : wr.cell? ⟨kb, ko + i * 4 + 2, none⟩ = some (.string y.v) := (hbw.cell (p := ⟨kb, ko + i * 4 + 2, none⟩) hkw).trans k2
      have d3 : wr.cell? ⟨kb, ko + i * 4 + 3, none⟩ = some (.slice ay y.kids.length cy) := (hbw.cell (p := ⟨kb, ko + i * 4 + 3, none⟩) hkw).trans k3
      have hkl2 : kb < wr.heap.size := Nat.lt_of_lt_of_le hkw hbw.size
      have HTK := Lib.hid (show Nd.outB (ks.take (i + 1)) d = Nd.outB (ks.take i) d ++ spL d ++ y.outL d by rw [htk, outB_app, outB_cons, outB_nil, List.append_nil, List.append_assoc])
      clear k0 k1 k2 k3 hy htk hmem hbw
      have hvk := heap_alloc_new wr (.cells #[.int .i64 y.k, .string y.t, .string y.v, .slice ay y.kids.length cy] 24)
      have hb1 : Below wr.heap.size wr (wr.alloc (.cells #[.int .i64 y.k, .string y.t, .string y.v, .slice ay y.kids.length cy] 24)) := (Below.refl _ _).alloc (Nat.le_refl _) _
      obtain ⟨W1, hW1⟩ : ∃ W1, wr.alloc (.cells #[.int .i64 y.k, .string y.t, .string y.v, .slice ay y.kids.length cy] 24) = W1 := ⟨_, rfl⟩
      rw [hW1] at hvk hb1
      have HW1 := Lib.hid hW1; have HVK := Lib.hid hvk; have HB1 := Lib.hid hb1
      clear hb1 hvk hW1
      go_wp2_with fail
      rw [HW1.out]
      clear x0 x1 x2 x3 d0 d1 d2 d3
      have hb2 : Below W1.heap.size W1 (W1.alloc (.cells #[.int .i64 0, .string ⟨#[]⟩, .string ⟨#[]⟩, .slice none 0 0] 24)).drew := ((Below.refl _ _).alloc (Nat.le_refl _) _).drew
      obtain ⟨x0, x1, x2, x3, _, _, _, _, hvl⟩ := nd_cells ((hb2.block _ (lt_blk HVK.out)).trans HVK.out)
      obtain ⟨y0, y1, y2, y3, _, _, _, _, _⟩ := nd_cells (show W1.drew.heap[wr.heap.size]? = _ from HVK.out)
      go_region
      obtain ⟨W2, hW2⟩ : ∃ W2, (W1.alloc (.cells #[.int .i64 y.k, .string y.t, .string y.v, .slice ay y.kids.length cy] 24)).drew = W2 := ⟨_, rfl⟩
      rw [hW2]
      have hvb : W2.heap[W1.heap.size]? = some (.cells #[.int .i64 y.k, .string y.t, .string y.v, .slice ay y.kids.length cy] 24 (0, 0)) := by rw [← hW2]; exact heap_alloc_new W1 _
      have hbn : Below W1.heap.size W1 W2 := by rw [← hW2]; exact ((Below.refl _ _).alloc (Nat.le_refl _) _).drew
      have hvk2 := (hbn.block wr.heap.size (lt_blk HVK.out)).trans HVK.out
      have HBA := Lib.hid (bthen HB1.out hbn)
      have HVL := Lib.hid (lt_blk HVK.out)
      have HVK2 := Lib.hid hvk2; have HVB := Lib.hid hvb
      have HX2 := Lib.hid ((HBA.out.block _ hxl).trans HXR.out)
      have HF2 := Lib.hid ((HBA.out.block _ hfl).trans HFR.out)
      clear x0 x1 x2 x3 hvl y0 y1 y2 y3 hb2 hvb hbn hvk2 hxl hfl
      obtain ⟨x0, x1, x2, x3, _, _, _, _, hvl⟩ := nd_cells HVK2.out
      by_cases h7 : k = 7
      · subst h7
        obtain ⟨yk, yt, yv, yks⟩ := y
        obtain rfl : yk = 8 := hk8.2 rfl
        obtain ⟨x, rfl, hxT, hx8, rfl, _⟩ := hkT.key_kid
        simp only [Nd.k, Nd.t, Nd.v, Nd.kids] at x0 x1 x2 x3 hkx
        have HVK2 := Lib.hid (show W2.heap[wr.heap.size]? = some (.cells #[.int .i64 8, .string yt, .string emp, .slice ay 1 cy] 24 (0, 0)) from HVK2.out)
        have HVB := Lib.hid (show W2.heap[W1.heap.size]? = some (.cells #[.int .i64 8, .string yt, .string emp, .slice ay 1 cy] 24 (0, 0)) from HVB.out)
        obtain ⟨xb, xo, xu, hxo, hxw, z0, z1, z2, z3, hxu⟩ := hkx.at_ 0 (by simp)
        obtain ⟨az, cz, rfl, _, _⟩ := hxu.shape
        subst hxo
        rw [Nat.zero_mul, Nat.add_zero] at z0 z1 z2 z3
        simp only [List.getElem_cons_zero] at z0 z1 z2 z3 hxu
        rw [ok_mk] at hkok
        have hxok : x.ok := (oks_iff _).1 hkok.2 x (by simp)
        have hxsz : x.size + 2 ≤ 1 + Nd.sizes ks := by rw [size_mk, sizes_cons, sizes_nil] at hksz; omega
        have hwl := word_len yt hkok.1.t
        have hyt := hkok.1.t
        have HXV := Lib.hid (show NdV w _ (.agg #[.int .i64 x.k, .string x.t, .string x.v, .slice az x.kids.length cz]) x from NdV.mk hxu.ltC)
        have HXE := Lib.hid (show ∀ W : World, Below w.heap.size w W → W.cell? ⟨xb, xo, none⟩ = some (.int .i64 x.k) ∧ W.cell? ⟨xb, xo + 1, none⟩ = some (.string x.t) ∧ W.cell? ⟨xb, xo + 2, none⟩ = some (.string x.v) ∧ W.cell? ⟨xb, xo + 3, none⟩ = some (.slice az x.kids.length cz) from fun W hb => ⟨(hb.cell (p := ⟨xb, xo, none⟩) hxw).trans z0, (hb.cell (p := ⟨xb, xo + 1, none⟩) hxw).trans z1, (hb.cell (p := ⟨xb, xo + 2, none⟩) hxw).trans z2, (hb.cell (p := ⟨xb, xo + 3, none⟩) hxw).trans z3⟩)
        clear z0 z1 z2 z3 hxu hkx
        go_wp2_with fail
        refine (word_any yt _ (HE.out.below (bthen HBR.out HBA.out)) hyt).mono ?_
        rintro e w3 ⟨rfl, hb⟩
        have HB3 := Lib.hid (show Below wr.heap.size wr w3 from bthen HBA.out hb)
        have HVK3 := Lib.hid ((hb.block _ (lt_blk HVK2.out)).trans HVK2.out)
        have HVB3 := Lib.hid ((hb.block _ (lt_blk HVB.out)).trans HVB.out)
        have HX3 := Lib.hid ((hb.block _ (lt_blk HX2.out)).trans HX2.out)
        have HF3 := Lib.hid ((hb.block _ (lt_blk HF2.out)).trans HF2.out)
        obtain ⟨Y, hY⟩ : ∃ Y, (wordP yt).1 = Y := ⟨_, rfl⟩
        obtain ⟨EY, hEY⟩ : ∃ EY, (wordP yt).2 = EY := ⟨_, rfl⟩
        rw [hY] at hwl
        rw [hY, hEY]
        have hYs : Y.size ≤ 1048576 := hwl
        have HY := Lib.hid (congrArg (fun b : ByteArray => b.data.toList) hY)
        have HBN := Lib.hid (show Below w.heap.size w w3 from bthen HBR.out HB3.out)
        obtain ⟨w4, hw4⟩ : ∃ w4, ((((w3.setCell ⟨W1.heap.size, 0, none⟩ (.int .i64 x.k)).setCell ⟨W1.heap.size, 1, none⟩ (.string x.t)).setCell ⟨W1.heap.size, 2, none⟩ (.string x.v)).setCell ⟨W1.heap.size, 3, none⟩ (.slice az x.kids.length cz)).drew = w4 := ⟨_, rfl⟩
        obtain ⟨hf, hgr⟩ := fill4 (w := w3) (.int .i64 x.k) (.string x.t) (.string x.v) (.slice az x.kids.length cz) HVB3.out
        have hb4 := (HBN.out.grown hgr HBN.out.size (fun g e => by injection e with e; have := HBR.out.size; have := HVL.out; omega)).drew
        rw [hw4] at hb4
        have hwn := HBR.out.size
        have hwn2 := HVL.out
        have HB4 := Lib.hid hb4
        have HX4 := Lib.hid (show w4.heap[w.heap.size]? = some (.cells #[.int .i64 7, .string t, .string v, .slice (some ⟨kb, ko, none⟩) ks.length cap] 24 (0, 0)) from by rw [← hw4]; exact (hgr.block w.heap.size (lt_blk HX3.out) (fun e => by injection e with e; omega)).trans HX3.out)
        have hf3 := lt_blk HFR.out
        have HF4 := Lib.hid (show w4.heap[w.heap.size + 1]? = some (.cells #[.string F] 9 (0, 0)) from by rw [← hw4]; exact (hgr.block (w.heap.size + 1) (lt_blk HF3.out) (fun e => by injection e with e; omega)).trans HF3.out)
        have HF := Lib.hid (show w4.heap[W1.heap.size]? = some (.cells #[.int .i64 x.k, .string x.t, .string x.v, .slice az x.kids.length cz] 24 (0, 0)) from by rw [← hw4]; exact hf)
        have HW4 := Lib.hid hw4
        have hz9 : ¬ (9223372036854775807 < Y.size + 1) := by omega
        clear hb hb4 hf hgr hwl hY hEY x0 x1 x2 x3 hvl hw4 hf3
        obtain ⟨z0, z1, z2, z3⟩ := HXE.out w3.drew HBN.out.drew
        obtain ⟨x0, x1, x2, x3, _, _, _, _, hul⟩ := nd_cells (show w3.drew.heap[wr.heap.size]? = _ from HVK3.out)
        obtain ⟨v0, v1, v2, v3, g0, g1, g2, g3, hvl⟩ := nd_cells HVB3.out
        obtain ⟨q0, q1, q2, q3, j0, j1, j2, j3, _⟩ := nd_cells (show w3.drew.heap[W1.heap.size]? = _ from HVB3.out)
        have hxl3 : xb < w3.heap.size := Nat.lt_of_lt_of_le hxw HBN.out.size
        obtain ⟨SG, hSG⟩ : ∃ SG, Y ++ (⟨#[58]⟩ : ByteArray) = SG := ⟨_, rfl⟩
        have hSs : SG.size ≤ 1048577 := by
          rw [← hSG, ByteArray.size_append]
          have : (⟨#[58]⟩ : ByteArray).size = 1 := rfl
          omega
        have HSG := Lib.hid (show (Nd.mk 8 yt emp [x]).outL d = SG.data.toList ++ x.outV (d + 2) by
          rw [outL_key, ← hSG, ByteArray.data_append, Array.toList_append, ← HY.out]; simp)
        have HSE := Lib.hid hSG
        clear hSG
        go_wp2_with fail
        go_region
        rw [HW4.out, HSE.out]
        clear x0 x1 x2 x3 z0 z1 z2 z3 v0 v1 v2 v3 g0 g1 g2 g3 q0 q1 q2 q3 j0 j1 j2 j3 hvl hul
        obtain ⟨R, hR1, hR2⟩ : ∃ R : ByteArray, strV (x.outV (d + 2)) = .string R ∧ R.data.toList = x.outV (d + 2) := ⟨_, rfl, rfl⟩
        have hRs : R.size ≤ 1300000 * 50000 := by
          have h1 := (len_out x hxok (d + 2) (by have := HD.out; omega)).2
          rw [← hR2, ba_size] at h1
          have := HSZ.out
          omega
        have HR := Lib.hid hR2
        have HBH := Lib.hid (fun (W : World) (S : Nat → Prop) (v : Value) (h1 : EnvU W) (h2 : NdV W S v x) (h3 : W.heap[w.heap.size + 1]? = some (.cells #[.string F] 9 (0, 0))) => (behind_any x d F W (w.heap.size + 1) S v h1 h2 hxT hxok (by have := HSZ.out; omega) (by have := HD.out; omega) HFD.out h3 (fun hk W' G v' g1 g2 g3 => HIH.out x (d + 2) W' _ v' G (by have := HN.out; omega) hxT (block_k hxT hx8 hk) hxok (by have := HSZ.out; omega) (by have := HD.out; omega) g1 g2 g3)).mono fun e w2 h => show e = .returned (.string R) ∧ Below W.heap.size W w2 from ⟨by rw [h.1, hR1], h.2⟩)
        have HO5 := Lib.hid (show (O ++ (F ++ SG ++ R)).data.toList = Nd.outB (ks.take (i + 1)) d by
          rw [HTK.out, HSG.out, ByteArray.data_append, ByteArray.data_append, ByteArray.data_append, Array.toList_append, Array.toList_append, Array.toList_append, HO.out, HFD.out, HR.out]
          simp)
        have hz1 : ¬ (9223372036854775807 < F.size + SG.size) := by omega
        have hz2 : ¬ (9223372036854775807 < F.size + SG.size + R.size) := by omega
        have hz3 : ¬ (9223372036854775807 < O.size + (F.size + SG.size + R.size)) := by omega
        have hbr : Below w4.heap.size w4 w4.drew := (Below.refl _ _).drew
        have HDC := Lib.hid (show ∀ w' : World, Below w4.heap.size w4 w' → w'.cell? ⟨w.heap.size + 1, 0, none⟩ = some (.string F) ∧ w'.cell? ⟨W1.heap.size, 0, none⟩ = some (.int .i64 x.k) ∧ w'.cell? ⟨W1.heap.size, 1, none⟩ = some (.string x.t) ∧ w'.cell? ⟨W1.heap.size, 2, none⟩ = some (.string x.v) ∧ w'.cell? ⟨W1.heap.size, 3, none⟩ = some (.slice az x.kids.length cz) from fun w' hb => by
          obtain ⟨x0, x1, x2, x3, _⟩ := nd_cells ((hb.block _ (lt_blk HF.out)).trans HF.out)
          exact ⟨(blk_cell ((hb.block _ (lt_blk HF4.out)).trans HF4.out) 0 (by simp)).1, x0, x1, x2, x3⟩)
        clear hR1 hR2
        go_wp2_with fail
        go_region_held3 (fun w' => w'.cell? ⟨w.heap.size + 1, 0, none⟩ = some (.string F) ∧ w'.cell? ⟨W1.heap.size, 0, none⟩ = some (.int .i64 x.k) ∧ w'.cell? ⟨W1.heap.size, 1, none⟩ = some (.string x.t) ∧ w'.cell? ⟨W1.heap.size, 2, none⟩ = some (.string x.v) ∧ w'.cell? ⟨W1.heap.size, 3, none⟩ = some (.slice az x.kids.length cz)) (first | exact HDC.out _ hbr | go_keep) ((first
          | (go_at_call 45
             with_reducible refine (HBH.out _ _ _ (HE.out.below (bthen HB4.out hbr)) (HXV.out.below (bthen HB4.out hbr)) ((hbr.block _ (lt_blk HF4.out)).trans HF4.out)).mono ?_
             rintro e wq ⟨rfl, hbn⟩
             have hbo := hbr
             clear hbr
             have hbr := bthen hbo hbn
             clear hbo hbn)))
        all_goals
          have HB5 := Lib.hid (bthen HB4.out hbr)
          have HX5 := Lib.hid ((hbr.block _ (lt_blk HX4.out)).trans HX4.out)
          have HF5 := Lib.hid ((hbr.block _ (lt_blk HF4.out)).trans HF4.out)
          clear hbr
          go_wp2_with fail
          go_roundw
          case rel => exact ⟨i + 1, O ++ (F ++ SG ++ R), by omega, by go_num, rfl, HO5.out, HX5.out, HF5.out, HB5.out⟩
          case measure => simp [intOf]; omega
      · obtain rfl : k = 5 := by have := H57.out; omega
        have hx8 : y.k ≠ 8 := fun e => by have := hk8.1 e; omega
        have hxsz : y.size + 1 ≤ 1 + Nd.sizes ks := by omega
        have HXV := Lib.hid (show NdV w _ (.agg #[.int .i64 y.k, .string y.t, .string y.v, .slice ay y.kids.length cy]) y from NdV.mk hkx.ltC)
        have hxT := hkT; have hxok := hkok
        have h8b : (y.k == 8) = false := by simp [hx8]
        have HB4 := Lib.hid (show Below w.heap.size w W2 from bthen HBR.out HBA.out)
        have HX4 := Lib.hid (show W2.heap[w.heap.size]? = some (.cells #[.int .i64 5, .string t, .string v, .slice (some ⟨kb, ko, none⟩) ks.length cap] 24 (0, 0)) from HX2.out)
        have HF4 := HF2
        have HF := HVB
        obtain ⟨SG, hSG⟩ : ∃ SG, (⟨#[45]⟩ : ByteArray) = SG := ⟨_, rfl⟩
        have hSs : SG.size ≤ 1048577 := by
          rw [← hSG]
          decide
        have HSG := Lib.hid (show y.outL d = SG.data.toList ++ y.outV (d + 2) by
          rw [outL_val hx8, ← hSG]; rfl)
        rw [hSG]
        obtain ⟨R, hR1, hR2⟩ : ∃ R : ByteArray, strV (y.outV (d + 2)) = .string R ∧ R.data.toList = y.outV (d + 2) := ⟨_, rfl, rfl⟩
        have hRs : R.size ≤ 1300000 * 50000 := by
          have h1 := (len_out y hxok (d + 2) (by have := HD.out; omega)).2
          rw [← hR2, ba_size] at h1
          have := HSZ.out
          omega
        have HR := Lib.hid hR2
        have HBH := Lib.hid (fun (W : World) (S : Nat → Prop) (v : Value) (h1 : EnvU W) (h2 : NdV W S v y) (h3 : W.heap[w.heap.size + 1]? = some (.cells #[.string F] 9 (0, 0))) => (behind_any y d F W (w.heap.size + 1) S v h1 h2 hxT hxok (by have := HSZ.out; omega) (by have := HD.out; omega) HFD.out h3 (fun hk W' G v' g1 g2 g3 => HIH.out y (d + 2) W' _ v' G (by have := HN.out; omega) hxT (block_k hxT hx8 hk) hxok (by have := HSZ.out; omega) (by have := HD.out; omega) g1 g2 g3)).mono fun e w2 h => show e = .returned (.string R) ∧ Below W.heap.size W w2 from ⟨by rw [h.1, hR1], h.2⟩)
        have HO5 := Lib.hid (show (O ++ (F ++ SG ++ R)).data.toList = Nd.outB (ks.take (i + 1)) d by
          rw [HTK.out, HSG.out, ByteArray.data_append, ByteArray.data_append, ByteArray.data_append, Array.toList_append, Array.toList_append, Array.toList_append, HO.out, HFD.out, HR.out]
          simp)
        have hz1 : ¬ (9223372036854775807 < F.size + SG.size) := by omega
        have hz2 : ¬ (9223372036854775807 < F.size + SG.size + R.size) := by omega
        have hz3 : ¬ (9223372036854775807 < O.size + (F.size + SG.size + R.size)) := by omega
        have hbr : Below W2.heap.size W2 W2.drew := (Below.refl _ _).drew
        have HDC := Lib.hid (show ∀ w' : World, Below W2.heap.size W2 w' → w'.cell? ⟨w.heap.size + 1, 0, none⟩ = some (.string F) ∧ w'.cell? ⟨W1.heap.size, 0, none⟩ = some (.int .i64 y.k) ∧ w'.cell? ⟨W1.heap.size, 1, none⟩ = some (.string y.t) ∧ w'.cell? ⟨W1.heap.size, 2, none⟩ = some (.string y.v) ∧ w'.cell? ⟨W1.heap.size, 3, none⟩ = some (.slice ay y.kids.length cy) from fun w' hb => by
          obtain ⟨x0, x1, x2, x3, _⟩ := nd_cells ((hb.block _ (lt_blk HF.out)).trans HF.out)
          exact ⟨(blk_cell ((hb.block _ (lt_blk HF4.out)).trans HF4.out) 0 (by simp)).1, x0, x1, x2, x3⟩)
        clear hR1 hR2
        go_wp2_with fail
        go_region_held3 (fun w' => w'.cell? ⟨w.heap.size + 1, 0, none⟩ = some (.string F) ∧ w'.cell? ⟨W1.heap.size, 0, none⟩ = some (.int .i64 y.k) ∧ w'.cell? ⟨W1.heap.size, 1, none⟩ = some (.string y.t) ∧ w'.cell? ⟨W1.heap.size, 2, none⟩ = some (.string y.v) ∧ w'.cell? ⟨W1.heap.size, 3, none⟩ = some (.slice ay y.kids.length cy)) (first | exact HDC.out _ hbr | go_keep) ((first
          | (go_at_call 45
             with_reducible refine (HBH.out _ _ _ (HE.out.below (bthen HB4.out hbr)) (HXV.out.below (bthen HB4.out hbr)) ((hbr.block _ (lt_blk HF4.out)).trans HF4.out)).mono ?_
             rintro e wq ⟨rfl, hbn⟩
             have hbo := hbr
             clear hbr
             have hbr := bthen hbo hbn
             clear hbo hbn)))
        all_goals
          have HB5 := Lib.hid (bthen HB4.out hbr)
          have HX5 := Lib.hid ((hbr.block _ (lt_blk HX4.out)).trans HX4.out)
          have HF5 := Lib.hid ((hbr.block _ (lt_blk HF4.out)).trans HF4.out)
          clear hbr
          go_wp2_with fail
          go_roundw
          case rel => exact ⟨i + 1, O ++ (F ++ SG ++ R), by omega, by go_num, rfl, HO5.out, HX5.out, HF5.out, HB5.out⟩
          case measure => simp [intOf]; omega
    · obtain rfl : i = ks.length := by omega
      have hi1 : ¬ ((ks.length : Nat) : Int) < (ks.length : Int) := by omega
      have HEQ := Lib.hid (show O.data.toList = Nd.outB ks d by have h := HO.out; rwa [List.take_length] at h)
      go_wp2_with fail
      go_ret
      exact ⟨congrArg _ (strV_of HEQ.out), HBR.out⟩

set_option maxRecDepth 100000 in
set_option maxHeartbeats 4000000 in
theorem inkoutlinePrint_any (n : Nd) (w : World) (S : Nat → Prop) (v : Value) (hE : EnvU w) (hv : NdV w S v n) (hok : n.ok) (hN : n.size ≤ 50000) :
    Calls Tryz.prog 18 #[v] w (InkPost (ofP tpO n) n.outP w) := by
  obtain ⟨u, rfl, hs⟩ := hv
  obtain ⟨ao, cap, rfl, hcap, hcm⟩ := hs.shape
  have HV := Lib.hid (NdV.mk hs.ltC); have HE := Lib.hid hE; have HOK := Lib.hid hok; have HSZ := Lib.hid hN
  have HX := Lib.hid (heap_alloc_new w (.cells #[.int .i64 n.k, .string n.t, .string n.v, .slice ao n.kids.length cap] 24))
  have HB0 := Lib.hid (show Below w.heap.size w (w.alloc (.cells #[.int .i64 n.k, .string n.t, .string n.v, .slice ao n.kids.length cap] 24)) from (Below.refl _ _).alloc (Nat.le_refl _) _)
  obtain ⟨E, hEq⟩ : ∃ E, (ofP tpO n).2 = E := ⟨_, rfl⟩
  obtain ⟨q, hq⟩ : ∃ q, plc (ofP tpO n) = q := ⟨_, rfl⟩
  have HQ := Lib.hid (fun (w' : World) (S : Nat → Prop) (v : Value) (h1 : EnvU w') (h2 : NdV w' S v n) => (carryOutline_any n w' S v h1 h2 hok hN).mono fun e w2 h => h.to hEq hq)
  have HP := Lib.hid (show ∀ e w', (Below w.heap.size w w' ∧ ∃ a c, e = .returned (.tuple #[strV (if E = 0 then n.outP else []), .slice a q.length c, .int .i64 E]) ∧ IntsIn w' (.slice a q.length c) q) → InkPost (ofP tpO n) n.outP w e w' from fun e w' h => by
    unfold InkPost; rw [hEq, hq]; exact h)
  have HTB := Lib.hid (fun h : E = 0 => tbO_of (hEq.trans h))
  have HQ0 := Lib.hid (fun h : E = 0 => show q = [] from hq ▸ (ofP_ok (hEq.trans h)).1)
  clear hs hE hok hN hEq hq
  unfold ndV
  unfold maxLen at *
  go_enter Tryz.func18, Tryz.ntmps18
  go_wp2_with fail
  refine (HQ.out _ _ _ (HE.out.below HB0.out) (HV.out.below HB0.out)).mono ?_
  rintro e w2 ⟨hb, a2, c2, rfl, hi⟩
  have HB2 := Lib.hid (bthen HB0.out hb)
  have HI := Lib.hid hi
  obtain ⟨x0, x1, x2, x3, _, _, _, _, hxl⟩ := nd_cells ((hb.block _ (lt_blk HX.out)).trans HX.out)
  clear hb hi
  by_cases hz : E = 0
  · subst hz
    obtain rfl := HQ0.out rfl
    obtain ⟨_, hT, h8⟩ := HTB.out rfl
    have HT := Lib.hid hT; have H8 := Lib.hid h8
    clear hT h8
    by_cases hk : n.kids = []
    · have hlen : ¬ (0 : Int) < (n.kids.length : Int) := by rw [hk]; simp
      have HPN := Lib.hid (show n.outP = n.txt rowF ++ [10] by unfold Nd.outP; rw [if_pos (by rw [hk]; rfl)])
      obtain ⟨Y, hY, hY2⟩ : ∃ Y : ByteArray, strV (n.txt rowF) = .string Y ∧ Y.data.toList = n.txt rowF := ⟨_, rfl, rfl⟩
      have hYs : Y.size ≤ 1050000 * 50000 := by
        have h1 := txt_len textF_row n HOK.out
        rw [← hY2, ba_size] at h1
        have := HSZ.out
        omega
      have HY := Lib.hid hY2
      have HR := Lib.hid (fun (w' : World) (S : Nat → Prop) (v : Value) (h1 : EnvU w') (h2 : NdV w' S v n) => (outRow_any n w' S v h1 h2 HOK.out HSZ.out (leaf_of HT.out hk)).mono fun e w2 h => show e = .returned (.string Y) ∧ Below w'.heap.size w' w2 from ⟨by rw [h.1, hY], h.2⟩)
      clear hk hY hY2
      go_wp2_with fail
      refine (HR.out _ _ _ (HE.out.below HB2.out) (HV.out.below HB2.out)).mono ?_
      rintro e w3 ⟨rfl, hb⟩
      have HB3 := Lib.hid (bthen HB2.out hb)
      clear hb x0 x1 x2 x3 hxl
      go_wp2_with fail
      refine bodyPost_ret (v := .tuple #[.string (Y ++ (⟨#[10]⟩ : ByteArray)), .slice none 0 0, .int .i64 0]) (by simp [results, Tryz.results18, go_sem]) rfl ?_
      refine HP.out _ _ ⟨HB3.out, none, 0, ?_, ints_nilC _⟩
      show Ending.returned (Value.tuple #[.string (Y ++ (⟨#[10]⟩ : ByteArray)), .slice none 0 0, .int .i64 0]) = Ending.returned (Value.tuple #[strV n.outP, .slice none 0 0, .int .i64 0])
      rw [strV_of (l := n.outP) (by rw [HPN.out, ByteArray.data_append, Array.toList_append, HY.out])]
    · have hlen : (0 : Int) < (n.kids.length : Int) := by have := List.length_pos_iff.2 hk; omega
      have HPN := Lib.hid (show n.outP = Nd.outB n.kids 0 by unfold Nd.outP; rw [if_neg (by simpa using hk)])
      obtain ⟨Y, hY⟩ : ∃ Y : ByteArray, strV (Nd.outB n.kids 0) = .string Y := ⟨_, rfl⟩
      have HY := Lib.hid hY
      have HR := Lib.hid (fun (w' : World) (S : Nat → Prop) (v : Value) (h1 : EnvU w') (h2 : NdV w' S v n) => (block_any n.size n 0 w' S v ⟨#[]⟩ (Nat.le_refl _) HT.out (block_k HT.out H8.out hk) HOK.out HSZ.out (by have := HSZ.out; omega) h1 h2 rfl).mono fun e w2 h => show e = .returned (.string Y) ∧ Below w'.heap.size w' w2 from ⟨by rw [h.1, hY], h.2⟩)
      clear hk hY
      go_wp2_with fail
      refine (HR.out _ _ _ (HE.out.below HB2.out) (HV.out.below HB2.out)).mono ?_
      rintro e w3 ⟨rfl, hb⟩
      have HB3 := Lib.hid (bthen HB2.out hb)
      clear hb x0 x1 x2 x3 hxl
      go_wp2_with fail
      refine bodyPost_ret (v := .tuple #[.string Y, .slice none 0 0, .int .i64 0]) (by simp [results, Tryz.results18, go_sem]) rfl ?_
      refine HP.out _ _ ⟨HB3.out, none, 0, ?_, ints_nilC _⟩
      show Ending.returned (Value.tuple #[.string Y, .slice none 0 0, .int .i64 0]) = Ending.returned (Value.tuple #[strV n.outP, .slice none 0 0, .int .i64 0])
      rw [HPN.out, HY.out]
  · have hzb : (E != 0) = true := by simp [hz]
    go_wp2_with fail
    refine bodyPost_ret (v := .tuple #[.string ⟨#[]⟩, .slice a2 q.length c2, .int .i64 E]) (by simp [results, Tryz.results18, go_sem]) rfl ?_
    exact HP.out _ _ ⟨HB2.out, a2, c2, by rw [if_neg hz]; rfl, HI.out⟩
end Go.Proofs.YtaolnpiemeaabaaGreatDoor

/- The walk of lives (layer 19). -/
namespace Go.Proofs.YtaolnpiemeaabaaGreatDoor
open Go.RowKit Ev5
set_option linter.unusedSimpArgs false
set_option linter.unusedVariables false

theorem lvTxt19 : (lvN ⟨#[97]⟩).outP = [97, 58, 10, 32, 32, 45, 32, 49, 10, 32, 32, 45, 32, 34, 120, 34, 10] := by decide +kernel
theorem lvFs19 : firstP tpO [] (lvN ⟨#[97]⟩) [] = none := by
  refine firstP_all (by decide +kernel) fun i hi => ?_
  obtain rfl : i = 0 := by have h : i < 1 := hi; omega
  show firstP tpO [lvN ⟨#[97]⟩] (.mk 8 ⟨#[97]⟩ ⟨#[]⟩ [.mk 5 ⟨#[]⟩ ⟨#[]⟩ [.mk 3 ⟨#[49]⟩ ⟨#[]⟩ [], .mk 4 ⟨#[120]⟩ ⟨#[]⟩ []]]) _ = none
  refine firstP_all (by decide +kernel) fun i hi => ?_
  obtain rfl : i = 0 := by have h : i < 1 := hi; omega
  show firstP tpO [lvN ⟨#[97]⟩, (.mk 8 ⟨#[97]⟩ ⟨#[]⟩ [.mk 5 ⟨#[]⟩ ⟨#[]⟩ [.mk 3 ⟨#[49]⟩ ⟨#[]⟩ [], .mk 4 ⟨#[120]⟩ ⟨#[]⟩ []]])] (.mk 5 ⟨#[]⟩ ⟨#[]⟩ [.mk 3 ⟨#[49]⟩ ⟨#[]⟩ [], .mk 4 ⟨#[120]⟩ ⟨#[]⟩ []]) _ = none
  refine firstP_all (by decide +kernel) fun i hi => ?_
  have h : i < 2 := hi
  have hh : i = 0 ∨ i = 1 := by omega
  rcases hh with rfl | rfl
  · show firstP tpO [lvN ⟨#[97]⟩, (.mk 8 ⟨#[97]⟩ ⟨#[]⟩ [.mk 5 ⟨#[]⟩ ⟨#[]⟩ [.mk 3 ⟨#[49]⟩ ⟨#[]⟩ [], .mk 4 ⟨#[120]⟩ ⟨#[]⟩ []]]), (.mk 5 ⟨#[]⟩ ⟨#[]⟩ [.mk 3 ⟨#[49]⟩ ⟨#[]⟩ [], .mk 4 ⟨#[120]⟩ ⟨#[]⟩ []])] (.mk 3 ⟨#[49]⟩ ⟨#[]⟩ []) _ = none
    exact firstP_all (by decide +kernel) fun i hi => absurd hi (Nat.not_lt_zero _)
  · show firstP tpO [lvN ⟨#[97]⟩, (.mk 8 ⟨#[97]⟩ ⟨#[]⟩ [.mk 5 ⟨#[]⟩ ⟨#[]⟩ [.mk 3 ⟨#[49]⟩ ⟨#[]⟩ [], .mk 4 ⟨#[120]⟩ ⟨#[]⟩ []]]), (.mk 5 ⟨#[]⟩ ⟨#[]⟩ [.mk 3 ⟨#[49]⟩ ⟨#[]⟩ [], .mk 4 ⟨#[120]⟩ ⟨#[]⟩ []])] (.mk 4 ⟨#[120]⟩ ⟨#[]⟩ []) _ = none
    exact firstP_all (by decide +kernel) fun i hi => absurd hi (Nat.not_lt_zero _)
theorem lvOf19 : ofP tpO (lvN ⟨#[97]⟩) = (none, 0) := by unfold ofP; rw [if_neg (by rw [lvN_wh1]; simp), lvFs19]
set_option maxRecDepth 100000 in
set_option maxHeartbeats 4000000 in
theorem lives19_any (w : World) (hE : EnvU w) : Calls Tryz.prog 17 #[] w fun e w' => e = .returned (.bool true) ∧ Below w.heap.size w w' := by
  obtain ⟨hv, hb, hx⟩ := lvN_in w ⟨#[97]⟩
  have HB := Lib.hid hb
  have HC := Lib.hid ((inkoutlinePrint_any (lvN ⟨#[97]⟩) (lvNW w ⟨#[97]⟩) _ _ (hE.below hb) hv (lvN_ok _ (by decide)) (by rw [lvN_size]; omega)).mono fun e w' h => h.to (Y := ⟨#[97, 58, 10, 32, 32, 45, 32, 49, 10, 32, 32, 45, 32, 34, 120, 34, 10]⟩) (E := 0) (q := []) (by rw [lvOf19, lvTxt19]; rfl) (by rw [lvOf19]) (by rw [lvOf19]; rfl))
  clear hb hv hx hE
  go_enter Tryz.func17, Tryz.ntmps17
  go_wp2_with fail
  refine HC.out.mono ?_
  rintro e w2 ⟨hb, a, c, rfl, _⟩
  have HB2 := Lib.hid (bthen HB.out hb)
  clear hb HC
  go_wp2_with fail
  go_ret
  exact ⟨rfl, HB2.out⟩
end Go.Proofs.YtaolnpiemeaabaaGreatDoor

/- few and copied of hexaplalaw19. -/
namespace Go.Proofs.YtaolnpiemeaabaaGreatDoor
open Go.RowKit Ev5
set_option linter.unusedSimpArgs false
set_option linter.unusedVariables false

set_option maxRecDepth 100000 in
set_option maxHeartbeats 2000000 in
theorem few19_any (n : Nd) (w : World) (S : Nat → Prop) (val : Value) (hv : NdV w S val n) :
    Calls Tryz.prog 16 #[val] w fun e w' => e = .returned (.bool (decide (0 ≤ n.few 200 20))) ∧ Below w.heap.size w w' := by
  obtain ⟨u, rfl, hs⟩ := hv
  obtain ⟨ao, cap, rfl, hcap, hcm⟩ := hs.shape
  have HS := Lib.hid hs
  have HB := Lib.hid (show Below w.heap.size w (w.alloc (.cells #[.int .i64 n.k, .string n.t, .string n.v, .slice ao n.kids.length cap] 24)) from (Below.refl _ _).alloc (Nat.le_refl _) _)
  clear hs
  unfold ndV
  go_enter Tryz.func16, Tryz.ntmps16
  go_wp2_with fail
  refine (few_any n _ S _ 200 20 ⟨_, rfl, HS.out.below HB.out⟩ (by omega) (by omega) (by omega) (by omega)).mono ?_
  rintro e w2 ⟨rfl, hb⟩
  have HB2 := Lib.hid (bthen HB.out hb)
  obtain ⟨F, hF⟩ : ∃ F, n.few 200 20 = F := ⟨_, rfl⟩
  rw [hF]
  have HF := Lib.hid hF
  clear hb hF
  go_wp2_with fail
  go_ret
  exact ⟨by rw [HF.out]; rfl, HB2.out⟩
theorem few19_size {x : Nd} (h : 0 ≤ x.few 200 20) : x.size ≤ 200 := by
  have := (few_says x 200 20 (by omega)).2.2 h
  omega
set_option maxRecDepth 100000 in
set_option maxHeartbeats 8000000 in
/-- copied: a node anew. -/
theorem copied19_any (n : Nd) : n.size ≤ 1048576 → ∀ (w : World) (S : Nat → Prop) (val : Value), NdV w S val n → Calls Tryz.prog 20 #[val] w (NewNd n w) := by
  refine Nd.ind (C := fun n => n.size ≤ 1048576 → ∀ (w : World) (S : Nat → Prop) (val : Value), NdV w S val n → Calls Tryz.prog 20 #[val] w (NewNd n w)) ?_ n
  intro k t v ks ih hsz w S val hv
  rw [size_mk] at hsz
  obtain ⟨u, rfl, hs⟩ := hv
  simp only [ndV, Nd.k, Nd.t, Nd.v, Nd.kids] at hs ⊢
  obtain ⟨ao, cap, rfl, hcap, hcm⟩ := hs.shape
  unfold maxLen at hcm
  obtain ⟨i0, hinf, hz0, hz1, hz2⟩ := info_parts infoN
  have hkl : ks.length ≤ 1048576 := by have := sizes_len ks; omega
  have HI := Lib.hid hinf; have HS := Lib.hid hs.ltC; have HIH := Lib.hid ih; have HSZ := Lib.hid hsz
  have HX := Lib.hid (two_first w (.cells #[.int .i64 k, .string t, .string v, .slice ao ks.length cap] 24) (.cells #[.int .i64 0, .string ⟨#[]⟩, .string ⟨#[]⟩, .slice none 0 0] 24))
  have HR := Lib.hid (two_last w (.cells #[.int .i64 k, .string t, .string v, .slice ao ks.length cap] 24) (.cells #[.int .i64 0, .string ⟨#[]⟩, .string ⟨#[]⟩, .slice none 0 0] 24))
  have HB0 := Lib.hid (show Below w.heap.size w ((w.alloc (.cells #[.int .i64 k, .string t, .string v, .slice ao ks.length cap] 24)).alloc (.cells #[.int .i64 0, .string ⟨#[]⟩, .string ⟨#[]⟩, .slice none 0 0] 24)) from ((Below.refl _ _).alloc (Nat.le_refl _) _).alloc (by simp) _)
  clear hinf hs ih hsz
  go_enter Tryz.func20, Tryz.ntmps20
  go_wp2_with fail
  go_loopw [3, 4] (fun vk vi wr => ∃ (i : Nat) (ps : List (Nd × Value)), i ≤ ks.length ∧ vi = .int .i64 i ∧ Hid (ps.map (·.1) = ks.take i) ∧ Hid (OwnK wr (w.heap.size + 2) vk ps) ∧ Hid (wr.heap[w.heap.size]? = some (.cells #[.int .i64 k, .string t, .string v, .slice ao ks.length cap] 24 (0, 0))) ∧ Hid (wr.heap[w.heap.size + 1]? = some (.cells #[.int .i64 0, .string ⟨#[]⟩, .string ⟨#[]⟩, .slice none 0 0] 24 (0, 0))) ∧ Hid (Below w.heap.size w wr)) (fun _ vi _ => ks.length - (intOf vi).toNat)
  case atStart => exact ⟨0, [], Nat.zero_le _, rfl, by show _ = _; simp, by show OwnK _ _ _ _; exact OwnK.nil _ _, by show _ = _; exact HX.out, by show _ = _; exact HR.out, HB0.out⟩
  case round =>
    obtain ⟨i, ps, hi, rfl, HP, HO, HXR, HRR, HBR⟩ := hrel
    obtain rfl : i = ps.length := by have := congrArg List.length HP.out; rw [List.length_map, List.length_take] at this; omega
    obtain ⟨ua, uc, hua⟩ := HO.out.shape
    subst hua
    obtain ⟨x0, x1, x2, x3, g0, g1, g2, g3, hxl⟩ := nd_cells HXR.out
    obtain ⟨r0, r1, r2, r3, j0, j1, j2, j3, hrl⟩ := nd_cells HRR.out
    by_cases hlt : ps.length < ks.length
    · have hi0 : (0 : Int) ≤ (ps.length : Int) := Int.natCast_nonneg _
      have hi1 : (ps.length : Int) < (ks.length : Int) := by omega
      obtain ⟨kb, ko, kx, hko, hkw, k0, k1, k2, k3, hkx⟩ := HS.out.at_ ps.length hlt
      obtain ⟨ay, cy, rfl, _, _⟩ := hkx.shape
      subst hko
      have hmem := List.getElem_mem hlt
      have hih := HIH.out ks[ps.length] hmem (by have := size_mem hmem; have := HSZ.out; omega)
      have HTK := Lib.hid (show ks.take (ps.length + 1) = ks.take ps.length ++ [ks[ps.length]] by rw [List.take_add_one, List.getElem?_eq_getElem hlt]; rfl)
      obtain ⟨y, hy⟩ : ∃ y, ks[ps.length] = y := ⟨_, rfl⟩
      rw [hy] at k0 k1 k2 k3 hkx hih HTK
      have HKS := Lib.hid (NdV.mk hkx); have HH := Lib.hid hih
      have hbw := HBR.out
      have d0 : wr.cell? ⟨kb, ko + ps.length * 4, none⟩ = some (.int .i64 y.k) := (hbw.cell (p := ⟨kb, ko + ps.length * 4, none⟩) hkw).trans k0
      have d1 : wr.cell? ⟨kb, ko + ps.length * 4 + 1, none⟩ = some (.string y.t) := (hbw.cell (p := ⟨kb, ko + ps.length * 4 + 1, none⟩) hkw).trans k1
      have d2 : wr.cell? ⟨kb, ko + ps.length * 4 + 2, none⟩ = some (.string y.v) := (hbw.cell (p := ⟨kb, ko + ps.length * 4 + 2, none⟩) hkw).trans k2
      have d3 : wr.cell? ⟨kb, ko + ps.length * 4 + 3, none⟩ = some (.slice ay y.kids.length cy) := (hbw.cell (p := ⟨kb, ko + ps.length * 4 + 3, none⟩) hkw).trans k3
      have hkl2 : kb < wr.heap.size := Nat.lt_of_lt_of_le hkw hbw.size
      clear k0 k1 k2 k3 hkx hih hy hbw hmem
      go_wp2_with fail
      refine (HH.out _ _ _ (HKS.out.below HBR.out)).mono ?_
      rintro e w3 ⟨a3, c3, rfl, hsk, hb⟩
      have HB3 := Lib.hid (bthen HBR.out hb)
      have HX3 := Lib.hid ((hb.block _ hxl).trans HXR.out)
      have HR3 := Lib.hid ((hb.block _ hrl).trans HRR.out)
      have HO3 := Lib.hid (HO.out.below hb)
      have HBL := Lib.hid (show Below w3.heap.size w3 (w3.alloc (.cells #[.int .i64 y.k, .string y.t, .string y.v, .slice a3 y.kids.length c3] 24)) from (Below.refl _ _).alloc (Nat.le_refl _) _)
      have HSK := Lib.hid (HO.out.apart (by omega) hsk)
      have hl3 := HB3.out.size
      have hxl3 := lt_blk HX3.out
      have hrl3 := lt_blk HR3.out
      clear hsk hb d0 d1 d2 d3 x0 x1 x2 x3 g0 g1 g2 g3 hxl r0 r1 r2 r3 j0 j1 j2 j3 hrl
      go_wp2_with (at_builtin; refine wpList_append_lies _ (by rfl) _ _ _ (by rfl) (w.heap.size + 2) 24 i0 _ 4 64 Tryz.underlying22 HI.out hz0 hz1 hz2 rfl (by omega) _ ps.length _ (by rfl) (HO3.out.below HBL.out).row ⟨w3.heap.size, 0, none⟩ 1 1 (ndL y (.slice a3 y.kids.length c3)) (by rfl) (by rfl) (World.news_of_block (heap_alloc_new w3 _)) nd_one (by omega) (by unfold maxLen; omega) (by omega) (by simp; omega) (w3.heap.size + 1) (by simp) ?_)
      intro gg cap' w5 hown1 hgrow hat hlt2
      have hlo : ∀ g, (Value.slice ua ps.length uc).ownBlock = some g → w.heap.size + 2 ≤ g := fun g e => (HO3.out.row.lt g e).1
      have HOW2 := Lib.hid ((HO3.out.below HBL.out).snoc (HSK.out.below HBL.out) hown1 hgrow (by rcases hat with h | h; exact .inl h; exact .inr (by simp; omega)))
      have HX5 := Lib.hid ((hgrow.block w.heap.size (by simp; omega) (fun e => by have := hlo _ e.symm; omega)).trans ((HBL.out.block _ hxl3).trans HX3.out))
      have HR5 := Lib.hid ((hgrow.block (w.heap.size + 1) (by simp; omega) (fun e => by have := hlo _ e.symm; omega)).trans ((HBL.out.block _ hrl3).trans HR3.out))
      have HB5 := Lib.hid (show Below w.heap.size w w5 from (bthen HB3.out HBL.out).grown hgrow (by simp; omega) (fun g e => by have := hlo g e; omega))
      clear hown1 hgrow hat hlt2 hlo
      go_wp2_with fail
      go_roundw
      case rel => exact ⟨ps.length + 1, ps ++ [(y, .slice a3 y.kids.length c3)], by omega, by go_num, by show _ = _; rw [List.map_append, HP.out, HTK.out]; rfl, HOW2, HX5, HR5, HB5⟩
      case measure => simp [intOf]; omega
    · have HPE := Lib.hid (show ps.length = ks.length by omega)
      have hge : ¬ (ps.length : Int) < (ks.length : Int) := by omega
      clear hlt
      have hf0 := heap_set4 (u := .slice ua ps.length uc) HXR.out
      have hg0 := grown_set wr w.heap.size 3 (.slice ua ps.length uc)
      have hf1 : (wr.setCell ⟨w.heap.size, 3, none⟩ (.slice ua ps.length uc)).heap[w.heap.size + 1]? = some (.cells #[.int .i64 0, .string ⟨#[]⟩, .string ⟨#[]⟩, .slice none 0 0] 24 (0, 0)) := by
        rw [hg0.block (w.heap.size + 1) hrl (by simp)]; exact HRR.out
      obtain ⟨w4, hw4⟩ : ∃ w4, wr.setCell ⟨w.heap.size, 3, none⟩ (.slice ua ps.length uc) = w4 := ⟨_, rfl⟩
      have HW4 := Lib.hid hw4
      rw [hw4] at hf0 hg0 hf1
      obtain ⟨y0, y1, y2, y3, z0, z1, z2, z3, hyl⟩ := nd_cells hf0
      obtain ⟨s0, s1, s2, s3, q0, q1, q2, q3, hsl⟩ := nd_cells hf1
      have HF0 := Lib.hid hf0; have HF1 := Lib.hid hf1; have HG0 := Lib.hid hg0
      clear hf0 hf1 hg0
      go_wp2_with fail
      obtain ⟨w5, hw5⟩ : ∃ w5, ((((w4.setCell ⟨w.heap.size + 1, 0, none⟩ (.int .i64 k)).setCell ⟨w.heap.size + 1, 1, none⟩ (.string t)).setCell ⟨w.heap.size + 1, 2, none⟩ (.string v)).setCell ⟨w.heap.size + 1, 3, none⟩ (.slice ua ps.length uc)) = w5 := ⟨_, rfl⟩
      obtain ⟨hf, hgr⟩ := fill4 (.int .i64 k) (.string t) (.string v) (.slice ua ps.length uc) HF1.out
      rw [hw5] at hf hgr
      rw [hw5]
      obtain ⟨t0, t1, t2, t3, _, _, _, _, htl⟩ := nd_cells hf
      have hsl := ((HO.out.other HG0.out (by omega)).other hgr (by omega)).slIn
      rw [HP.out, HPE.out, List.take_length] at hsl
      refine bodyPost_ret (v := .agg #[.int .i64 k, .string t, .string v, .slice ua ps.length uc]) (by simp [results, Tryz.results20, go_sem, t0, t1, t2, t3]) rfl ⟨ua, uc, by rw [HPE.out]; rfl, hsl.alike ⟨Nat.le_refl _, fun _ _ _ => rfl⟩ fun b hb _ => by omega, (HBR.out.grown HG0.out (by omega) (fun b hb => by injection hb; omega)).grown hgr (by omega) (fun b hb => by injection hb; omega)⟩
end Go.Proofs.YtaolnpiemeaabaaGreatDoor

/- The walk of the law InkoutlinePrints. -/
namespace Go.Proofs.YtaolnpiemeaabaaGreatDoor
open Go.RowKit Ev5
set_option linter.unusedSimpArgs false
set_option linter.unusedVariables false

set_option maxRecDepth 100000 in
set_option maxHeartbeats 8000000 in
theorem prints19_law (v : Value) (n : Nd) (w : World) (hE : EnvU w) (h : NdV w (fun b => b < w.heap.size) v n ∧ n.ok ∧ n.size ≤ 1048576) :
    Calls Tryz.prog 6 #[v] w fun e w' => e = .returned (.bool true) ∧ Below w.heap.size w w' := by
  obtain ⟨hv, hok, _⟩ := h
  obtain ⟨u, rfl, hs⟩ := hv
  obtain ⟨ao, cap, rfl, hcap, hcm⟩ := hs.shape
  obtain ⟨Y, hY⟩ : ∃ Y : ByteArray, strV (if (ofP tpO n).2 = 0 then n.outP else []) = .string Y := ⟨_, rfl⟩
  obtain ⟨E, hEE⟩ : ∃ E, (ofP tpO n).2 = E := ⟨_, rfl⟩
  obtain ⟨q, hq⟩ : ∃ q, plc (ofP tpO n) = q := ⟨_, rfl⟩
  have HPR := Lib.hid (fun (w' : World) (S : Nat → Prop) (v : Value) (h1 : EnvU w') (h2 : NdV w' S v n) (h3 : n.size ≤ 50000) => (inkoutlinePrint_any n w' S v h1 h2 hok h3).mono fun e w2 h => h.to hY hEE hq)
  have HV := Lib.hid (NdV.mk hs); have HE := Lib.hid hE; have HOK := Lib.hid hok
  have HX1 := Lib.hid (heap_alloc_new w (.cells #[.int .i64 n.k, .string n.t, .string n.v, .slice ao n.kids.length cap] 24))
  have HB1 := Lib.hid (show Below w.heap.size w (w.alloc (.cells #[.int .i64 n.k, .string n.t, .string n.v, .slice ao n.kids.length cap] 24)) from (Below.refl _ _).alloc (Nat.le_refl _) _)
  have HOF := Lib.hid (fun (w' : World) (S : Nat → Prop) (v : Value) (h1 : EnvU w') (h2 : NdV w' S v n) (h3 : n.size ≤ 50000) => (refOfOutline_any n w' S v h1 h2 hok h3).mono fun e w2 h => h.to hEE hq)
  have HY0 := Lib.hid (fun h : E ≠ 0 => show Y = ⟨#[]⟩ by rw [if_neg (by rw [hEE]; exact h)] at hY; injection hY with hY; exact hY.symm)
  have HY1 := Lib.hid (fun h : E = 0 => show strV n.outP = .string Y by rw [refEq19 (hEE.trans h), ← hY, if_pos (hEE.trans h)])
  have HOF0 := Lib.hid (fun h : E = 0 => show (ofP tpO n).2 = 0 from hEE.trans h)
  clear hs hE hok hY hEE hq
  unfold ndV
  go_enter Tryz.func6, Tryz.ntmps6
  go_wp2_with fail
  refine (few19_any n _ _ _ (HV.out.below HB1.out)).mono ?_
  rintro e w2 ⟨rfl, hb⟩
  have HB2 := Lib.hid (bthen HB1.out hb)
  have HX2 := Lib.hid ((hb.block _ (lt_blk HX1.out)).trans HX1.out)
  obtain ⟨x0, x1, x2, x3, _, _, _, _, hxl⟩ := nd_cells HX2.out
  clear hb
  by_cases hf : 0 ≤ n.few 200 20
  · rw [decide_eq_true hf]
    have HN := Lib.hid (few19_size hf)
    clear hf
    go_wp2_with fail
    refine (HPR.out _ _ _ (HE.out.below HB2.out) (HV.out.below HB2.out) (by have := HN.out; omega)).mono ?_
    rintro e w3 ⟨hb, a3, c3, rfl, hi3⟩
    have HB3 := Lib.hid (bthen HB2.out hb)
    have HX3 := Lib.hid ((hb.block _ (lt_blk HX2.out)).trans HX2.out)
    have HI3 := Lib.hid hi3
    clear hb hi3 x0 x1 x2 x3 hxl
    obtain ⟨x0, x1, x2, x3, _, _, _, _, hxl⟩ := nd_cells HX3.out
    go_wp2_with fail
    refine (HOF.out _ _ _ (HE.out.below HB3.out) (HV.out.below HB3.out) (by have := HN.out; omega)).mono ?_
    rintro e w4 ⟨hb, a4, c4, rfl, hi4⟩
    have HB4 := Lib.hid (bthen HB3.out hb)
    have HX4 := Lib.hid ((hb.block _ (lt_blk HX3.out)).trans HX3.out)
    have HI4 := Lib.hid hi4
    have HJ4 := Lib.hid (HI3.out.below hb)
    have hql : q.length ≤ 9223372036854775807 := by
      obtain ⟨_, _, _, h1, h2, _⟩ := HI4.out.ex
      unfold maxLen at h2
      omega
    clear hb hi4 x0 x1 x2 x3 hxl
    go_wp2_with fail
    go_loopw [9] (fun v8 wr => ∃ i : Nat, i ≤ q.length ∧ v8 = .int .i64 i ∧ Hid (Below w4.heap.size w4 wr)) (fun v8 _ => q.length - (intOf v8).toNat)
    case atStart => exact ⟨0, Nat.zero_le _, rfl, Below.refl _ _⟩
    case round =>
      obtain ⟨i, hi, rfl, HBR⟩ := hrel
      by_cases hlt : i < q.length
      · have hi0 : (0 : Int) ≤ (i : Int) := Int.natCast_nonneg _
        have hi1 : (i : Int) < (q.length : Int) := by omega
        obtain ⟨ao3, cp3, e3, _, _, hc3⟩ := (HJ4.out.below HBR.out).ex
        injection e3 with e3 _ e3c
        subst e3c
        obtain ⟨b3, o3, ea3, k3⟩ := hc3 i hlt
        rw [ea3] at e3
        subst e3
        obtain ⟨ao4, cp4, e4, _, _, hc4⟩ := (HI4.out.below HBR.out).ex
        injection e4 with e4 _ e4c
        subst e4c
        obtain ⟨b4, o4, ea4, k4⟩ := hc4 i hlt
        rw [ea4] at e4
        subst e4
        obtain ⟨z, hz⟩ : ∃ z, q[i] = z := ⟨_, rfl⟩
        rw [hz] at k3 k4
        have hl3 := cell_lt k3
        have hl4 := cell_lt k4
        have HD := Lib.hid (show ∀ w' : World, Below wr.heap.size wr w' → w'.cell? ⟨b3, o3 + i, none⟩ = some (.int .i64 z) ∧ w'.cell? ⟨b4, o4 + i, none⟩ = some (.int .i64 z) from fun w' hb => ⟨(hb.cell (p := ⟨b3, o3 + i, none⟩) hl3).trans k3, (hb.cell (p := ⟨b4, o4 + i, none⟩) hl4).trans k4⟩)
        clear hz hc3 hc4 ea3 ea4
        go_wp2_with fail
        go_region_held3? (fun w' => w'.cell? ⟨b3, o3 + i, none⟩ = some (.int .i64 z) ∧ w'.cell? ⟨b4, o4 + i, none⟩ = some (.int .i64 z)) (first | exact HD.out _ (Below.refl _ _).drew | go_keep) ((first | fail))
        go_wp2_with fail
        go_roundw
        case rel => exact ⟨i + 1, by omega, by go_num, bthen HBR.out (Below.refl _ wr).drew⟩
        case measure => simp [intOf]; omega
      · obtain rfl : i = q.length := by omega
        have hi1 : ¬ ((q.length : Nat) : Int) < (q.length : Int) := by omega
        have HBW := Lib.hid (bthen HB4.out HBR.out)
        obtain ⟨x0, x1, x2, x3, _, _, _, _, hxl⟩ := nd_cells ((HBR.out.block _ (lt_blk HX4.out)).trans HX4.out)
        by_cases hz : E = 0
        · subst hz
          have HYE := Lib.hid (HY1.out rfl)
          go_wp2_with fail
          refine (refPrint19_any n HOK.out (by have := HN.out; omega) (HOF0.out (by trivial)) _ _ _ (HV.out.below HBW.out)).mono ?_
          rintro e w5 ⟨rfl, hb⟩
          have HB5 := Lib.hid (bthen HBW.out hb)
          rw [HYE.out]
          clear hb x0 x1 x2 x3 hxl
          go_wp2_with fail
          refine (lives19_any _ (HE.out.below HB5.out)).mono ?_
          rintro e wl ⟨rfl, hb⟩
          have HBL := Lib.hid (bthen HB5.out hb)
          clear hb
          go_wp2_with fail
          go_ret
          exact ⟨rfl, HBL.out⟩
        · have hzb : (E != 0) = true := by simp [hz]
          obtain rfl := HY0.out hz
          go_wp2_with fail
          refine (lives19_any _ (HE.out.below HBW.out)).mono ?_
          rintro e wl ⟨rfl, hb⟩
          have HBL := Lib.hid (bthen HBW.out hb)
          clear hb
          go_wp2_with fail
          go_ret
          exact ⟨rfl, HBL.out⟩
  · rw [decide_eq_false hf]
    clear hf
    go_wp2_with fail
    refine (lives19_any _ (HE.out.below HB2.out)).mono ?_
    rintro e wl ⟨rfl, hb⟩
    have HBL := Lib.hid (bthen HB2.out hb)
    clear hb
    go_wp2_with fail
    go_ret
    exact ⟨rfl, HBL.out⟩
end Go.Proofs.YtaolnpiemeaabaaGreatDoor

/- The walk of the law InkoutlineStays. -/
namespace Go.Proofs.YtaolnpiemeaabaaGreatDoor
open Go.RowKit Ev5
set_option linter.unusedSimpArgs false
set_option linter.unusedVariables false

set_option maxRecDepth 100000 in
set_option maxHeartbeats 8000000 in
theorem stays19_law (v : Value) (n : Nd) (w : World) (hE : EnvU w) (h : NdV w (fun b => b < w.heap.size) v n ∧ n.ok ∧ n.size ≤ 1048576) :
    Calls Tryz.prog 8 #[v] w fun e w' => e = .returned (.bool true) ∧ Below w.heap.size w w' := by
  obtain ⟨hv, hok, _⟩ := h
  obtain ⟨u, rfl, hs⟩ := hv
  obtain ⟨ao, cap, rfl, hcap, hcm⟩ := hs.shape
  obtain ⟨Y, hY⟩ : ∃ Y : ByteArray, strV (if (ofP tpO n).2 = 0 then n.outP else []) = .string Y := ⟨_, rfl⟩
  obtain ⟨E, hEE⟩ : ∃ E, (ofP tpO n).2 = E := ⟨_, rfl⟩
  obtain ⟨q, hq⟩ : ∃ q, plc (ofP tpO n) = q := ⟨_, rfl⟩
  have HPR := Lib.hid (fun (w' : World) (S : Nat → Prop) (v : Value) (h1 : EnvU w') (h2 : NdV w' S v n) (h3 : n.size ≤ 50000) => (inkoutlinePrint_any n w' S v h1 h2 hok h3).mono fun e w2 h => h.to hY hEE hq)
  have HV := Lib.hid (NdV.mk hs); have HE := Lib.hid hE; have HOK := Lib.hid hok
  have HX1 := Lib.hid (heap_alloc_new w (.cells #[.int .i64 n.k, .string n.t, .string n.v, .slice ao n.kids.length cap] 24))
  have HB1 := Lib.hid (show Below w.heap.size w (w.alloc (.cells #[.int .i64 n.k, .string n.t, .string n.v, .slice ao n.kids.length cap] 24)) from (Below.refl _ _).alloc (Nat.le_refl _) _)
  clear hs hE hok hY hEE hq
  unfold ndV
  go_enter Tryz.func8, Tryz.ntmps8
  go_wp2_with fail
  refine (few19_any n _ _ _ (HV.out.below HB1.out)).mono ?_
  rintro e w2 ⟨rfl, hb⟩
  have HB2 := Lib.hid (bthen HB1.out hb)
  have HX2 := Lib.hid ((hb.block _ (lt_blk HX1.out)).trans HX1.out)
  obtain ⟨x0, x1, x2, x3, _, _, _, _, hxl⟩ := nd_cells HX2.out
  clear hb
  by_cases hf : 0 ≤ n.few 200 20
  · rw [decide_eq_true hf]
    have HN := Lib.hid (few19_size hf)
    clear hf
    go_wp2_with fail
    refine (copied19_any n (by have := HN.out; omega) _ _ _ (HV.out.below HB2.out)).mono ?_
    rintro e w3 ⟨am, cm, rfl, hsm, hb⟩
    have HB3 := Lib.hid (bthen HB2.out hb)
    have HX3 := Lib.hid ((hb.block _ (lt_blk HX2.out)).trans HX2.out)
    have HBM := Lib.hid (show Below w3.heap.size w3 (w3.alloc (.cells #[.int .i64 n.k, .string n.t, .string n.v, .slice am n.kids.length cm] 24)) from (Below.refl _ _).alloc (Nat.le_refl _) _)
    have HM := Lib.hid (show NdV w3 _ (ndV n (.slice am n.kids.length cm)) n from .mk hsm)
    clear hb hsm x0 x1 x2 x3 hxl
    obtain ⟨x0, x1, x2, x3, _, _, _, _, hxl⟩ := nd_cells HX3.out
    go_wp2_with fail
    refine (HPR.out _ _ _ (HE.out.below (bthen HB3.out HBM.out)) (HM.out.below HBM.out) (by have := HN.out; omega)).mono ?_
    rintro e w4 ⟨hb, a4, c4, rfl, _⟩
    have HB34 := Lib.hid (bthen HBM.out hb)
    have HB4 := Lib.hid (bthen HB3.out HB34.out)
    have HX4 := Lib.hid ((HB34.out.block _ hxl).trans HX3.out)
    have HM4 := Lib.hid ((hb.block w3.heap.size (by simp)).trans (heap_alloc_new w3 (.cells #[.int .i64 n.k, .string n.t, .string n.v, .slice am n.kids.length cm] 24)))
    clear hb x0 x1 x2 x3 hxl
    obtain ⟨x0, x1, x2, x3, _, _, _, _, hxl⟩ := nd_cells HX4.out
    obtain ⟨y0, y1, y2, y3, _, _, _, _, hyl⟩ := nd_cells HM4.out
    go_wp2_with fail
    refine (HPR.out _ _ _ (HE.out.below HB4.out) (HV.out.below HB4.out) (by have := HN.out; omega)).mono ?_
    rintro e w5 ⟨hb, a5, c5, rfl, _⟩
    have HB35 := Lib.hid (bthen HB34.out hb)
    have HB5 := Lib.hid (bthen HB4.out hb)
    have HX5 := Lib.hid ((hb.block _ hxl).trans HX4.out)
    have HM5 := Lib.hid ((hb.block _ hyl).trans HM4.out)
    clear hb x0 x1 x2 x3 hxl y0 y1 y2 y3 hyl
    obtain ⟨x0, x1, x2, x3, _, _, _, _, hxl⟩ := nd_cells HX5.out
    obtain ⟨y0, y1, y2, y3, _, _, _, _, hyl⟩ := nd_cells HM5.out
    go_wp2_with fail
    refine (refSame_any n _ _ _ _ _ n (HM.out.below HB35.out) (HV.out.below HB5.out)).mono ?_
    rintro e w6 ⟨r, rfl, hr, hb⟩
    have HB6 := Lib.hid (bthen HB5.out hb)
    obtain rfl : r = true := hr.2 rfl
    clear hb hr x0 x1 x2 x3 hxl y0 y1 y2 y3 hyl
    go_wp2_with fail
    refine (lives19_any _ (HE.out.below HB6.out)).mono ?_
    rintro e wl ⟨rfl, hb⟩
    have HBL := Lib.hid (bthen HB6.out hb)
    clear hb
    go_wp2_with fail
    go_ret
    exact ⟨rfl, HBL.out⟩
  · rw [decide_eq_false hf]
    clear hf
    go_wp2_with fail
    refine (lives19_any _ (HE.out.below HB2.out)).mono ?_
    rintro e wl ⟨rfl, hb⟩
    have HBL := Lib.hid (bthen HB2.out hb)
    clear hb
    go_wp2_with fail
    go_ret
    exact ⟨rfl, HBL.out⟩
end Go.Proofs.YtaolnpiemeaabaaGreatDoor

/- The walk of the law InkoutlineApart. -/
namespace Go.Proofs.YtaolnpiemeaabaaGreatDoor
open Go.RowKit Ev5
set_option linter.unusedSimpArgs false
set_option linter.unusedVariables false

set_option maxRecDepth 100000 in
set_option maxHeartbeats 8000000 in
theorem apart19_law (va : Value) (m : Nd) (vb : Value) (n : Nd) (w : World) (hE : EnvU w) (hva : NdV w (fun b => b < w.heap.size) va m ∧ m.ok ∧ m.size ≤ 1048576) (hvb : NdV w (fun b => b < w.heap.size) vb n ∧ n.ok ∧ n.size ≤ 1048576) :
    Calls Tryz.prog 7 #[va, vb] w fun e w' => e = .returned (.bool true) ∧ Below w.heap.size w w' := by
  obtain ⟨⟨u, rfl, hs⟩, hok, _⟩ := hva
  obtain ⟨⟨u', rfl, hs'⟩, hok', _⟩ := hvb
  obtain ⟨ao, cap, rfl, hcap, hcm⟩ := hs.shape
  obtain ⟨ao', cap', rfl, hcap', hcm'⟩ := hs'.shape
  obtain ⟨Y, hY⟩ : ∃ Y : ByteArray, strV (if (ofP tpO m).2 = 0 then m.outP else []) = .string Y := ⟨_, rfl⟩
  obtain ⟨E, hEE⟩ : ∃ E, (ofP tpO m).2 = E := ⟨_, rfl⟩
  obtain ⟨q, hq⟩ : ∃ q, plc (ofP tpO m) = q := ⟨_, rfl⟩
  obtain ⟨Z, hZ⟩ : ∃ Z : ByteArray, strV (if (ofP tpO n).2 = 0 then n.outP else []) = .string Z := ⟨_, rfl⟩
  obtain ⟨F, hFF⟩ : ∃ F, (ofP tpO n).2 = F := ⟨_, rfl⟩
  obtain ⟨p, hp⟩ : ∃ p, plc (ofP tpO n) = p := ⟨_, rfl⟩
  have HPR := Lib.hid (fun (w' : World) (S : Nat → Prop) (v : Value) (h1 : EnvU w') (h2 : NdV w' S v m) (h3 : m.size ≤ 50000) => (inkoutlinePrint_any m w' S v h1 h2 hok h3).mono fun e w2 h => h.to hY hEE hq)
  have HPR' := Lib.hid (fun (w' : World) (S : Nat → Prop) (v : Value) (h1 : EnvU w') (h2 : NdV w' S v n) (h3 : n.size ≤ 50000) => (inkoutlinePrint_any n w' S v h1 h2 hok' h3).mono fun e w2 h => h.to hZ hFF hp)
  have HSM := Lib.hid (fun (h : E = 0) (h' : F = 0) => show Y = Z ↔ m = n by
    rw [if_pos (hEE.trans h)] at hY
    rw [if_pos (hFF.trans h')] at hZ
    rw [← out_same (hEE.trans h) (hFF.trans h')]
    constructor
    · rintro rfl
      have h9 := hY.trans hZ.symm
      unfold strV at h9
      injection h9 with h9
      injection h9 with h9
      exact Array.toList_inj.2 h9 |> fun h => by simpa using h
    · intro h9
      rw [h9, hZ] at hY
      injection hY with hY
      exact hY.symm)
  have HE := Lib.hid hE
  have HV := Lib.hid (NdV.mk hs)
  have HV' := Lib.hid (NdV.mk hs')
  have HB1 := Lib.hid (show Below w.heap.size w ((w.alloc (.cells #[.int .i64 m.k, .string m.t, .string m.v, .slice ao m.kids.length cap] 24)).alloc (.cells #[.int .i64 n.k, .string n.t, .string n.v, .slice ao' n.kids.length cap'] 24)) from ((Below.refl _ _).alloc (Nat.le_refl _) _).alloc (by simp) _)
  have HX1 := Lib.hid (two_first w (.cells #[.int .i64 m.k, .string m.t, .string m.v, .slice ao m.kids.length cap] 24) (.cells #[.int .i64 n.k, .string n.t, .string n.v, .slice ao' n.kids.length cap'] 24))
  have HY1 := Lib.hid (two_last w (.cells #[.int .i64 m.k, .string m.t, .string m.v, .slice ao m.kids.length cap] 24) (.cells #[.int .i64 n.k, .string n.t, .string n.v, .slice ao' n.kids.length cap'] 24))
  clear hs hs' hE hok hok' hY hEE hq hZ hFF hp
  unfold ndV
  go_enter Tryz.func7, Tryz.ntmps7
  go_wp2_with fail
  refine (few19_any m _ _ _ (HV.out.below HB1.out)).mono ?_
  rintro e w2 ⟨rfl, hb⟩
  have HX2 := Lib.hid ((hb.block _ (lt_blk HX1.out)).trans HX1.out)
  have HY2 := Lib.hid ((hb.block _ (lt_blk HY1.out)).trans HY1.out)
  have HB2 := Lib.hid (bthen HB1.out hb)
  obtain ⟨x0, x1, x2, x3, _, _, _, _, hxl⟩ := nd_cells HX2.out
  obtain ⟨y0, y1, y2, y3, _, _, _, _, hyl⟩ := nd_cells HY2.out
  obtain ⟨G, hG⟩ : ∃ G, decide (0 ≤ m.few 200 20) = G := ⟨_, rfl⟩
  have HG := Lib.hid hG
  rw [hG]
  clear hb hG
  go_wp2_with fail
  refine (few19_any n _ _ _ (HV'.out.below HB2.out)).mono ?_
  rintro e w3 ⟨rfl, hb⟩
  have HX3 := Lib.hid ((hb.block _ hxl).trans HX2.out)
  have HY3 := Lib.hid ((hb.block _ hyl).trans HY2.out)
  have HB3 := Lib.hid (bthen HB2.out hb)
  clear x0 x1 x2 x3 hxl y0 y1 y2 y3 hyl
  obtain ⟨x0, x1, x2, x3, _, _, _, _, hxl⟩ := nd_cells HX3.out
  obtain ⟨y0, y1, y2, y3, _, _, _, _, hyl⟩ := nd_cells HY3.out
  obtain ⟨H, hH⟩ : ∃ H, decide (0 ≤ n.few 200 20) = H := ⟨_, rfl⟩
  have HH := Lib.hid hH
  rw [hH]
  clear hb hH
  by_cases hGH : G = true ∧ H = true
  · obtain ⟨rfl, rfl⟩ := hGH
    have HN := Lib.hid (And.intro (few19_size (of_decide_eq_true HG.out)) (few19_size (of_decide_eq_true HH.out)))
    go_wp2_with fail
    refine (HPR.out _ _ _ (HE.out.below HB3.out) (HV.out.below HB3.out) (by have := HN.out.1; omega)).mono ?_
    rintro e w4 ⟨hb, a4, c4, rfl, _⟩
    have HX4 := Lib.hid ((hb.block _ hxl).trans HX3.out)
    have HY4 := Lib.hid ((hb.block _ hyl).trans HY3.out)
    have HB4 := Lib.hid (bthen HB3.out hb)
    clear hb x0 x1 x2 x3 hxl y0 y1 y2 y3 hyl
    obtain ⟨x0, x1, x2, x3, _, _, _, _, hxl⟩ := nd_cells HX4.out
    obtain ⟨y0, y1, y2, y3, _, _, _, _, hyl⟩ := nd_cells HY4.out
    go_wp2_with fail
    refine (HPR'.out _ _ _ (HE.out.below HB4.out) (HV'.out.below HB4.out) (by have := HN.out.2; omega)).mono ?_
    rintro e w5 ⟨hb, a5, c5, rfl, _⟩
    have HX5 := Lib.hid ((hb.block _ hxl).trans HX4.out)
    have HY5 := Lib.hid ((hb.block _ hyl).trans HY4.out)
    have HB5 := Lib.hid (bthen HB4.out hb)
    clear hb x0 x1 x2 x3 hxl y0 y1 y2 y3 hyl
    obtain ⟨x0, x1, x2, x3, _, _, _, _, hxl⟩ := nd_cells HX5.out
    obtain ⟨y0, y1, y2, y3, _, _, _, _, hyl⟩ := nd_cells HY5.out
    by_cases hz : E = 0
    · subst hz
      by_cases hz' : F = 0
      · subst hz'
        have HS := Lib.hid (HSM.out rfl rfl)
        go_wp2_with fail
        refine (refSame_any m _ _ _ _ _ n (HV.out.below HB5.out) (HV'.out.below HB5.out)).mono ?_
        rintro e w6 ⟨r, rfl, hr, hb⟩
        have HB6 := Lib.hid (bthen HB5.out hb)
        clear hb x0 x1 x2 x3 hxl y0 y1 y2 y3 hyl
        by_cases hmn : m = n
        · obtain rfl : r = true := hr.2 hmn
          obtain rfl : Y = Z := HS.out.2 hmn
          clear hmn hr
          go_wp2_with fail
          refine (lives19_any _ (HE.out.below HB6.out)).mono ?_
          rintro e wl ⟨rfl, hb⟩
          have HBL := Lib.hid (bthen HB6.out hb)
          clear hb
          go_wp2_with fail
          go_ret
          exact ⟨rfl, HBL.out⟩
        · obtain rfl : r = false := by cases r with
            | false => rfl
            | true => exact absurd (hr.1 rfl) hmn
          have hne : (Y.toList == Z.toList) = false := by rw [beq_eq_false_iff_ne]; exact fun e => hmn (HS.out.1 (toL_inj e))
          clear hmn hr
          go_wp2_with fail
          refine (lives19_any _ (HE.out.below HB6.out)).mono ?_
          rintro e wl ⟨rfl, hb⟩
          have HBL := Lib.hid (bthen HB6.out hb)
          clear hb
          go_wp2_with fail
          go_ret
          exact ⟨rfl, HBL.out⟩
      · have hzb : (F != 0) = true := by simp [hz']
        go_wp2_with fail
        refine (lives19_any _ (HE.out.below HB5.out)).mono ?_
        rintro e wl ⟨rfl, hb⟩
        have HBL := Lib.hid (bthen HB5.out hb)
        clear hb
        go_wp2_with fail
        go_ret
        exact ⟨rfl, HBL.out⟩
    · have hzb : (E != 0) = true := by simp [hz]
      go_wp2_with fail
      refine (lives19_any _ (HE.out.below HB5.out)).mono ?_
      rintro e wl ⟨rfl, hb⟩
      have HBL := Lib.hid (bthen HB5.out hb)
      clear hb
      go_wp2_with fail
      go_ret
      exact ⟨rfl, HBL.out⟩
  · have hFF : (G = false) ∨ (G = true ∧ H = false) := by cases G <;> cases H <;> simp_all
    clear hGH HG HH
    rcases hFF with rfl | ⟨rfl, rfl⟩
    all_goals
      go_wp2_with fail
      refine (lives19_any _ (HE.out.below HB3.out)).mono ?_
      rintro e wl ⟨rfl, hb⟩
      have HBL := Lib.hid (bthen HB3.out hb)
      clear hb
      go_wp2_with fail
      go_ret
      exact ⟨rfl, HBL.out⟩
end Go.Proofs.YtaolnpiemeaabaaGreatDoor
