import Derived.Test.YtaolnpiemeaabaaGreatDoorIn5
import Derived.Lib.Replace
import Derived.Laws.IdiomStrings
import Derived.Test.YtaolnpiemeaabaaGreatDoorShelfB
/- Plain Lean: on a text of whole characters the runes that are odd are the bytes that are, for any oddness of small runes. -/
namespace Go.Proofs.YtaolnpiemeaabaaGreatDoor
open Ev5
set_option linter.unusedSimpArgs false
set_option linter.unusedVariables false

theorem idx_gen (R : Nat → Bool) (hbigR : ∀ x, 128 ≤ x → R x = false) (s : ByteArray) : ∀ (f pos : Nat), s.size ≤ pos + f → Lib.validD (s.data.toList.drop pos) = true → (decide (0 ≤ Lib.idxFuncFrom R true s f pos)) = (s.data.toList.drop pos).any (fun b => R b.toNat) := by
  intro f
  induction f with
  | zero =>
    intro pos h _
    rw [List.drop_eq_nil_of_le (by rw [Array.length_toList]; show s.size ≤ pos; omega)]
    rfl
  | succ f ih =>
    intro pos h hv
    by_cases hp : pos < s.size
    · have hl : pos < s.data.toList.length := by rw [Array.length_toList]; exact hp
      have hd := List.drop_eq_getElem_cons hl
      have hne : s.data.toList.drop pos ≠ [] := by rw [hd]; simp
      rw [Lib.validD_step _ hne] at hv
      split at hv
      · cases hv
      rename_i hbad
      unfold Lib.idxFuncFrom
      rw [if_pos hp, ← Lib.decodeL_drop]
      have hN := Lib.decodeL_N (s.data.toList.drop pos)
      have hw := Lib.decodeL_width (s.data.toList.drop pos)
      rw [List.drop_drop] at hv
      have ih := ih (pos + (Lib.decodeL (s.data.toList.drop pos)).2) (by omega) hv
      generalize hl' : s.data.toList.drop pos = l at *
      have hhead : (l.getD 0 0) = s.data.toList[pos] := by rw [hd]; rfl
      have hdd : ∀ k, s.data.toList.drop (pos + k) = l.drop k := by intro k; rw [← hl', List.drop_drop]
      rw [hdd] at ih
      have hcs := Lib.decodeN_cases l.length (l.getD 0 0).toNat (l.getD 1 0).toNat (l.getD 2 0).toNat (l.getD 3 0).toNat
      have hct := Lib.decodeN_conts l.length (l.getD 0 0).toNat (l.getD 1 0).toNat (l.getD 2 0).toNat (l.getD 3 0).toNat
      rw [← hN] at hcs hct
      by_cases ha : (l.getD 0 0).toNat < 128
      · have e : Lib.decodeL l = ((l.getD 0 0).toNat, 1) := by rw [hN]; exact Lib.decodeN_ascii _ _ _ _ _ ha
        rw [e] at ih ⊢
        simp only [] at ih ⊢
        have el : l = l.getD 0 0 :: l.drop 1 := by
          cases l with
          | nil => exact absurd rfl hne
          | cons a b => rfl
        rw [show l.any (fun b => R b.toNat) = (R (l.getD 0 0).toNat || (l.drop 1).any (fun b => R b.toNat)) by conv => { lhs; rw [el] } ; rfl]
        by_cases ho : R (l.getD 0 0).toNat = true
        · rw [if_pos ho]; simp only [ho, Bool.true_or]; exact decide_eq_true (by omega)
        · rw [if_neg ho]; simp only [ho, Bool.false_or]; exact ih
      · have hwl : (Lib.decodeL l).2 ≤ l.length := by
          rcases Nat.lt_or_ge l.length (Lib.decodeL l).2 with h1 | h1
          · have h2 := hct.2.2.2
            have : l.length = 0 ∨ l.length = 1 ∨ l.length = 2 ∨ l.length = 3 := by omega
            have hl0 : 0 < l.length := List.length_pos_iff.2 hne
            rcases this with e | e | e | e
            · omega
            · have := hct.1 (by omega); omega
            · have := hct.2.1 (by omega); omega
            · have := hct.2.2.1 (by omega); omega
          · exact h1
        have hbig : 128 ≤ (Lib.decodeL l).1 := by
          rcases hcs with ⟨h1, _⟩ | ⟨_, _, _, h1, e⟩ | ⟨_, _, _, _, h1, e⟩ | ⟨h1, _⟩ | e
          · omega
          · rw [e]; exact h1
          · rw [e]; simp only []; omega
          · omega
          · rw [e]; decide
        rw [if_neg (by rw [hbigR _ hbig]; simp)]
        rw [ih]
        have hsplit : l = l.take (Lib.decodeL l).2 ++ l.drop (Lib.decodeL l).2 := (List.take_append_drop _ _).symm
        have hfront : (l.take (Lib.decodeL l).2).any (fun b => R b.toNat) = false := by
          rw [List.any_eq_false]
          intro b hb
          rw [List.mem_take_iff_getElem] at hb
          obtain ⟨j, hj, rfl⟩ := hb
          have hj2 : j < l.length := by omega
          have hg : l[j]'(by omega) = l.getD j 0 := by rw [List.getD_eq_getElem?_getD, List.getElem?_eq_getElem hj2]; rfl
          have : 128 ≤ (l.getD j 0).toNat := by
            have hj4 : j < (Lib.decodeL l).2 := by omega
            have h4 := hct.2.2.2
            have : j = 0 ∨ j = 1 ∨ j = 2 ∨ j = 3 := by omega
            rcases this with rfl | rfl | rfl | rfl
            · omega
            · have := hct.1 (by omega); omega
            · have := hct.2.1 (by omega); omega
            · have := hct.2.2.1 (by omega); omega
          have e := hg ▸ (hbigR (l.getD j 0).toNat this)
          rw [hg, hbigR _ this]; simp
        conv => rhs; rw [hsplit]
        rw [List.any_append, hfront, Bool.false_or]
    · unfold Lib.idxFuncFrom
      rw [if_neg hp, List.drop_eq_nil_of_le (by rw [Array.length_toList]; show s.size ≤ pos; omega)]
      rfl

theorem idx_gen0 (R : Nat → Bool) (hbigR : ∀ x, 128 ≤ x → R x = false) (s : ByteArray) (hv : Lib.validD s.data.toList = true) : decide (0 ≤ Lib.idxFunc R true s) = s.data.toList.any (fun b => R b.toNat) := by
  have h := idx_gen R hbigR s s.size 0 (by omega) (by rw [List.drop_zero]; exact hv)
  rw [List.drop_zero] at h
  exact h
end Go.Proofs.YtaolnpiemeaabaaGreatDoor

/- Plain Lean: a tree's text in the delim syntax; two trees told alike there are the same. -/
namespace Go.Proofs.YtaolnpiemeaabaaGreatDoor
open Ev5
set_option linter.unusedSimpArgs false
set_option linter.unusedVariables false

/-- What a cell cannot hold bare. -/
def oddC (b : UInt8) : Bool := decide (b.toNat < 32) || decide (b.toNat = 34 ∨ b.toNat = 44)
def dblB (b : UInt8) : List UInt8 := if b = 34 then [34, 34] else [b]
/-- A text as a cell. -/
def cellD (l : List UInt8) : List UInt8 := if l.any oddC = true then 34 :: (l.flatMap dblB ++ [34]) else l
def cellT (t : ByteArray) : List UInt8 := cellD t.data.toList
/-- A row of cells. -/
def lineD (l : List ByteArray) : List UInt8 := Lib.join (l.map cellT) [44] ++ [10]
/-- What stands in a node's fields. -/
def valT (f : Nd) : ByteArray := (f.kids.headD f).t
def Nd.vals (n : Nd) : List ByteArray := n.kids.map valT
/-- A tree's text in the delim syntax. -/
def Nd.dlm (n : Nd) : List UInt8 := if n.kids.isEmpty then [] else lineD (n.kids.headD n).keys ++ n.kids.flatMap fun k => lineD k.vals
/-- A field with a text. -/
def FieldD (f : Nd) : Prop := ∃ a b, f = .mk 8 a emp [.mk 4 b emp []] ∧ Lib.validD a.data.toList = true ∧ Lib.validD b.data.toList = true
structure RowD (ks : List ByteArray) (x : Nd) : Prop where
  k : x.k = 7
  t : x.t = emp
  v : x.v = emp
  ne : x.kids ≠ []
  few : x.kids.length ≤ 8
  keys : x.keys = ks
  fields : ∀ f ∈ x.kids, FieldD f
/-- What the delim syntax tells. -/
structure Dl (n : Nd) : Prop where
  k : n.k = 5
  t : n.t = emp
  v : n.v = emp
  row : ∀ x ∈ n.kids, RowD (n.kids.headD n).keys x
theorem right_may {k : Int} {t v : ByteArray} (h : RP (GoEv.ev ⟨k, t, v⟩) = true) (hk : k = 4 ∨ k = 8) : Lib.validD t.data.toList = true := by
  unfold RP rightP GoEv.ev at h
  simp only [] at h
  rw [if_neg (by omega), if_neg (by omega), if_neg (by omega), if_pos hk, Bool.and_eq_true] at h
  have h2 := h.2
  unfold Ev5.mayP at h2
  simp only [Bool.and_eq_true, decide_eq_true_eq] at h2
  exact h2.1
theorem tf_right {n : Nd} (h : Tf RP n) : RP (GoEv.ev ⟨n.k, n.t, n.v⟩) = true ∧ oddK n.k n.kids.length = false ∧ ∀ x ∈ n.kids, Kin n.k x.k := by
  cases h with
  | mk k t v ks hr ho hk ht => exact ⟨hr, ho, hk⟩
theorem dl_of {n : Nd} (h : (ofP tpD n).2 = 0) : Dl n := by
  have hw := (ofP_ok h).2
  obtain ⟨htf, hval⟩ := tf_wh hw
  unfold ofP at h
  rw [if_neg (by rw [hw]; simp)] at h
  have hf : firstP tpD [] n [] = none := by
    cases hf : firstP tpD [] n [] with
    | none => rfl
    | some q => rw [hf] at h; cases h
  clear h
  have h1 : tpD ([] ++ [n]) = true := by
    cases h1 : tpD ([] ++ [n]) with
    | true => rfl
    | false => rw [firstP_no h1] at hf; cases hf
  have k5 : n.k = 5 := of_decide_eq_true h1
  rw [firstP_kids h1, kidsO_none_iff] at hf
  obtain ⟨hr, ho, hk⟩ := tf_right htf
  obtain ⟨t5, v5⟩ := right_plain hr (by omega)
  refine ⟨k5, t5, v5, fun x hx => ?_⟩
  obtain ⟨i, hi, hxi⟩ := List.getElem_of_mem hx
  have hf2 := hf i hi
  rw [dif_pos hi, hxi] at hf2
  have htx := htf.kid hx
  generalize ([] : List Int) ++ [(i : Int)] = p at hf2
  have h2 : tpD ([] ++ [n] ++ [x]) = true := by
    cases h2 : tpD ([] ++ [n] ++ [x]) with
    | true => rfl
    | false => rw [firstP_no h2] at hf2; cases hf2
  have h2' : tpD [n, x] = true := h2
  simp only [tpD, Bool.and_eq_true, decide_eq_true_eq] at h2'
  obtain ⟨⟨⟨x7, xne⟩, x8⟩, xk⟩ := h2'
  rw [firstP_kids h2, kidsO_none_iff] at hf2
  obtain ⟨xr, xo, xK⟩ := tf_right htx
  obtain ⟨xt, xv⟩ := right_plain xr (by omega)
  refine ⟨x7, xt, xv, xne, x8, ?_, fun f hfm => ?_⟩
  · rw [xk]
    cases hn : n.kids with
    | nil => rw [hn] at hx; cases hx
    | cons a b => rfl
  obtain ⟨j, hj, hfj⟩ := List.getElem_of_mem hfm
  have hf3 := hf2 j hj
  rw [dif_pos hj, hfj] at hf3
  have htf3 := htx.kid hfm
  obtain ⟨fr, fo, fK⟩ := tf_right htf3
  have f8 : f.k = 8 := (kin_key (xK f hfm)).2 x7
  generalize p ++ [(j : Int)] = p2 at hf3
  have h3 : tpD ([] ++ [n] ++ [x] ++ [f]) = true := rfl
  rw [firstP_kids h3, kidsO_none_iff] at hf3
  obtain ⟨fk, ft, fv, fks⟩ := f
  simp only [Nd.k, Nd.t, Nd.v, Nd.kids] at *
  subst f8
  have hl : fks.length = 1 := by
    rcases odd_kind fo with ⟨e, _⟩ | ⟨_, e⟩ | e
    · omega
    · exact e
    · omega
  match fks, hl with
  | [y], _ =>
    have hf4 := hf3 0 (by simp)
    have hf4 : firstP tpD ([] ++ [n] ++ [x] ++ [Nd.mk 8 ft fv [y]]) y (p2 ++ [((0 : Nat) : Int)]) = none := hf4
    have h4 : tpD ([] ++ [n] ++ [x] ++ [Nd.mk 8 ft fv [y]] ++ [y]) = true := by
      cases h4 : tpD ([] ++ [n] ++ [x] ++ [Nd.mk 8 ft fv [y]] ++ [y]) with
      | true => rfl
      | false => rw [firstP_no h4] at hf4; cases hf4
    have y4 : y.k = 4 := of_decide_eq_true h4
    have hty : Tf RP y := htf3.kid (n := .mk 8 ft fv [y]) (by simp [Nd.kids])
    obtain ⟨yr, _, _⟩ := tf_right hty
    have ykids := tf_leaf hty y4
    have hv1 := right_may fr (.inr rfl)
    have hv2 := right_may yr (.inl y4)
    obtain ⟨fv0, _⟩ := right_text fr (.inr rfl)
    obtain ⟨yv0, _⟩ := right_text yr (.inl y4)
    obtain ⟨yk, yt, yv, yks⟩ := y
    simp only [Nd.k, Nd.t, Nd.v, Nd.kids] at y4 ykids hv2 yv0
    subst y4 ykids yv0 fv0
    exact ⟨ft, yt, rfl, hv1, hv2⟩
/-! Cells: a prefix code. -/
theorem cutT {T : UInt8 → Prop} : ∀ (l m r s : List UInt8), (∀ b ∈ l, ¬ T b) → (∀ b ∈ m, ¬ T b) → (∃ c r', r = c :: r' ∧ T c) → (∃ c r', s = c :: r' ∧ T c) → l ++ r = m ++ s → l = m ∧ r = s
  | [], [], r, s, _, _, _, _, h => ⟨rfl, h⟩
  | [], d :: m, r, s, _, hm, ⟨c, r', hr, hc⟩, _, h => by
    subst hr
    injection h with h _
    subst h
    exact absurd hc (hm c (by simp))
  | a :: l, [], r, s, hl, _, _, ⟨c, r', hs, hc⟩, h => by
    subst hs
    injection h with h _
    subst h
    exact absurd hc (hl a (by simp))
  | a :: l, d :: m, r, s, hl, hm, hr, hs, h => by
    injection h with h1 h2
    obtain ⟨e1, e2⟩ := cutT l m r s (fun b hb => hl b (by simp [hb])) (fun b hb => hm b (by simp [hb])) hr hs h2
    exact ⟨by rw [h1, e1], e2⟩
theorem dbl_inj : ∀ (l m r s : List UInt8), r.head? ≠ some 34 → s.head? ≠ some 34 → l.flatMap dblB ++ 34 :: r = m.flatMap dblB ++ 34 :: s → l = m ∧ r = s
  | [], [], r, s, _, _, h => by injection h with _ h; exact ⟨rfl, h⟩
  | [], d :: m, r, s, hr, _, h => by
    exfalso
    rw [List.flatMap_cons] at h
    unfold dblB at h
    by_cases hd : d = 34
    · rw [if_pos hd] at h
      injection h with _ h
      have h : r = 34 :: (m.flatMap dblB ++ 34 :: s) := h
      exact hr (by rw [h]; rfl)
    · rw [if_neg hd] at h
      injection h with h _
      exact hd h.symm
  | c :: l, [], r, s, _, hs, h => by
    exfalso
    rw [List.flatMap_cons] at h
    unfold dblB at h
    by_cases hd : c = 34
    · rw [if_pos hd] at h
      injection h with _ h
      have h : 34 :: (l.flatMap dblB ++ 34 :: r) = s := h
      exact hs (by rw [← h]; rfl)
    · rw [if_neg hd] at h
      injection h with h _
      exact hd h
  | c :: l, d :: m, r, s, hr, hs, h => by
    rw [List.flatMap_cons, List.flatMap_cons, List.append_assoc, List.append_assoc] at h
    have key : c = d ∧ l.flatMap dblB ++ 34 :: r = m.flatMap dblB ++ 34 :: s := by
      unfold dblB at h
      by_cases hc : c = 34
      · by_cases hd : d = 34
        · rw [if_pos hc, if_pos hd] at h
          injection h with _ h
          injection h with _ h
          exact ⟨hc.trans hd.symm, h⟩
        · rw [if_pos hc, if_neg hd] at h
          injection h with h _
          exact absurd h.symm hd
      · by_cases hd : d = 34
        · rw [if_neg hc, if_pos hd] at h
          injection h with h _
          exact absurd h hc
        · rw [if_neg hc, if_neg hd] at h
          injection h with h1 h
          exact ⟨h1, h⟩
    obtain ⟨e1, e2⟩ := dbl_inj l m r s hr hs key.2
    exact ⟨by rw [key.1, e1], e2⟩
def EndC (r : List UInt8) : Prop := ∃ c r', r = c :: r' ∧ (c = 44 ∨ c = 10)
theorem EndC.head {r : List UInt8} (h : EndC r) : r.head? ≠ some 34 := by
  obtain ⟨c, r', rfl, hc⟩ := h
  intro e
  injection e with e
  subst e
  rcases hc with h | h <;> revert h <;> decide
theorem bare_not {l : List UInt8} (h : ¬ l.any oddC = true) : ∀ b ∈ l, ¬ (b = 44 ∨ b = 10) ∧ b ≠ 34 := by
  intro b hb
  have h1 : oddC b = false := by
    cases h1 : oddC b with
    | false => rfl
    | true => exact absurd (List.any_eq_true.2 ⟨b, hb, h1⟩) h
  refine ⟨?_, ?_⟩
  · rintro (rfl | rfl) <;> revert h1 <;> decide
  · rintro rfl; revert h1; decide
theorem cell_inj {l m r s : List UInt8} (hr : EndC r) (hs : EndC s) (h : cellD l ++ r = cellD m ++ s) : l = m ∧ r = s := by
  unfold cellD at h
  by_cases h1 : l.any oddC = true
  · rw [if_pos h1] at h
    by_cases h2 : m.any oddC = true
    · rw [if_pos h2] at h
      injection h with _ h
      have h : (l.flatMap dblB ++ [34]) ++ r = (m.flatMap dblB ++ [34]) ++ s := h
      rw [List.append_assoc, List.append_assoc] at h
      exact dbl_inj l m r s hr.head hs.head h
    · exfalso
      rw [if_neg h2] at h
      match m, h, bare_not h2 with
      | [], h, _ => exact hs.head (by rw [List.nil_append] at h; rw [← h]; rfl)
      | d :: m, h, hb =>
        injection h with h _
        exact (hb d (by simp)).2 h.symm
  · rw [if_neg h1] at h
    by_cases h2 : m.any oddC = true
    · exfalso
      rw [if_pos h2] at h
      match l, h, bare_not h1 with
      | [], h, _ => exact hr.head (by rw [List.nil_append] at h; rw [h]; rfl)
      | d :: l, h, hb =>
        injection h with h _
        exact (hb d (by simp)).2 h
    · rw [if_neg h2] at h
      exact cutT (T := fun c => c = 44 ∨ c = 10) l m r s (fun b hb => (bare_not h1 b hb).1) (fun b hb => (bare_not h2 b hb).1) hr hs h
theorem tailD_cons (x : List UInt8) (r : List (List UInt8)) : Lib.joinTail [44] (x :: r) = 44 :: (x ++ Lib.joinTail [44] r) := by simp [Lib.joinTail]
theorem tailD_nil : Lib.joinTail [44] [] = [] := by simp [Lib.joinTail]
theorem endC_tail (l : List (List UInt8)) (r : List UInt8) : EndC (Lib.joinTail [44] l ++ 10 :: r) := by
  cases l with
  | nil => rw [tailD_nil]; exact ⟨10, r, rfl, .inr rfl⟩
  | cons x l => rw [tailD_cons]; exact ⟨44, _, rfl, .inl rfl⟩
theorem tailD_inj : ∀ (L M : List ByteArray) (r s : List UInt8), Lib.joinTail [44] (L.map cellT) ++ 10 :: r = Lib.joinTail [44] (M.map cellT) ++ 10 :: s → L = M ∧ r = s
  | [], [], r, s, h => by
    rw [List.map_nil, tailD_nil] at h
    injection h with _ h
    exact ⟨rfl, h⟩
  | [], y :: M, r, s, h => by
    rw [List.map_nil, List.map_cons, tailD_nil, tailD_cons] at h
    injection h with h _
    exact absurd h (by decide)
  | x :: L, [], r, s, h => by
    rw [List.map_nil, List.map_cons, tailD_nil, tailD_cons] at h
    injection h with h _
    exact absurd h (by decide)
  | x :: L, y :: M, r, s, h => by
    rw [List.map_cons, List.map_cons, tailD_cons, tailD_cons] at h
    simp only [List.cons_append, List.append_assoc] at h
    injection h with _ h
    obtain ⟨e1, e2⟩ := cell_inj (endC_tail _ _) (endC_tail _ _) h
    obtain ⟨e3, e4⟩ := tailD_inj L M r s e2
    exact ⟨by rw [ba_ext e1, e3], e4⟩
theorem lineD_inj {L M : List ByteArray} {r s : List UInt8} (hL : L ≠ []) (hM : M ≠ []) (h : lineD L ++ r = lineD M ++ s) : L = M ∧ r = s := by
  obtain ⟨x, L, rfl⟩ := List.exists_cons_of_ne_nil hL
  obtain ⟨y, M, rfl⟩ := List.exists_cons_of_ne_nil hM
  unfold lineD at h
  rw [List.map_cons, List.map_cons, Lib.join_cons, Lib.join_cons] at h
  simp only [List.append_assoc] at h
  obtain ⟨e1, e2⟩ := cell_inj (endC_tail _ _) (endC_tail _ _) h
  obtain ⟨e3, e4⟩ := tailD_inj L M r s e2
  exact ⟨by rw [ba_ext e1, e3], e4⟩
theorem lineD_ne (L : List ByteArray) (r : List UInt8) : lineD L ++ r ≠ [] := by
  unfold lineD; simp
theorem rowsD_inj : ∀ (ks ms : List Nd), (∀ x ∈ ks, x.kids ≠ []) → (∀ x ∈ ms, x.kids ≠ []) → ks.flatMap (fun k => lineD k.vals) = ms.flatMap (fun k => lineD k.vals) → ks.map Nd.vals = ms.map Nd.vals
  | [], [], _, _, _ => rfl
  | [], y :: ms, _, _, h => by
    rw [List.flatMap_cons] at h
    exact absurd h.symm (lineD_ne _ _)
  | x :: ks, [], _, _, h => by
    rw [List.flatMap_cons] at h
    exact absurd h (lineD_ne _ _)
  | x :: ks, y :: ms, hk, hm, h => by
    rw [List.flatMap_cons, List.flatMap_cons] at h
    have hx := hk x (by simp)
    have hy := hm y (by simp)
    obtain ⟨e1, e2⟩ := lineD_inj (by unfold Nd.vals; simpa using hx) (by unfold Nd.vals; simpa using hy) h
    have e3 := rowsD_inj ks ms (fun z hz => hk z (by simp [hz])) (fun z hz => hm z (by simp [hz])) e2
    rw [List.map_cons, List.map_cons, e1, e3]
theorem fields_eq : ∀ (l m : List Nd), (∀ f ∈ l, FieldD f) → (∀ f ∈ m, FieldD f) → l.map Nd.t = m.map Nd.t → l.map valT = m.map valT → l = m
  | [], [], _, _, _, _ => rfl
  | [], _ :: _, _, _, h, _ => by cases h
  | _ :: _, [], _, _, h, _ => by cases h
  | f :: l, g :: m, hl, hm, h1, h2 => by
    rw [List.map_cons, List.map_cons] at h1 h2
    injection h1 with a1 a2
    injection h2 with b1 b2
    obtain ⟨a, b, rfl, _, _⟩ := hl f (by simp)
    obtain ⟨c, d, rfl, _, _⟩ := hm g (by simp)
    rw [fields_eq l m (fun z hz => hl z (by simp [hz])) (fun z hz => hm z (by simp [hz])) a2 b2]
    have a1 : a = c := a1
    have b1 : b = d := b1
    rw [a1, b1]
theorem rows_eq {ks : List ByteArray} : ∀ (l m : List Nd), (∀ x ∈ l, RowD ks x) → (∀ x ∈ m, RowD ks x) → l.map Nd.vals = m.map Nd.vals → l = m
  | [], [], _, _, _ => rfl
  | [], _ :: _, _, _, h => by cases h
  | _ :: _, [], _, _, h => by cases h
  | x :: l, y :: m, hl, hm, h => by
    rw [List.map_cons, List.map_cons] at h
    injection h with a1 a2
    rw [rows_eq l m (fun z hz => hl z (by simp [hz])) (fun z hz => hm z (by simp [hz])) a2]
    have hx := hl x (by simp)
    have hy := hm y (by simp)
    have e := fields_eq x.kids y.kids hx.fields hy.fields (hx.keys.trans hy.keys.symm) a1
    obtain ⟨xk, xt, xv, xs⟩ := x
    obtain ⟨yk, yt, yv, ys⟩ := y
    have k1 := hx.k; have k2 := hy.k; have t1 := hx.t; have t2 := hy.t; have v1 := hx.v; have v2 := hy.v
    simp only [Nd.k, Nd.t, Nd.v, Nd.kids] at k1 k2 t1 t2 v1 v2 e
    rw [k1, k2, t1, t2, v1, v2, e]
theorem keys_ne {x : Nd} (h : x.kids ≠ []) : x.keys ≠ [] := by
  unfold Nd.keys; simpa using h
/-- Two trees that the delim syntax tells are printed alike just if they are the same. -/
theorem dlm_same {a b : Nd} (ha : (ofP tpD a).2 = 0) (hb : (ofP tpD b).2 = 0) : a.dlm = b.dlm ↔ a = b := by
  refine ⟨fun h => ?_, fun h => by rw [h]⟩
  have h1 := dl_of ha
  have h2 := dl_of hb
  have key : a.kids = b.kids := by
    unfold Nd.dlm at h
    by_cases ka : a.kids = []
    · rw [if_pos (by rw [ka]; rfl)] at h
      by_cases kb : b.kids = []
      · rw [ka, kb]
      · rw [if_neg (by simpa using kb)] at h
        exact absurd h.symm (lineD_ne _ _)
    · rw [if_neg (by simpa using ka)] at h
      by_cases kb : b.kids = []
      · rw [if_pos (by rw [kb]; rfl)] at h
        exact absurd h (lineD_ne _ _)
      · rw [if_neg (by simpa using kb)] at h
        have ra := h1.row
        have rb := h2.row
        have na : (a.kids.headD a).keys ≠ [] := by
          obtain ⟨x, l, e⟩ := List.exists_cons_of_ne_nil ka
          rw [e]
          exact keys_ne (ra x (by rw [e]; simp)).ne
        have nb : (b.kids.headD b).keys ≠ [] := by
          obtain ⟨x, l, e⟩ := List.exists_cons_of_ne_nil kb
          rw [e]
          exact keys_ne (rb x (by rw [e]; simp)).ne
        obtain ⟨e1, e2⟩ := lineD_inj na nb h
        rw [← e1] at rb
        exact rows_eq _ _ ra rb (rowsD_inj _ _ (fun x hx => (ra x hx).ne) (fun x hx => (rb x hx).ne) e2)
  have k1 := h1.k; have k2 := h2.k; have t1 := h1.t; have t2 := h2.t; have v1 := h1.v; have v2 := h2.v
  obtain ⟨ak, ta, av, aks⟩ := a
  obtain ⟨bk, tb, bv, bks⟩ := b
  simp only [Nd.k, Nd.t, Nd.v, Nd.kids] at k1 k2 t1 t2 v1 v2 key
  rw [k1, k2, t1, t2, v1, v2, key]
end Go.Proofs.YtaolnpiemeaabaaGreatDoor

/- Plain Lean: every quote doubled. -/
namespace Go.Proofs.YtaolnpiemeaabaaGreatDoor
open Ev5
set_option linter.unusedSimpArgs false
set_option linter.unusedVariables false

theorem repl_ne (k : Nat) (b : UInt8) (l : List UInt8) (hb : b ≠ 34) : Lib.replaceK [34] [34, 34] k (b :: l) = b :: Lib.replaceK [34] [34, 34] k l := by
  cases k with
  | zero => simp [Lib.replaceK]
  | succ k =>
    have hi : Lib.index (b :: l) [34] = if Lib.index l [34] = -1 then -1 else Lib.index l [34] + 1 := by
      rw [Lib.index_one, Lib.index_one, idx_cons, if_neg hb]
    have hge := Lib.index_ge l [34]
    by_cases hm : Lib.index l [34] = -1
    · rw [if_pos hm] at hi
      simp [Lib.replaceK, hi, hm]
    · rw [if_neg hm] at hi
      obtain ⟨i, hi2⟩ : ∃ i : Nat, Lib.index l [34] = i := ⟨(Lib.index l [34]).toNat, by omega⟩
      rw [Lib.replaceK_hit _ _ k (b :: l) (i + 1) (by rw [hi, hi2]; rfl), Lib.replaceK_hit _ _ k l i hi2]
      simp only [List.length_singleton, List.take_succ_cons, List.cons_append]
      rw [show i + 1 + 1 = (i + 1) + 1 from rfl, List.drop_succ_cons]
theorem repl_eq (k : Nat) (l : List UInt8) : Lib.replaceK [34] [34, 34] (k + 1) (34 :: l) = 34 :: 34 :: Lib.replaceK [34] [34, 34] k l := by
  rw [Lib.replaceK_hit _ _ k (34 :: l) 0 (by rw [Lib.index_one, idx_cons, if_pos rfl]; rfl)]
  simp
theorem repl_dblK : ∀ l : List UInt8, Lib.replaceK [34] [34, 34] (l.count 34) l = l.flatMap dblB
  | [] => by simp [Lib.replaceK]
  | b :: l => by
    rw [List.flatMap_cons, ← repl_dblK l]
    by_cases hb : b = 34
    · subst hb
      rw [List.count_cons_self, repl_eq]; rfl
    · rw [List.count_cons_of_ne hb, repl_ne _ _ _ hb]
      unfold dblB
      rw [if_neg hb]; rfl
theorem repl_dbl (l : List UInt8) : Lib.replaceAll l [34] [34, 34] = l.flatMap dblB := by
  unfold Lib.replaceAll Lib.replace
  rw [if_neg (by decide), show Lib.replaceNum l [34] (-1) = l.count 34 by unfold Lib.replaceNum; rw [if_pos (.inl (by decide)), Lib.count_one]]
  exact repl_dblK l
theorem dbl_len : ∀ l : List UInt8, (l.flatMap dblB).length ≤ 2 * l.length
  | [] => by simp
  | b :: l => by
    have := dbl_len l
    rw [List.flatMap_cons, List.length_append, List.length_cons]
    have h : (dblB b).length ≤ 2 := by unfold dblB; split <;> simp
    omega
theorem cellT_len (t : ByteArray) : (cellT t).length ≤ 2 * t.size + 2 := by
  have h := dbl_len t.data.toList
  have h2 : t.data.toList.length = t.size := Array.length_toList
  unfold cellT cellD
  split
  · simp only [List.length_cons, List.length_append, List.length_nil]; omega
  · omega
end Go.Proofs.YtaolnpiemeaabaaGreatDoor

/- Plain Lean: the delim syntax's lines, one after the other. -/
namespace Go.Proofs.YtaolnpiemeaabaaGreatDoor
open Ev5
set_option linter.unusedSimpArgs false
set_option linter.unusedVariables false

/-- The first cells of a row. -/
def joinD (l : List ByteArray) (i : Nat) : List UInt8 := Lib.join ((l.take i).map cellT) [44]
theorem joinD_zero (l : List ByteArray) : joinD l 0 = [] := rfl
theorem joinD_one {l : List ByteArray} (h : 0 < l.length) : joinD l 1 = cellT l[0] := by
  match l, h with
  | x :: r, _ => show Lib.join [cellT x] [44] = _; rw [Lib.join_one]; rfl
theorem joinD_succ {l : List ByteArray} {i : Nat} (h0 : 0 < i) (h : i < l.length) : joinD l (i + 1) = joinD l i ++ 44 :: cellT l[i] := by
  match l, i, h0, h with
  | x :: r, k + 1, _, h =>
    have hk : k < r.length := by simpa using h
    unfold joinD
    rw [List.take_succ_cons, List.take_succ_cons, List.map_cons, List.map_cons, Lib.join_cons, Lib.join_cons, List.map_take, List.map_take, Lib.joinTail_take_succ [44] (r.map cellT) k (cellT r[k]) (by simp [hk])]
    simp
theorem joinD_all (l : List ByteArray) : lineD l = joinD l l.length ++ [10] := by unfold lineD joinD; rw [List.take_length]
theorem lens_cells (l : List ByteArray) (h : ∀ x ∈ l, x.size ≤ 1048576) : Lib.lens (l.map cellT) ≤ 2097154 * l.length := by
  induction l with
  | nil => simp [Lib.lens]
  | cons x r ih =>
    have h1 := ih fun y hy => h y (by simp [hy])
    have h2 := cellT_len x
    have h3 := h x (by simp)
    unfold Lib.lens at *
    rw [List.map_cons, List.map_cons, List.sum_cons, List.length_cons]
    omega
theorem joinD_len {l : List ByteArray} (h : ∀ x ∈ l, x.size ≤ 1048576) (i : Nat) : (joinD l i).length ≤ 2097155 * l.length := by
  have h1 : (l.take i).length ≤ l.length := by rw [List.length_take]; omega
  have h2 := lens_cells (l.take i) fun x hx => h x (List.mem_of_mem_take hx)
  unfold joinD
  generalize l.take i = m at *
  match m with
  | [] => exact Nat.zero_le _
  | x :: r =>
    rw [List.map_cons, Lib.join_length, List.length_map]
    rw [List.map_cons] at h2
    simp only [List.length_cons, List.length_nil] at *
    omega
theorem joinD_len8 {l : List ByteArray} (h : ∀ x ∈ l, x.size ≤ 1048576) (h8 : l.length ≤ 8) (i : Nat) : (joinD l i).length ≤ 16777240 := by
  have := joinD_len h i
  omega
/-- The first lines. -/
def linesD (R : List (List ByteArray)) (m : Nat) : List UInt8 := (R.take m).flatMap lineD
theorem linesD_zero (R : List (List ByteArray)) : linesD R 0 = [] := rfl
theorem linesD_succ {R : List (List ByteArray)} {m : Nat} (h : m < R.length) : linesD R (m + 1) = linesD R m ++ lineD R[m] := by
  unfold linesD
  rw [List.take_add_one, List.getElem?_eq_getElem h, List.flatMap_append]; simp
theorem linesD_len {R : List (List ByteArray)} (h : ∀ r ∈ R, r.length ≤ 8 ∧ ∀ x ∈ r, x.size ≤ 1048576) (m : Nat) : (linesD R m).length ≤ 16777241 * R.length := by
  have key : ∀ T : List (List ByteArray), (∀ r ∈ T, r.length ≤ 8 ∧ ∀ x ∈ r, x.size ≤ 1048576) → (T.flatMap lineD).length ≤ 16777241 * T.length := by
    intro T
    induction T with
    | nil => intro _; simp
    | cons r T ih =>
      intro h
      have h1 := ih fun y hy => h y (by simp [hy])
      have h2 := h r (by simp)
      have h3 := joinD_len8 h2.2 h2.1 r.length
      rw [List.flatMap_cons, List.length_append, joinD_all, List.length_append, List.length_singleton, List.length_cons]
      omega
  have h1 := key (R.take m) fun r hr => h r (List.mem_of_mem_take hr)
  have h2 : (R.take m).length ≤ R.length := by rw [List.length_take]; omega
  unfold linesD
  omega
/-- The rows of a tree: the keys ahead. -/
def rowsL (n : Nd) : List (List ByteArray) := (n.kids.headD n).keys :: n.kids.map Nd.vals
theorem rowsL_len (n : Nd) : (rowsL n).length = n.kids.length + 1 := by simp [rowsL]
theorem rowsL_zero (n : Nd) (h : 0 < n.kids.length) : (rowsL n)[0]'(by rw [rowsL_len]; omega) = n.kids[0].keys := by
  obtain ⟨k, t, v, ks⟩ := n
  simp only [Nd.kids] at h
  match ks, h with
  | x :: r, _ => rfl
theorem rowsL_succ (n : Nd) {i : Nat} (h : i < n.kids.length) : (rowsL n)[i + 1]'(by rw [rowsL_len]; omega) = n.kids[i].vals := by simp [rowsL]
theorem dlm_rows {n : Nd} (h : n.kids ≠ []) : n.dlm = linesD (rowsL n) (n.kids.length + 1) := by
  unfold Nd.dlm linesD
  rw [if_neg (by simpa using h), List.take_of_length_le (by rw [rowsL_len]; exact Nat.le_refl _)]
  unfold rowsL
  rw [List.flatMap_cons, List.flatMap_map]
theorem field_ok {f : Nd} (h : FieldD f) (hok : f.ok) : f.t.size ≤ 1048576 ∧ (valT f).size ≤ 1048576 := by
  obtain ⟨a, b, rfl, _, _⟩ := h
  rw [ok_mk] at hok
  refine ⟨hok.1.t, ?_⟩
  have h1 := (oks_iff _).1 hok.2 (.mk 4 b emp []) (by simp)
  rw [ok_mk] at h1
  exact h1.1.t
theorem row_ok {ks : List ByteArray} {x : Nd} (h : RowD ks x) (hok : x.ok) : (x.keys.length ≤ 8 ∧ ∀ y ∈ x.keys, y.size ≤ 1048576) ∧ (x.vals.length ≤ 8 ∧ ∀ y ∈ x.vals, y.size ≤ 1048576) := by
  have hk : ∀ f ∈ x.kids, f.ok := by
    obtain ⟨k, t, v, fs⟩ := x
    rw [ok_mk] at hok
    exact (oks_iff _).1 hok.2
  refine ⟨⟨by unfold Nd.keys; rw [List.length_map]; exact h.few, fun y hy => ?_⟩, by unfold Nd.vals; rw [List.length_map]; exact h.few, fun y hy => ?_⟩
  · obtain ⟨f, hf, rfl⟩ := List.mem_map.1 hy
    exact (field_ok (h.fields f hf) (hk f hf)).1
  · obtain ⟨f, hf, rfl⟩ := List.mem_map.1 hy
    exact (field_ok (h.fields f hf) (hk f hf)).2
theorem rowsL_ok {n : Nd} (h : Dl n) (hok : n.ok) (hk : n.kids ≠ []) : ∀ r ∈ rowsL n, r.length ≤ 8 ∧ ∀ x ∈ r, x.size ≤ 1048576 := by
  have hn : ∀ f ∈ n.kids, f.ok := by
    obtain ⟨k, t, v, fs⟩ := n
    rw [ok_mk] at hok
    exact (oks_iff _).1 hok.2
  intro r hr
  rcases List.mem_cons.1 hr with rfl | hr
  · obtain ⟨x, l, e⟩ := List.exists_cons_of_ne_nil hk
    have hx : x ∈ n.kids := by rw [e]; simp
    have h1 := (row_ok (h.row x hx) (hn x hx)).1
    rw [e]
    exact h1
  · obtain ⟨x, hx, rfl⟩ := List.mem_map.1 hr
    exact (row_ok (h.row x hx) (hn x hx)).2
theorem linesD_bound {n : Nd} (h : Dl n) (hok : n.ok) (hN : n.size ≤ 50000) (hk : n.kids ≠ []) (m : Nat) : (linesD (rowsL n) m).length ≤ 16777241 * 50001 := by
  have h1 := linesD_len (rowsL_ok h hok hk) m
  rw [rowsL_len] at h1
  have h2 := sizes_len n.kids
  have h3 := kids_size n
  omega
end Go.Proofs.YtaolnpiemeaabaaGreatDoor

/- The walk of hexaplaref18.cell. -/
namespace Go.Proofs.YtaolnpiemeaabaaGreatDoor
open Go.RowKit Ev5
set_option linter.unusedSimpArgs false
set_option linter.unusedVariables false

theorem own_snoc {w : World} {B : Nat} {v : Value} {X : List UInt8} {c : UInt8} {n : Nat} (h : w.ownsRow B 5 1 v (X.length + 1) (Lib.byteCells X ++ [.int .u8 (n : Int)])) (hn : c.toNat = n) : w.ownsRow B 5 1 v (X ++ [c]).length (Lib.byteCells (X ++ [c])) := by
  subst hn
  rw [bc_app, List.length_append, List.length_singleton]
  exact h
theorem conv_q (w : World) : (convert 44 9 (.slice (some ⟨w.heap.size, 0, none⟩) 1 1)).run Tryz.prog (w.alloc (.cells #[.int .u8 34] 5)) = .ok (.string ⟨#[34]⟩) (w.alloc (.cells #[.int .u8 34] 5)) :=
  conv_own (B := w.heap.size) (l := [34]) ⟨rfl, .inr ⟨w.heap.size, 1, #[.int .u8 34], rfl, Nat.le_refl _, heap_alloc_new w _, Nat.le_refl _, by decide, rfl, rfl⟩⟩ (by simp)
theorem dTo_one {l : List UInt8} {i : Nat} (h : i < l.length) : (l.take (i + 1)).flatMap dblB = (l.take i).flatMap dblB ++ dblB l[i] := by
  rw [List.take_add_one, List.getElem?_eq_getElem h, List.flatMap_append]; simp
theorem dTo_any {l : List UInt8} {i : Nat} (h : i < l.length) : (l.take (i + 1)).any oddC = ((l.take i).any oddC || oddC l[i]) := by
  rw [List.take_add_one, List.getElem?_eq_getElem h, List.any_append]; simp
theorem dTo_len (l : List UInt8) (i : Nat) : ((l.take i).flatMap dblB).length ≤ 2 * l.length := by
  have h1 := dbl_len (l.take i)
  have h2 : (l.take i).length ≤ l.length := by rw [List.length_take]; omega
  omega
set_option maxRecDepth 1000000 in
set_option maxHeartbeats 8000000 in
theorem refCell_any (s : ByteArray) (w : World) (hs : s.size ≤ 1048576) :
    Calls Tryz.prog 28 #[.string s] w fun e w' => e = .returned (strV (cellT s)) ∧ Below w.heap.size w w' := by
  have HPQ := Lib.hid (show cellT s = if s.data.toList.any oddC = true then 34 :: (s.data.toList.flatMap dblB ++ [34]) else s.data.toList from rfl)
  obtain ⟨i0, hinf, hz0, hz1, hz2⟩ := info_parts Tryz.Builder_Extra_159.infoByte
  have HI := Lib.hid hinf
  have HN := Lib.hid (show s.data.toList.length = s.size from Array.length_toList)
  clear hinf
  go_enter Tryz.func28, Tryz.ntmps28
  go_wp2_with fail
  go_loopw [3, 4, 5] (fun v3 v4 v5 wr => ∃ (i : Nat) (X : List UInt8) (Q : Bool), i ≤ s.size ∧ v5 = .int .i64 i ∧ v3 = .bool Q ∧ Hid ((s.data.toList.take i).any oddC = Q) ∧ Hid ((s.data.toList.take i).flatMap dblB = X) ∧ Hid (wr.ownsRow w.heap.size 5 1 v4 X.length (Lib.byteCells X)) ∧ Hid (Below w.heap.size w wr)) (fun _ _ v5 _ => s.size - (intOf v5).toNat)
  case atStart => exact ⟨0, [], false, Nat.zero_le _, rfl, rfl, by show _ = _; simp, by show _ = _; simp, World.ownsRow_nil _ _ _ _, Below.refl _ _⟩
  case round =>
    obtain ⟨i, X, Q, hi, rfl, rfl, HQ, HX, HOW, HB⟩ := hrel
    obtain ⟨va, vc, rfl⟩ := ownr_shape HOW.out
    have HLX := Lib.hid (show X.length ≤ 2097152 by have h1 := dTo_len s.data.toList i; rw [HX.out, HN.out] at h1; omega)
    by_cases hlt : i < s.size
    · have hil : i < s.data.toList.length := by rw [HN.out]; exact hlt
      have hi0 : (0 : Int) ≤ (i : Int) := Int.natCast_nonneg _
      have hi1 : (i : Int) < (s.size : Int) := by omega
      have HSQ := Lib.hid (dTo_any hil)
      have HSX := Lib.hid (dTo_one hil)
      obtain ⟨c, hc⟩ : ∃ c, s.data.toList[i] = c := ⟨_, rfl⟩
      obtain ⟨n, hx⟩ : ∃ n, (s[i]'hlt).toNat = n := ⟨_, rfl⟩
      have hxl : c.toNat = n := by rw [← hc]; exact hx ▸ congrArg UInt8.toNat (Array.getElem_toList (xs := s.data) (i := i) hlt)
      have hn256 : n < 256 := hx ▸ UInt8.toNat_lt _
      rw [hc, HQ.out] at HSQ
      rw [hc, HX.out] at HSX
      have HC := Lib.hid hxl
      have HBW := Lib.hid (show Below w.heap.size w wr from HB.out)
      clear hc hxl hil HQ HX
      have hcs : (Q = true ∧ n = 34) ∨ (Q = true ∧ n ≠ 34) ∨ (Q = false ∧ n = 34) ∨ (Q = false ∧ n = 44) ∨ (Q = false ∧ n < 32) ∨ (Q = false ∧ 32 ≤ n ∧ n ≠ 34 ∧ n ≠ 44) := by
        cases Q <;> simp <;> omega
      rcases hcs with ⟨rfl, rfl⟩ | ⟨rfl, h1⟩ | ⟨rfl, rfl⟩ | ⟨rfl, rfl⟩ | ⟨rfl, h1⟩ | ⟨rfl, h1, h2, h3⟩
      · skip
        obtain rfl : c = 34 := UInt8.toNat_inj.1 HC.out
        have HS2 := Lib.hid (show (s.data.toList.take (i + 1)).any oddC = true by rw [HSQ.out]; simp [oddC])
        have HX2 := Lib.hid (show (s.data.toList.take (i + 1)).flatMap dblB = X ++ [34] ++ [34] by rw [HSX.out]; simp [dblB])
        have HOWd := Lib.hid (show (wr.alloc (.cells #[.int .u8 34] 5)).ownsRow w.heap.size 5 1 (.slice va X.length vc) X.length (Lib.byteCells X) from ownr_alloc HOW.out _)
        go_wp2_with (at_builtin; refine wpList_append_own_at _ rfl _ _ 44 rfl w.heap.size 5 i0 _ 1 1 Tryz.underlying44 HI.out hz0 hz1 hz2 rfl (by decide) _ X.length (Lib.byteCells X) (by rfl) HOWd.out ⟨wr.heap.size, 0, none⟩ 1 1 [.int .u8 34] (by rfl) (by rfl) (World.news_of_block (heap_alloc_new wr _)) (by intro u hu; simp at hu; subst hu; rfl) (by have := HLX.out; unfold maxLen; omega) (by have := HLX.out; omega) (Nat.le_trans HBW.out.size (by simp)) ?_)
        intro v1 w1 hown hgrow _ _
        have HOW1 := Lib.hid (own_snoc (c := 34) hown (by first | exact HC.out | rfl))
        have HB1 := Lib.hid (show Below w.heap.size w w1 from ((HBW.out).alloc HBW.out.size _).grown hgrow (Nat.le_trans HBW.out.size (by simp)) (fun k hk => (HOWd.out.lt k hk).1))
        obtain ⟨va1, vc1, rfl⟩ := ownr_shape hown
        clear hown hgrow
        have HOWe2 := Lib.hid (show (w1.alloc (.cells #[.int .u8 34] 5)).ownsRow w.heap.size 5 1 (.slice va1 (X.length + 1) vc1) (X.length + 1) (Lib.byteCells (X ++ [34])) from by have h := ownr_alloc HOW1.out (.cells #[.int .u8 34] 5); rw [List.length_append, List.length_singleton] at h; exact h)
        go_wp2_with (at_builtin; refine wpList_append_own_at _ rfl _ _ 44 rfl w.heap.size 5 i0 _ 1 1 Tryz.underlying44 HI.out hz0 hz1 hz2 rfl (by decide) _ (X.length + 1) (Lib.byteCells (X ++ [34])) (by rfl) HOWe2.out ⟨w1.heap.size, 0, none⟩ 1 1 [.int .u8 34] (by rfl) (by rfl) (World.news_of_block (heap_alloc_new w1 _)) (by intro u hu; simp at hu; subst hu; rfl) (by have := HLX.out; unfold maxLen; omega) (by have := HLX.out; omega) (Nat.le_trans HB1.out.size (by simp)) ?_)
        intro v2 w2 hown hgrow _ _
        have HOW2 := Lib.hid (own_snoc (X := X ++ [34]) (c := 34) (by rw [List.length_append, List.length_singleton]; exact hown) rfl)
        have HB2 := Lib.hid (show Below w.heap.size w w2 from ((HB1.out).alloc HB1.out.size _).grown hgrow (Nat.le_trans HB1.out.size (by simp)) (fun k hk => (HOWe2.out.lt k hk).1))
        obtain ⟨va2, vc2, rfl⟩ := ownr_shape hown
        clear hown hgrow
        go_wp2_with fail
        go_roundw
        case rel => exact ⟨i + 1, X ++ [34] ++ [34], true, by omega, by go_num, rfl, HS2.out, HX2.out, by show World.ownsRow _ _ _ _ _ _ _; have h := HOW2.out; rw [List.length_append, List.length_append, List.length_singleton] at h ⊢; exact h, HB2.out⟩
        case measure => simp [intOf]; omega
      · have e1 : ((n : Int) == 34) = false := by simp; omega
        have HS2 := Lib.hid (show (s.data.toList.take (i + 1)).any oddC = true by rw [HSQ.out]; rfl)
        have HX2 := Lib.hid (show (s.data.toList.take (i + 1)).flatMap dblB = X ++ [c] by rw [HSX.out]; have h9 : c ≠ 34 := fun e => (by rw [e] at HC; have := HC.out; simp at this; omega); simp [dblB, h9])
        have HOWd := Lib.hid (show (wr.alloc (.cells #[.int .u8 n] 5)).ownsRow w.heap.size 5 1 (.slice va X.length vc) X.length (Lib.byteCells X) from ownr_alloc HOW.out _)
        go_wp2_with (at_builtin; refine wpList_append_own_at _ rfl _ _ 44 rfl w.heap.size 5 i0 _ 1 1 Tryz.underlying44 HI.out hz0 hz1 hz2 rfl (by decide) _ X.length (Lib.byteCells X) (by rfl) HOWd.out ⟨wr.heap.size, 0, none⟩ 1 1 [.int .u8 n] (by rfl) (by rfl) (World.news_of_block (heap_alloc_new wr _)) (by intro u hu; simp at hu; subst hu; rfl) (by have := HLX.out; unfold maxLen; omega) (by have := HLX.out; omega) (Nat.le_trans HBW.out.size (by simp)) ?_)
        intro v1 w1 hown hgrow _ _
        have HOW1 := Lib.hid (own_snoc (c := c) hown (by first | exact HC.out | rfl))
        have HB1 := Lib.hid (show Below w.heap.size w w1 from ((HBW.out).alloc HBW.out.size _).grown hgrow (Nat.le_trans HBW.out.size (by simp)) (fun k hk => (HOWd.out.lt k hk).1))
        obtain ⟨va1, vc1, rfl⟩ := ownr_shape hown
        clear hown hgrow
        go_wp2_with fail
        go_roundw
        case rel => exact ⟨i + 1, X ++ [c], true, by omega, by go_num, rfl, HS2.out, HX2.out, by show World.ownsRow _ _ _ _ _ _ _; have h := HOW1.out; rw [List.length_append, List.length_singleton] at h ⊢; exact h, HB1.out⟩
        case measure => simp [intOf]; omega
      · skip
        obtain rfl : c = 34 := UInt8.toNat_inj.1 HC.out
        have HS2 := Lib.hid (show (s.data.toList.take (i + 1)).any oddC = true by rw [HSQ.out]; simp [oddC])
        have HX2 := Lib.hid (show (s.data.toList.take (i + 1)).flatMap dblB = X ++ [34] ++ [34] by rw [HSX.out]; simp [dblB])
        have HOWd := Lib.hid (show (wr.alloc (.cells #[.int .u8 34] 5)).ownsRow w.heap.size 5 1 (.slice va X.length vc) X.length (Lib.byteCells X) from ownr_alloc HOW.out _)
        go_wp2_with (at_builtin; refine wpList_append_own_at _ rfl _ _ 44 rfl w.heap.size 5 i0 _ 1 1 Tryz.underlying44 HI.out hz0 hz1 hz2 rfl (by decide) _ X.length (Lib.byteCells X) (by rfl) HOWd.out ⟨wr.heap.size, 0, none⟩ 1 1 [.int .u8 34] (by rfl) (by rfl) (World.news_of_block (heap_alloc_new wr _)) (by intro u hu; simp at hu; subst hu; rfl) (by have := HLX.out; unfold maxLen; omega) (by have := HLX.out; omega) (Nat.le_trans HBW.out.size (by simp)) ?_)
        intro v1 w1 hown hgrow _ _
        have HOW1 := Lib.hid (own_snoc (c := 34) hown (by first | exact HC.out | rfl))
        have HB1 := Lib.hid (show Below w.heap.size w w1 from ((HBW.out).alloc HBW.out.size _).grown hgrow (Nat.le_trans HBW.out.size (by simp)) (fun k hk => (HOWd.out.lt k hk).1))
        obtain ⟨va1, vc1, rfl⟩ := ownr_shape hown
        clear hown hgrow
        have HOWe2 := Lib.hid (show (w1.alloc (.cells #[.int .u8 34] 5)).ownsRow w.heap.size 5 1 (.slice va1 (X.length + 1) vc1) (X.length + 1) (Lib.byteCells (X ++ [34])) from by have h := ownr_alloc HOW1.out (.cells #[.int .u8 34] 5); rw [List.length_append, List.length_singleton] at h; exact h)
        go_wp2_with (at_builtin; refine wpList_append_own_at _ rfl _ _ 44 rfl w.heap.size 5 i0 _ 1 1 Tryz.underlying44 HI.out hz0 hz1 hz2 rfl (by decide) _ (X.length + 1) (Lib.byteCells (X ++ [34])) (by rfl) HOWe2.out ⟨w1.heap.size, 0, none⟩ 1 1 [.int .u8 34] (by rfl) (by rfl) (World.news_of_block (heap_alloc_new w1 _)) (by intro u hu; simp at hu; subst hu; rfl) (by have := HLX.out; unfold maxLen; omega) (by have := HLX.out; omega) (Nat.le_trans HB1.out.size (by simp)) ?_)
        intro v2 w2 hown hgrow _ _
        have HOW2 := Lib.hid (own_snoc (X := X ++ [34]) (c := 34) (by rw [List.length_append, List.length_singleton]; exact hown) rfl)
        have HB2 := Lib.hid (show Below w.heap.size w w2 from ((HB1.out).alloc HB1.out.size _).grown hgrow (Nat.le_trans HB1.out.size (by simp)) (fun k hk => (HOWe2.out.lt k hk).1))
        obtain ⟨va2, vc2, rfl⟩ := ownr_shape hown
        clear hown hgrow
        go_wp2_with fail
        go_roundw
        case rel => exact ⟨i + 1, X ++ [34] ++ [34], true, by omega, by go_num, rfl, HS2.out, HX2.out, by show World.ownsRow _ _ _ _ _ _ _; have h := HOW2.out; rw [List.length_append, List.length_append, List.length_singleton] at h ⊢; exact h, HB2.out⟩
        case measure => simp [intOf]; omega
      · have h1 := True.intro
        have HS2 := Lib.hid (show (s.data.toList.take (i + 1)).any oddC = true by rw [HSQ.out]; obtain rfl : c = 44 := UInt8.toNat_inj.1 HC.out; decide)
        have HX2 := Lib.hid (show (s.data.toList.take (i + 1)).flatMap dblB = X ++ [c] by rw [HSX.out]; have h9 : c ≠ 34 := fun e => (by rw [e] at HC; have := HC.out; simp at this); simp [dblB, h9])
        have HOWd := Lib.hid (show (wr.alloc (.cells #[.int .u8 44] 5)).ownsRow w.heap.size 5 1 (.slice va X.length vc) X.length (Lib.byteCells X) from ownr_alloc HOW.out _)
        go_wp2_with (at_builtin; refine wpList_append_own_at _ rfl _ _ 44 rfl w.heap.size 5 i0 _ 1 1 Tryz.underlying44 HI.out hz0 hz1 hz2 rfl (by decide) _ X.length (Lib.byteCells X) (by rfl) HOWd.out ⟨wr.heap.size, 0, none⟩ 1 1 [.int .u8 44] (by rfl) (by rfl) (World.news_of_block (heap_alloc_new wr _)) (by intro u hu; simp at hu; subst hu; rfl) (by have := HLX.out; unfold maxLen; omega) (by have := HLX.out; omega) (Nat.le_trans HBW.out.size (by simp)) ?_)
        intro v1 w1 hown hgrow _ _
        have HOW1 := Lib.hid (own_snoc (c := c) hown (by first | exact HC.out | rfl))
        have HB1 := Lib.hid (show Below w.heap.size w w1 from ((HBW.out).alloc HBW.out.size _).grown hgrow (Nat.le_trans HBW.out.size (by simp)) (fun k hk => (HOWd.out.lt k hk).1))
        obtain ⟨va1, vc1, rfl⟩ := ownr_shape hown
        clear hown hgrow
        go_wp2_with fail
        go_roundw
        case rel => exact ⟨i + 1, X ++ [c], true, by omega, by go_num, rfl, HS2.out, HX2.out, by show World.ownsRow _ _ _ _ _ _ _; have h := HOW1.out; rw [List.length_append, List.length_singleton] at h ⊢; exact h, HB1.out⟩
        case measure => simp [intOf]; omega
      · have e1 : ((n : Int) == 34) = false := by simp; omega
        have e2 : (n : Int) < 32 := by omega
        have HS2 := Lib.hid (show (s.data.toList.take (i + 1)).any oddC = true by rw [HSQ.out]; have h8 := HC.out; simp [oddC, h8, h1])
        have HX2 := Lib.hid (show (s.data.toList.take (i + 1)).flatMap dblB = X ++ [c] by rw [HSX.out]; have h9 : c ≠ 34 := fun e => (by rw [e] at HC; have := HC.out; simp at this; omega); simp [dblB, h9])
        have HOWd := Lib.hid (show (wr.alloc (.cells #[.int .u8 n] 5)).ownsRow w.heap.size 5 1 (.slice va X.length vc) X.length (Lib.byteCells X) from ownr_alloc HOW.out _)
        go_wp2_with (at_builtin; refine wpList_append_own_at _ rfl _ _ 44 rfl w.heap.size 5 i0 _ 1 1 Tryz.underlying44 HI.out hz0 hz1 hz2 rfl (by decide) _ X.length (Lib.byteCells X) (by rfl) HOWd.out ⟨wr.heap.size, 0, none⟩ 1 1 [.int .u8 n] (by rfl) (by rfl) (World.news_of_block (heap_alloc_new wr _)) (by intro u hu; simp at hu; subst hu; rfl) (by have := HLX.out; unfold maxLen; omega) (by have := HLX.out; omega) (Nat.le_trans HBW.out.size (by simp)) ?_)
        intro v1 w1 hown hgrow _ _
        have HOW1 := Lib.hid (own_snoc (c := c) hown (by first | exact HC.out | rfl))
        have HB1 := Lib.hid (show Below w.heap.size w w1 from ((HBW.out).alloc HBW.out.size _).grown hgrow (Nat.le_trans HBW.out.size (by simp)) (fun k hk => (HOWd.out.lt k hk).1))
        obtain ⟨va1, vc1, rfl⟩ := ownr_shape hown
        clear hown hgrow
        go_wp2_with fail
        go_roundw
        case rel => exact ⟨i + 1, X ++ [c], true, by omega, by go_num, rfl, HS2.out, HX2.out, by show World.ownsRow _ _ _ _ _ _ _; have h := HOW1.out; rw [List.length_append, List.length_singleton] at h ⊢; exact h, HB1.out⟩
        case measure => simp [intOf]; omega
      · have e1 : ((n : Int) == 34) = false := by simp; omega
        have e2 : ¬ (n : Int) < 32 := by omega
        have e3 : ((n : Int) == 44) = false := by simp; omega
        have HS2 := Lib.hid (show (s.data.toList.take (i + 1)).any oddC = false by rw [HSQ.out]; have h8 := HC.out; simp [oddC, h8, h2, h3]; omega)
        have HX2 := Lib.hid (show (s.data.toList.take (i + 1)).flatMap dblB = X ++ [c] by rw [HSX.out]; have h9 : c ≠ 34 := fun e => (by rw [e] at HC; have := HC.out; simp at this; omega); simp [dblB, h9])
        have HOWd := Lib.hid (show (wr.alloc (.cells #[.int .u8 n] 5)).ownsRow w.heap.size 5 1 (.slice va X.length vc) X.length (Lib.byteCells X) from ownr_alloc HOW.out _)
        go_wp2_with (at_builtin; refine wpList_append_own_at _ rfl _ _ 44 rfl w.heap.size 5 i0 _ 1 1 Tryz.underlying44 HI.out hz0 hz1 hz2 rfl (by decide) _ X.length (Lib.byteCells X) (by rfl) HOWd.out ⟨wr.heap.size, 0, none⟩ 1 1 [.int .u8 n] (by rfl) (by rfl) (World.news_of_block (heap_alloc_new wr _)) (by intro u hu; simp at hu; subst hu; rfl) (by have := HLX.out; unfold maxLen; omega) (by have := HLX.out; omega) (Nat.le_trans HBW.out.size (by simp)) ?_)
        intro v1 w1 hown hgrow _ _
        have HOW1 := Lib.hid (own_snoc (c := c) hown (by first | exact HC.out | rfl))
        have HB1 := Lib.hid (show Below w.heap.size w w1 from ((HBW.out).alloc HBW.out.size _).grown hgrow (Nat.le_trans HBW.out.size (by simp)) (fun k hk => (HOWd.out.lt k hk).1))
        obtain ⟨va1, vc1, rfl⟩ := ownr_shape hown
        clear hown hgrow
        go_wp2_with fail
        go_roundw
        case rel => exact ⟨i + 1, X ++ [c], false, by omega, by go_num, rfl, HS2.out, HX2.out, by show World.ownsRow _ _ _ _ _ _ _; have h := HOW1.out; rw [List.length_append, List.length_singleton] at h ⊢; exact h, HB1.out⟩
        case measure => simp [intOf]; omega
    · obtain rfl : i = s.size := by omega
      have hi1 : ¬ ((s.size : Nat) : Int) < (s.size : Int) := by omega
      have HA := Lib.hid (show s.data.toList.any oddC = Q by have h := HQ.out; rwa [List.take_of_length_le (by rw [HN.out]; exact Nat.le_refl _)] at h)
      have HF := Lib.hid (show s.data.toList.flatMap dblB = X by have h := HX.out; rwa [List.take_of_length_le (by rw [HN.out]; exact Nat.le_refl _)] at h)
      cases Q with
      | false =>
        go_wp2_with fail
        go_ret
        exact ⟨by rw [HPQ.out, if_neg (by rw [HA.out]; simp)]; exact congrArg Ending.returned (strV_t s), HB.out⟩
      | true =>
        have hne : X ≠ [] := by
          intro e
          have h1 := HF.out
          rw [e] at h1
          have h2 := HA.out
          cases hl : s.data.toList with
          | nil => rw [hl] at h2; cases h2
          | cons a b =>
            rw [hl, List.flatMap_cons] at h1
            unfold dblB at h1
            split at h1 <;> cases h1
        have hcv := conv_own HOW.out hne
        have HOWq := Lib.hid (show Below w.heap.size w (wr.alloc (.cells #[.int .u8 34] 5)) from HB.out.alloc HB.out.size _)
        have hcv2 := conv_own (ownr_alloc HOW.out (.cells #[.int .u8 34] 5)) hne
        have hcv3 := conv_q wr
        obtain ⟨XB, hXB, hXD⟩ : ∃ XB : ByteArray, (⟨X.toArray⟩ : ByteArray) = XB ∧ XB.data.toList = X := ⟨_, rfl, by simp⟩
        have hXs : XB.size ≤ 2097152 := by have h1 := HLX.out; rw [← hXD] at h1; exact h1
        rw [hXB] at hcv hcv2
        have HXD := Lib.hid hXD
        clear hXB hXD
        go_wp2_with fail
        go_ret
        refine ⟨congrArg _ (strV_of ?_), HOWq.out⟩
        rw [HPQ.out, if_pos HA.out, HF.out, ByteArray.data_append, ByteArray.data_append, Array.toList_append, Array.toList_append, HXD.out]
        simp
end Go.Proofs.YtaolnpiemeaabaaGreatDoor

/- hexaplaref18's text of a tree. -/
namespace Go.Proofs.YtaolnpiemeaabaaGreatDoor
open Go.RowKit Ev5
set_option linter.unusedSimpArgs false
set_option linter.unusedVariables false

theorem baD_size (b : ByteArray) : b.data.toList.length = b.size := Array.length_toList
theorem conv_nl (w : World) : (convert 44 9 (.slice (some ⟨w.heap.size, 0, none⟩) 1 1)).run Tryz.prog (w.alloc (.cells #[.int .u8 10] 5)) = .ok (.string ⟨#[10]⟩) (w.alloc (.cells #[.int .u8 10] 5)) :=
  conv_own (B := w.heap.size) (l := [10]) ⟨rfl, .inr ⟨w.heap.size, 1, #[.int .u8 10], rfl, Nat.le_refl _, heap_alloc_new w _, Nat.le_refl _, by decide, rfl, rfl⟩⟩ (by simp)
theorem FieldD.form {f : Nd} (h : FieldD f) : ∃ b : ByteArray, f.k = 8 ∧ f.v = emp ∧ f.kids = [.mk 4 b emp []] ∧ valT f = b := by
  obtain ⟨a, b, rfl, _, _⟩ := h
  exact ⟨b, rfl, rfl, rfl, rfl⟩
theorem keys_get (y : Nd) {j : Nat} (h : j < y.kids.length) : y.keys[j]'(by unfold Nd.keys; rw [List.length_map]; exact h) = y.kids[j].t := by simp [Nd.keys]
theorem vals_get (y : Nd) {j : Nat} (h : j < y.kids.length) : y.vals[j]'(by unfold Nd.vals; rw [List.length_map]; exact h) = valT y.kids[j] := by simp [Nd.vals]
set_option maxRecDepth 100000 in
set_option maxHeartbeats 16000000 in
theorem refPrint18_any (n : Nd) (hok : n.ok) (hN : n.size ≤ 50000) (h0 : (ofP tpD n).2 = 0) (w : World) (S : Nat → Prop) (v : Value) (hv : NdV w S v n) :
    Calls Tryz.prog 13 #[v] w fun e w' => e = .returned (strV n.dlm) ∧ Below w.heap.size w w' := by
  have hDl := dl_of h0
  obtain ⟨u, rfl, hs⟩ := hv
  obtain ⟨ao, cap, rfl, hcap, hcm⟩ := hs.shape
  have hkl : n.kids.length ≤ 50000 := by have := sizes_len n.kids; have := kids_size n; omega
  have HS := Lib.hid hs.ltC; have HDL := Lib.hid hDl
  have HX := Lib.hid (heap_alloc_new w (.cells #[.int .i64 n.k, .string n.t, .string n.v, .slice ao n.kids.length cap] 24))
  have HB0 := Lib.hid (show Below w.heap.size w (w.alloc (.cells #[.int .i64 n.k, .string n.t, .string n.v, .slice ao n.kids.length cap] 24)) from (Below.refl _ _).alloc (Nat.le_refl _) _)
  have HLB := Lib.hid (fun hk : n.kids ≠ [] => linesD_bound hDl hok hN hk)
  have HOKR := Lib.hid (fun hk : n.kids ≠ [] => rowsL_ok hDl hok hk)
  have HPN := Lib.hid (fun hk : n.kids ≠ [] => dlm_rows hk)
  have HNK := Lib.hid (show ∀ f ∈ n.kids, f.ok from by
    obtain ⟨k, t, v, fs⟩ := n
    rw [ok_mk] at hok
    exact (oks_iff _).1 hok.2)
  have HPE := Lib.hid (fun hk : n.kids = [] => show n.dlm = [] by unfold Nd.dlm; rw [if_pos (by rw [hk]; rfl)])
  clear hs hDl hok hN h0
  unfold ndV
  unfold maxLen at *
  go_enter Tryz.func13, Tryz.ntmps13
  go_wp2_with fail
  go_loopw [3, 4] (fun vs vi wr => ∃ (m : Nat) (z : Int) (O : ByteArray), m ≤ n.kids.length + 1 ∧ vi = .int .i64 z ∧ vs = .string O ∧ Hid (z = (m : Int) - 1) ∧ Hid (n.kids = [] → m = 0) ∧ Hid (O.data.toList = linesD (rowsL n) m) ∧ Hid (wr.heap[w.heap.size]? = some (.cells #[.int .i64 n.k, .string n.t, .string n.v, .slice ao n.kids.length cap] 24 (0, 0))) ∧ Hid (Below w.heap.size w wr)) (fun _ vi _ => n.kids.length + 1 - (intOf vi + 1).toNat)
  case atStart => exact ⟨0, -1, ⟨#[]⟩, Nat.zero_le _, rfl, rfl, rfl, fun _ => rfl, rfl, HX.out, HB0.out⟩
  case round =>
    obtain ⟨m, z, O, hm, rfl, rfl, HZ, HZ0, HO, HXR, HBR⟩ := hrel
    obtain ⟨x0, x1, x2, x3, _, _, _, _, hxl⟩ := nd_cells HXR.out
    by_cases hkn : n.kids = []
    · obtain rfl := HZ0.out hkn
      obtain rfl : z = -1 := by have := HZ.out; omega
      have hl0 : n.kids.length = 0 := by rw [hkn]; rfl
      have hl1 : (-1 : Int) < (n.kids.length : Int) := by omega
      have hl2 : ((n.kids.length : Int) == 0) = true := by rw [hl0]; rfl
      have HE := Lib.hid (show O.data.toList = n.dlm by rw [HPE.out hkn, HO.out]; rfl)
      clear hl0 hkn
      go_wp2_with fail
      go_ret
      exact ⟨congrArg _ (strV_of HE.out), HBR.out⟩
    · have hOs : O.size ≤ 16777241 * 50001 := by
        have h1 := HLB.out hkn m
        rw [← HO.out, baD_size] at h1
        exact h1
      have hl2 : ((n.kids.length : Int) == 0) = false := by have := List.length_pos_iff.2 hkn; simp; omega
      have HROK := Lib.hid (HOKR.out hkn)
      by_cases hlt : m < n.kids.length + 1
      · rcases m with _ | m
        · obtain rfl : z = -1 := by have := HZ.out; omega
          have hi1 : (-1 : Int) < (n.kids.length : Int) := by omega
          have hrow : 0 < n.kids.length := List.length_pos_iff.2 hkn
          obtain ⟨yb, yo, yx, hyo, hyw, k0, k1, k2, k3, hyx⟩ := HS.out.at_ 0 hrow
          obtain ⟨ay, cy, rfl, _, _⟩ := hyx.shape
          subst hyo
          have hymem := List.getElem_mem hrow
          have hRD := HDL.out.row _ hymem
          have hyok := HNK.out _ hymem
          have hrw := rowsL_zero n hrow
          have hbw := HBR.out
          obtain ⟨y, hy⟩ : ∃ y, n.kids[0] = y := ⟨_, rfl⟩
          rw [hy] at k0 k1 k2 k3 hyx hRD hyok hrw
          simp only [Nat.zero_mul, Nat.add_zero] at k0 k1 k2 k3
          have d0 : wr.cell? ⟨yb, yo, none⟩ = some (.int .i64 y.k) := (hbw.cell (p := ⟨yb, yo, none⟩) hyw).trans k0
          have d1 : wr.cell? ⟨yb, yo + 1, none⟩ = some (.string y.t) := (hbw.cell (p := ⟨yb, yo + 1, none⟩) hyw).trans k1
          have d2 : wr.cell? ⟨yb, yo + 2, none⟩ = some (.string y.v) := (hbw.cell (p := ⟨yb, yo + 2, none⟩) hyw).trans k2
          have d3 : wr.cell? ⟨yb, yo + 3, none⟩ = some (.slice ay y.kids.length cy) := (hbw.cell (p := ⟨yb, yo + 3, none⟩) hyw).trans k3
          have hyl : yb < wr.heap.size := Nat.lt_of_lt_of_le hyw hbw.size
          have HYS := Lib.hid hyx.ltC
          obtain ⟨_, _, _, _, _⟩ := hyx.shape
          have hy8 := hRD.few
          have HRD := Lib.hid hRD; have HYOK := Lib.hid hyok
          have HCS := Lib.hid ((row_ok hRD hyok).1.2)
          have hcl : y.keys.length = y.kids.length := by unfold Nd.keys; rw [List.length_map]
          have HCL := Lib.hid (fun i => joinD_len8 (l := y.keys) ((row_ok hRD hyok).1.2) (by rw [hcl]; exact hy8) i)
          have HLN := Lib.hid (show linesD (rowsL n) 1 = linesD (rowsL n) 0 ++ (joinD y.keys y.kids.length ++ [10]) by
            rw [linesD_succ (R := rowsL n) (m := 0) (by rw [rowsL_len]; omega), hrw, joinD_all, hcl])
          have HCN := Lib.hid hcl
          have hy9 : (y.kids.length : Int) ≤ 8 := by omega
          clear k0 k1 k2 k3 hyx hRD hyok hrw hbw hy hymem hcl
          go_wp2_with fail
          go_loopw [3, 7] (fun vs vk wq => ∃ (j : Nat) (O2 : ByteArray), j ≤ y.kids.length ∧ vk = .int .i64 j ∧ vs = .string O2 ∧ Hid (O2.data.toList = linesD (rowsL n) 0 ++ joinD y.keys j) ∧ Hid (wq.heap[w.heap.size]? = some (.cells #[.int .i64 n.k, .string n.t, .string n.v, .slice (some ⟨yb, yo, none⟩) n.kids.length cap] 24 (0, 0))) ∧ Hid (Below w.heap.size w wq)) (fun _ vk _ => y.kids.length - (intOf vk).toNat)
          case atStart => exact ⟨0, O, Nat.zero_le _, rfl, rfl, by show _ = _; rw [HO.out, joinD_zero, List.append_nil], HXR.out, HBR.out⟩
          case round =>
            obtain ⟨j, O2, hj, rfl, rfl, HO2, HXQ, HBQ⟩ := hrel
            have hO2s : O2.size ≤ 16777241 * 50001 + 16777240 := by
              have h1 := HCL.out j
              have h2 := congrArg List.length HO2.out
              rw [baD_size, List.length_append, ← HO.out, baD_size] at h2
              omega
            by_cases hjl : j < y.kids.length
            · have hj0 : (0 : Int) ≤ (j : Int) := Int.natCast_nonneg _
              have hj1 : (j : Int) < (y.kids.length : Int) := by omega
              obtain ⟨fb, fo, fx, hfo, hfw, e0, e1, e2, e3, hfx⟩ := HYS.out.at_ j hjl
              obtain ⟨af, cf, rfl, _, _⟩ := hfx.shape
              have hfmem := List.getElem_mem hjl
              have hFD := HRD.out.fields _ hfmem
              have hfo2 := (field_ok hFD ((show ∀ f ∈ y.kids, f.ok from by
                have h := HYOK.out
                obtain ⟨k, t, v, fs⟩ := y
                rw [ok_mk] at h
                exact (oks_iff _).1 h.2) _ hfmem))
              have hget := keys_get y hjl
              obtain ⟨f, hf⟩ : ∃ f, y.kids[j] = f := ⟨_, rfl⟩
              rw [hf] at e0 e1 e2 e3 hfx hFD hfo2 hget
              have hbq := HBQ.out
              have f0 : wr.cell? ⟨fb, fo + j * 4, none⟩ = some (.int .i64 f.k) := (hbq.cell (p := ⟨fb, fo + j * 4, none⟩) hfw).trans e0
              have f1 : wr.cell? ⟨fb, fo + j * 4 + 1, none⟩ = some (.string f.t) := (hbq.cell (p := ⟨fb, fo + j * 4 + 1, none⟩) hfw).trans e1
              have f2 : wr.cell? ⟨fb, fo + j * 4 + 2, none⟩ = some (.string f.v) := (hbq.cell (p := ⟨fb, fo + j * 4 + 2, none⟩) hfw).trans e2
              have f3 : wr.cell? ⟨fb, fo + j * 4 + 3, none⟩ = some (.slice af f.kids.length cf) := (hbq.cell (p := ⟨fb, fo + j * 4 + 3, none⟩) hfw).trans e3
              have hfl : fb < wr.heap.size := Nat.lt_of_lt_of_le hfw hbq.size
              subst hfo
              have hxs := hfo2.1
              obtain ⟨C, hC1, hC2⟩ : ∃ C : ByteArray, strV (cellT f.t) = .string C ∧ C.data.toList = cellT f.t := ⟨_, rfl, rfl⟩
              have hCs : C.size ≤ 2097154 := by
                have h1 := cellT_len f.t
                rw [← hC2, baD_size] at h1
                omega
              have HCC := Lib.hid hC2
              have hcell := fun W => (refCell_any f.t W hxs).mono fun e w2 h => show e = .returned (.string C) ∧ Below W.heap.size W w2 from ⟨by rw [h.1, hC1], h.2⟩
              have HCELL := Lib.hid hcell
              have HGET := Lib.hid hget
              clear hcell hC1 hC2 e0 e1 e2 e3 hfx hFD hfo2 hget hf hbq hfmem
              rcases j with _ | j
              · have HST := Lib.hid (show (O2 ++ C).data.toList = linesD (rowsL n) 0 ++ joinD y.keys (0 + 1) by
                  rw [ByteArray.data_append, Array.toList_append, HO2.out, HCC.out, joinD_zero, joinD_one (by rw [HCN.out]; exact hjl), HGET.out]; simp)
                rw [Nat.zero_mul, Nat.add_zero] at f0 f1 f2 f3
                go_wp2_with fail
                refine (HCELL.out _).mono ?_
                rintro e wz ⟨rfl, hb⟩
                have HBZ := Lib.hid (bthen HBQ.out hb)
                have HXZ := Lib.hid ((hb.block _ (lt_blk HXQ.out)).trans HXQ.out)
                clear hb f0 f1 f2 f3
                go_wp2_with fail
                go_roundw
                case rel => exact ⟨0 + 1, O2 ++ C, by omega, by go_num, rfl, HST.out, HXZ.out, HBZ.out⟩
                case measure => simp [intOf]; omega
              · have hjp : (0 : Int) < ((j + 1 : Nat) : Int) := by omega
                have HST := Lib.hid (show (O2 ++ (⟨#[44]⟩ : ByteArray) ++ C).data.toList = linesD (rowsL n) 0 ++ joinD y.keys (j + 1 + 1) by
                  rw [ByteArray.data_append, ByteArray.data_append, Array.toList_append, Array.toList_append, HO2.out, HCC.out, joinD_succ (i := j + 1) (by omega) (by rw [HCN.out]; exact hjl), HGET.out]; simp)
                go_wp2_with fail
                refine (HCELL.out _).mono ?_
                rintro e wz ⟨rfl, hb⟩
                have HBZ := Lib.hid (bthen HBQ.out hb)
                have HXZ := Lib.hid ((hb.block _ (lt_blk HXQ.out)).trans HXQ.out)
                clear hb f0 f1 f2 f3
                go_wp2_with fail
                go_roundw
                case rel => exact ⟨j + 1 + 1, O2 ++ (⟨#[44]⟩ : ByteArray) ++ C, by omega, by go_num, rfl, HST.out, HXZ.out, HBZ.out⟩
                case measure => simp [intOf]; omega
            · obtain rfl : y.kids.length = j := by omega
              have hj1 : ¬ ((y.kids.length : Nat) : Int) < (y.kids.length : Int) := by omega
              have hcv := conv_nl wr
              have HBN := Lib.hid (HBQ.out.alloc HBQ.out.size (.cells #[.int .u8 10] 5))
              have HXN := Lib.hid ((Below.heap_alloc wr (.cells #[.int .u8 10] 5) w.heap.size (lt_blk HXQ.out)).trans HXQ.out)
              have HST := Lib.hid (show (O2 ++ (⟨#[10]⟩ : ByteArray)).data.toList = linesD (rowsL n) 1 by
                rw [ByteArray.data_append, Array.toList_append, HO2.out, HLN.out]; simp)
              go_wp2_with fail
              go_roundw
              case rel => exact ⟨1, 0, O2 ++ (⟨#[10]⟩ : ByteArray), by omega, rfl, rfl, rfl, fun h => absurd h hkn, HST.out, HXN.out, HBN.out⟩
              case measure => simp [intOf]
        · obtain rfl : z = (m : Int) := by have := HZ.out; omega
          have hi0 : (0 : Int) ≤ (m : Int) := Int.natCast_nonneg _
          have hi2 : ¬ (m : Int) < 0 := by omega
          have hrow : m < n.kids.length := by omega
          have hi1 : (m : Int) < (n.kids.length : Int) := by omega
          obtain ⟨yb, yo, yx, hyo, hyw, k0, k1, k2, k3, hyx⟩ := HS.out.at_ m hrow
          obtain ⟨ay, cy, rfl, _, _⟩ := hyx.shape
          subst hyo
          have hymem := List.getElem_mem hrow
          have hRD := HDL.out.row _ hymem
          have hyok := HNK.out _ hymem
          have hrw := rowsL_succ n hrow
          have hbw := HBR.out
          obtain ⟨y, hy⟩ : ∃ y, n.kids[m] = y := ⟨_, rfl⟩
          rw [hy] at k0 k1 k2 k3 hyx hRD hyok hrw
          skip
          have d0 : wr.cell? ⟨yb, yo + m * 4, none⟩ = some (.int .i64 y.k) := (hbw.cell (p := ⟨yb, yo + m * 4, none⟩) hyw).trans k0
          have d1 : wr.cell? ⟨yb, yo + m * 4 + 1, none⟩ = some (.string y.t) := (hbw.cell (p := ⟨yb, yo + m * 4 + 1, none⟩) hyw).trans k1
          have d2 : wr.cell? ⟨yb, yo + m * 4 + 2, none⟩ = some (.string y.v) := (hbw.cell (p := ⟨yb, yo + m * 4 + 2, none⟩) hyw).trans k2
          have d3 : wr.cell? ⟨yb, yo + m * 4 + 3, none⟩ = some (.slice ay y.kids.length cy) := (hbw.cell (p := ⟨yb, yo + m * 4 + 3, none⟩) hyw).trans k3
          have hyl : yb < wr.heap.size := Nat.lt_of_lt_of_le hyw hbw.size
          have HYS := Lib.hid hyx.ltC
          obtain ⟨_, _, _, _, _⟩ := hyx.shape
          have hy8 := hRD.few
          have HRD := Lib.hid hRD; have HYOK := Lib.hid hyok
          have HCS := Lib.hid ((row_ok hRD hyok).2.2)
          have hcl : y.vals.length = y.kids.length := by unfold Nd.vals; rw [List.length_map]
          have HCL := Lib.hid (fun i => joinD_len8 (l := y.vals) ((row_ok hRD hyok).2.2) (by rw [hcl]; exact hy8) i)
          have HLN := Lib.hid (show linesD (rowsL n) ((m + 1) + 1) = linesD (rowsL n) (m + 1) ++ (joinD y.vals y.kids.length ++ [10]) by
            rw [linesD_succ (by rw [rowsL_len]; omega), hrw, joinD_all, hcl])
          have HCN := Lib.hid hcl
          have hy9 : (y.kids.length : Int) ≤ 8 := by omega
          clear k0 k1 k2 k3 hyx hRD hyok hrw hbw hy hymem hcl
          go_wp2_with fail
          go_loopw [3, 7] (fun vs vk wq => ∃ (j : Nat) (O2 : ByteArray), j ≤ y.kids.length ∧ vk = .int .i64 j ∧ vs = .string O2 ∧ Hid (O2.data.toList = linesD (rowsL n) (m + 1) ++ joinD y.vals j) ∧ Hid (wq.heap[w.heap.size]? = some (.cells #[.int .i64 n.k, .string n.t, .string n.v, .slice (some ⟨yb, yo, none⟩) n.kids.length cap] 24 (0, 0))) ∧ Hid (Below w.heap.size w wq)) (fun _ vk _ => y.kids.length - (intOf vk).toNat)
          case atStart => exact ⟨0, O, Nat.zero_le _, rfl, rfl, by show _ = _; rw [HO.out, joinD_zero, List.append_nil], HXR.out, HBR.out⟩
          case round =>
            obtain ⟨j, O2, hj, rfl, rfl, HO2, HXQ, HBQ⟩ := hrel
            have hO2s : O2.size ≤ 16777241 * 50001 + 16777240 := by
              have h1 := HCL.out j
              have h2 := congrArg List.length HO2.out
              rw [baD_size, List.length_append, ← HO.out, baD_size] at h2
              omega
            by_cases hjl : j < y.kids.length
            · have hj0 : (0 : Int) ≤ (j : Int) := Int.natCast_nonneg _
              have hj1 : (j : Int) < (y.kids.length : Int) := by omega
              obtain ⟨fb, fo, fx, hfo, hfw, e0, e1, e2, e3, hfx⟩ := HYS.out.at_ j hjl
              obtain ⟨af, cf, rfl, _, _⟩ := hfx.shape
              have hfmem := List.getElem_mem hjl
              have hFD := HRD.out.fields _ hfmem
              have hfo2 := (field_ok hFD ((show ∀ f ∈ y.kids, f.ok from by
                have h := HYOK.out
                obtain ⟨k, t, v, fs⟩ := y
                rw [ok_mk] at h
                exact (oks_iff _).1 h.2) _ hfmem))
              have hget := vals_get y hjl
              obtain ⟨f, hf⟩ : ∃ f, y.kids[j] = f := ⟨_, rfl⟩
              rw [hf] at e0 e1 e2 e3 hfx hFD hfo2 hget
              have hbq := HBQ.out
              have f0 : wr.cell? ⟨fb, fo + j * 4, none⟩ = some (.int .i64 f.k) := (hbq.cell (p := ⟨fb, fo + j * 4, none⟩) hfw).trans e0
              have f1 : wr.cell? ⟨fb, fo + j * 4 + 1, none⟩ = some (.string f.t) := (hbq.cell (p := ⟨fb, fo + j * 4 + 1, none⟩) hfw).trans e1
              have f2 : wr.cell? ⟨fb, fo + j * 4 + 2, none⟩ = some (.string f.v) := (hbq.cell (p := ⟨fb, fo + j * 4 + 2, none⟩) hfw).trans e2
              have f3 : wr.cell? ⟨fb, fo + j * 4 + 3, none⟩ = some (.slice af f.kids.length cf) := (hbq.cell (p := ⟨fb, fo + j * 4 + 3, none⟩) hfw).trans e3
              have hfl : fb < wr.heap.size := Nat.lt_of_lt_of_le hfw hbq.size
              subst hfo
              have hxs := hfo2.2
              obtain ⟨b, hfk, hfv, hfks, hfb⟩ := hFD.form
              obtain ⟨xb, xo, xu, hxo, hxw, q0, q1, q2, q3, hxu⟩ := (hfks ▸ hfx).at_ 0 (by simp)
              rw [hfks] at f3
              rw [hfb] at hxs hget
              rw [Nat.zero_mul, Nat.add_zero] at q0 q1 q2 q3
              simp only [List.getElem_cons_zero, Nd.k, Nd.t, Nd.v, Nd.kids] at q0 q1 q2 q3
              have g0 : wr.cell? ⟨xb, xo, none⟩ = some (.int .i64 4) := (hbq.cell (p := ⟨xb, xo, none⟩) hxw).trans q0
              have g1 : wr.cell? ⟨xb, xo + 1, none⟩ = some (.string b) := (hbq.cell (p := ⟨xb, xo + 1, none⟩) hxw).trans q1
              have hxl2 : xb < wr.heap.size := Nat.lt_of_lt_of_le hxw hbq.size
              subst hxo
              clear q0 q1 q2 q3 hxu hfk hfv
              obtain ⟨C, hC1, hC2⟩ : ∃ C : ByteArray, strV (cellT b) = .string C ∧ C.data.toList = cellT b := ⟨_, rfl, rfl⟩
              have hCs : C.size ≤ 2097154 := by
                have h1 := cellT_len b
                rw [← hC2, baD_size] at h1
                omega
              have HCC := Lib.hid hC2
              have hcell := fun W => (refCell_any b W hxs).mono fun e w2 h => show e = .returned (.string C) ∧ Below W.heap.size W w2 from ⟨by rw [h.1, hC1], h.2⟩
              have HCELL := Lib.hid hcell
              have HGET := Lib.hid hget
              clear hcell hC1 hC2 e0 e1 e2 e3 hfx hFD hfo2 hget hf hbq hfmem
              rcases j with _ | j
              · have HST := Lib.hid (show (O2 ++ C).data.toList = linesD (rowsL n) (m + 1) ++ joinD y.vals (0 + 1) by
                  rw [ByteArray.data_append, Array.toList_append, HO2.out, HCC.out, joinD_zero, joinD_one (by rw [HCN.out]; exact hjl), HGET.out]; simp)
                rw [Nat.zero_mul, Nat.add_zero] at f0 f1 f2 f3
                go_wp2_with fail
                refine (HCELL.out _).mono ?_
                rintro e wz ⟨rfl, hb⟩
                have HBZ := Lib.hid (bthen HBQ.out hb)
                have HXZ := Lib.hid ((hb.block _ (lt_blk HXQ.out)).trans HXQ.out)
                clear hb f0 f1 f2 f3
                go_wp2_with fail
                go_roundw
                case rel => exact ⟨0 + 1, O2 ++ C, by omega, by go_num, rfl, HST.out, HXZ.out, HBZ.out⟩
                case measure => simp [intOf]; omega
              · have hjp : (0 : Int) < ((j + 1 : Nat) : Int) := by omega
                have HST := Lib.hid (show (O2 ++ (⟨#[44]⟩ : ByteArray) ++ C).data.toList = linesD (rowsL n) (m + 1) ++ joinD y.vals (j + 1 + 1) by
                  rw [ByteArray.data_append, ByteArray.data_append, Array.toList_append, Array.toList_append, HO2.out, HCC.out, joinD_succ (i := j + 1) (by omega) (by rw [HCN.out]; exact hjl), HGET.out]; simp)
                go_wp2_with fail
                refine (HCELL.out _).mono ?_
                rintro e wz ⟨rfl, hb⟩
                have HBZ := Lib.hid (bthen HBQ.out hb)
                have HXZ := Lib.hid ((hb.block _ (lt_blk HXQ.out)).trans HXQ.out)
                clear hb f0 f1 f2 f3
                go_wp2_with fail
                go_roundw
                case rel => exact ⟨j + 1 + 1, O2 ++ (⟨#[44]⟩ : ByteArray) ++ C, by omega, by go_num, rfl, HST.out, HXZ.out, HBZ.out⟩
                case measure => simp [intOf]; omega
            · obtain rfl : y.kids.length = j := by omega
              have hj1 : ¬ ((y.kids.length : Nat) : Int) < (y.kids.length : Int) := by omega
              have hcv := conv_nl wr
              have HBN := Lib.hid (HBQ.out.alloc HBQ.out.size (.cells #[.int .u8 10] 5))
              have HXN := Lib.hid ((Below.heap_alloc wr (.cells #[.int .u8 10] 5) w.heap.size (lt_blk HXQ.out)).trans HXQ.out)
              have HST := Lib.hid (show (O2 ++ (⟨#[10]⟩ : ByteArray)).data.toList = linesD (rowsL n) ((m + 1) + 1) by
                rw [ByteArray.data_append, Array.toList_append, HO2.out, HLN.out]; simp)
              go_wp2_with fail
              go_roundw
              case rel => exact ⟨m + 1 + 1, (m : Int) + 1, O2 ++ (⟨#[10]⟩ : ByteArray), by omega, by go_num, rfl, by show _ = _; omega, fun h => absurd h hkn, HST.out, HXN.out, HBN.out⟩
              case measure => simp [intOf]; omega
      · obtain rfl : m = n.kids.length + 1 := by omega
        obtain rfl : z = (n.kids.length : Int) := by have := HZ.out; omega
        have hi1 : ¬ ((n.kids.length : Nat) : Int) < (n.kids.length : Int) := by omega
        have HE := Lib.hid (show O.data.toList = n.dlm by rw [HPN.out hkn, HO.out])
        go_wp2_with fail
        go_ret
        exact ⟨congrArg _ (strV_of HE.out), HBR.out⟩
theorem refEq18 {n : Nd} (h : (ofP tpD n).2 = 0) : n.dlm = n.dlm := rfl
end Go.Proofs.YtaolnpiemeaabaaGreatDoor

/- The walks of inkdelim's cells. -/
namespace Go.Proofs.YtaolnpiemeaabaaGreatDoor
open Go.RowKit Ev5
set_option linter.unusedSimpArgs false
set_option linter.unusedVariables false

def oddN (x : Nat) : Bool := decide (x < 32) || decide (x = 34 ∨ x = 44)
theorem oddN_idx (s : ByteArray) (hv : Lib.validD s.data.toList = true) : decide (0 ≤ Lib.idxFunc oddN true s) = s.data.toList.any oddC :=
  idx_gen0 oddN (fun x hx => by unfold oddN; rw [decide_eq_false (by omega), decide_eq_false (by omega)]; rfl) s hv
set_option maxRecDepth 1000000 in
set_option maxHeartbeats 2000000 in
theorem oddD_any (x : Nat) (w : World) (hx : x ≤ 1114111) :
    Calls Tryz.prog 62 #[.int .i32 (x : Int)] w fun e w' => e = .returned (.bool (oddN x)) ∧ Below w.heap.size w w' := by
  by_cases h1 : (x : Int) < 32
  · have HO := Lib.hid (show oddN x = true by unfold oddN; rw [decide_eq_true (by omega)]; rfl)
    go_enter Tryz.func62, Tryz.ntmps62
    go_wp2_with fail
    go_ret
    exact ⟨by rw [HO.out]; rfl, Below.refl _ _⟩
  · by_cases h2 : (x : Int) = 34
    · have HO := Lib.hid (show oddN x = true by unfold oddN; rw [decide_eq_true (show x = 34 ∨ x = 44 by omega), Bool.or_true])
      have h3 : ((x : Int) == 34) = true := by simp; omega
      go_enter Tryz.func62, Tryz.ntmps62
      go_wp2_with fail
      go_ret
      exact ⟨by rw [HO.out]; rfl, Below.refl _ _⟩
    · have h3 : ((x : Int) == 34) = false := by simp; omega
      have HO := Lib.hid (show oddN x = ((x : Int) == 44) by
        unfold oddN
        rw [decide_eq_false (by omega), Bool.false_or, Bool.eq_iff_iff, decide_eq_true_eq, beq_iff_eq]; omega)
      obtain ⟨R, hR⟩ : ∃ R, ((x : Int) == 44) = R := ⟨_, rfl⟩
      rw [hR] at HO
      go_enter Tryz.func62, Tryz.ntmps62
      go_wp2_with fail
      go_ret
      exact ⟨by rw [HO.out]; rfl, Below.refl _ _⟩
theorem oddD_grows (w : World) : PredGrows Tryz.prog 62 #[] oddN w := fun W x hx _ => oddD_any x W hx
theorem enters_oddD : ∀ args w, (callFunc 62 args).run Tryz.prog w = .ok (.enter 62 args) w := enters_of Tryz.func62 (by kernel_rfl) rfl
set_option maxRecDepth 1000000 in
set_option maxHeartbeats 2000000 in
theorem inkCell_any (s : ByteArray) (w : World) (hE : EnvU w) (hs : s.size ≤ 1048576) (hv : Lib.validD s.data.toList = true) :
    Calls Tryz.prog 40 #[.string s] w fun e w' => e = .returned (strV (cellT s)) ∧ Below w.heap.size w w' := by
  have HD := Lib.hid (oddN_idx s hv)
  have HE := Lib.hid hE
  have HC := Lib.hid (show cellT s = if s.data.toList.any oddC = true then 34 :: (s.data.toList.flatMap dblB ++ [34]) else s.data.toList from rfl)
  have hmf : ∀ (fn : Fn) (first cap : Array Value) (w : World), (Instr.makeFunc fn first cap).run Tryz.prog w = .ok (.func fn first cap) w := fun _ _ _ _ => rfl
  clear hE hv
  go_enter Tryz.func40, Tryz.ntmps40
  go_wp2_with fail
  refine (Tryz.strings_ContainsFunc_grows _ _ enters_oddD oddN s _ (oddD_grows _)).mono ?_
  rintro e w2 ⟨rfl, hb⟩
  rw [HD.out]
  have HB := Lib.hid hb
  clear hb
  cases hany : s.data.toList.any oddC
  · rw [hany] at HC
    clear hany
    go_wp2_with fail
    go_ret
    exact ⟨by rw [HC.out]; exact congrArg Ending.returned (strV_t s), HB.out⟩
  · rw [hany] at HC
    clear hany
    obtain ⟨m, hmx⟩ := (HE.out.below HB.out).env.mx
    go_wp2_with fail
    refine (Tryz.strings_ReplaceAll s ⟨#[34]⟩ ⟨#[34, 34]⟩ m _ (by omega) hmx (by decide) ?_).mono ?_
    · have h1 : Lib.countB s (⟨#[34]⟩ : ByteArray) ≤ s.size := by
        have h2 : Lib.countB s (⟨#[34]⟩ : ByteArray) = s.data.toList.count 34 := Lib.count_one _ _
        have h3 := List.count_le_length (a := (34 : UInt8)) (l := s.data.toList)
        have h4 : s.data.toList.length = s.size := Array.length_toList
        omega
      have h2 : (⟨#[34, 34]⟩ : ByteArray).size = 2 := rfl
      rw [h2]; omega
    rintro e w3 ⟨rfl, hb⟩
    rw [show Lib.replaceAll s.data.toList (⟨#[34]⟩ : ByteArray).data.toList (⟨#[34, 34]⟩ : ByteArray).data.toList = s.data.toList.flatMap dblB from repl_dbl _]
    obtain ⟨Y, hY, hYD⟩ : ∃ Y : ByteArray, (⟨(s.data.toList.flatMap dblB).toArray⟩ : ByteArray) = Y ∧ Y.data.toList = s.data.toList.flatMap dblB := ⟨_, rfl, by simp⟩
    have hYs : Y.size ≤ 2097152 := by
      have h1 := dbl_len s.data.toList
      have h4 : s.data.toList.length = s.size := Array.length_toList
      have h5 : Y.data.toList.length = Y.size := Array.length_toList
      rw [← hYD] at h1
      omega
    rw [hY]
    have HY := Lib.hid hYD
    have HB3 := Lib.hid (bthen HB.out hb)
    clear hb hY hYD hmx
    go_wp2_with fail
    go_ret
    refine ⟨congrArg _ (strV_of ?_), HB3.out⟩
    rw [HC.out.trans (if_pos (by trivial)), ByteArray.data_append, ByteArray.data_append, Array.toList_append, Array.toList_append, HY.out]
    simp
end Go.Proofs.YtaolnpiemeaabaaGreatDoor

/- The walks of inkdelim.line and inkdelim.Print. -/
namespace Go.Proofs.YtaolnpiemeaabaaGreatDoor
open Go.RowKit Ev5
set_option linter.unusedSimpArgs false
set_option linter.unusedVariables false

set_option maxRecDepth 100000 in
set_option maxHeartbeats 2000000 in
theorem text1_any (f : Nd) (w : World) (S : Nat → Prop) (v : Value) (hv : NdV w S v f) :
    Calls Tryz.prog 24 #[v] w fun e w' => e = .returned (.string f.t) ∧ Below w.heap.size w w' := by
  obtain ⟨u, rfl, hs⟩ := hv
  have HB0 := Lib.hid (show Below w.heap.size w (w.alloc (.cells #[.int .i64 f.k, .string f.t, .string f.v, u] 24)) from (Below.refl _ _).alloc (Nat.le_refl _) _)
  obtain ⟨ao, cap, rfl, hcap, hcm⟩ := hs.shape
  clear hs
  unfold ndV
  go_enter Tryz.func24, Tryz.ntmps24
  go_wp2_with fail
  go_ret
  exact ⟨rfl, HB0.out⟩
set_option maxRecDepth 100000 in
set_option maxHeartbeats 2000000 in
theorem text2_any (f : Nd) (b : ByteArray) (hk : f.kids = [.mk 4 b emp []]) (w : World) (S : Nat → Prop) (v : Value) (hv : NdV w S v f) :
    Calls Tryz.prog 25 #[v] w fun e w' => e = .returned (.string b) ∧ Below w.heap.size w w' := by
  obtain ⟨u, rfl, hs⟩ := hv
  have HB0 := Lib.hid (show Below w.heap.size w (w.alloc (.cells #[.int .i64 f.k, .string f.t, .string f.v, u] 24)) from (Below.refl _ _).alloc (Nat.le_refl _) _)
  rw [hk] at hs
  obtain ⟨ao, cap, rfl, hcap, hcm⟩ := hs.shape
  obtain ⟨xb, xo, xu, hxo, hxw, q0, q1, q2, q3, hxu⟩ := hs.at_ 0 (by simp)
  rw [Nat.zero_mul, Nat.add_zero] at q0 q1 q2 q3
  simp only [List.getElem_cons_zero, Nd.k, Nd.t, Nd.v, Nd.kids] at q0 q1 q2 q3
  subst hxo
  have hb0 := HB0.out
  have g1 : (w.alloc (.cells #[.int .i64 f.k, .string f.t, .string f.v, .slice (some ⟨xb, xo, none⟩) [Nd.mk 4 b emp []].length cap] 24)).cell? ⟨xb, xo + 1, none⟩ = some (.string b) := (hb0.cell (p := ⟨xb, xo + 1, none⟩) hxw).trans q1
  have hcp : 1 ≤ cap := hcap
  unfold maxLen at hcm
  have hxl2 := hxw
  clear hs hxu q0 q2 q3 hcap hb0
  unfold ndV
  simp only [List.length_singleton] at g1
  go_enter Tryz.func25, Tryz.ntmps25
  go_wp2_with fail
  go_ret
  exact ⟨rfl, HB0.out⟩
set_option maxRecDepth 100000 in
set_option maxHeartbeats 8000000 in
theorem line1_any (y : Nd) (ks : List ByteArray) (hR : RowD ks y) (hok : y.ok) (w : World) (S : Nat → Prop) (u : Value) (hE : EnvU w) (hs : SlIn w S u y.kids) :
    Calls Tryz.prog 23 #[u, .func (.func 24) #[] #[]] w fun e w' => e = .returned (strV (lineD y.keys)) ∧ Below w.heap.size w w' := by
  obtain ⟨ao, cap, rfl, hcap, hcm⟩ := hs.shape
  obtain ⟨i0, hinf, hz0, hz1, hz2⟩ := info_parts infoT
  have hy8 := hR.few
  have HI := Lib.hid hinf; have HS := Lib.hid hs.ltC; have HE := Lib.hid hE; have HRD := Lib.hid hR
  have hcl : y.keys.length = y.kids.length := by unfold Nd.keys; rw [List.length_map]
  have HCN := Lib.hid hcl
  have HCL := Lib.hid (joinD_len8 (l := y.keys) ((row_ok hR hok).1.2) (by rw [hcl]; exact hy8) y.keys.length)
  have HFK := Lib.hid (show ∀ f ∈ y.kids, f.ok from by
    obtain ⟨k, t, v, fs⟩ := y
    rw [ok_mk] at hok
    exact (oks_iff _).1 hok.2)
  have hmf : ∀ (fn : Fn) (first cap : Array Value) (w : World), (Instr.makeFunc fn first cap).run Tryz.prog w = .ok (.func fn first cap) w := fun _ _ _ _ => rfl
  clear hinf hs hR hok hE hcl
  unfold maxLen at *
  go_enter Tryz.func23, Tryz.ntmps23
  go_wp2_with fail
  go_loopw [5, 10] (fun v5 v10 wr => ∃ i : Nat, i ≤ y.kids.length ∧ v10 = .int .i64 i ∧ Hid (wr.ownsRow w.heap.size 9 1 v5 i (strR ((y.keys.map cellT).take i))) ∧ Hid (Below w.heap.size w wr)) (fun _ v10 _ => y.kids.length - (intOf v10).toNat)
  case atStart => exact ⟨0, Nat.zero_le _, rfl, World.ownsRow_nil _ _ _ _, Below.refl _ _⟩
  case round =>
    obtain ⟨i, hi, rfl, HO, HBR⟩ := hrel
    obtain ⟨va, vc, hva⟩ := own_shapeC HO.out
    subst hva
    by_cases hlt : i < y.kids.length
    · have hi0 : (0 : Int) ≤ (i : Int) := Int.natCast_nonneg _
      have hi1 : (i : Int) < (y.kids.length : Int) := by omega
      obtain ⟨kb, ko, kx, hko, hkw, k0, k1, k2, k3, hkx⟩ := HS.out.at_ i hlt
      obtain ⟨ay, cy, rfl, _, _⟩ := hkx.shape
      subst hko
      have hmem := List.getElem_mem hlt
      have hFD := HRD.out.fields _ hmem
      have hfo2 := field_ok hFD (HFK.out _ hmem)
      have hget := keys_get y hlt
      have hgl : (y.keys.map cellT)[i]? = some (cellT (y.keys[i]'(by rw [HCN.out]; exact hlt))) := by
        rw [List.getElem?_map, List.getElem?_eq_getElem (by rw [HCN.out]; exact hlt)]; rfl
      rw [hget] at hgl
      obtain ⟨f, hf⟩ : ∃ f, y.kids[i] = f := ⟨_, rfl⟩
      rw [hf] at k0 k1 k2 k3 hkx hFD hfo2 hgl
      have hbw := HBR.out
      have d0 : wr.cell? ⟨kb, ko + i * 4, none⟩ = some (.int .i64 f.k) := (hbw.cell (p := ⟨kb, ko + i * 4, none⟩) hkw).trans k0
      have d1 : wr.cell? ⟨kb, ko + i * 4 + 1, none⟩ = some (.string f.t) := (hbw.cell (p := ⟨kb, ko + i * 4 + 1, none⟩) hkw).trans k1
      have d2 : wr.cell? ⟨kb, ko + i * 4 + 2, none⟩ = some (.string f.v) := (hbw.cell (p := ⟨kb, ko + i * 4 + 2, none⟩) hkw).trans k2
      have d3 : wr.cell? ⟨kb, ko + i * 4 + 3, none⟩ = some (.slice ay f.kids.length cy) := (hbw.cell (p := ⟨kb, ko + i * 4 + 3, none⟩) hkw).trans k3
      have hkl : kb < wr.heap.size := Nat.lt_of_lt_of_le hkw hbw.size
      have HKX := Lib.hid (show NdV w _ (.agg #[.int .i64 f.k, .string f.t, .string f.v, .slice ay f.kids.length cy]) f from NdV.mk hkx)
      have hxs := hfo2.1
      have hxv : Lib.validD f.t.data.toList = true := by obtain ⟨a, b, rfl, h, _⟩ := hFD; exact h
      have HTXT := Lib.hid (fun (W : World) (S : Nat → Prop) (v : Value) (h : NdV W S v f) => text1_any f W S v h)
      obtain ⟨C, hC1, hC2⟩ : ∃ C : ByteArray, strV (cellT f.t) = .string C ∧ C.data.toList = cellT f.t := ⟨_, rfl, rfl⟩
      have HCELL := Lib.hid (fun (W : World) (h : EnvU W) => (inkCell_any f.t W h hxs hxv).mono fun e w2 h => show e = .returned (.string C) ∧ Below W.heap.size W w2 from ⟨by rw [h.1, hC1], h.2⟩)
      have HTK := Lib.hid (show strR ((y.keys.map cellT).take (i + 1)) = strR ((y.keys.map cellT).take i) ++ [.string C] by
        rw [List.take_add_one, hgl, strR_app, ← hC1]; rfl)
      have hB1 : Below wr.heap.size wr (wr.alloc (.cells #[.int .i64 f.k, .string f.t, .string f.v, .slice ay f.kids.length cy] 24)) := (Below.refl _ _).alloc (Nat.le_refl _) _
      have HB1 := Lib.hid (bthen HBR.out hB1)
      have HO1 := Lib.hid (owns_below HO.out hB1)
      clear k0 k1 k2 k3 hkx hFD hfo2 hget hgl hf hbw hkw hmem hC1 hC2 hB1
      go_wp2_with fail
      refine (HTXT.out _ _ _ (HKX.out.below HB1.out)).mono ?_
      rintro e w2 ⟨rfl, hb⟩
      have HB2 := Lib.hid (bthen HB1.out hb)
      have HO2 := Lib.hid (owns_below HO1.out hb)
      clear hb d0 d1 d2 d3
      go_wp2_with fail
      refine (HCELL.out _ (HE.out.below HB2.out)).mono ?_
      rintro e w3 ⟨rfl, hb⟩
      have HB3 := Lib.hid (bthen HB2.out hb)
      have HO3 := Lib.hid (owns_below (owns_below HO2.out hb) (show Below w3.heap.size w3 (w3.alloc (.cells #[.string C] 9)) from (Below.refl _ _).alloc (Nat.le_refl _) _))
      clear hb
      have hw3 : w.heap.size ≤ w3.heap.size := HB3.out.size
      go_wp2_with (at_builtin; refine wpList_append_own_at _ rfl _ _ 54 rfl w.heap.size 9 i0 _ 1 16 Tryz.underlying54 HI.out hz0 hz1 hz2 rfl (by omega) _ i (strR ((y.keys.map cellT).take i)) (by rfl) HO3.out ⟨w3.heap.size, 0, none⟩ 1 1 [.string C] (by rfl) (by rfl) (World.news_of_block (heap_alloc_new w3 _)) (by intro u hu; rw [List.mem_singleton.1 hu]; rfl) (by unfold maxLen; omega) (by omega) (by simp; omega) ?_)
      intro v1 w4 hown hgrow _ hat
      have hlo : ∀ g, (Value.slice va i vc).ownBlock = some g → w.heap.size ≤ g := fun g e => (HO.out.lt g e).1
      have HOW4 := Lib.hid (show w4.ownsRow w.heap.size 9 1 v1 (i + 1) (strR ((y.keys.map cellT).take (i + 1))) by rw [HTK.out]; exact hown)
      have HB4 := Lib.hid (show Below w.heap.size w w4 from (HB3.out.alloc hw3 _).grown hgrow (by simp; omega) hlo)
      clear hown hgrow hat hlo
      go_wp2_with fail
      go_roundw
      case rel => exact ⟨i + 1, by omega, by go_num, HOW4, HB4⟩
      case measure => simp [intOf]; omega
    · obtain rfl : i = y.kids.length := by omega
      have hi1 : ¬ ((y.kids.length : Nat) : Int) < (y.kids.length : Int) := by omega
      have hml : (y.keys.map cellT).length = y.kids.length := by rw [List.length_map, HCN.out]
      have HJE := Lib.hid (show joinD y.keys y.keys.length = Lib.join (y.keys.map cellT) [44] by unfold joinD; rw [List.take_length])
      have HJ := Lib.hid (join_own wr w.heap.size (.slice va y.kids.length vc) (y.keys.map cellT) ⟨#[44]⟩ (by have h := HO.out; rw [List.take_of_length_le (by omega)] at h; rw [hml]; exact h) (by omega) (by have h := HCL.out; rw [HJE.out] at h; exact Nat.le_trans h (by decide)))
      obtain ⟨J, hJ1, hJ2⟩ : ∃ J : ByteArray, strV (Lib.join (y.keys.map cellT) (⟨#[44]⟩ : ByteArray).data.toList) = .string J ∧ J.data.toList = Lib.join (y.keys.map cellT) [44] := ⟨_, rfl, rfl⟩
      rw [hJ1] at HJ
      have hJs : J.size ≤ 16777240 := by
        have h := HCL.out
        rw [HJE.out, ← hJ2, baD_size] at h
        exact h
      have HJ2 := Lib.hid (show (J ++ (⟨#[10]⟩ : ByteArray)).data.toList = lineD y.keys by
        rw [joinD_all, HJE.out, ByteArray.data_append, Array.toList_append, hJ2])
      clear hJ1 hJ2
      go_wp2_with fail
      refine HJ.out.mono ?_
      rintro e w2 ⟨rfl, hb⟩
      have HB2 := Lib.hid (bthen HBR.out hb)
      clear hb
      go_wp2_with fail
      go_ret
      exact ⟨congrArg _ (strV_of HJ2.out), HB2.out⟩
set_option maxRecDepth 100000 in
set_option maxHeartbeats 8000000 in
theorem line2_any (y : Nd) (ks : List ByteArray) (hR : RowD ks y) (hok : y.ok) (w : World) (S : Nat → Prop) (u : Value) (hE : EnvU w) (hs : SlIn w S u y.kids) :
    Calls Tryz.prog 23 #[u, .func (.func 25) #[] #[]] w fun e w' => e = .returned (strV (lineD y.vals)) ∧ Below w.heap.size w w' := by
  obtain ⟨ao, cap, rfl, hcap, hcm⟩ := hs.shape
  obtain ⟨i0, hinf, hz0, hz1, hz2⟩ := info_parts infoT
  have hy8 := hR.few
  have HI := Lib.hid hinf; have HS := Lib.hid hs.ltC; have HE := Lib.hid hE; have HRD := Lib.hid hR
  have hcl : y.vals.length = y.kids.length := by unfold Nd.vals; rw [List.length_map]
  have HCN := Lib.hid hcl
  have HCL := Lib.hid (joinD_len8 (l := y.vals) ((row_ok hR hok).2.2) (by rw [hcl]; exact hy8) y.vals.length)
  have HFK := Lib.hid (show ∀ f ∈ y.kids, f.ok from by
    obtain ⟨k, t, v, fs⟩ := y
    rw [ok_mk] at hok
    exact (oks_iff _).1 hok.2)
  have hmf : ∀ (fn : Fn) (first cap : Array Value) (w : World), (Instr.makeFunc fn first cap).run Tryz.prog w = .ok (.func fn first cap) w := fun _ _ _ _ => rfl
  clear hinf hs hR hok hE hcl
  unfold maxLen at *
  go_enter Tryz.func23, Tryz.ntmps23
  go_wp2_with fail
  go_loopw [5, 10] (fun v5 v10 wr => ∃ i : Nat, i ≤ y.kids.length ∧ v10 = .int .i64 i ∧ Hid (wr.ownsRow w.heap.size 9 1 v5 i (strR ((y.vals.map cellT).take i))) ∧ Hid (Below w.heap.size w wr)) (fun _ v10 _ => y.kids.length - (intOf v10).toNat)
  case atStart => exact ⟨0, Nat.zero_le _, rfl, World.ownsRow_nil _ _ _ _, Below.refl _ _⟩
  case round =>
    obtain ⟨i, hi, rfl, HO, HBR⟩ := hrel
    obtain ⟨va, vc, hva⟩ := own_shapeC HO.out
    subst hva
    by_cases hlt : i < y.kids.length
    · have hi0 : (0 : Int) ≤ (i : Int) := Int.natCast_nonneg _
      have hi1 : (i : Int) < (y.kids.length : Int) := by omega
      obtain ⟨kb, ko, kx, hko, hkw, k0, k1, k2, k3, hkx⟩ := HS.out.at_ i hlt
      obtain ⟨ay, cy, rfl, _, _⟩ := hkx.shape
      subst hko
      have hmem := List.getElem_mem hlt
      have hFD := HRD.out.fields _ hmem
      have hfo2 := field_ok hFD (HFK.out _ hmem)
      have hget := vals_get y hlt
      have hgl : (y.vals.map cellT)[i]? = some (cellT (y.vals[i]'(by rw [HCN.out]; exact hlt))) := by
        rw [List.getElem?_map, List.getElem?_eq_getElem (by rw [HCN.out]; exact hlt)]; rfl
      rw [hget] at hgl
      obtain ⟨f, hf⟩ : ∃ f, y.kids[i] = f := ⟨_, rfl⟩
      rw [hf] at k0 k1 k2 k3 hkx hFD hfo2 hgl
      have hbw := HBR.out
      have d0 : wr.cell? ⟨kb, ko + i * 4, none⟩ = some (.int .i64 f.k) := (hbw.cell (p := ⟨kb, ko + i * 4, none⟩) hkw).trans k0
      have d1 : wr.cell? ⟨kb, ko + i * 4 + 1, none⟩ = some (.string f.t) := (hbw.cell (p := ⟨kb, ko + i * 4 + 1, none⟩) hkw).trans k1
      have d2 : wr.cell? ⟨kb, ko + i * 4 + 2, none⟩ = some (.string f.v) := (hbw.cell (p := ⟨kb, ko + i * 4 + 2, none⟩) hkw).trans k2
      have d3 : wr.cell? ⟨kb, ko + i * 4 + 3, none⟩ = some (.slice ay f.kids.length cy) := (hbw.cell (p := ⟨kb, ko + i * 4 + 3, none⟩) hkw).trans k3
      have hkl : kb < wr.heap.size := Nat.lt_of_lt_of_le hkw hbw.size
      have HKX := Lib.hid (show NdV w _ (.agg #[.int .i64 f.k, .string f.t, .string f.v, .slice ay f.kids.length cy]) f from NdV.mk hkx)
      have hxs := hfo2.2
      have hxv : Lib.validD (valT f).data.toList = true := by obtain ⟨a, b, rfl, _, h⟩ := hFD; exact h
      obtain ⟨b, hfk, hfv, hfks, hfb⟩ := hFD.form
      rw [hfb] at hxs hxv hgl
      have HTXT := Lib.hid (fun (W : World) (S : Nat → Prop) (v : Value) (h : NdV W S v f) => text2_any f b hfks W S v h)
      clear hfk hfv hfks hfb
      obtain ⟨C, hC1, hC2⟩ : ∃ C : ByteArray, strV (cellT b) = .string C ∧ C.data.toList = cellT b := ⟨_, rfl, rfl⟩
      have HCELL := Lib.hid (fun (W : World) (h : EnvU W) => (inkCell_any b W h hxs hxv).mono fun e w2 h => show e = .returned (.string C) ∧ Below W.heap.size W w2 from ⟨by rw [h.1, hC1], h.2⟩)
      have HTK := Lib.hid (show strR ((y.vals.map cellT).take (i + 1)) = strR ((y.vals.map cellT).take i) ++ [.string C] by
        rw [List.take_add_one, hgl, strR_app, ← hC1]; rfl)
      have hB1 : Below wr.heap.size wr (wr.alloc (.cells #[.int .i64 f.k, .string f.t, .string f.v, .slice ay f.kids.length cy] 24)) := (Below.refl _ _).alloc (Nat.le_refl _) _
      have HB1 := Lib.hid (bthen HBR.out hB1)
      have HO1 := Lib.hid (owns_below HO.out hB1)
      clear k0 k1 k2 k3 hkx hFD hfo2 hget hgl hf hbw hkw hmem hC1 hC2 hB1
      go_wp2_with fail
      refine (HTXT.out _ _ _ (HKX.out.below HB1.out)).mono ?_
      rintro e w2 ⟨rfl, hb⟩
      have HB2 := Lib.hid (bthen HB1.out hb)
      have HO2 := Lib.hid (owns_below HO1.out hb)
      clear hb d0 d1 d2 d3
      go_wp2_with fail
      refine (HCELL.out _ (HE.out.below HB2.out)).mono ?_
      rintro e w3 ⟨rfl, hb⟩
      have HB3 := Lib.hid (bthen HB2.out hb)
      have HO3 := Lib.hid (owns_below (owns_below HO2.out hb) (show Below w3.heap.size w3 (w3.alloc (.cells #[.string C] 9)) from (Below.refl _ _).alloc (Nat.le_refl _) _))
      clear hb
      have hw3 : w.heap.size ≤ w3.heap.size := HB3.out.size
      go_wp2_with (at_builtin; refine wpList_append_own_at _ rfl _ _ 54 rfl w.heap.size 9 i0 _ 1 16 Tryz.underlying54 HI.out hz0 hz1 hz2 rfl (by omega) _ i (strR ((y.vals.map cellT).take i)) (by rfl) HO3.out ⟨w3.heap.size, 0, none⟩ 1 1 [.string C] (by rfl) (by rfl) (World.news_of_block (heap_alloc_new w3 _)) (by intro u hu; rw [List.mem_singleton.1 hu]; rfl) (by unfold maxLen; omega) (by omega) (by simp; omega) ?_)
      intro v1 w4 hown hgrow _ hat
      have hlo : ∀ g, (Value.slice va i vc).ownBlock = some g → w.heap.size ≤ g := fun g e => (HO.out.lt g e).1
      have HOW4 := Lib.hid (show w4.ownsRow w.heap.size 9 1 v1 (i + 1) (strR ((y.vals.map cellT).take (i + 1))) by rw [HTK.out]; exact hown)
      have HB4 := Lib.hid (show Below w.heap.size w w4 from (HB3.out.alloc hw3 _).grown hgrow (by simp; omega) hlo)
      clear hown hgrow hat hlo
      go_wp2_with fail
      go_roundw
      case rel => exact ⟨i + 1, by omega, by go_num, HOW4, HB4⟩
      case measure => simp [intOf]; omega
    · obtain rfl : i = y.kids.length := by omega
      have hi1 : ¬ ((y.kids.length : Nat) : Int) < (y.kids.length : Int) := by omega
      have hml : (y.vals.map cellT).length = y.kids.length := by rw [List.length_map, HCN.out]
      have HJE := Lib.hid (show joinD y.vals y.vals.length = Lib.join (y.vals.map cellT) [44] by unfold joinD; rw [List.take_length])
      have HJ := Lib.hid (join_own wr w.heap.size (.slice va y.kids.length vc) (y.vals.map cellT) ⟨#[44]⟩ (by have h := HO.out; rw [List.take_of_length_le (by omega)] at h; rw [hml]; exact h) (by omega) (by have h := HCL.out; rw [HJE.out] at h; exact Nat.le_trans h (by decide)))
      obtain ⟨J, hJ1, hJ2⟩ : ∃ J : ByteArray, strV (Lib.join (y.vals.map cellT) (⟨#[44]⟩ : ByteArray).data.toList) = .string J ∧ J.data.toList = Lib.join (y.vals.map cellT) [44] := ⟨_, rfl, rfl⟩
      rw [hJ1] at HJ
      have hJs : J.size ≤ 16777240 := by
        have h := HCL.out
        rw [HJE.out, ← hJ2, baD_size] at h
        exact h
      have HJ2 := Lib.hid (show (J ++ (⟨#[10]⟩ : ByteArray)).data.toList = lineD y.vals by
        rw [joinD_all, HJE.out, ByteArray.data_append, Array.toList_append, hJ2])
      clear hJ1 hJ2
      go_wp2_with fail
      refine HJ.out.mono ?_
      rintro e w2 ⟨rfl, hb⟩
      have HB2 := Lib.hid (bthen HBR.out hb)
      clear hb
      go_wp2_with fail
      go_ret
      exact ⟨congrArg _ (strV_of HJ2.out), HB2.out⟩
set_option maxRecDepth 100000 in
set_option maxHeartbeats 8000000 in
theorem inkdelimPrint_any (n : Nd) (w : World) (S : Nat → Prop) (v : Value) (hE : EnvU w) (hv : NdV w S v n) (hok : n.ok) (hN : n.size ≤ 50000) :
    Calls Tryz.prog 11 #[v] w (InkPost (ofP tpD n) n.dlm w) := by
  obtain ⟨u, rfl, hs⟩ := hv
  obtain ⟨ao, cap, rfl, hcap, hcm⟩ := hs.shape
  have hkl : n.kids.length ≤ 50000 := by have := sizes_len n.kids; have := kids_size n; omega
  have HV := Lib.hid (NdV.mk hs.ltC); have HE := Lib.hid hE; have HOK := Lib.hid hok; have HSZ := Lib.hid hN; have HS := Lib.hid hs.ltC
  have HX := Lib.hid (heap_alloc_new w (.cells #[.int .i64 n.k, .string n.t, .string n.v, .slice ao n.kids.length cap] 24))
  have HB0 := Lib.hid (show Below w.heap.size w (w.alloc (.cells #[.int .i64 n.k, .string n.t, .string n.v, .slice ao n.kids.length cap] 24)) from (Below.refl _ _).alloc (Nat.le_refl _) _)
  obtain ⟨E, hEq⟩ : ∃ E, (ofP tpD n).2 = E := ⟨_, rfl⟩
  obtain ⟨q, hq⟩ : ∃ q, plc (ofP tpD n) = q := ⟨_, rfl⟩
  have HQ := Lib.hid (fun (w' : World) (S : Nat → Prop) (v : Value) (h1 : EnvU w') (h2 : NdV w' S v n) => (carryDelim_any n w' S v h1 h2 hok hN).mono fun e w2 h => h.to hEq hq)
  have HP := Lib.hid (show ∀ e w', (Below w.heap.size w w' ∧ ∃ a c, e = .returned (.tuple #[strV (if E = 0 then n.dlm else []), .slice a q.length c, .int .i64 E]) ∧ IntsIn w' (.slice a q.length c) q) → InkPost (ofP tpD n) n.dlm w e w' from fun e w' h => by
    unfold InkPost; rw [hEq, hq]; exact h)
  have HTB := Lib.hid (fun h : E = 0 => dl_of (hEq.trans h))
  have HQ0 := Lib.hid (fun h : E = 0 => show q = [] from hq ▸ (ofP_ok (hEq.trans h)).1)
  clear hs hE hok hN hEq hq
  unfold ndV
  unfold maxLen at *
  go_enter Tryz.func11, Tryz.ntmps11
  go_wp2_with fail
  refine (HQ.out _ _ _ (HE.out.below HB0.out) (HV.out.below HB0.out)).mono ?_
  rintro e w2 ⟨hb, a2, c2, rfl, hi⟩
  have HB2 := Lib.hid (bthen HB0.out hb)
  have HI := Lib.hid hi
  have HX2 := Lib.hid ((hb.block _ (lt_blk HX.out)).trans HX.out)
  obtain ⟨x0, x1, x2, x3, _, _, _, _, hxl⟩ := nd_cells HX2.out
  clear hb hi
  by_cases hz : E = 0
  · subst hz
    obtain rfl := HQ0.out rfl
    have hD := HTB.out rfl
    have HD := Lib.hid hD
    clear hD
    by_cases hk : n.kids = []
    · have hlen : ((n.kids.length : Int) == 0) = true := by rw [hk]; rfl
      have HPN := Lib.hid (show n.dlm = [] by unfold Nd.dlm; rw [if_pos (by rw [hk]; rfl)])
      clear hk
      go_wp2_with fail
      refine bodyPost_ret (v := .tuple #[.string ⟨#[]⟩, .slice none 0 0, .int .i64 0]) (by simp [results, Tryz.results11, go_sem]) rfl ?_
      refine HP.out _ _ ⟨HB2.out, none, 0, ?_, ints_nilC _⟩
      rw [HPN.out]; rfl
    · have hlen : ((n.kids.length : Int) == 0) = false := by have := List.length_pos_iff.2 hk; simp; omega
      have hrow : 0 < n.kids.length := List.length_pos_iff.2 hk
      have hr1 : (0 : Int) < (n.kids.length : Int) := by omega
      have HLB := Lib.hid (linesD_bound HD.out HOK.out HSZ.out hk)
      have HPN := Lib.hid (dlm_rows hk)
      have HNK := Lib.hid (show ∀ f ∈ n.kids, f.ok from by
        have h := HOK.out
        obtain ⟨k, t, v, fs⟩ := n
        rw [ok_mk] at h
        exact (oks_iff _).1 h.2)
      obtain ⟨yb, yo, yx, hyo, hyw, k0, k1, k2, k3, hyx⟩ := HS.out.at_ 0 hrow
      obtain ⟨ay, cy, rfl, _, _⟩ := hyx.shape
      subst hyo
      have hymem := List.getElem_mem hrow
      have hRD := HD.out.row _ hymem
      have hyok := HNK.out _ hymem
      have hrw := rowsL_zero n hrow
      obtain ⟨y, hy⟩ : ∃ y, n.kids[0] = y := ⟨_, rfl⟩
      rw [hy] at k0 k1 k2 k3 hyx hRD hyok hrw
      simp only [Nat.zero_mul, Nat.add_zero] at k0 k1 k2 k3
      have hbw := HB2.out
      have d3 : w2.cell? ⟨yb, yo + 3, none⟩ = some (.slice ay y.kids.length cy) := (hbw.cell (p := ⟨yb, yo + 3, none⟩) hyw).trans k3
      have d0 : w2.cell? ⟨yb, yo, none⟩ = some (.int .i64 y.k) := (hbw.cell (p := ⟨yb, yo, none⟩) hyw).trans k0
      have hyl : yb < w2.heap.size := Nat.lt_of_lt_of_le hyw hbw.size
      have HRD := Lib.hid hRD; have HYOK := Lib.hid hyok
      have HYS := Lib.hid hyx.ltC
      have HL1 := Lib.hid (show linesD (rowsL n) 1 = lineD y.keys by
        rw [linesD_succ (R := rowsL n) (m := 0) (by rw [rowsL_len]; omega), hrw]; rfl)
      clear k0 k1 k2 k3 hyx hRD hyok hrw hbw hy hymem
      obtain ⟨L, hL1, hL2⟩ : ∃ L : ByteArray, strV (lineD y.keys) = .string L ∧ L.data.toList = lineD y.keys := ⟨_, rfl, rfl⟩
      have HLI := Lib.hid ((line1_any y _ HRD.out HYOK.out w2 _ (.slice ay y.kids.length cy) (HE.out.below HB2.out) (HYS.out.below HB2.out)).mono fun e w3 h => show e = .returned (.string L) ∧ Below w2.heap.size w2 w3 from ⟨by rw [h.1, hL1], h.2⟩)
      have HL2 := Lib.hid (show L.data.toList = linesD (rowsL n) (0 + 1) by rw [hL2, ← HL1.out])
      clear hL1 hL2
      go_wp2_with fail
      refine HLI.out.mono ?_
      rintro e w3 ⟨rfl, hb⟩
      have HB3 := Lib.hid (bthen HB2.out hb)
      have HX3 := Lib.hid ((hb.block _ (lt_blk HX2.out)).trans HX2.out)
      clear hb x0 x1 x2 x3 hxl d0 d3
      obtain ⟨x0, x1, x2, x3, _, _, _, _, hxl⟩ := nd_cells HX3.out
      go_wp2_with fail
      clear x0 x1 x2 x3
      go_loopw [7, 32] (fun vs vi wr => ∃ (i : Nat) (O : ByteArray), i ≤ n.kids.length ∧ vi = .int .i64 i ∧ vs = .string O ∧ Hid (O.data.toList = linesD (rowsL n) (i + 1)) ∧ Hid (Below w.heap.size w wr)) (fun _ vi _ => n.kids.length - (intOf vi).toNat)
      case atStart => exact ⟨0, L, Nat.zero_le _, rfl, rfl, HL2.out, HB3.out⟩
      case round =>
        obtain ⟨i, O, hi, rfl, rfl, HO, HBR⟩ := hrel
        have hOs : O.size ≤ 16777241 * 50001 := by
          have h1 := HLB.out (i + 1)
          rw [← HO.out, baD_size] at h1
          exact h1
        by_cases hlt : i < n.kids.length
        · have hi0 : (0 : Int) ≤ (i : Int) := Int.natCast_nonneg _
          have hi1 : (i : Int) < (n.kids.length : Int) := by omega
          obtain ⟨kb, ko, kx, hko, hkw, k0, k1, k2, k3, hkx⟩ := HS.out.at_ i hlt
          obtain ⟨az, cz, rfl, _, _⟩ := hkx.shape
          have hko2 : (⟨yb, yo, none⟩ : Addr) = ⟨kb, ko, none⟩ := by injection hko
          obtain ⟨rfl, rfl⟩ : yb = kb ∧ yo = ko := by injection hko2 with h1 h2; exact ⟨h1, h2⟩
          have hmem := List.getElem_mem hlt
          have hRZ := HD.out.row _ hmem
          have hzok := HNK.out _ hmem
          have hrw := rowsL_succ n hlt
          obtain ⟨z, hzz⟩ : ∃ z, n.kids[i] = z := ⟨_, rfl⟩
          rw [hzz] at k0 k1 k2 k3 hkx hRZ hzok hrw
          have hbw := HBR.out
          have d0 : wr.cell? ⟨yb, yo + i * 4, none⟩ = some (.int .i64 z.k) := (hbw.cell (p := ⟨yb, yo + i * 4, none⟩) hkw).trans k0
          have d1 : wr.cell? ⟨yb, yo + i * 4 + 1, none⟩ = some (.string z.t) := (hbw.cell (p := ⟨yb, yo + i * 4 + 1, none⟩) hkw).trans k1
          have d2 : wr.cell? ⟨yb, yo + i * 4 + 2, none⟩ = some (.string z.v) := (hbw.cell (p := ⟨yb, yo + i * 4 + 2, none⟩) hkw).trans k2
          have d3 : wr.cell? ⟨yb, yo + i * 4 + 3, none⟩ = some (.slice az z.kids.length cz) := (hbw.cell (p := ⟨yb, yo + i * 4 + 3, none⟩) hkw).trans k3
          have hkl2 : yb < wr.heap.size := Nat.lt_of_lt_of_le hkw hbw.size
          have HZS := Lib.hid hkx.ltC; have HRZ := Lib.hid hRZ; have HZOK := Lib.hid hzok
          have HLN := Lib.hid (show linesD (rowsL n) (i + 1 + 1) = linesD (rowsL n) (i + 1) ++ lineD z.vals by
            rw [linesD_succ (by rw [rowsL_len]; omega), hrw])
          have HBA := Lib.hid (show Below w.heap.size w (wr.alloc (.cells #[.int .i64 z.k, .string z.t, .string z.v, .slice az z.kids.length cz] 24)) from HBR.out.alloc HBR.out.size _)
          obtain ⟨L2, hL1, hL2⟩ : ∃ L2 : ByteArray, strV (lineD z.vals) = .string L2 ∧ L2.data.toList = lineD z.vals := ⟨_, rfl, rfl⟩
          have hLs : L2.size ≤ 16777241 := by
            have h1 := joinD_len8 ((row_ok hRZ hzok).2.2) (row_ok hRZ hzok).2.1 z.vals.length
            have h2 := congrArg List.length (joinD_all z.vals)
            rw [← hL2, baD_size, List.length_append, List.length_singleton] at h2
            omega
          have HLI := Lib.hid (fun (W : World) (hb : Below w.heap.size w W) => (line2_any z _ HRZ.out HZOK.out W _ (.slice az z.kids.length cz) (HE.out.below hb) (HZS.out.below hb)).mono fun e w3 h => show e = .returned (.string L2) ∧ Below W.heap.size W w3 from ⟨by rw [h.1, hL1], h.2⟩)
          have HO2 := Lib.hid (show (O ++ L2).data.toList = linesD (rowsL n) (i + 1 + 1) by
            rw [HLN.out, ByteArray.data_append, Array.toList_append, HO.out, hL2])
          clear k0 k1 k2 k3 hkx hRZ hzok hrw hbw hzz hmem hL1 hL2 hko hko2
          go_wp2_with fail
          refine (HLI.out _ HBA.out).mono ?_
          rintro e w4 ⟨rfl, hb⟩
          have HB4 := Lib.hid (bthen HBA.out hb)
          clear hb d0 d1 d2 d3
          go_wp2_with fail
          go_roundw
          case rel => exact ⟨i + 1, O ++ L2, by omega, by go_num, rfl, HO2.out, HB4.out⟩
          case measure => simp [intOf]; omega
        · obtain rfl : i = n.kids.length := by omega
          have hi1 : ¬ ((n.kids.length : Nat) : Int) < (n.kids.length : Int) := by omega
          have HEQ := Lib.hid (show O.data.toList = n.dlm by rw [HPN.out, HO.out])
          go_wp2_with fail
          refine bodyPost_ret (v := .tuple #[.string O, .slice none 0 0, .int .i64 0]) (by simp [results, Tryz.results11, go_sem]) rfl ?_
          refine HP.out _ _ ⟨HBR.out, none, 0, ?_, ints_nilC _⟩
          show Ending.returned (Value.tuple #[.string O, .slice none 0 0, .int .i64 0]) = Ending.returned (Value.tuple #[strV n.dlm, .slice none 0 0, .int .i64 0])
          rw [strV_of HEQ.out]
  · have hzb : (E != 0) = true := by simp [hz]
    go_wp2_with fail
    refine bodyPost_ret (v := .tuple #[.string ⟨#[]⟩, .slice a2 q.length c2, .int .i64 E]) (by simp [results, Tryz.results11, go_sem]) rfl ?_
    exact HP.out _ _ ⟨HB2.out, a2, c2, by rw [if_neg hz]; rfl, HI.out⟩
end Go.Proofs.YtaolnpiemeaabaaGreatDoor

/- The walk of lives (layer 18). -/
namespace Go.Proofs.YtaolnpiemeaabaaGreatDoor
open Go.RowKit Ev5
set_option linter.unusedSimpArgs false
set_option linter.unusedVariables false

/-- The example's tree. -/
def lvD : Nd := .mk 5 ⟨#[]⟩ ⟨#[]⟩ [.mk 7 ⟨#[]⟩ ⟨#[]⟩ [.mk 8 ⟨#[97]⟩ ⟨#[]⟩ [.mk 4 ⟨#[120, 34, 121]⟩ ⟨#[]⟩ []]]]
def lvDE : List GoEv := [⟨5, ⟨#[]⟩, ⟨#[]⟩⟩, ⟨7, ⟨#[]⟩, ⟨#[]⟩⟩, ⟨8, ⟨#[97]⟩, ⟨#[]⟩⟩, ⟨4, ⟨#[120, 34, 121]⟩, ⟨#[]⟩⟩, ⟨9, ⟨#[]⟩, ⟨#[]⟩⟩, ⟨6, ⟨#[]⟩, ⟨#[]⟩⟩]
theorem lvD_walk : lvD.walk = lvDE := by
  simp [lvD, lvDE, Nd.walk, Nd.walks, oddK, leafK, endK, endEv, emp]
theorem lvD_wh : lvD.wh = 0 := by
  show (wholeP RP (lvD.walk.map GoEv.ev)).2 = 0
  rw [lvD_walk]; decide +kernel
theorem lvD_size : lvD.size = 4 := by
  simp [lvD, Nd.size, Nd.sizes]
theorem lvD_ok : lvD.ok := by
  have hl : ∀ (k : Int) (s : ByteArray), (Lit.int .i64 k).wf = true → s.size ≤ 1048576 → (Nd.mk k s ⟨#[]⟩ []).ok := fun k s h1 h2 => by
    rw [ok_mk, oks_iff]; exact ⟨ok_lit _ _ h1 h2, fun x hx => by cases hx⟩
  simp only [lvD, ok_mk, oks_iff]
  refine ⟨ok_lit _ _ (by decide) (by decide), fun x hx => ?_⟩
  obtain rfl := List.mem_singleton.1 hx
  rw [ok_mk, oks_iff]
  refine ⟨ok_lit _ _ (by decide) (by decide), fun x hx => ?_⟩
  obtain rfl := List.mem_singleton.1 hx
  rw [ok_mk, oks_iff]
  refine ⟨ok_lit _ _ (by decide) (by decide), fun x hx => ?_⟩
  obtain rfl := List.mem_singleton.1 hx
  exact hl _ _ (by decide) (by decide)
theorem lvD_txt : lvD.dlm = [97, 10, 34, 120, 34, 34, 121, 34, 10] := by decide +kernel
theorem lvD_first : firstP tpD [] lvD [] = none := by
  refine firstP_all (by decide +kernel) fun i hi => ?_
  obtain rfl : i = 0 := by have h : i < 1 := hi; omega
  show firstP tpD [lvD] (.mk 7 ⟨#[]⟩ ⟨#[]⟩ [.mk 8 ⟨#[97]⟩ ⟨#[]⟩ [.mk 4 ⟨#[120, 34, 121]⟩ ⟨#[]⟩ []]]) _ = none
  refine firstP_all (by decide +kernel) fun i hi => ?_
  obtain rfl : i = 0 := by have h : i < 1 := hi; omega
  show firstP tpD [lvD, (.mk 7 ⟨#[]⟩ ⟨#[]⟩ [.mk 8 ⟨#[97]⟩ ⟨#[]⟩ [.mk 4 ⟨#[120, 34, 121]⟩ ⟨#[]⟩ []]])] (.mk 8 ⟨#[97]⟩ ⟨#[]⟩ [.mk 4 ⟨#[120, 34, 121]⟩ ⟨#[]⟩ []]) _ = none
  refine firstP_all (by decide +kernel) fun i hi => ?_
  obtain rfl : i = 0 := by have h : i < 1 := hi; omega
  show firstP tpD [lvD, (.mk 7 ⟨#[]⟩ ⟨#[]⟩ [.mk 8 ⟨#[97]⟩ ⟨#[]⟩ [.mk 4 ⟨#[120, 34, 121]⟩ ⟨#[]⟩ []]]), (.mk 8 ⟨#[97]⟩ ⟨#[]⟩ [.mk 4 ⟨#[120, 34, 121]⟩ ⟨#[]⟩ []])] (.mk 4 ⟨#[120, 34, 121]⟩ ⟨#[]⟩ []) _ = none
  exact firstP_all (by decide +kernel) fun i hi => absurd hi (Nat.not_lt_zero _)
theorem lvD_of : ofP tpD lvD = (none, 0) := by unfold ofP; rw [if_neg (by rw [lvD_wh]; simp), lvD_first]
/-- The four blocks of the example's tree. -/
def lvDW (w : World) : World := (((w.alloc (.cells #[.int .i64 4, .string ⟨#[120, 34, 121]⟩, .string ⟨#[]⟩, .slice none 0 0] 24)).alloc (.cells #[.int .i64 8, .string ⟨#[97]⟩, .string ⟨#[]⟩, .slice (some ⟨w.heap.size, 0, none⟩) 1 1] 24)).alloc
  (.cells #[.int .i64 7, .string ⟨#[]⟩, .string ⟨#[]⟩, .slice (some ⟨w.heap.size + 1, 0, none⟩) 1 1] 24)).alloc (.cells #[.int .i64 5, .string ⟨#[]⟩, .string ⟨#[]⟩, .slice (some ⟨w.heap.size + 1 + 1, 0, none⟩) 1 1] 24)
theorem lvD_in (w : World) : NdV (lvDW w) (fun b => b < (lvDW w).heap.size) (.agg #[.int .i64 5, .string ⟨#[]⟩, .string ⟨#[]⟩, .slice (some ⟨w.heap.size + 1 + 1, 0, none⟩) 1 1]) lvD ∧ Below w.heap.size w (lvDW w) ∧
    (lvDW w).heap[w.heap.size + 1 + 1 + 1]? = some (.cells #[.int .i64 5, .string ⟨#[]⟩, .string ⟨#[]⟩, .slice (some ⟨w.heap.size + 1 + 1, 0, none⟩) 1 1] 24 (0, 0)) := by
  obtain ⟨g1, g2, g3, gb⟩ := threeC w (.cells #[.int .i64 4, .string ⟨#[120, 34, 121]⟩, .string ⟨#[]⟩, .slice none 0 0] 24) (.cells #[.int .i64 8, .string ⟨#[97]⟩, .string ⟨#[]⟩, .slice (some ⟨w.heap.size, 0, none⟩) 1 1] 24)
    (.cells #[.int .i64 7, .string ⟨#[]⟩, .string ⟨#[]⟩, .slice (some ⟨w.heap.size + 1, 0, none⟩) 1 1] 24)
  unfold lvDW
  obtain ⟨W3, hW3⟩ : ∃ W3, (((w.alloc (.cells #[.int .i64 4, .string ⟨#[120, 34, 121]⟩, .string ⟨#[]⟩, .slice none 0 0] 24)).alloc (.cells #[.int .i64 8, .string ⟨#[97]⟩, .string ⟨#[]⟩, .slice (some ⟨w.heap.size, 0, none⟩) 1 1] 24)).alloc
    (.cells #[.int .i64 7, .string ⟨#[]⟩, .string ⟨#[]⟩, .slice (some ⟨w.heap.size + 1, 0, none⟩) 1 1] 24)) = W3 := ⟨_, rfl⟩
  have hsz : W3.heap.size = w.heap.size + 1 + 1 + 1 := by rw [← hW3]; simp
  rw [hW3] at g1 g2 g3 gb
  rw [hW3]
  have hb4 : Below W3.heap.size W3 (W3.alloc (.cells #[.int .i64 5, .string ⟨#[]⟩, .string ⟨#[]⟩, .slice (some ⟨w.heap.size + 1 + 1, 0, none⟩) 1 1] 24)) := (Below.refl _ _).alloc (Nat.le_refl _) _
  have g4 := heap_alloc_new W3 (.cells #[.int .i64 5, .string ⟨#[]⟩, .string ⟨#[]⟩, .slice (some ⟨w.heap.size + 1 + 1, 0, none⟩) 1 1] 24)
  have k1 := (hb4.block _ (lt_blk g1)).trans g1
  have k2 := (hb4.block _ (lt_blk g2)).trans g2
  have k3 := (hb4.block _ (lt_blk g3)).trans g3
  rw [hsz] at g4
  refine ⟨?_, bthen gb hb4, g4⟩
  have c1 := fun j hj => (blk_cell k1 j hj).1
  have c2 := fun j hj => (blk_cell k2 j hj).1
  have c3 := fun j hj => (blk_cell k3 j hj).1
  exact ⟨_, rfl, some ⟨w.heap.size + 1 + 1, 0, none⟩, 1, rfl, Nat.le_refl _, by decide, .inr ⟨w.heap.size + 1 + 1, 0, rfl, lt_blk k3, lt_blk k3,
    kidsIn_cons.2 ⟨ndAt_iff.2 ⟨c3 0 (by simp), c3 1 (by simp), c3 2 (by simp), _, c3 3 (by simp), some ⟨w.heap.size + 1, 0, none⟩, 1, rfl, Nat.le_refl _, by decide, .inr ⟨w.heap.size + 1, 0, rfl, lt_blk k2, lt_blk k2,
      kidsIn_cons.2 ⟨ndAt_iff.2 ⟨c2 0 (by simp), c2 1 (by simp), c2 2 (by simp), _, c2 3 (by simp), some ⟨w.heap.size, 0, none⟩, 1, rfl, Nat.le_refl _, by decide, .inr ⟨w.heap.size, 0, rfl, lt_blk k1, lt_blk k1,
        kidsIn_cons.2 ⟨ndAt_iff.2 ⟨c1 0 (by simp), c1 1 (by simp), c1 2 (by simp), _, c1 3 (by simp), none, 0, rfl, Nat.le_refl _, by decide, .inl rfl⟩, kidsIn_nil⟩⟩⟩, kidsIn_nil⟩⟩⟩, kidsIn_nil⟩⟩⟩
set_option maxRecDepth 100000 in
set_option maxHeartbeats 4000000 in
theorem lives18_any (w : World) (hE : EnvU w) : Calls Tryz.prog 10 #[] w fun e w' => e = .returned (.bool true) ∧ Below w.heap.size w w' := by
  obtain ⟨hv, hb, hx⟩ := lvD_in w
  have HB := Lib.hid hb
  have HC := Lib.hid ((inkdelimPrint_any lvD (lvDW w) _ _ (hE.below hb) hv lvD_ok (by rw [lvD_size]; omega)).mono fun e w' h => h.to (Y := ⟨#[97, 10, 34, 120, 34, 34, 121, 34, 10]⟩) (E := 0) (q := []) (by rw [lvD_of, lvD_txt]; rfl) (by rw [lvD_of]) (by rw [lvD_of]; rfl))
  clear hb hv hx hE
  go_enter Tryz.func10, Tryz.ntmps10
  go_wp2_with fail
  refine HC.out.mono ?_
  rintro e w2 ⟨hb, a, c, rfl, _⟩
  have HB2 := Lib.hid (bthen HB.out hb)
  clear hb HC
  go_wp2_with fail
  go_ret
  exact ⟨rfl, HB2.out⟩
end Go.Proofs.YtaolnpiemeaabaaGreatDoor

/- few and copied of hexaplalaw18. -/
namespace Go.Proofs.YtaolnpiemeaabaaGreatDoor
open Go.RowKit Ev5
set_option linter.unusedSimpArgs false
set_option linter.unusedVariables false

set_option maxRecDepth 100000 in
set_option maxHeartbeats 2000000 in
theorem few18_any (n : Nd) (w : World) (S : Nat → Prop) (val : Value) (hv : NdV w S val n) :
    Calls Tryz.prog 9 #[val] w fun e w' => e = .returned (.bool (decide (0 ≤ n.few 200 20))) ∧ Below w.heap.size w w' := by
  obtain ⟨u, rfl, hs⟩ := hv
  obtain ⟨ao, cap, rfl, hcap, hcm⟩ := hs.shape
  have HS := Lib.hid hs
  have HB := Lib.hid (show Below w.heap.size w (w.alloc (.cells #[.int .i64 n.k, .string n.t, .string n.v, .slice ao n.kids.length cap] 24)) from (Below.refl _ _).alloc (Nat.le_refl _) _)
  clear hs
  unfold ndV
  go_enter Tryz.func9, Tryz.ntmps9
  go_wp2_with fail
  refine (few_any n _ S _ 200 20 ⟨_, rfl, HS.out.below HB.out⟩ (by omega) (by omega) (by omega) (by omega)).mono ?_
  rintro e w2 ⟨rfl, hb⟩
  have HB2 := Lib.hid (bthen HB.out hb)
  obtain ⟨F, hF⟩ : ∃ F, n.few 200 20 = F := ⟨_, rfl⟩
  rw [hF]
  have HF := Lib.hid hF
  clear hb hF
  go_wp2_with fail
  go_ret
  exact ⟨by rw [HF.out]; rfl, HB2.out⟩
theorem few18_size {x : Nd} (h : 0 ≤ x.few 200 20) : x.size ≤ 200 := by
  have := (few_says x 200 20 (by omega)).2.2 h
  omega
set_option maxRecDepth 100000 in
set_option maxHeartbeats 8000000 in
/-- copied: a node anew. -/
theorem copied18_any (n : Nd) : n.size ≤ 1048576 → ∀ (w : World) (S : Nat → Prop) (val : Value), NdV w S val n → Calls Tryz.prog 15 #[val] w (NewNd n w) := by
  refine Nd.ind (C := fun n => n.size ≤ 1048576 → ∀ (w : World) (S : Nat → Prop) (val : Value), NdV w S val n → Calls Tryz.prog 15 #[val] w (NewNd n w)) ?_ n
  intro k t v ks ih hsz w S val hv
  rw [size_mk] at hsz
  obtain ⟨u, rfl, hs⟩ := hv
  simp only [ndV, Nd.k, Nd.t, Nd.v, Nd.kids] at hs ⊢
  obtain ⟨ao, cap, rfl, hcap, hcm⟩ := hs.shape
  unfold maxLen at hcm
  obtain ⟨i0, hinf, hz0, hz1, hz2⟩ := info_parts infoN
  have hkl : ks.length ≤ 1048576 := by have := sizes_len ks; omega
  have HI := Lib.hid hinf; have HS := Lib.hid hs.ltC; have HIH := Lib.hid ih; have HSZ := Lib.hid hsz
  have HX := Lib.hid (two_first w (.cells #[.int .i64 k, .string t, .string v, .slice ao ks.length cap] 24) (.cells #[.int .i64 0, .string ⟨#[]⟩, .string ⟨#[]⟩, .slice none 0 0] 24))
  have HR := Lib.hid (two_last w (.cells #[.int .i64 k, .string t, .string v, .slice ao ks.length cap] 24) (.cells #[.int .i64 0, .string ⟨#[]⟩, .string ⟨#[]⟩, .slice none 0 0] 24))
  have HB0 := Lib.hid (show Below w.heap.size w ((w.alloc (.cells #[.int .i64 k, .string t, .string v, .slice ao ks.length cap] 24)).alloc (.cells #[.int .i64 0, .string ⟨#[]⟩, .string ⟨#[]⟩, .slice none 0 0] 24)) from ((Below.refl _ _).alloc (Nat.le_refl _) _).alloc (by simp) _)
  clear hinf hs ih hsz
  go_enter Tryz.func15, Tryz.ntmps15
  go_wp2_with fail
  go_loopw [3, 4] (fun vk vi wr => ∃ (i : Nat) (ps : List (Nd × Value)), i ≤ ks.length ∧ vi = .int .i64 i ∧ Hid (ps.map (·.1) = ks.take i) ∧ Hid (OwnK wr (w.heap.size + 2) vk ps) ∧ Hid (wr.heap[w.heap.size]? = some (.cells #[.int .i64 k, .string t, .string v, .slice ao ks.length cap] 24 (0, 0))) ∧ Hid (wr.heap[w.heap.size + 1]? = some (.cells #[.int .i64 0, .string ⟨#[]⟩, .string ⟨#[]⟩, .slice none 0 0] 24 (0, 0))) ∧ Hid (Below w.heap.size w wr)) (fun _ vi _ => ks.length - (intOf vi).toNat)
  case atStart => exact ⟨0, [], Nat.zero_le _, rfl, by show _ = _; simp, by show OwnK _ _ _ _; exact OwnK.nil _ _, by show _ = _; exact HX.out, by show _ = _; exact HR.out, HB0.out⟩
  case round =>
    obtain ⟨i, ps, hi, rfl, HP, HO, HXR, HRR, HBR⟩ := hrel
    obtain rfl : i = ps.length := by have := congrArg List.length HP.out; rw [List.length_map, List.length_take] at this; omega
    obtain ⟨ua, uc, hua⟩ := HO.out.shape
    subst hua
    obtain ⟨x0, x1, x2, x3, g0, g1, g2, g3, hxl⟩ := nd_cells HXR.out
    obtain ⟨r0, r1, r2, r3, j0, j1, j2, j3, hrl⟩ := nd_cells HRR.out
    by_cases hlt : ps.length < ks.length
    · have hi0 : (0 : Int) ≤ (ps.length : Int) := Int.natCast_nonneg _
      have hi1 : (ps.length : Int) < (ks.length : Int) := by omega
      obtain ⟨kb, ko, kx, hko, hkw, k0, k1, k2, k3, hkx⟩ := HS.out.at_ ps.length hlt
      obtain ⟨ay, cy, rfl, _, _⟩ := hkx.shape
      subst hko
      have hmem := List.getElem_mem hlt
      have hih := HIH.out ks[ps.length] hmem (by have := size_mem hmem; have := HSZ.out; omega)
      have HTK := Lib.hid (show ks.take (ps.length + 1) = ks.take ps.length ++ [ks[ps.length]] by rw [List.take_add_one, List.getElem?_eq_getElem hlt]; rfl)
      obtain ⟨y, hy⟩ : ∃ y, ks[ps.length] = y := ⟨_, rfl⟩
      rw [hy] at k0 k1 k2 k3 hkx hih HTK
      have HKS := Lib.hid (NdV.mk hkx); have HH := Lib.hid hih
      have hbw := HBR.out
      have d0 : wr.cell? ⟨kb, ko + ps.length * 4, none⟩ = some (.int .i64 y.k) := (hbw.cell (p := ⟨kb, ko + ps.length * 4, none⟩) hkw).trans k0
      have d1 : wr.cell? ⟨kb, ko + ps.length * 4 + 1, none⟩ = some (.string y.t) := (hbw.cell (p := ⟨kb, ko + ps.length * 4 + 1, none⟩) hkw).trans k1
      have d2 : wr.cell? ⟨kb, ko + ps.length * 4 + 2, none⟩ = some (.string y.v) := (hbw.cell (p := ⟨kb, ko + ps.length * 4 + 2, none⟩) hkw).trans k2
      have d3 : wr.cell? ⟨kb, ko + ps.length * 4 + 3, none⟩ = some (.slice ay y.kids.length cy) := (hbw.cell (p := ⟨kb, ko + ps.length * 4 + 3, none⟩) hkw).trans k3
      have hkl2 : kb < wr.heap.size := Nat.lt_of_lt_of_le hkw hbw.size
      clear k0 k1 k2 k3 hkx hih hy hbw hmem
      go_wp2_with fail
      refine (HH.out _ _ _ (HKS.out.below HBR.out)).mono ?_
      rintro e w3 ⟨a3, c3, rfl, hsk, hb⟩
      have HB3 := Lib.hid (bthen HBR.out hb)
      have HX3 := Lib.hid ((hb.block _ hxl).trans HXR.out)
      have HR3 := Lib.hid ((hb.block _ hrl).trans HRR.out)
      have HO3 := Lib.hid (HO.out.below hb)
      have HBL := Lib.hid (show Below w3.heap.size w3 (w3.alloc (.cells #[.int .i64 y.k, .string y.t, .string y.v, .slice a3 y.kids.length c3] 24)) from (Below.refl _ _).alloc (Nat.le_refl _) _)
      have HSK := Lib.hid (HO.out.apart (by omega) hsk)
      have hl3 := HB3.out.size
      have hxl3 := lt_blk HX3.out
      have hrl3 := lt_blk HR3.out
      clear hsk hb d0 d1 d2 d3 x0 x1 x2 x3 g0 g1 g2 g3 hxl r0 r1 r2 r3 j0 j1 j2 j3 hrl
      go_wp2_with (at_builtin; refine wpList_append_lies _ (by rfl) _ _ _ (by rfl) (w.heap.size + 2) 24 i0 _ 4 64 Tryz.underlying22 HI.out hz0 hz1 hz2 rfl (by omega) _ ps.length _ (by rfl) (HO3.out.below HBL.out).row ⟨w3.heap.size, 0, none⟩ 1 1 (ndL y (.slice a3 y.kids.length c3)) (by rfl) (by rfl) (World.news_of_block (heap_alloc_new w3 _)) nd_one (by omega) (by unfold maxLen; omega) (by omega) (by simp; omega) (w3.heap.size + 1) (by simp) ?_)
      intro gg cap' w5 hown1 hgrow hat hlt2
      have hlo : ∀ g, (Value.slice ua ps.length uc).ownBlock = some g → w.heap.size + 2 ≤ g := fun g e => (HO3.out.row.lt g e).1
      have HOW2 := Lib.hid ((HO3.out.below HBL.out).snoc (HSK.out.below HBL.out) hown1 hgrow (by rcases hat with h | h; exact .inl h; exact .inr (by simp; omega)))
      have HX5 := Lib.hid ((hgrow.block w.heap.size (by simp; omega) (fun e => by have := hlo _ e.symm; omega)).trans ((HBL.out.block _ hxl3).trans HX3.out))
      have HR5 := Lib.hid ((hgrow.block (w.heap.size + 1) (by simp; omega) (fun e => by have := hlo _ e.symm; omega)).trans ((HBL.out.block _ hrl3).trans HR3.out))
      have HB5 := Lib.hid (show Below w.heap.size w w5 from (bthen HB3.out HBL.out).grown hgrow (by simp; omega) (fun g e => by have := hlo g e; omega))
      clear hown1 hgrow hat hlt2 hlo
      go_wp2_with fail
      go_roundw
      case rel => exact ⟨ps.length + 1, ps ++ [(y, .slice a3 y.kids.length c3)], by omega, by go_num, by show _ = _; rw [List.map_append, HP.out, HTK.out]; rfl, HOW2, HX5, HR5, HB5⟩
      case measure => simp [intOf]; omega
    · have HPE := Lib.hid (show ps.length = ks.length by omega)
      have hge : ¬ (ps.length : Int) < (ks.length : Int) := by omega
      clear hlt
      have hf0 := heap_set4 (u := .slice ua ps.length uc) HXR.out
      have hg0 := grown_set wr w.heap.size 3 (.slice ua ps.length uc)
      have hf1 : (wr.setCell ⟨w.heap.size, 3, none⟩ (.slice ua ps.length uc)).heap[w.heap.size + 1]? = some (.cells #[.int .i64 0, .string ⟨#[]⟩, .string ⟨#[]⟩, .slice none 0 0] 24 (0, 0)) := by
        rw [hg0.block (w.heap.size + 1) hrl (by simp)]; exact HRR.out
      obtain ⟨w4, hw4⟩ : ∃ w4, wr.setCell ⟨w.heap.size, 3, none⟩ (.slice ua ps.length uc) = w4 := ⟨_, rfl⟩
      have HW4 := Lib.hid hw4
      rw [hw4] at hf0 hg0 hf1
      obtain ⟨y0, y1, y2, y3, z0, z1, z2, z3, hyl⟩ := nd_cells hf0
      obtain ⟨s0, s1, s2, s3, q0, q1, q2, q3, hsl⟩ := nd_cells hf1
      have HF0 := Lib.hid hf0; have HF1 := Lib.hid hf1; have HG0 := Lib.hid hg0
      clear hf0 hf1 hg0
      go_wp2_with fail
      obtain ⟨w5, hw5⟩ : ∃ w5, ((((w4.setCell ⟨w.heap.size + 1, 0, none⟩ (.int .i64 k)).setCell ⟨w.heap.size + 1, 1, none⟩ (.string t)).setCell ⟨w.heap.size + 1, 2, none⟩ (.string v)).setCell ⟨w.heap.size + 1, 3, none⟩ (.slice ua ps.length uc)) = w5 := ⟨_, rfl⟩
      obtain ⟨hf, hgr⟩ := fill4 (.int .i64 k) (.string t) (.string v) (.slice ua ps.length uc) HF1.out
      rw [hw5] at hf hgr
      rw [hw5]
      obtain ⟨t0, t1, t2, t3, _, _, _, _, htl⟩ := nd_cells hf
      have hsl := ((HO.out.other HG0.out (by omega)).other hgr (by omega)).slIn
      rw [HP.out, HPE.out, List.take_length] at hsl
      refine bodyPost_ret (v := .agg #[.int .i64 k, .string t, .string v, .slice ua ps.length uc]) (by simp [results, Tryz.results15, go_sem, t0, t1, t2, t3]) rfl ⟨ua, uc, by rw [HPE.out]; rfl, hsl.alike ⟨Nat.le_refl _, fun _ _ _ => rfl⟩ fun b hb _ => by omega, (HBR.out.grown HG0.out (by omega) (fun b hb => by injection hb; omega)).grown hgr (by omega) (fun b hb => by injection hb; omega)⟩
end Go.Proofs.YtaolnpiemeaabaaGreatDoor

/- The walk of the law InkdelimPrints. -/
namespace Go.Proofs.YtaolnpiemeaabaaGreatDoor
open Go.RowKit Ev5
set_option linter.unusedSimpArgs false
set_option linter.unusedVariables false

set_option maxRecDepth 100000 in
set_option maxHeartbeats 8000000 in
theorem prints18_law (v : Value) (n : Nd) (w : World) (hE : EnvU w) (h : NdV w (fun b => b < w.heap.size) v n ∧ n.ok ∧ n.size ≤ 1048576) :
    Calls Tryz.prog 3 #[v] w fun e w' => e = .returned (.bool true) ∧ Below w.heap.size w w' := by
  obtain ⟨hv, hok, _⟩ := h
  obtain ⟨u, rfl, hs⟩ := hv
  obtain ⟨ao, cap, rfl, hcap, hcm⟩ := hs.shape
  obtain ⟨Y, hY⟩ : ∃ Y : ByteArray, strV (if (ofP tpD n).2 = 0 then n.dlm else []) = .string Y := ⟨_, rfl⟩
  obtain ⟨E, hEE⟩ : ∃ E, (ofP tpD n).2 = E := ⟨_, rfl⟩
  obtain ⟨q, hq⟩ : ∃ q, plc (ofP tpD n) = q := ⟨_, rfl⟩
  have HPR := Lib.hid (fun (w' : World) (S : Nat → Prop) (v : Value) (h1 : EnvU w') (h2 : NdV w' S v n) (h3 : n.size ≤ 50000) => (inkdelimPrint_any n w' S v h1 h2 hok h3).mono fun e w2 h => h.to hY hEE hq)
  have HV := Lib.hid (NdV.mk hs); have HE := Lib.hid hE; have HOK := Lib.hid hok
  have HX1 := Lib.hid (heap_alloc_new w (.cells #[.int .i64 n.k, .string n.t, .string n.v, .slice ao n.kids.length cap] 24))
  have HB1 := Lib.hid (show Below w.heap.size w (w.alloc (.cells #[.int .i64 n.k, .string n.t, .string n.v, .slice ao n.kids.length cap] 24)) from (Below.refl _ _).alloc (Nat.le_refl _) _)
  have HOF := Lib.hid (fun (w' : World) (S : Nat → Prop) (v : Value) (h1 : EnvU w') (h2 : NdV w' S v n) (h3 : n.size ≤ 50000) => (refOfDelim_any n w' S v h1 h2 hok h3).mono fun e w2 h => h.to hEE hq)
  have HY0 := Lib.hid (fun h : E ≠ 0 => show Y = ⟨#[]⟩ by rw [if_neg (by rw [hEE]; exact h)] at hY; injection hY with hY; exact hY.symm)
  have HY1 := Lib.hid (fun h : E = 0 => show strV n.dlm = .string Y by rw [refEq18 (hEE.trans h), ← hY, if_pos (hEE.trans h)])
  have HOF0 := Lib.hid (fun h : E = 0 => show (ofP tpD n).2 = 0 from hEE.trans h)
  clear hs hE hok hY hEE hq
  unfold ndV
  go_enter Tryz.func3, Tryz.ntmps3
  go_wp2_with fail
  refine (few18_any n _ _ _ (HV.out.below HB1.out)).mono ?_
  rintro e w2 ⟨rfl, hb⟩
  have HB2 := Lib.hid (bthen HB1.out hb)
  have HX2 := Lib.hid ((hb.block _ (lt_blk HX1.out)).trans HX1.out)
  obtain ⟨x0, x1, x2, x3, _, _, _, _, hxl⟩ := nd_cells HX2.out
  clear hb
  by_cases hf : 0 ≤ n.few 200 20
  · rw [decide_eq_true hf]
    have HN := Lib.hid (few18_size hf)
    clear hf
    go_wp2_with fail
    refine (HPR.out _ _ _ (HE.out.below HB2.out) (HV.out.below HB2.out) (by have := HN.out; omega)).mono ?_
    rintro e w3 ⟨hb, a3, c3, rfl, hi3⟩
    have HB3 := Lib.hid (bthen HB2.out hb)
    have HX3 := Lib.hid ((hb.block _ (lt_blk HX2.out)).trans HX2.out)
    have HI3 := Lib.hid hi3
    clear hb hi3 x0 x1 x2 x3 hxl
    obtain ⟨x0, x1, x2, x3, _, _, _, _, hxl⟩ := nd_cells HX3.out
    go_wp2_with fail
    refine (HOF.out _ _ _ (HE.out.below HB3.out) (HV.out.below HB3.out) (by have := HN.out; omega)).mono ?_
    rintro e w4 ⟨hb, a4, c4, rfl, hi4⟩
    have HB4 := Lib.hid (bthen HB3.out hb)
    have HX4 := Lib.hid ((hb.block _ (lt_blk HX3.out)).trans HX3.out)
    have HI4 := Lib.hid hi4
    have HJ4 := Lib.hid (HI3.out.below hb)
    have hql : q.length ≤ 9223372036854775807 := by
      obtain ⟨_, _, _, h1, h2, _⟩ := HI4.out.ex
      unfold maxLen at h2
      omega
    clear hb hi4 x0 x1 x2 x3 hxl
    go_wp2_with fail
    go_loopw [9] (fun v8 wr => ∃ i : Nat, i ≤ q.length ∧ v8 = .int .i64 i ∧ Hid (Below w4.heap.size w4 wr)) (fun v8 _ => q.length - (intOf v8).toNat)
    case atStart => exact ⟨0, Nat.zero_le _, rfl, Below.refl _ _⟩
    case round =>
      obtain ⟨i, hi, rfl, HBR⟩ := hrel
      by_cases hlt : i < q.length
      · have hi0 : (0 : Int) ≤ (i : Int) := Int.natCast_nonneg _
        have hi1 : (i : Int) < (q.length : Int) := by omega
        obtain ⟨ao3, cp3, e3, _, _, hc3⟩ := (HJ4.out.below HBR.out).ex
        injection e3 with e3 _ e3c
        subst e3c
        obtain ⟨b3, o3, ea3, k3⟩ := hc3 i hlt
        rw [ea3] at e3
        subst e3
        obtain ⟨ao4, cp4, e4, _, _, hc4⟩ := (HI4.out.below HBR.out).ex
        injection e4 with e4 _ e4c
        subst e4c
        obtain ⟨b4, o4, ea4, k4⟩ := hc4 i hlt
        rw [ea4] at e4
        subst e4
        obtain ⟨z, hz⟩ : ∃ z, q[i] = z := ⟨_, rfl⟩
        rw [hz] at k3 k4
        have hl3 := cell_lt k3
        have hl4 := cell_lt k4
        have HD := Lib.hid (show ∀ w' : World, Below wr.heap.size wr w' → w'.cell? ⟨b3, o3 + i, none⟩ = some (.int .i64 z) ∧ w'.cell? ⟨b4, o4 + i, none⟩ = some (.int .i64 z) from fun w' hb => ⟨(hb.cell (p := ⟨b3, o3 + i, none⟩) hl3).trans k3, (hb.cell (p := ⟨b4, o4 + i, none⟩) hl4).trans k4⟩)
        clear hz hc3 hc4 ea3 ea4
        go_wp2_with fail
        go_region_held3? (fun w' => w'.cell? ⟨b3, o3 + i, none⟩ = some (.int .i64 z) ∧ w'.cell? ⟨b4, o4 + i, none⟩ = some (.int .i64 z)) (first | exact HD.out _ (Below.refl _ _).drew | go_keep) ((first | fail))
        go_wp2_with fail
        go_roundw
        case rel => exact ⟨i + 1, by omega, by go_num, bthen HBR.out (Below.refl _ wr).drew⟩
        case measure => simp [intOf]; omega
      · obtain rfl : i = q.length := by omega
        have hi1 : ¬ ((q.length : Nat) : Int) < (q.length : Int) := by omega
        have HBW := Lib.hid (bthen HB4.out HBR.out)
        obtain ⟨x0, x1, x2, x3, _, _, _, _, hxl⟩ := nd_cells ((HBR.out.block _ (lt_blk HX4.out)).trans HX4.out)
        by_cases hz : E = 0
        · subst hz
          have HYE := Lib.hid (HY1.out rfl)
          go_wp2_with fail
          refine (refPrint18_any n HOK.out (by have := HN.out; omega) (HOF0.out (by trivial)) _ _ _ (HV.out.below HBW.out)).mono ?_
          rintro e w5 ⟨rfl, hb⟩
          have HB5 := Lib.hid (bthen HBW.out hb)
          rw [HYE.out]
          clear hb x0 x1 x2 x3 hxl
          go_wp2_with fail
          refine (lives18_any _ (HE.out.below HB5.out)).mono ?_
          rintro e wl ⟨rfl, hb⟩
          have HBL := Lib.hid (bthen HB5.out hb)
          clear hb
          go_wp2_with fail
          go_ret
          exact ⟨rfl, HBL.out⟩
        · have hzb : (E != 0) = true := by simp [hz]
          obtain rfl := HY0.out hz
          go_wp2_with fail
          refine (lives18_any _ (HE.out.below HBW.out)).mono ?_
          rintro e wl ⟨rfl, hb⟩
          have HBL := Lib.hid (bthen HBW.out hb)
          clear hb
          go_wp2_with fail
          go_ret
          exact ⟨rfl, HBL.out⟩
  · rw [decide_eq_false hf]
    clear hf
    go_wp2_with fail
    refine (lives18_any _ (HE.out.below HB2.out)).mono ?_
    rintro e wl ⟨rfl, hb⟩
    have HBL := Lib.hid (bthen HB2.out hb)
    clear hb
    go_wp2_with fail
    go_ret
    exact ⟨rfl, HBL.out⟩
end Go.Proofs.YtaolnpiemeaabaaGreatDoor

/- The walk of the law InkdelimStays. -/
namespace Go.Proofs.YtaolnpiemeaabaaGreatDoor
open Go.RowKit Ev5
set_option linter.unusedSimpArgs false
set_option linter.unusedVariables false

set_option maxRecDepth 100000 in
set_option maxHeartbeats 8000000 in
theorem stays18_law (v : Value) (n : Nd) (w : World) (hE : EnvU w) (h : NdV w (fun b => b < w.heap.size) v n ∧ n.ok ∧ n.size ≤ 1048576) :
    Calls Tryz.prog 5 #[v] w fun e w' => e = .returned (.bool true) ∧ Below w.heap.size w w' := by
  obtain ⟨hv, hok, _⟩ := h
  obtain ⟨u, rfl, hs⟩ := hv
  obtain ⟨ao, cap, rfl, hcap, hcm⟩ := hs.shape
  obtain ⟨Y, hY⟩ : ∃ Y : ByteArray, strV (if (ofP tpD n).2 = 0 then n.dlm else []) = .string Y := ⟨_, rfl⟩
  obtain ⟨E, hEE⟩ : ∃ E, (ofP tpD n).2 = E := ⟨_, rfl⟩
  obtain ⟨q, hq⟩ : ∃ q, plc (ofP tpD n) = q := ⟨_, rfl⟩
  have HPR := Lib.hid (fun (w' : World) (S : Nat → Prop) (v : Value) (h1 : EnvU w') (h2 : NdV w' S v n) (h3 : n.size ≤ 50000) => (inkdelimPrint_any n w' S v h1 h2 hok h3).mono fun e w2 h => h.to hY hEE hq)
  have HV := Lib.hid (NdV.mk hs); have HE := Lib.hid hE; have HOK := Lib.hid hok
  have HX1 := Lib.hid (heap_alloc_new w (.cells #[.int .i64 n.k, .string n.t, .string n.v, .slice ao n.kids.length cap] 24))
  have HB1 := Lib.hid (show Below w.heap.size w (w.alloc (.cells #[.int .i64 n.k, .string n.t, .string n.v, .slice ao n.kids.length cap] 24)) from (Below.refl _ _).alloc (Nat.le_refl _) _)
  clear hs hE hok hY hEE hq
  unfold ndV
  go_enter Tryz.func5, Tryz.ntmps5
  go_wp2_with fail
  refine (few18_any n _ _ _ (HV.out.below HB1.out)).mono ?_
  rintro e w2 ⟨rfl, hb⟩
  have HB2 := Lib.hid (bthen HB1.out hb)
  have HX2 := Lib.hid ((hb.block _ (lt_blk HX1.out)).trans HX1.out)
  obtain ⟨x0, x1, x2, x3, _, _, _, _, hxl⟩ := nd_cells HX2.out
  clear hb
  by_cases hf : 0 ≤ n.few 200 20
  · rw [decide_eq_true hf]
    have HN := Lib.hid (few18_size hf)
    clear hf
    go_wp2_with fail
    refine (copied18_any n (by have := HN.out; omega) _ _ _ (HV.out.below HB2.out)).mono ?_
    rintro e w3 ⟨am, cm, rfl, hsm, hb⟩
    have HB3 := Lib.hid (bthen HB2.out hb)
    have HX3 := Lib.hid ((hb.block _ (lt_blk HX2.out)).trans HX2.out)
    have HBM := Lib.hid (show Below w3.heap.size w3 (w3.alloc (.cells #[.int .i64 n.k, .string n.t, .string n.v, .slice am n.kids.length cm] 24)) from (Below.refl _ _).alloc (Nat.le_refl _) _)
    have HM := Lib.hid (show NdV w3 _ (ndV n (.slice am n.kids.length cm)) n from .mk hsm)
    clear hb hsm x0 x1 x2 x3 hxl
    obtain ⟨x0, x1, x2, x3, _, _, _, _, hxl⟩ := nd_cells HX3.out
    go_wp2_with fail
    refine (HPR.out _ _ _ (HE.out.below (bthen HB3.out HBM.out)) (HM.out.below HBM.out) (by have := HN.out; omega)).mono ?_
    rintro e w4 ⟨hb, a4, c4, rfl, _⟩
    have HB34 := Lib.hid (bthen HBM.out hb)
    have HB4 := Lib.hid (bthen HB3.out HB34.out)
    have HX4 := Lib.hid ((HB34.out.block _ hxl).trans HX3.out)
    have HM4 := Lib.hid ((hb.block w3.heap.size (by simp)).trans (heap_alloc_new w3 (.cells #[.int .i64 n.k, .string n.t, .string n.v, .slice am n.kids.length cm] 24)))
    clear hb x0 x1 x2 x3 hxl
    obtain ⟨x0, x1, x2, x3, _, _, _, _, hxl⟩ := nd_cells HX4.out
    obtain ⟨y0, y1, y2, y3, _, _, _, _, hyl⟩ := nd_cells HM4.out
    go_wp2_with fail
    refine (HPR.out _ _ _ (HE.out.below HB4.out) (HV.out.below HB4.out) (by have := HN.out; omega)).mono ?_
    rintro e w5 ⟨hb, a5, c5, rfl, _⟩
    have HB35 := Lib.hid (bthen HB34.out hb)
    have HB5 := Lib.hid (bthen HB4.out hb)
    have HX5 := Lib.hid ((hb.block _ hxl).trans HX4.out)
    have HM5 := Lib.hid ((hb.block _ hyl).trans HM4.out)
    clear hb x0 x1 x2 x3 hxl y0 y1 y2 y3 hyl
    obtain ⟨x0, x1, x2, x3, _, _, _, _, hxl⟩ := nd_cells HX5.out
    obtain ⟨y0, y1, y2, y3, _, _, _, _, hyl⟩ := nd_cells HM5.out
    go_wp2_with fail
    refine (refSame_any n _ _ _ _ _ n (HM.out.below HB35.out) (HV.out.below HB5.out)).mono ?_
    rintro e w6 ⟨r, rfl, hr, hb⟩
    have HB6 := Lib.hid (bthen HB5.out hb)
    obtain rfl : r = true := hr.2 rfl
    clear hb hr x0 x1 x2 x3 hxl y0 y1 y2 y3 hyl
    go_wp2_with fail
    refine (lives18_any _ (HE.out.below HB6.out)).mono ?_
    rintro e wl ⟨rfl, hb⟩
    have HBL := Lib.hid (bthen HB6.out hb)
    clear hb
    go_wp2_with fail
    go_ret
    exact ⟨rfl, HBL.out⟩
  · rw [decide_eq_false hf]
    clear hf
    go_wp2_with fail
    refine (lives18_any _ (HE.out.below HB2.out)).mono ?_
    rintro e wl ⟨rfl, hb⟩
    have HBL := Lib.hid (bthen HB2.out hb)
    clear hb
    go_wp2_with fail
    go_ret
    exact ⟨rfl, HBL.out⟩
end Go.Proofs.YtaolnpiemeaabaaGreatDoor

/- The walk of the law InkdelimApart. -/
namespace Go.Proofs.YtaolnpiemeaabaaGreatDoor
open Go.RowKit Ev5
set_option linter.unusedSimpArgs false
set_option linter.unusedVariables false

set_option maxRecDepth 100000 in
set_option maxHeartbeats 8000000 in
theorem apart18_law (va : Value) (m : Nd) (vb : Value) (n : Nd) (w : World) (hE : EnvU w) (hva : NdV w (fun b => b < w.heap.size) va m ∧ m.ok ∧ m.size ≤ 1048576) (hvb : NdV w (fun b => b < w.heap.size) vb n ∧ n.ok ∧ n.size ≤ 1048576) :
    Calls Tryz.prog 4 #[va, vb] w fun e w' => e = .returned (.bool true) ∧ Below w.heap.size w w' := by
  obtain ⟨⟨u, rfl, hs⟩, hok, _⟩ := hva
  obtain ⟨⟨u', rfl, hs'⟩, hok', _⟩ := hvb
  obtain ⟨ao, cap, rfl, hcap, hcm⟩ := hs.shape
  obtain ⟨ao', cap', rfl, hcap', hcm'⟩ := hs'.shape
  obtain ⟨Y, hY⟩ : ∃ Y : ByteArray, strV (if (ofP tpD m).2 = 0 then m.dlm else []) = .string Y := ⟨_, rfl⟩
  obtain ⟨E, hEE⟩ : ∃ E, (ofP tpD m).2 = E := ⟨_, rfl⟩
  obtain ⟨q, hq⟩ : ∃ q, plc (ofP tpD m) = q := ⟨_, rfl⟩
  obtain ⟨Z, hZ⟩ : ∃ Z : ByteArray, strV (if (ofP tpD n).2 = 0 then n.dlm else []) = .string Z := ⟨_, rfl⟩
  obtain ⟨F, hFF⟩ : ∃ F, (ofP tpD n).2 = F := ⟨_, rfl⟩
  obtain ⟨p, hp⟩ : ∃ p, plc (ofP tpD n) = p := ⟨_, rfl⟩
  have HPR := Lib.hid (fun (w' : World) (S : Nat → Prop) (v : Value) (h1 : EnvU w') (h2 : NdV w' S v m) (h3 : m.size ≤ 50000) => (inkdelimPrint_any m w' S v h1 h2 hok h3).mono fun e w2 h => h.to hY hEE hq)
  have HPR' := Lib.hid (fun (w' : World) (S : Nat → Prop) (v : Value) (h1 : EnvU w') (h2 : NdV w' S v n) (h3 : n.size ≤ 50000) => (inkdelimPrint_any n w' S v h1 h2 hok' h3).mono fun e w2 h => h.to hZ hFF hp)
  have HSM := Lib.hid (fun (h : E = 0) (h' : F = 0) => show Y = Z ↔ m = n by
    rw [if_pos (hEE.trans h)] at hY
    rw [if_pos (hFF.trans h')] at hZ
    rw [← dlm_same (hEE.trans h) (hFF.trans h')]
    constructor
    · rintro rfl
      have h9 := hY.trans hZ.symm
      unfold strV at h9
      injection h9 with h9
      injection h9 with h9
      exact Array.toList_inj.2 h9 |> fun h => by simpa using h
    · intro h9
      rw [h9, hZ] at hY
      injection hY with hY
      exact hY.symm)
  have HE := Lib.hid hE
  have HV := Lib.hid (NdV.mk hs)
  have HV' := Lib.hid (NdV.mk hs')
  have HB1 := Lib.hid (show Below w.heap.size w ((w.alloc (.cells #[.int .i64 m.k, .string m.t, .string m.v, .slice ao m.kids.length cap] 24)).alloc (.cells #[.int .i64 n.k, .string n.t, .string n.v, .slice ao' n.kids.length cap'] 24)) from ((Below.refl _ _).alloc (Nat.le_refl _) _).alloc (by simp) _)
  have HX1 := Lib.hid (two_first w (.cells #[.int .i64 m.k, .string m.t, .string m.v, .slice ao m.kids.length cap] 24) (.cells #[.int .i64 n.k, .string n.t, .string n.v, .slice ao' n.kids.length cap'] 24))
  have HY1 := Lib.hid (two_last w (.cells #[.int .i64 m.k, .string m.t, .string m.v, .slice ao m.kids.length cap] 24) (.cells #[.int .i64 n.k, .string n.t, .string n.v, .slice ao' n.kids.length cap'] 24))
  clear hs hs' hE hok hok' hY hEE hq hZ hFF hp
  unfold ndV
  go_enter Tryz.func4, Tryz.ntmps4
  go_wp2_with fail
  refine (few18_any m _ _ _ (HV.out.below HB1.out)).mono ?_
  rintro e w2 ⟨rfl, hb⟩
  have HX2 := Lib.hid ((hb.block _ (lt_blk HX1.out)).trans HX1.out)
  have HY2 := Lib.hid ((hb.block _ (lt_blk HY1.out)).trans HY1.out)
  have HB2 := Lib.hid (bthen HB1.out hb)
  obtain ⟨x0, x1, x2, x3, _, _, _, _, hxl⟩ := nd_cells HX2.out
  obtain ⟨y0, y1, y2, y3, _, _, _, _, hyl⟩ := nd_cells HY2.out
  obtain ⟨G, hG⟩ : ∃ G, decide (0 ≤ m.few 200 20) = G := ⟨_, rfl⟩
  have HG := Lib.hid hG
  rw [hG]
  clear hb hG
  go_wp2_with fail
  refine (few18_any n _ _ _ (HV'.out.below HB2.out)).mono ?_
  rintro e w3 ⟨rfl, hb⟩
  have HX3 := Lib.hid ((hb.block _ hxl).trans HX2.out)
  have HY3 := Lib.hid ((hb.block _ hyl).trans HY2.out)
  have HB3 := Lib.hid (bthen HB2.out hb)
  clear x0 x1 x2 x3 hxl y0 y1 y2 y3 hyl
  obtain ⟨x0, x1, x2, x3, _, _, _, _, hxl⟩ := nd_cells HX3.out
  obtain ⟨y0, y1, y2, y3, _, _, _, _, hyl⟩ := nd_cells HY3.out
  obtain ⟨H, hH⟩ : ∃ H, decide (0 ≤ n.few 200 20) = H := ⟨_, rfl⟩
  have HH := Lib.hid hH
  rw [hH]
  clear hb hH
  by_cases hGH : G = true ∧ H = true
  · obtain ⟨rfl, rfl⟩ := hGH
    have HN := Lib.hid (And.intro (few18_size (of_decide_eq_true HG.out)) (few18_size (of_decide_eq_true HH.out)))
    go_wp2_with fail
    refine (HPR.out _ _ _ (HE.out.below HB3.out) (HV.out.below HB3.out) (by have := HN.out.1; omega)).mono ?_
    rintro e w4 ⟨hb, a4, c4, rfl, _⟩
    have HX4 := Lib.hid ((hb.block _ hxl).trans HX3.out)
    have HY4 := Lib.hid ((hb.block _ hyl).trans HY3.out)
    have HB4 := Lib.hid (bthen HB3.out hb)
    clear hb x0 x1 x2 x3 hxl y0 y1 y2 y3 hyl
    obtain ⟨x0, x1, x2, x3, _, _, _, _, hxl⟩ := nd_cells HX4.out
    obtain ⟨y0, y1, y2, y3, _, _, _, _, hyl⟩ := nd_cells HY4.out
    go_wp2_with fail
    refine (HPR'.out _ _ _ (HE.out.below HB4.out) (HV'.out.below HB4.out) (by have := HN.out.2; omega)).mono ?_
    rintro e w5 ⟨hb, a5, c5, rfl, _⟩
    have HX5 := Lib.hid ((hb.block _ hxl).trans HX4.out)
    have HY5 := Lib.hid ((hb.block _ hyl).trans HY4.out)
    have HB5 := Lib.hid (bthen HB4.out hb)
    clear hb x0 x1 x2 x3 hxl y0 y1 y2 y3 hyl
    obtain ⟨x0, x1, x2, x3, _, _, _, _, hxl⟩ := nd_cells HX5.out
    obtain ⟨y0, y1, y2, y3, _, _, _, _, hyl⟩ := nd_cells HY5.out
    by_cases hz : E = 0
    · subst hz
      by_cases hz' : F = 0
      · subst hz'
        have HS := Lib.hid (HSM.out rfl rfl)
        go_wp2_with fail
        refine (refSame_any m _ _ _ _ _ n (HV.out.below HB5.out) (HV'.out.below HB5.out)).mono ?_
        rintro e w6 ⟨r, rfl, hr, hb⟩
        have HB6 := Lib.hid (bthen HB5.out hb)
        clear hb x0 x1 x2 x3 hxl y0 y1 y2 y3 hyl
        by_cases hmn : m = n
        · obtain rfl : r = true := hr.2 hmn
          obtain rfl : Y = Z := HS.out.2 hmn
          clear hmn hr
          go_wp2_with fail
          refine (lives18_any _ (HE.out.below HB6.out)).mono ?_
          rintro e wl ⟨rfl, hb⟩
          have HBL := Lib.hid (bthen HB6.out hb)
          clear hb
          go_wp2_with fail
          go_ret
          exact ⟨rfl, HBL.out⟩
        · obtain rfl : r = false := by cases r with
            | false => rfl
            | true => exact absurd (hr.1 rfl) hmn
          have hne : (Y.toList == Z.toList) = false := by rw [beq_eq_false_iff_ne]; exact fun e => hmn (HS.out.1 (toL_inj e))
          clear hmn hr
          go_wp2_with fail
          refine (lives18_any _ (HE.out.below HB6.out)).mono ?_
          rintro e wl ⟨rfl, hb⟩
          have HBL := Lib.hid (bthen HB6.out hb)
          clear hb
          go_wp2_with fail
          go_ret
          exact ⟨rfl, HBL.out⟩
      · have hzb : (F != 0) = true := by simp [hz']
        go_wp2_with fail
        refine (lives18_any _ (HE.out.below HB5.out)).mono ?_
        rintro e wl ⟨rfl, hb⟩
        have HBL := Lib.hid (bthen HB5.out hb)
        clear hb
        go_wp2_with fail
        go_ret
        exact ⟨rfl, HBL.out⟩
    · have hzb : (E != 0) = true := by simp [hz]
      go_wp2_with fail
      refine (lives18_any _ (HE.out.below HB5.out)).mono ?_
      rintro e wl ⟨rfl, hb⟩
      have HBL := Lib.hid (bthen HB5.out hb)
      clear hb
      go_wp2_with fail
      go_ret
      exact ⟨rfl, HBL.out⟩
  · have hFF : (G = false) ∨ (G = true ∧ H = false) := by cases G <;> cases H <;> simp_all
    clear hGH HG HH
    rcases hFF with rfl | ⟨rfl, rfl⟩
    all_goals
      go_wp2_with fail
      refine (lives18_any _ (HE.out.below HB3.out)).mono ?_
      rintro e wl ⟨rfl, hb⟩
      have HBL := Lib.hid (bthen HB3.out hb)
      clear hb
      go_wp2_with fail
      go_ret
      exact ⟨rfl, HBL.out⟩
end Go.Proofs.YtaolnpiemeaabaaGreatDoor
