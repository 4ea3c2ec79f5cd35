/- Plain Lean: local names, spaces, full names, whether an event's texts may be. -/
import Derived.Test.YtaolnpiemeaabaaGreatDoorEvG
import Derived.Lib.ValidLaws
import Derived.Lib.SpaceUEq
import Derived.Lib.IndexMore
import Derived.Shelf.GgClosure.StringsIndexFunc
namespace Go.Proofs.YtaolnpiemeaabaaGreatDoor.Ev5
set_option linter.unusedSimpArgs false
set_option linter.unusedVariables false

def letterB (b : UInt8) : Bool := decide (97 ≤ b.toNat ∧ b.toNat ≤ 122) || decide (65 ≤ b.toNat ∧ b.toNat ≤ 90) || decide (b.toNat = 95)
def moreB (b : UInt8) : Bool := decide (48 ≤ b.toNat ∧ b.toNat ≤ 57) || decide (b.toNat = 45 ∨ b.toNat = 46)
def okB (i : Nat) (b : UInt8) : Bool := letterB b || (decide (0 < i) && moreB b)
def okFrom : Nat → List UInt8 → Bool
  | _, [] => true
  | i, b :: r => okB i b && okFrom (i + 1) r
def localP (l : List UInt8) : Bool := decide (1 ≤ l.length ∧ l.length ≤ 16) && okFrom 0 l
theorem okFrom_step (l : List UInt8) (i : Nat) (h : i < l.length) : okFrom i (l.drop i) = (okB i l[i] && okFrom (i + 1) (l.drop (i + 1))) := by
  rw [List.drop_eq_getElem_cons h]; rfl
theorem okFrom_end (l : List UInt8) (i : Nat) (h : l.length ≤ i) : okFrom i (l.drop i) = true := by
  rw [List.drop_eq_nil_of_le h]; rfl

/-- What no space holds, as a rune and as a byte. -/
def oddR (x : Nat) : Bool := decide (x < 33) || decide (x = 123 ∨ x = 125 ∨ x = 34 ∨ x = 60 ∨ x = 62 ∨ x = 38 ∨ x = 92)
def oddB (b : UInt8) : Bool := oddR b.toNat
theorem oddR_big (x : Nat) (h : 128 ≤ x) : oddR x = false := by simp [oddR]; omega

/-- On a text of whole characters the runes that are odd are the bytes that are. -/
theorem idx_odd (s : ByteArray) : ∀ (f pos : Nat), s.size ≤ pos + f → Lib.validD (s.data.toList.drop pos) = true → (decide (0 ≤ Lib.idxFuncFrom oddR true s f pos)) = (s.data.toList.drop pos).any oddB := by
  intro f
  induction f with
  | zero =>
    intro pos h _
    rw [List.drop_eq_nil_of_le (by rw [Array.length_toList]; show s.size ≤ pos; omega)]
    rfl
  | succ f ih =>
    intro pos h hv
    by_cases hp : pos < s.size
    · have hl : pos < s.data.toList.length := by rw [Array.length_toList]; exact hp
      have hd := List.drop_eq_getElem_cons hl
      have hne : s.data.toList.drop pos ≠ [] := by rw [hd]; simp
      rw [Lib.validD_step _ hne] at hv
      split at hv
      · cases hv
      rename_i hbad
      unfold Lib.idxFuncFrom
      rw [if_pos hp, ← Lib.decodeL_drop]
      have hN := Lib.decodeL_N (s.data.toList.drop pos)
      have hw := Lib.decodeL_width (s.data.toList.drop pos)
      rw [List.drop_drop] at hv
      have ih := ih (pos + (Lib.decodeL (s.data.toList.drop pos)).2) (by omega) hv
      generalize hl' : s.data.toList.drop pos = l at *
      have hhead : (l.getD 0 0) = s.data.toList[pos] := by rw [hd]; rfl
      have hdd : ∀ k, s.data.toList.drop (pos + k) = l.drop k := by intro k; rw [← hl', List.drop_drop]
      rw [hdd] at ih
      have hcs := Lib.decodeN_cases l.length (l.getD 0 0).toNat (l.getD 1 0).toNat (l.getD 2 0).toNat (l.getD 3 0).toNat
      have hct := Lib.decodeN_conts l.length (l.getD 0 0).toNat (l.getD 1 0).toNat (l.getD 2 0).toNat (l.getD 3 0).toNat
      rw [← hN] at hcs hct
      by_cases ha : (l.getD 0 0).toNat < 128
      · have e : Lib.decodeL l = ((l.getD 0 0).toNat, 1) := by rw [hN]; exact Lib.decodeN_ascii _ _ _ _ _ ha
        rw [e] at ih ⊢
        simp only [] at ih ⊢
        have el : l = l.getD 0 0 :: l.drop 1 := by
          cases l with
          | nil => exact absurd rfl hne
          | cons a b => rfl
        rw [show l.any oddB = (oddB (l.getD 0 0) || (l.drop 1).any oddB) by conv => { lhs; rw [el] } ; rfl]
        by_cases ho : oddR (l.getD 0 0).toNat = true
        · rw [if_pos ho]; simp only [oddB, ho, Bool.true_or]; exact decide_eq_true (by omega)
        · rw [if_neg ho]; simp only [oddB, ho, Bool.false_or]; exact ih
      · have hwl : (Lib.decodeL l).2 ≤ l.length := by
          rcases Nat.lt_or_ge l.length (Lib.decodeL l).2 with h1 | h1
          · have h2 := hct.2.2.2
            have : l.length = 0 ∨ l.length = 1 ∨ l.length = 2 ∨ l.length = 3 := by omega
            have hl0 : 0 < l.length := List.length_pos_iff.2 hne
            rcases this with e | e | e | e
            · omega
            · have := hct.1 (by omega); omega
            · have := hct.2.1 (by omega); omega
            · have := hct.2.2.1 (by omega); omega
          · exact h1
        have hbig : 128 ≤ (Lib.decodeL l).1 := by
          rcases hcs with ⟨h1, _⟩ | ⟨_, _, _, h1, e⟩ | ⟨_, _, _, _, h1, e⟩ | ⟨h1, _⟩ | e
          · omega
          · rw [e]; exact h1
          · rw [e]; simp only []; omega
          · omega
          · rw [e]; decide
        rw [if_neg (by rw [oddR_big _ hbig]; simp)]
        rw [ih]
        have hsplit : l = l.take (Lib.decodeL l).2 ++ l.drop (Lib.decodeL l).2 := (List.take_append_drop _ _).symm
        have hfront : (l.take (Lib.decodeL l).2).any oddB = false := by
          rw [List.any_eq_false]
          intro b hb
          rw [List.mem_take_iff_getElem] at hb
          obtain ⟨j, hj, rfl⟩ := hb
          have hj2 : j < l.length := by omega
          have hg : l[j]'(by omega) = l.getD j 0 := by rw [List.getD_eq_getElem?_getD, List.getElem?_eq_getElem hj2]; rfl
          have : 128 ≤ (l.getD j 0).toNat := by
            have hj4 : j < (Lib.decodeL l).2 := by omega
            have h4 := hct.2.2.2
            have : j = 0 ∨ j = 1 ∨ j = 2 ∨ j = 3 := by omega
            rcases this with rfl | rfl | rfl | rfl
            · omega
            · have := hct.1 (by omega); omega
            · have := hct.2.1 (by omega); omega
            · have := hct.2.2.1 (by omega); omega
          have e := hg ▸ (oddR_big (l.getD j 0).toNat this)
          simp only [oddB]
          rw [hg, oddR_big _ this]; simp
        conv => rhs; rw [hsplit]
        rw [List.any_append, hfront, Bool.false_or]
    · unfold Lib.idxFuncFrom
      rw [if_neg hp, List.drop_eq_nil_of_le (by rw [Array.length_toList]; show s.size ≤ pos; omega)]
      rfl

/-- names.Space. -/
def spaceP (l : List UInt8) : Bool := Lib.validD l && decide (1 ≤ l.length ∧ l.length ≤ 48) && !l.any oddB
theorem space_idx (s : ByteArray) (h : Lib.validD s.data.toList = true) : (decide (0 ≤ Lib.idxFunc oddR true s)) = s.data.toList.any oddB := by
  have := idx_odd s s.size 0 (by omega) (by simpa using h)
  unfold Lib.idxFunc
  rw [this, List.drop_zero]

/-- names.Cut: the place of the first '}' behind a '{'. -/
def cutP (l : List UInt8) : List UInt8 × List UInt8 × Bool :=
  if l.head? = some 123 then
    (if 0 ≤ Lib.indexByte l.tail 125 ∧ spaceP (l.tail.take (Lib.indexByte l.tail 125).toNat) = true ∧ localP (l.tail.drop ((Lib.indexByte l.tail 125).toNat + 1)) = true ∧ l.length ≤ 48 then
      (l.tail.take (Lib.indexByte l.tail 125).toNat, l.tail.drop ((Lib.indexByte l.tail 125).toNat + 1), true) else ([], [], false))
  else if localP l = true ∧ l.length ≤ 48 then ([], l, true) else ([], [], false)
def fullP (l : List UInt8) : Bool := (cutP l).2.2
def mayP (l : List UInt8) : Bool := Lib.validD l && decide (l.length ≤ 48)

def trueL : List UInt8 := [116, 114, 117, 101]
def falseL : List UInt8 := [102, 97, 108, 115, 101]
/-- events.right, over what num.Read tells. -/
def rightP (rd : List UInt8 → List UInt8 × Int) (x : Ev) : Bool :=
  if x.kind = 1 ∨ x.kind = 5 ∨ x.kind = 6 ∨ x.kind = 7 ∨ x.kind = 9 ∨ x.kind = 12 then x.text.isEmpty && x.val.isEmpty
  else if x.kind = 2 then x.val.isEmpty && (decide (x.text = trueL) || decide (x.text = falseL))
  else if x.kind = 3 then x.val.isEmpty && (decide ((rd x.text).2 = 0) && decide ((rd x.text).1 = x.text))
  else if x.kind = 4 ∨ x.kind = 8 then x.val.isEmpty && mayP x.text
  else if x.kind = 10 then x.val.isEmpty && fullP x.text
  else if x.kind = 11 then fullP x.text && mayP x.val
  else false
theorem right_end (rd : List UInt8 → List UInt8 × Int) (k : Int) (h : ends k = true) : rightP rd ⟨k, [], []⟩ = true := by
  simp [ends] at h
  unfold rightP
  rw [if_pos (by simp only []; omega)]; rfl
theorem right_null (rd : List UInt8 → List UInt8 × Int) : rightP rd ⟨1, [], []⟩ = true := rfl
end Go.Proofs.YtaolnpiemeaabaaGreatDoor.Ev5
