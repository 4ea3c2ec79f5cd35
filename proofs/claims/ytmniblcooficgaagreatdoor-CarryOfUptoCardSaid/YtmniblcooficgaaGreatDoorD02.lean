import Derived.Deep.RegionHeld3
import Derived.Deep.AppendLies
import Derived.Test.YtmniblcooficgaaGreatDoorD01
import Derived.WalkSpells
import Derived.Deep.DeepCutAuto
import Derived.Deep.CutBlock
namespace Go.Proofs.YtmniblcooficgaaGreatDoor
open Ev5
set_option linter.unusedSimpArgs false
set_option linter.unusedVariables false

inductive Nd where
  | mk (k : Int) (t v : ByteArray) (kids : List Nd)
def Nd.k : Nd → Int | .mk k _ _ _ => k
def Nd.t : Nd → ByteArray | .mk _ t _ _ => t
def Nd.v : Nd → ByteArray | .mk _ _ v _ => v
def Nd.kids : Nd → List Nd | .mk _ _ _ ks => ks
theorem Nd.ind {C : Nd → Prop} (h : ∀ k t v ks, (∀ x ∈ ks, C x) → C (.mk k t v ks)) (n : Nd) : C n :=
  Nd.rec (motive_1 := C) (motive_2 := fun l => ∀ x ∈ l, C x) (fun k t v ks ih => h k t v ks ih) (fun x hx => by cases hx)
    (fun n r hn hr x hx => by rcases List.mem_cons.1 hx with rfl | hx; exact hn; exact hr x hx) n

def emp : ByteArray := ⟨#[]⟩
def endK (k : Int) : Int := if k = 5 then 6 else if k = 7 then 9 else if k = 10 then 12 else 0
def leafK (k : Int) : Bool := decide (k = 1 ∨ k = 2 ∨ k = 3 ∨ k = 4 ∨ k = 11)
def oddK (k : Int) (n : Nat) : Bool := if leafK k = true then decide (0 < n) else if k = 8 then decide (n ≠ 1) else decide (endK k = 0)
def endEv (k : Int) : GoEv := ⟨endK k, emp, emp⟩
mutual
def Nd.walk : Nd → List GoEv
  | .mk k t v ks => if oddK k ks.length = true then [⟨0, emp, emp⟩] else ⟨k, t, v⟩ :: (Nd.walks ks ++ (if endK k = 0 then [] else [endEv k]))
def Nd.walks : List Nd → List GoEv
  | [] => []
  | n :: r => n.walk ++ Nd.walks r
end
mutual
def Nd.good : Nd → Bool
  | .mk k _ _ ks => !oddK k ks.length && Nd.goods ks
def Nd.goods : List Nd → Bool
  | [] => true
  | n :: r => n.good && Nd.goods r
end
mutual
def Nd.size : Nd → Nat
  | .mk _ _ _ ks => 1 + Nd.sizes ks
def Nd.sizes : List Nd → Nat
  | [] => 0
  | n :: r => n.size + Nd.sizes r
end
theorem walk_mk (k : Int) (t v : ByteArray) (ks : List Nd) : (Nd.mk k t v ks).walk = if oddK k ks.length = true then [⟨0, emp, emp⟩] else ⟨k, t, v⟩ :: (Nd.walks ks ++ (if endK k = 0 then [] else [endEv k])) := by rw [Nd.walk]
theorem walks_nil : Nd.walks [] = [] := by rw [Nd.walks]
theorem walks_cons (n : Nd) (r : List Nd) : Nd.walks (n :: r) = n.walk ++ Nd.walks r := by rw [Nd.walks]
theorem walks_app (a b : List Nd) : Nd.walks (a ++ b) = Nd.walks a ++ Nd.walks b := by
  induction a with
  | nil => rw [walks_nil]; rfl
  | cons x r ih => rw [List.cons_append, walks_cons, walks_cons, ih, List.append_assoc]
theorem walks_one (n : Nd) : Nd.walks [n] = n.walk := by rw [walks_cons, walks_nil, List.append_nil]
theorem good_mk (k : Int) (t v : ByteArray) (ks : List Nd) : (Nd.mk k t v ks).good = (!oddK k ks.length && Nd.goods ks) := by rw [Nd.good]
theorem goods_nil : Nd.goods [] = true := by rw [Nd.goods]
theorem goods_cons (n : Nd) (r : List Nd) : Nd.goods (n :: r) = (n.good && Nd.goods r) := by rw [Nd.goods]
theorem goods_iff (l : List Nd) : Nd.goods l = true ↔ ∀ x ∈ l, x.good = true := by
  induction l with
  | nil => simp [goods_nil]
  | cons x r ih => simp [goods_cons, ih]
theorem size_mk (k : Int) (t v : ByteArray) (ks : List Nd) : (Nd.mk k t v ks).size = 1 + Nd.sizes ks := by rw [Nd.size]
theorem sizes_cons (n : Nd) (r : List Nd) : Nd.sizes (n :: r) = n.size + Nd.sizes r := by rw [Nd.sizes]
theorem sizes_nil : Nd.sizes [] = 0 := by rw [Nd.sizes]
theorem size_pos (n : Nd) : 1 ≤ n.size := by cases n; rw [size_mk]; omega
theorem sizes_len (l : List Nd) : l.length ≤ Nd.sizes l := by
  induction l with
  | nil => simp [sizes_nil]
  | cons x r ih => have := size_pos x; rw [sizes_cons, List.length_cons]; omega
theorem size_mem {x : Nd} {l : List Nd} (h : x ∈ l) : x.size ≤ Nd.sizes l := by
  induction l with
  | nil => cases h
  | cons y r ih => rw [sizes_cons]; rcases List.mem_cons.1 h with rfl | h; omega; have := ih h; omega
theorem walk_len (n : Nd) : n.walk.length ≤ 2 * n.size := by
  refine Nd.ind (C := fun n => n.walk.length ≤ 2 * n.size) ?_ n
  intro k t v ks ih
  have hk : ∀ l : List Nd, (∀ x ∈ l, x.walk.length ≤ 2 * x.size) → (Nd.walks l).length ≤ 2 * Nd.sizes l := by
    intro l
    induction l with
    | nil => intro _; simp [walks_nil]
    | cons x r ih => intro h; have := ih fun y hy => h y (List.mem_cons_of_mem _ hy); have := h x (by simp); rw [walks_cons, sizes_cons, List.length_append]; omega
  have := hk ks ih
  rw [walk_mk, size_mk]
  split
  · simp; omega
  · split <;> simp <;> omega
theorem endK_cases (k : Int) : (k = 5 ∧ endK k = 6) ∨ (k = 7 ∧ endK k = 9) ∨ (k = 10 ∧ endK k = 12) ∨ (k ≠ 5 ∧ k ≠ 7 ∧ k ≠ 10 ∧ endK k = 0) := by
  unfold endK
  by_cases h5 : k = 5
  · left; simp [h5]
  · by_cases h7 : k = 7
    · right; left; simp [h7]
    · by_cases h10 : k = 10
      · right; right; left; simp [h10]
      · right; right; right; simp [h5, h7, h10]
theorem odd_kind {k : Int} {n : Nat} (h : oddK k n = false) : (k = 1 ∨ k = 2 ∨ k = 3 ∨ k = 4 ∨ k = 11) ∧ n = 0 ∨ k = 8 ∧ n = 1 ∨ (k = 5 ∨ k = 7 ∨ k = 10) := by
  unfold oddK leafK at h
  split at h
  · rename_i hl; simp at hl h; exact .inl ⟨hl, h⟩
  · rename_i hl
    split at h
    · rename_i h8; simp at h; exact .inr (.inl ⟨h8, h⟩)
    · simp at h; rcases endK_cases k with ⟨h1, _⟩ | ⟨h1, _⟩ | ⟨h1, _⟩ | ⟨_, _, _, h1⟩
      · exact .inr (.inr (.inl h1))
      · exact .inr (.inr (.inr (.inl h1)))
      · exact .inr (.inr (.inr (.inr h1)))
      · exact absurd h1 h
theorem walk_good {k : Int} {t v : ByteArray} {ks : List Nd} (h : (Nd.mk k t v ks).good = true) : (Nd.mk k t v ks).walk = ⟨k, t, v⟩ :: (Nd.walks ks ++ (if endK k = 0 then [] else [endEv k])) := by
  rw [good_mk] at h; simp at h
  rw [walk_mk, if_neg (by rw [h.1]; simp)]
end Go.Proofs.YtmniblcooficgaaGreatDoor

namespace Go.Proofs.YtmniblcooficgaaGreatDoor
open Ev5
set_option linter.unusedSimpArgs false
set_option linter.unusedVariables false

structure RK (R : Ev → Bool) : Prop where
  kind : ∀ x, R x = true → 1 ≤ x.kind ∧ x.kind ≤ 12
  bare : ∀ x, R x = true → ends x.kind = true → x.text = [] ∧ x.val = []
theorem rk_right (rd : List UInt8 → List UInt8 × Int) : RK (rightP rd) := by
  refine ⟨fun x h => ?_, fun x h he => ?_⟩
  · unfold rightP at h
    repeat' split at h
    all_goals first | omega | (cases h)
  · simp [ends] at he
    unfold rightP at h
    rw [if_pos (by omega)] at h
    simp at h
    exact h
theorem ba_nil {a : ByteArray} (h : a.data.toList = []) : a = emp := by
  obtain ⟨⟨l⟩⟩ := a
  simp at h; subst h; rfl

theorem runP_step {R : Ev → Bool} {st : St} {x : Ev} {l : List Ev} (h : (runP R st (x :: l)).2.2 = 0) : (stepP R st x).2 = 0 ∧ (runP R (stepP R st x).1 l).2.2 = 0 ∧ (runP R st (x :: l)).1 = (runP R (stepP R st x).1 l).1 := by
  simp only [runP] at h ⊢
  split at h
  · rename_i h0; rw [if_pos h0]; exact ⟨h0, h, rfl⟩
  · rename_i h0; exact absurd h h0
theorem step_right {R : Ev → Bool} {st : St} {x : Ev} (h : (stepP R st x).2 = 0) : R x = true := by
  unfold stepP at h
  split at h
  · cases h
  · rename_i hr; simpa using hr

theorem step_leaf {R : Ev → Bool} {st : St} {x : Ev} (h : (stepP R st x).2 = 0) (hk : x.kind = 1 ∨ x.kind = 2 ∨ x.kind = 3 ∨ x.kind = 4) : (stepP R st x).1 = standsP st x := by
  have hr := step_right h
  unfold stepP at h ⊢
  rw [if_neg (by rw [hr]; simp), if_pos hk] at h ⊢
  split at h
  · rename_i hv; rw [if_pos hv]
  · cases h
theorem step_open {R : Ev → Bool} {st : St} {x : Ev} (h : (stepP R st x).2 = 0) (hk : x.kind = 5 ∨ x.kind = 7 ∨ x.kind = 10) : (stepP R st x).1 = ⟨⟨x.kind, false, false, false, []⟩ :: (standsP st x).opn, (standsP st x).over⟩ := by
  have hr := step_right h
  unfold stepP at h ⊢
  rw [if_neg (by rw [hr]; simp), if_neg (by omega), if_pos hk] at h ⊢
  split at h
  · cases h
  · rename_i h1
    split at h
    · cases h
    · rename_i h2; rw [if_neg h1, if_neg h2]
theorem named_ok {l : Ev5.Op} {x : Ev} (h : (namedP l x).2 = 0) : (namedP l x).1 = { l with had := l.had ++ [x.text], key := decide (x.kind = 8) } := by
  unfold namedP at h ⊢
  split at h
  · cases h
  · rename_i h1
    split at h
    · cases h
    · rename_i h2; rw [if_neg h1, if_neg h2]
theorem step_other {R : Ev → Bool} {st : St} {x : Ev} (h : (stepP R st x).2 = 0) (h1 : ¬ (x.kind = 1 ∨ x.kind = 2 ∨ x.kind = 3 ∨ x.kind = 4)) (h2 : ¬ (x.kind = 5 ∨ x.kind = 7 ∨ x.kind = 10)) :
    ∃ l r, st.opn = l :: r ∧ ((x.kind = 8 ∧ l.kind = 7 ∧ l.key = false ∧ (stepP R st x).1 = ⟨{ l with had := l.had ++ [x.text], key := true } :: r, st.over⟩) ∨
      (x.kind = 11 ∧ l.kind = 10 ∧ (stepP R st x).1 = ⟨{ l with had := l.had ++ [x.text], key := false } :: r, st.over⟩) ∨
      (x.kind ≠ 8 ∧ x.kind ≠ 11 ∧ l.kind = endOf x.kind ∧ l.key = false ∧ (stepP R st x).1 = ⟨r, st.over⟩)) := by
  have hr := step_right h
  unfold stepP at h ⊢
  rw [if_neg (by rw [hr]; simp), if_neg h1, if_neg h2] at h ⊢
  cases ho : st.opn with
  | nil => rw [ho] at h; cases h
  | cons l r =>
    refine ⟨l, r, rfl, ?_⟩
    rw [ho] at h
    simp only [] at h ⊢
    split at h
    · rename_i h8
      split at h
      · cases h
      · rename_i hc
        simp only [not_or, Decidable.not_not] at hc
        refine .inl ⟨h8, hc.1, by simpa using hc.2, ?_⟩
        rw [if_pos h8, if_neg (by rw [not_or]; exact ⟨by simpa using hc.1, hc.2⟩)]
        simp only [] at h ⊢
        rw [named_ok h, h8]; rfl
    · rename_i h8
      split at h
      · rename_i h11
        split at h
        · cases h
        · rename_i hc
          simp only [not_or, Decidable.not_not] at hc
          refine .inr (.inl ⟨h11, hc.1, ?_⟩)
          rw [if_neg h8, if_pos h11, if_neg (by rw [not_or]; exact ⟨by simpa using hc.1, hc.2⟩)]
          simp only [] at h ⊢
          rw [named_ok h, h11]; rfl
      · rename_i h11
        split at h
        · cases h
        · rename_i hc
          simp only [not_or, Decidable.not_not] at hc
          refine .inr (.inr ⟨h8, h11, hc.1, by simpa using hc.2, ?_⟩)
          rw [if_neg h8, if_neg h11, if_neg (by rw [not_or]; exact ⟨by simpa using hc.1, hc.2⟩)]

theorem stands_cons (o : Ev5.Op) (os : List Ev5.Op) (ov : Bool) (x : Ev) : standsP ⟨o :: os, ov⟩ x = ⟨{ o with key := false, full := true, text := decide (x.kind = 4) } :: os, ov⟩ := rfl

def KidsOf (R : Ev → Bool) (n : Nat) : Prop := ∀ (l : List GoEv) (o : Ev5.Op) (os : List Ev5.Op) (ov : Bool), l.length ≤ n → (runP R ⟨o :: os, ov⟩ (l.map GoEv.ev)).2.2 = 0 → (runP R ⟨o :: os, ov⟩ (l.map GoEv.ev)).1.opn.length ≤ os.length →
  o.key = false → (o.kind = 5 ∨ o.kind = 7 ∨ o.kind = 10) →
  ∃ (kids : List Nd) (r : List GoEv), Nd.goods kids = true ∧ l = Nd.walks kids ++ endEv o.kind :: r ∧ (runP R ⟨os, ov⟩ (r.map GoEv.ev)).2.2 = 0 ∧ (runP R ⟨os, ov⟩ (r.map GoEv.ev)).1 = (runP R ⟨o :: os, ov⟩ (l.map GoEv.ev)).1
def ValOf (R : Ev → Bool) (n : Nat) : Prop := ∀ (x : GoEv) (l : List GoEv) (st : St), l.length < n → (runP R st ((x :: l).map GoEv.ev)).2.2 = 0 → (runP R st ((x :: l).map GoEv.ev)).1.opn.length ≤ st.opn.length →
  (x.k = 1 ∨ x.k = 2 ∨ x.k = 3 ∨ x.k = 4 ∨ x.k = 5 ∨ x.k = 7 ∨ x.k = 10) →
  ∃ (nd : Nd) (r : List GoEv), nd.good = true ∧ x :: l = nd.walk ++ r ∧ r.length ≤ l.length ∧ (runP R (standsP st x.ev) (r.map GoEv.ev)).2.2 = 0 ∧ (runP R (standsP st x.ev) (r.map GoEv.ev)).1 = (runP R st ((x :: l).map GoEv.ev)).1

theorem kids_of {R : Ev → Bool} (hR : RK R) {n : Nat} (hK : KidsOf R n) (hV : ValOf R (n + 1)) (hV0 : ValOf R n) : KidsOf R (n + 1) := by
  intro l o os ov hl hrun hd hkey hop
  cases l with
  | nil => simp [runP] at hd; omega
  | cons y r =>
    have hrun' := hrun
    rw [List.map_cons] at hrun'
    obtain ⟨h0, h1, h2⟩ := runP_step hrun'
    by_cases hv : y.k = 1 ∨ y.k = 2 ∨ y.k = 3 ∨ y.k = 4 ∨ y.k = 5 ∨ y.k = 7 ∨ y.k = 10
    · obtain ⟨nd, r2, hg, he, hlen, hr1, hr2⟩ := hV y r ⟨o :: os, ov⟩ (by simp at hl; omega) hrun (Nat.le_trans hd (by simp)) hv
      rw [stands_cons] at hr1 hr2
      obtain ⟨kids, r3, hg3, he3, hr31, hr32⟩ := hK r2 _ os ov (by simp at hl; omega) hr1 (by rw [hr2]; exact hd) rfl hop
      refine ⟨nd :: kids, r3, by rw [goods_cons, hg, hg3]; rfl, ?_, hr31, by rw [hr32, hr2]⟩
      rw [he, he3, walks_cons, List.append_assoc]
    · obtain ⟨l', r', ho, hcase⟩ := step_other h0 (by show ¬ (y.k = 1 ∨ y.k = 2 ∨ y.k = 3 ∨ y.k = 4); omega) (by show ¬ (y.k = 5 ∨ y.k = 7 ∨ y.k = 10); omega)
      simp only [List.cons.injEq] at ho
      obtain ⟨rfl, rfl⟩ := ho
      rcases hcase with ⟨h8, h7, _, hs⟩ | ⟨h11, h10, hs⟩ | ⟨n8, n11, hke, _, hs⟩
      · -- a key: the value behind it
        rw [hs] at h1
        cases r with
        | nil => rw [List.map_cons, h2, hs] at hd; simp [runP] at hd; omega
        | cons z q =>
          have h1' := h1
          rw [List.map_cons] at h1'
          obtain ⟨z0, z1, z2⟩ := runP_step h1'
          have hz : z.k = 1 ∨ z.k = 2 ∨ z.k = 3 ∨ z.k = 4 ∨ z.k = 5 ∨ z.k = 7 ∨ z.k = 10 := by
            rcases Classical.em (z.k = 1 ∨ z.k = 2 ∨ z.k = 3 ∨ z.k = 4 ∨ z.k = 5 ∨ z.k = 7 ∨ z.k = 10) with h | h
            · exact h
            · obtain ⟨l2, r2, ho2, hc2⟩ := step_other z0 (by show ¬ (z.k = 1 ∨ z.k = 2 ∨ z.k = 3 ∨ z.k = 4); omega) (by show ¬ (z.k = 5 ∨ z.k = 7 ∨ z.k = 10); omega)
              simp only [List.cons.injEq] at ho2
              obtain ⟨rfl, rfl⟩ := ho2
              rcases hc2 with ⟨_, _, hk2, _⟩ | ⟨_, h10, _⟩ | ⟨_, _, _, hk2, _⟩
              · cases hk2
              · simp only [] at h10; omega
              · cases hk2
          obtain ⟨nd, r2, hg, he, hlen, hr1, hr2⟩ := hV0 z q _ (by simp at hl; omega) h1 (by rw [List.map_cons, h2, hs] at hd; exact Nat.le_trans hd (Nat.le_succ _)) hz
          rw [stands_cons] at hr1 hr2
          obtain ⟨kids, r3, hg3, he3, hr31, hr32⟩ := hK r2 _ os ov (by simp at hl; omega) hr1 (by rw [hr2]; rw [List.map_cons, h2, hs] at hd; exact hd) rfl (.inr (.inl h7))
          have h8' : y.k = 8 := h8
          have hgk : (Nd.mk y.k y.t y.v [nd]).good = true := by
            rw [good_mk, goods_cons, hg, goods_nil, h8', show [nd].length = 1 from rfl]; decide
          refine ⟨.mk y.k y.t y.v [nd] :: kids, r3, by rw [goods_cons, hgk, hg3]; rfl, ?_, hr31, ?_⟩
          · rw [walks_cons, walk_good hgk, walks_one, he, he3, h8', show endK 8 = 0 by decide]
            simp
            obtain ⟨a, b, c⟩ := y; simp at h8'; subst h8'; rfl
          · rw [List.map_cons, h2, hs, hr32, hr2]
      · -- an attribute
        rw [hs] at h1
        obtain ⟨kids, r3, hg3, he3, hr31, hr32⟩ := hK r _ os ov (by simp at hl; omega) h1 (by rw [List.map_cons, h2, hs] at hd; exact hd) rfl hop
        have h11' : y.k = 11 := h11
        have hgk : (Nd.mk y.k y.t y.v []).good = true := by rw [good_mk, goods_nil, h11']; decide
        refine ⟨.mk y.k y.t y.v [] :: kids, r3, by rw [goods_cons, hgk, hg3]; rfl, ?_, hr31, ?_⟩
        · rw [walks_cons, walk_good hgk, walks_nil, he3, h11', show endK 11 = 0 by decide]
          simp
          obtain ⟨a, b, c⟩ := y; simp at h11'; subst h11'; rfl
        · rw [List.map_cons, h2, hs, hr32]
      · -- the End
        have hr := step_right h0
        have hk12 := hR.kind _ hr
        have hen : y.k = 6 ∨ y.k = 9 ∨ y.k = 12 := by
          have h8' : y.k ≠ 8 := n8
          have h11' : y.k ≠ 11 := n11
          have := hk12; simp only [GoEv.ev] at this; omega
        obtain ⟨e1, e2⟩ := hR.bare _ hr (by simp only [GoEv.ev, ends]; exact decide_eq_true hen)
        have ht := ba_nil e1
        have hvv := ba_nil e2
        have hy : y = endEv o.kind := by
          obtain ⟨a, b, c⟩ := y
          simp only [GoEv.ev] at ht hvv hke hen
          subst ht; subst hvv
          rw [hke]
          rcases hen with rfl | rfl | rfl <;> rfl
        refine ⟨[], r, goods_nil, by rw [walks_nil, ← hy]; rfl, ?_, ?_⟩
        · rw [hs] at h1; exact h1
        · rw [List.map_cons, h2, hs]

theorem good_of_kinds (n : Nd) : (∀ x ∈ n.walk, x.k ≠ 0) → n.good = true := by
  refine Nd.ind (C := fun n => (∀ x ∈ n.walk, x.k ≠ 0) → n.good = true) ?_ n
  intro k t v ks ih h
  rw [walk_mk] at h
  split at h
  · exact absurd rfl (h ⟨0, emp, emp⟩ (by simp))
  · rename_i ho
    have ho' : oddK k ks.length = false := by simpa using ho
    have hk : ∀ l : List Nd, (∀ x ∈ l, x ∈ ks) → (∀ x ∈ Nd.walks l, x.k ≠ 0) → Nd.goods l = true := by
      intro l
      induction l with
      | nil => intro _ _; exact goods_nil
      | cons a r ihl =>
        intro hin hh
        rw [walks_cons] at hh
        rw [goods_cons, ih a (hin a (by simp)) (fun x hx => hh x (List.mem_append_left _ hx)), ihl (fun x hx => hin x (List.mem_cons_of_mem _ hx)) (fun x hx => hh x (List.mem_append_right _ hx))]; rfl
    rw [good_mk, ho', hk ks (fun _ h => h) (fun x hx => h x (List.mem_cons_of_mem _ (List.mem_append_left _ hx)))]; rfl
theorem run_rights {R : Ev → Bool} : ∀ (l : List Ev) (st : St), (runP R st l).2.2 = 0 → ∀ x ∈ l, R x = true
  | [], _, _, x, hx => by cases hx
  | y :: r, st, h, x, hx => by
    obtain ⟨h0, h1, _⟩ := runP_step h
    rcases List.mem_cons.1 hx with rfl | hx
    · exact step_right h0
    · exact run_rights r _ h1 x hx
theorem whole_run {R : Ev → Bool} {l : List Ev} (h : (wholeP R l).2 = 0) : (runP R St.new l).2.2 = 0 := by
  unfold wholeP at h
  split at h
  · rename_i he; exact absurd h he
  · rename_i he; exact Classical.not_not.1 he
theorem good_of_whole {R : Ev → Bool} (hR : RK R) (n : Nd) (h : (wholeP R (n.walk.map GoEv.ev)).2 = 0) : n.good = true := by
  refine good_of_kinds n fun x hx e => ?_
  have := hR.kind _ (run_rights _ _ (whole_run h) x.ev (List.mem_map.2 ⟨x, hx, rfl⟩))
  simp only [GoEv.ev] at this
  omega
end Go.Proofs.YtmniblcooficgaaGreatDoor

namespace Go.Proofs.YtmniblcooficgaaGreatDoor
open Go.RowKit Ev5
set_option linter.unusedSimpArgs false
set_option linter.unusedVariables false

mutual
def NdAt (w : World) (S : Nat → Prop) : Nat → Nat → Nd → Prop
  | b, o, .mk k t v ks => w.cell? ⟨b, o, none⟩ = some (.int .i64 k) ∧ w.cell? ⟨b, o + 1, none⟩ = some (.string t) ∧ w.cell? ⟨b, o + 2, none⟩ = some (.string v) ∧
      ∃ a cap, w.cell? ⟨b, o + 3, none⟩ = some (.slice a ks.length cap) ∧ ks.length ≤ cap ∧ cap ≤ maxLen ∧ (ks = [] ∨ ∃ b' o', a = some ⟨b', o', none⟩ ∧ S b' ∧ b' < w.heap.size ∧ KidsIn w S b' o' ks)
def KidsIn (w : World) (S : Nat → Prop) : Nat → Nat → List Nd → Prop
  | _, _, [] => True
  | b, o, n :: r => NdAt w S b o n ∧ KidsIn w S b (o + 4) r
end
def SlIn (w : World) (S : Nat → Prop) (u : Value) (ks : List Nd) : Prop :=
  ∃ a cap, u = .slice a ks.length cap ∧ ks.length ≤ cap ∧ cap ≤ maxLen ∧ (ks = [] ∨ ∃ b' o', a = some ⟨b', o', none⟩ ∧ S b' ∧ b' < w.heap.size ∧ KidsIn w S b' o' ks)
def ndV (n : Nd) (u : Value) : Value := .agg #[.int .i64 n.k, .string n.t, .string n.v, u]
def NdV (w : World) (S : Nat → Prop) (val : Value) (n : Nd) : Prop := ∃ u, val = ndV n u ∧ SlIn w S u n.kids

theorem ndAt_iff {w : World} {S : Nat → Prop} {b o : Nat} {n : Nd} : NdAt w S b o n ↔ (w.cell? ⟨b, o, none⟩ = some (.int .i64 n.k) ∧ w.cell? ⟨b, o + 1, none⟩ = some (.string n.t) ∧ w.cell? ⟨b, o + 2, none⟩ = some (.string n.v) ∧ ∃ u, w.cell? ⟨b, o + 3, none⟩ = some u ∧ SlIn w S u n.kids) := by
  cases n with
  | mk k t v ks =>
    rw [NdAt]
    simp only [Nd.k, Nd.t, Nd.v, Nd.kids, SlIn]
    constructor
    · rintro ⟨h0, h1, h2, a, cap, h3, h4⟩
      exact ⟨h0, h1, h2, _, h3, a, cap, rfl, h4⟩
    · rintro ⟨h0, h1, h2, u, h3, a, cap, rfl, h4⟩
      exact ⟨h0, h1, h2, a, cap, h3, h4⟩
theorem kidsIn_nil {w : World} {S : Nat → Prop} {b o : Nat} : KidsIn w S b o [] := by rw [KidsIn]; trivial
theorem kidsIn_cons {w : World} {S : Nat → Prop} {b o : Nat} {n : Nd} {r : List Nd} : KidsIn w S b o (n :: r) ↔ NdAt w S b o n ∧ KidsIn w S b (o + 4) r := by rw [KidsIn]
theorem kidsIn_iff {w : World} {S : Nat → Prop} {b : Nat} : ∀ {o : Nat} {ks : List Nd}, KidsIn w S b o ks ↔ ∀ (i : Nat) (h : i < ks.length), NdAt w S b (o + i * 4) ks[i]
  | o, [] => ⟨fun _ i h => by simp at h, fun _ => kidsIn_nil⟩
  | o, n :: r => by
    rw [kidsIn_cons, kidsIn_iff]
    constructor
    · rintro ⟨h0, hr⟩ i h
      cases i with
      | zero => rw [List.getElem_cons_zero, Nat.zero_mul, Nat.add_zero]; exact h0
      | succ i => have := hr i (by simpa using h); rw [List.getElem_cons_succ, show o + (i + 1) * 4 = o + 4 + i * 4 by omega]; exact this
    · intro h
      refine ⟨by have := h 0 (by simp); rw [List.getElem_cons_zero, Nat.zero_mul, Nat.add_zero] at this; exact this, fun i hi => ?_⟩
      have := h (i + 1) (by simpa using hi)
      rw [List.getElem_cons_succ, show o + (i + 1) * 4 = o + 4 + i * 4 by omega] at this
      exact this

def Alike (S : Nat → Prop) (w w' : World) : Prop := w.heap.size ≤ w'.heap.size ∧ ∀ b, S b → b < w.heap.size → w'.heap[b]? = w.heap[b]?
theorem cell_alike {w w' : World} {b o : Nat} {u : Value} (h : w'.heap[b]? = w.heap[b]?) (hc : w.cell? ⟨b, o, none⟩ = some u) : w'.cell? ⟨b, o, none⟩ = some u := by
  rw [← hc]; unfold World.cell?; simp only []; rw [h]
theorem ndAt_alike {S S' : Nat → Prop} {w w' : World} (ha : Alike S w w') (hS : ∀ b, S b → b < w.heap.size → S' b) (n : Nd) : ∀ (b o : Nat), w'.heap[b]? = w.heap[b]? → NdAt w S b o n → NdAt w' S' b o n := by
  refine Nd.ind (C := fun n => ∀ (b o : Nat), w'.heap[b]? = w.heap[b]? → NdAt w S b o n → NdAt w' S' b o n) ?_ n
  intro k t v ks ih b o hb h
  rw [ndAt_iff] at h ⊢
  obtain ⟨h0, h1, h2, u, h3, a, cap, rfl, hc, hm, h4⟩ := h
  refine ⟨cell_alike hb h0, cell_alike hb h1, cell_alike hb h2, _, cell_alike hb h3, a, cap, rfl, hc, hm, ?_⟩
  rcases h4 with h4 | ⟨b', o', e, hs, hlt, hk⟩
  · exact .inl h4
  · refine .inr ⟨b', o', e, hS _ hs hlt, Nat.lt_of_lt_of_le hlt ha.1, ?_⟩
    rw [kidsIn_iff] at hk ⊢
    intro i hi
    exact ih _ (List.getElem_mem hi) b' _ (ha.2 b' hs hlt) (hk i hi)
theorem SlIn.alike {S S' : Nat → Prop} {w w' : World} {u : Value} {ks : List Nd} (h : SlIn w S u ks) (ha : Alike S w w') (hS : ∀ b, S b → b < w.heap.size → S' b) : SlIn w' S' u ks := by
  obtain ⟨a, cap, rfl, hc, hm, h4⟩ := h
  refine ⟨a, cap, rfl, hc, hm, ?_⟩
  rcases h4 with h4 | ⟨b', o', e, hs, hlt, hk⟩
  · exact .inl h4
  · refine .inr ⟨b', o', e, hS _ hs hlt, Nat.lt_of_lt_of_le hlt ha.1, ?_⟩
    rw [kidsIn_iff] at hk ⊢
    intro i hi
    exact ndAt_alike ha hS _ b' _ (ha.2 b' hs hlt) (hk i hi)
theorem alike_below {S : Nat → Prop} {w w' : World} (hb : Below w.heap.size w w') : Alike S w w' := ⟨hb.size, fun b _ h => hb.block b h⟩
theorem SlIn.below {S : Nat → Prop} {w w' : World} {u : Value} {ks : List Nd} (h : SlIn w S u ks) (hb : Below w.heap.size w w') : SlIn w' S u ks := h.alike (alike_below hb) fun _ h _ => h
theorem NdV.below {S : Nat → Prop} {w w' : World} {u : Value} {n : Nd} (h : NdV w S u n) (hb : Below w.heap.size w w') : NdV w' S u n := by
  obtain ⟨u, rfl, hs⟩ := h
  exact ⟨u, rfl, hs.below hb⟩
theorem NdV.alike {S S' : Nat → Prop} {w w' : World} {u : Value} {n : Nd} (h : NdV w S u n) (ha : Alike S w w') (hS : ∀ b, S b → b < w.heap.size → S' b) : NdV w' S' u n := by
  obtain ⟨u, rfl, hs⟩ := h
  exact ⟨u, rfl, hs.alike ha hS⟩
theorem SlIn.at_ {S : Nat → Prop} {w : World} {ao : Option Addr} {len cap : Nat} {ks : List Nd} (h : SlIn w S (.slice ao len cap) ks) (i : Nat) (hi : i < ks.length) :
    ∃ b o u, ao = some ⟨b, o, none⟩ ∧ b < w.heap.size ∧ w.cell? ⟨b, o + i * 4, none⟩ = some (.int .i64 ks[i].k) ∧ w.cell? ⟨b, o + i * 4 + 1, none⟩ = some (.string ks[i].t) ∧ w.cell? ⟨b, o + i * 4 + 2, none⟩ = some (.string ks[i].v) ∧ w.cell? ⟨b, o + i * 4 + 3, none⟩ = some u ∧ SlIn w S u ks[i].kids := by
  obtain ⟨a, cap', e, hc, hm, h4⟩ := h
  injection e with e1 e2 e3
  subst e1
  rcases h4 with rfl | ⟨b', o', rfl, hs, hlt, hk⟩
  · simp at hi
  · have := kidsIn_iff.1 hk i hi
    rw [ndAt_iff] at this
    obtain ⟨h0, h1, h2, u, h3, h4⟩ := this
    exact ⟨b', o', u, rfl, hlt, h0, h1, h2, h3, h4⟩
theorem SlIn.at2 {S : Nat → Prop} {w : World} {ao : Option Addr} {len cap : Nat} {ks : List Nd} (h : SlIn w S (.slice ao len cap) ks) (i : Nat) (hi : i < ks.length) :
    ∃ b o u, ao = some ⟨b, o, none⟩ ∧ b < w.heap.size ∧ w.cell? ⟨b, o + i * 4, none⟩ = some (.int .i64 ks[i].k) ∧ w.cell? ⟨b, o + i * 4 + 1, none⟩ = some (.string ks[i].t) ∧ w.cell? ⟨b, o + i * 4 + 2, none⟩ = some (.string ks[i].v) ∧ w.cell? ⟨b, o + i * 4 + 3, none⟩ = some u ∧ SlIn w S u ks[i].kids ∧ S b := by
  obtain ⟨a, cap', e, hc, hm, h4⟩ := h
  injection e with e1 e2 e3
  subst e1
  rcases h4 with rfl | ⟨b', o', rfl, hs, hlt, hk⟩
  · simp at hi
  · have := kidsIn_iff.1 hk i hi
    rw [ndAt_iff] at this
    obtain ⟨h0, h1, h2, u, h3, h4⟩ := this
    exact ⟨b', o', u, rfl, hlt, h0, h1, h2, h3, h4, hs⟩
theorem SlIn.shape {S : Nat → Prop} {w : World} {u : Value} {ks : List Nd} (h : SlIn w S u ks) : ∃ ao cap, u = .slice ao ks.length cap ∧ ks.length ≤ cap ∧ cap ≤ maxLen := by
  obtain ⟨a, cap', e, hc, hm, _⟩ := h
  exact ⟨a, cap', e, hc, hm⟩
end Go.Proofs.YtmniblcooficgaaGreatDoor

namespace Go.Proofs.YtmniblcooficgaaGreatDoor
open Go.RowKit Ev5
set_option linter.unusedSimpArgs false
set_option linter.unusedVariables false

mutual
def Nd.few : Nd → Int → Int → Int
  | .mk _ _ _ ks, left, deep => if deep < 0 then -1 else Nd.fews ks (left - 1) (deep - 1)
def Nd.fews : List Nd → Int → Int → Int
  | [], left, _ => left
  | n :: r, left, deep => if left < 0 then left else Nd.fews r (n.few left deep) deep
end
theorem few_mk (k : Int) (t v : ByteArray) (ks : List Nd) (left deep : Int) : (Nd.mk k t v ks).few left deep = if deep < 0 then -1 else Nd.fews ks (left - 1) (deep - 1) := by rw [Nd.few]
theorem fews_nil (left deep : Int) : Nd.fews [] left deep = left := by rw [Nd.fews]
theorem fews_cons (n : Nd) (r : List Nd) (left deep : Int) : Nd.fews (n :: r) left deep = if left < 0 then left else Nd.fews r (n.few left deep) deep := by rw [Nd.fews]
theorem fews_neg (l : List Nd) (left deep : Int) (h : left < 0) : Nd.fews l left deep = left := by
  cases l with
  | nil => rw [fews_nil]
  | cons x r => rw [fews_cons, if_pos h]
theorem few_says (n : Nd) : ∀ (left deep : Int), 0 ≤ left → -1 ≤ n.few left deep ∧ n.few left deep ≤ left - 1 ∧ (0 ≤ n.few left deep → n.few left deep = left - n.size) := by
  refine Nd.ind (C := fun n => ∀ (left deep : Int), 0 ≤ left → -1 ≤ n.few left deep ∧ n.few left deep ≤ left - 1 ∧ (0 ≤ n.few left deep → n.few left deep = left - n.size)) ?_ n
  intro k t v ks ih left deep h
  have hk : ∀ (l : List Nd), (∀ x ∈ l, x ∈ ks) → ∀ (lf d : Int), -1 ≤ lf → -1 ≤ Nd.fews l lf d ∧ Nd.fews l lf d ≤ lf ∧ (0 ≤ Nd.fews l lf d → Nd.fews l lf d = lf - Nd.sizes l) := by
    intro l
    induction l with
    | nil => intro _ lf d h; rw [fews_nil, sizes_nil]; omega
    | cons x r ihl =>
      intro hin lf d h
      rw [fews_cons, sizes_cons]
      split
      · omega
      · have h1 := ih x (hin x (by simp)) lf d (by omega)
        have h2 := ihl (fun y hy => hin y (List.mem_cons_of_mem _ hy)) (x.few lf d) d (by omega)
        omega
  rw [few_mk, size_mk]
  split
  · omega
  · have := hk ks (fun _ h => h) (left - 1) (deep - 1) (by omega)
    omega

theorem box_cells {w wr : World} {cs : Array Value} {t : TypeId} (h : Below (w.heap.size + 1) (w.alloc (.cells cs t)) wr) : wr.heap[w.heap.size]? = some (.cells cs t (0, 0)) := by
  rw [h.block _ (by omega)]; exact heap_alloc_new w _
theorem box_below {w wr : World} {o : Obj} (h : Below (w.heap.size + 1) (w.alloc o) wr) : Below w.heap.size w wr := ((Below.refl _ w).alloc (Nat.le_refl _) _).trans (h.mono (by omega))

set_option maxRecDepth 100000 in
set_option maxHeartbeats 4000000 in
theorem few_any (n : Nd) : ∀ (w : World) (S : Nat → Prop) (val : Value) (left deep : Int), NdV w S val n → 0 ≤ left → left ≤ 1000 → -1 ≤ deep → deep ≤ 1000 →
    Calls Tryz.prog 10 #[val, .int .i64 left, .int .i64 deep] w fun e w' => e = .returned (.int .i64 (n.few left deep)) ∧ Below w.heap.size w w' := by
  refine Nd.ind (C := fun n => ∀ (w : World) (S : Nat → Prop) (val : Value) (left deep : Int), NdV w S val n → 0 ≤ left → left ≤ 1000 → -1 ≤ deep → deep ≤ 1000 →
    Calls Tryz.prog 10 #[val, .int .i64 left, .int .i64 deep] w fun e w' => e = .returned (.int .i64 (n.few left deep)) ∧ Below w.heap.size w w') ?_ n
  intro k t v ks ih w S val left deep hv h0 h1 h2 h3
  obtain ⟨u, rfl, hs⟩ := hv
  simp only [ndV, Nd.k, Nd.t, Nd.v, Nd.kids] at hs ⊢
  have hfm := few_mk k t v ks left deep
  have HFM := Lib.hid hfm; clear hfm
  have HS := Lib.hid hs
  obtain ⟨ao, cap, rfl, hcap, hcm⟩ := hs.shape
  clear hs
  unfold maxLen at hcm
  have HIH := Lib.hid ih; clear ih
  by_cases hd : deep < 0
  · have HD := Lib.hid (HFM.out.trans (if_pos hd))
    go_enter Tryz.func10, Tryz.ntmps10
    go_wp2_with fail
    go_ret
    exact ⟨by rw [HD.out]; rfl, (Below.refl _ _).alloc (Nat.le_refl _) _⟩
  · have HD := Lib.hid (HFM.out.trans (if_neg hd))
    have hd0 : 0 ≤ deep := by omega
    clear HFM
    go_enter Tryz.func10, Tryz.ntmps10
    go_wp2_with fail
    go_loopw [1, 7] (fun u1 u7 wr => ∃ (i : Nat) (lf : Int), i ≤ ks.length ∧ u7 = .int .i64 i ∧ u1 = .int .i64 lf ∧ -1 ≤ lf ∧ lf ≤ 1000 ∧ Hid (Nd.fews ks (left - 1) (deep - 1) = Nd.fews (ks.drop i) lf (deep - 1)) ∧ Hid (Below (w.heap.size + 1) (w.alloc (.cells #[.int .i64 k, .string t, .string v, .slice ao ks.length cap] 24)) wr))
      (fun _ u7 _ => ks.length - (intOf u7).toNat)
    case atStart => exact ⟨0, left - 1, Nat.zero_le _, rfl, rfl, by omega, by omega, rfl, Below.refl _ _⟩
    case round =>
      obtain ⟨i, lf, hi, rfl, rfl, hl0, hl1, HR, HB⟩ := hrel
      have hbx := box_cells HB.out
      have hc3 := (blk_cell hbx 3 (by simp)).1
      simp only [List.getElem_toArray, List.getElem_cons_succ, List.getElem_cons_zero] at hc3
      have hbl := lt_blk hbx
      clear hbx
      by_cases hlt : i < ks.length
      · by_cases hn : 0 ≤ lf
        · obtain ⟨b, o, uk, hao, hbw, c0, c1, c2, c3, hsk⟩ := HS.out.at_ i hlt
          subst hao
          have hB := box_below HB.out
          have hstep : Nd.fews (ks.drop i) lf (deep - 1) = Nd.fews (ks.drop (i + 1)) (ks[i].few lf (deep - 1)) (deep - 1) := by
            rw [List.drop_eq_getElem_cons hlt, fews_cons, if_neg (by omega)]
          have HST := Lib.hid (HR.out.trans hstep)
          have hsy := few_says ks[i] lf (deep - 1) hn
          have hik := HIH.out ks[i] (List.getElem_mem hlt)
          obtain ⟨x, hx⟩ : ∃ x, ks[i] = x := ⟨_, rfl⟩
          rw [hx] at c0 c1 c2 hsk hsy HST hik
          have HX := Lib.hid hik
          have d0 : wr.cell? ⟨b, o + i * 4, none⟩ = some (.int .i64 x.k) := by rw [hB.cell (p := ⟨b, o + i * 4, none⟩) hbw]; exact c0
          have d1 : wr.cell? ⟨b, o + i * 4 + 1, none⟩ = some (.string x.t) := by rw [hB.cell (p := ⟨b, o + i * 4 + 1, none⟩) hbw]; exact c1
          have d2 : wr.cell? ⟨b, o + i * 4 + 2, none⟩ = some (.string x.v) := by rw [hB.cell (p := ⟨b, o + i * 4 + 2, none⟩) hbw]; exact c2
          have d3 : wr.cell? ⟨b, o + i * 4 + 3, none⟩ = some uk := by rw [hB.cell (p := ⟨b, o + i * 4 + 3, none⟩) hbw]; exact c3
          have hsz := hB.size
          have hbr : b < wr.heap.size := by omega
          have HNV := Lib.hid (show NdV wr S (ndV x uk) x from ⟨uk, rfl, hsk.below hB⟩)
          clear hx hik hstep c0 c1 c2 c3 hB hsk HR
          go_wp2_with fail
          refine (HX.out wr S _ lf (deep - 1) HNV.out hn hl1 (by omega) (by omega)).mono ?_
          rintro e w2 ⟨rfl, hb⟩
          have HB2 := Lib.hid (HB.out.trans (hb.mono (by have := HB.out.size; simp at this; omega)))
          clear hb HB
          generalize x.few lf (deep - 1) = lf2 at *
          go_wp2_with fail
          go_roundw
          case rel => exact ⟨i + 1, lf2, by omega, by go_num, rfl, by omega, by omega, HST.out, HB2.out⟩
          case measure => simp [intOf]; omega
        · have HE := Lib.hid (HR.out.trans (fews_neg _ lf _ (by omega)))
          have hn' : lf < 0 := by omega
          clear hn HR
          go_wp2_with fail
          go_ret
          exact ⟨by rw [HD.out, HE.out]; rfl, box_below HB.out⟩
      · obtain rfl : i = ks.length := by omega
        have HE := Lib.hid (HR.out.trans (by rw [List.drop_length, fews_nil]))
        clear hlt HR
        go_wp2_with fail
        all_goals
          go_ret
          exact ⟨by rw [HD.out, HE.out]; rfl, box_below HB.out⟩
end Go.Proofs.YtmniblcooficgaaGreatDoor

namespace Go.Proofs.YtmniblcooficgaaGreatDoor
open Go.RowKit Ev5
set_option linter.unusedSimpArgs false
set_option linter.unusedVariables false

def BoolP (p : Prop) (w : World) (e : Ending) (w' : World) : Prop := ∃ r : Bool, e = .returned (.bool r) ∧ (r = true ↔ p) ∧ Below w.heap.size w w'
theorem toL_inj {a b : ByteArray} (h : a.toList = b.toList) : a = b := by
  rw [ByteArray.toList_eq, ByteArray.toList_eq] at h
  obtain ⟨⟨x⟩⟩ := a; obtain ⟨⟨y⟩⟩ := b
  simp at h; subst h; rfl
theorem NdV.mk {w : World} {S : Nat → Prop} {x : Nd} {u : Value} (h : SlIn w S u x.kids) : NdV w S (ndV x u) x := ⟨u, rfl, h⟩
end Go.Proofs.YtmniblcooficgaaGreatDoor

namespace Go.Proofs.YtmniblcooficgaaGreatDoor
open Go.RowKit Ev5
set_option linter.unusedSimpArgs false
set_option linter.unusedVariables false

theorem two_first (w : World) (o o' : Obj) : ((w.alloc o).alloc o').heap[w.heap.size]? = some o := by
  rw [Below.heap_alloc (w.alloc o) o' w.heap.size (by simp)]; exact heap_alloc_new w o
theorem two_last (w : World) (o o' : Obj) : ((w.alloc o).alloc o').heap[w.heap.size + 1]? = some o' := by
  have := heap_alloc_new (w.alloc o) o'
  simpa using this

end Go.Proofs.YtmniblcooficgaaGreatDoor

namespace Go.Proofs.YtmniblcooficgaaGreatDoor
open Go.RowKit Ev5
set_option linter.unusedSimpArgs false
set_option linter.unusedVariables false

def ndL (n : Nd) (u : Value) : List Value := [.int .i64 n.k, .string n.t, .string n.v, u]
def ndRow (ps : List (Nd × Value)) : List Value := ps.flatMap fun p => ndL p.1 p.2
theorem ndRow_len (l : List (Nd × Value)) : (ndRow l).length = l.length * 4 := by
  induction l with
  | nil => rfl
  | cons x r ih => simp [ndRow, ndL] at ih ⊢; omega
theorem ndRow_snoc (l : List (Nd × Value)) (x : Nd) (u : Value) : ndRow (l ++ [(x, u)]) = ndRow l ++ ndL x u := by simp [ndRow]
theorem ndRow_at : ∀ (l : List (Nd × Value)) (i : Nat) (h : i < l.length) (j : Nat) (hj : j < 4), (ndRow l)[i * 4 + j]? = (ndL l[i].1 l[i].2)[j]?
  | x :: r, 0, _, j, hj => by
    simp only [ndRow, List.flatMap_cons, Nat.zero_mul, Nat.zero_add, List.getElem_cons_zero]
    rw [List.getElem?_append_left (by simp [ndL]; omega)]
  | x :: r, i + 1, h, j, hj => by
    have ih := ndRow_at r i (by simpa using h) j hj
    simp only [ndRow, List.flatMap_cons, List.getElem_cons_succ] at ih ⊢
    rw [List.getElem?_append_right (by simp [ndL]; omega), show (i + 1) * 4 + j - (ndL x.1 x.2).length = i * 4 + j by simp [ndL]; omega]
    exact ih
  | [], i, h, _, _ => by simp at h
theorem infoN : (Tryz.prog.info? 24).map (fun i => (i.zero, i.size, i.bytes)) = some (some (.agg #[.int .i64 0, .string ⟨#[]⟩, .string ⟨#[]⟩, .slice none 0 0]), 4, 64) := by kernel_rfl

structure OwnK (w : World) (base : Nat) (v : Value) (ps : List (Nd × Value)) : Prop where
  row : w.ownsRow base 24 4 v ps.length (ndRow ps)
  kids : ∀ p ∈ ps, SlIn w (fun b => base ≤ b ∧ v.ownBlock ≠ some b) p.2 p.1.kids
theorem OwnK.nil (w : World) (base : Nat) : OwnK w base (.slice none 0 0) [] := ⟨World.ownsRow_nil _ _ _ _, fun p hp => by cases hp⟩
theorem OwnK.shape {w : World} {base : Nat} {v : Value} {ps : List (Nd × Value)} (h : OwnK w base v ps) : ∃ a cap, v = .slice a ps.length cap := by
  rcases h.row.2 with ⟨rfl, h0⟩ | ⟨g, cap, cur, rfl, _⟩
  · exact ⟨none, 0, by rw [h0]⟩
  · exact ⟨_, _, rfl⟩
theorem OwnK.below {w w' : World} {base : Nat} {v : Value} {ps : List (Nd × Value)} (h : OwnK w base v ps) (hb : Below w.heap.size w w') : OwnK w' base v ps := by
  refine ⟨h.row.kept (row := none) ⟨hb.os, hb.tape, hb.output, hb.size, fun k hk _ => hb.block k hk⟩ (by cases hv : v.ownBlock <;> simp), fun p hp => (h.kids p hp).below hb⟩
theorem OwnK.other {w w' : World} {base B : Nat} {v : Value} {ps : List (Nd × Value)} (h : OwnK w base v ps) (hg : w.grownBy w' (some B)) (hB : B < base) : OwnK w' base v ps := by
  refine ⟨h.row.kept hg ?_, fun p hp => (h.kids p hp).alike ⟨hg.size, fun b hb hl => hg.block b hl (fun e => by injection e with e; have := hb.1; omega)⟩ fun _ h _ => h⟩
  rcases h.row.2 with ⟨rfl, _⟩ | ⟨g, cap, cur, rfl, hb, _⟩
  · exact .inl rfl
  · exact .inr (by simp [Value.ownBlock]; omega)
theorem OwnK.snoc {w w' : World} {base : Nat} {v : Value} {ps : List (Nd × Value)} {g cap : Nat} {x : Nd} {u : Value} (h : OwnK w base v ps) (hx : SlIn w (fun b => base ≤ b ∧ v.ownBlock ≠ some b) u x.kids)
    (hown : w'.ownsRow base 24 4 (.slice (some ⟨g, 0, none⟩) (ps.length + 1) cap) (ps.length + 1) (ndRow ps ++ ndL x u)) (hg : w.grownBy w' v.ownBlock) (hat : v.ownBlock = some g ∨ w.heap.size ≤ g) :
    OwnK w' base (.slice (some ⟨g, 0, none⟩) (ps.length + 1) cap) (ps ++ [(x, u)]) := by
  have al : ∀ (u : Value) (ks : List Nd), SlIn w (fun b => base ≤ b ∧ v.ownBlock ≠ some b) u ks → SlIn w' (fun b => base ≤ b ∧ (Value.slice (some ⟨g, 0, none⟩) (ps.length + 1) cap).ownBlock ≠ some b) u ks := by
    intro u ks hs
    refine hs.alike ⟨hg.size, fun b hb hl => hg.block b hl (fun e => hb.2 e.symm)⟩ fun b hb hl => ⟨hb.1, ?_⟩
    simp only [Value.ownBlock, ne_eq, Option.some.injEq]
    rcases hat with e | e
    · intro e2; subst e2; exact hb.2 e
    · omega
  refine ⟨by rw [ndRow_snoc, List.length_append]; exact hown, fun p hp => ?_⟩
  rcases List.mem_append.1 hp with hp | hp
  · exact al _ _ (h.kids p hp)
  · simp at hp; subst hp; exact al _ _ hx
theorem OwnK.apart {w w' : World} {base : Nat} {v u : Value} {ps : List (Nd × Value)} {ks : List Nd} (h : OwnK w base v ps) (hbw : base ≤ w.heap.size) (hs : SlIn w' (fun b => w.heap.size ≤ b) u ks) : SlIn w' (fun b => base ≤ b ∧ v.ownBlock ≠ some b) u ks := by
  refine hs.alike ⟨Nat.le_refl _, fun _ _ _ => rfl⟩ fun b hb _ => ⟨by omega, ?_⟩
  rcases h.row.2 with ⟨rfl, _⟩ | ⟨g, cap, cur, rfl, _, hg, _⟩
  · simp [Value.ownBlock]
  · simp only [Value.ownBlock, ne_eq, Option.some.injEq]
    have := lt_blk hg
    omega
end Go.Proofs.YtmniblcooficgaaGreatDoor
namespace Go.Proofs.YtmniblcooficgaaGreatDoor
open Go.RowKit Ev5 Go.Maps Go.WideMaps Go.MapKept Go.ChangeMaps
set_option linter.unusedSimpArgs false
set_option linter.unusedVariables false

theorem isE_text (t : ByteArray) : t.data.toList.isEmpty = t.toList.isEmpty := by rw [ByteArray.toList_eq]

set_option maxHeartbeats 2000000 in
theorem value_any (w : World) {base c : Nat} {v : Value} {ps : List (Nat × Nat)} {st : St} (h : Chk w base c v ps st) (h6 : ps.length ≤ 6) (x : GoEv) :
    Calls Tryz.prog 79 #[.pointer (some ⟨c, 0, none⟩), evV x] w fun e w' => e = .returned (.bool (valueP st x.ev)) ∧ Below w.heap.size w w' := by
  obtain ⟨xk, xt, xv⟩ := x
  have hb0 : Below w.heap.size w (w.alloc (.cells (evC ⟨xk, xt, xv⟩) 85)) := (Below.refl _ _).alloc (Nat.le_refl _) _
  have H1 := h.below hb0
  have hx0 : (w.alloc (.cells (evC ⟨xk, xt, xv⟩) 85)).heap[w.heap.size]? = some (.cells (evC ⟨xk, xt, xv⟩) 85 (0, 0)) := heap_alloc_new w _
  clear h
  have HB0 := Lib.hid hb0; clear hb0
  have HX0 := Lib.hid hx0; clear hx0
  have HH := Lib.hid H1; clear H1
  unfold evV
  go_enter Tryz.func79, Tryz.ntmps79
  go_wp2_with fail
  refine (last_any _ HH.out h6).mono ?_
  rintro e w2 ⟨rfl, hb⟩
  have HX := (hb.block _ (lt_blk HX0.out)).trans HX0.out
  have H2 := HH.out.below hb
  have HB := Lib.hid (below_after hb)
  clear hb HB0 HX0 HH
  obtain ⟨x0, x1, x2, x3⟩ := ev_cells HX
  clear HX
  obtain ⟨k0, k1, k2, k3, k4⟩ := check_cells H2.blk
  obtain ⟨opn, ov⟩ := st
  have ho := H2.opens
  clear H2
  cases ps with
  | nil =>
    cases opn with
    | cons o os => exact ho.elim
    | nil =>
      unfold headPtr
      go_wp2
      go_ret
      exact ⟨rfl, HB.out⟩
  | cons p r =>
    cases opn with
    | nil => exact ho.elim
    | cons l os =>
      have oc := open_cells ho.1
      clear ho
      obtain ⟨o0, o1, o2, o3, o4, f0, f1, f2, f3, f4, olt⟩ := oc
      obtain ⟨lk, lkey, ltext, lfull, lhad⟩ := l
      unfold headPtr pV
      by_cases e7 : lk = 7
      · subst e7
        go_wp2
        go_ret
        exact ⟨by simp [valueP], HB.out⟩
      by_cases e10 : lk = 10
      · subst e10
        by_cases c10 : xk = 10
        · subst c10
          go_wp2
          go_ret
          exact ⟨by simp [valueP, GoEv.ev], HB.out⟩
        have b10 : (xk == 10) = false := by simp [c10]
        by_cases c4 : xk = 4
        · subst c4
          have he' : xt.data.toList.isEmpty = xt.toList.isEmpty := isE_text xt
          have HE' := Lib.hid he'; clear he'
          cases he : xt.toList.isEmpty
          · cases ltext
            · go_wp2
              go_ret
              exact ⟨by simp only [valueP, GoEv.ev]; rw [HE'.out, he]; rfl, HB.out⟩
            · go_wp2
              go_ret
              exact ⟨by simp only [valueP, GoEv.ev]; rw [HE'.out, he]; rfl, HB.out⟩
          · go_wp2
            go_ret
            exact ⟨by simp only [valueP, GoEv.ev]; rw [HE'.out, he]; rfl, HB.out⟩
        · have b4 : (xk == 4) = false := by simp [c4]
          go_wp2
          go_ret
          exact ⟨by simp [valueP, GoEv.ev, c4, c10], HB.out⟩
      · have b7 : (lk == 7) = false := by simp [e7]
        have b10 : (lk == 10) = false := by simp [e10]
        go_wp2
        go_ret
        exact ⟨by simp [valueP, e7, e10], HB.out⟩

theorem heap_set2 {w : World} {b i : Nat} {cs : Array Value} {t : TypeId} {v : Value} (h : w.heap[b]? = some (.cells cs t (0, 0))) : (w.setCell ⟨b, i, none⟩ v).heap[b]? = some (.cells (cs.setIfInBounds i v) t (0, 0)) := by
  simpa using heap_setCell_same w b i cs t v h

set_option maxHeartbeats 2000000 in
theorem stands_any (w : World) {base c : Nat} {v : Value} {ps : List (Nat × Nat)} {st : St} (h : Chk w base c v ps st) (h6 : ps.length ≤ 6) (x : GoEv) :
    Calls Tryz.prog 80 #[.pointer (some ⟨c, 0, none⟩), evV x] w fun e w' => e = .returned (.tuple #[]) ∧ Chk w' base c v ps (standsP st x.ev) ∧ Mv base w w' := by
  obtain ⟨xk, xt, xv⟩ := x
  have hb0 : Below w.heap.size w (w.alloc (.cells (evC ⟨xk, xt, xv⟩) 85)) := (Below.refl _ _).alloc (Nat.le_refl _) _
  have H1 := h.below hb0
  have hx0 : (w.alloc (.cells (evC ⟨xk, xt, xv⟩) 85)).heap[w.heap.size]? = some (.cells (evC ⟨xk, xt, xv⟩) 85 (0, 0)) := heap_alloc_new w _
  have hbase := Lib.hid h.base_le
  clear h
  have HB0 := Lib.hid hb0; clear hb0
  have HX0 := Lib.hid hx0; clear hx0
  have HH := Lib.hid H1; clear H1
  unfold evV
  go_enter Tryz.func80, Tryz.ntmps80
  go_wp2_with fail
  refine (last_any _ HH.out h6).mono ?_
  rintro e w2 ⟨rfl, hb⟩
  have HX := (hb.block _ (lt_blk HX0.out)).trans HX0.out
  have H2 := HH.out.below hb
  have HB := Lib.hid (Mv.of (below_after hb) hbase.out)
  clear hb HB0 HX0 HH hbase
  obtain ⟨x0, x1, x2, x3⟩ := ev_cells HX
  clear HX
  obtain ⟨k0, k1, k2, k3, k4⟩ := check_cells H2.blk
  obtain ⟨opn, ov⟩ := st
  have ho := H2.opens
  have HK := Lib.hid H2
  clear H2
  cases ps with
  | nil =>
    cases opn with
    | cons o os => exact ho.elim
    | nil =>
      unfold headPtr
      go_wp2
      go_end0
      have R := Chk.own (st' := ⟨[], true⟩) HK.out (grown_set w2 c 1 (.bool true)) (heap_set2 HK.out.blk) HK.out.row HK.out.opens
      exact ⟨rfl, R.1, HB.out.trans R.2⟩
  | cons p r =>
    cases opn with
    | nil => exact ho.elim
    | cons l os =>
      have oc := open_cells ho.1
      clear ho
      obtain ⟨o0, o1, o2, o3, o4, f0, f1, f2, f3, f4, olt⟩ := oc
      obtain ⟨lk, lkey, ltext, lfull, lhad⟩ := l
      unfold headPtr pV
      go_wp2
      go_region
      all_goals (try go_wp2)
      all_goals go_end0
      all_goals
        have R := Chk.head (l' := ⟨lk, false, xk == 4, true, lhad⟩) HK.out (grown_drew (grown_trans (grown_trans (grown_set w2 p.1 1 (.bool false)) (grown_set _ p.1 3 (.bool true))) (grown_set _ p.1 2 (.bool (xk == 4)))))
          (show (((w2.setCell _ _).setCell _ _).setCell _ _).heap[p.1]? = _ from heap_set2 (heap_set2 (heap_set2 HK.out.opens.1))) rfl
        exact ⟨rfl, R.1, HB.out.trans R.2⟩

theorem text_key (t : ByteArray) (h : t.size ≤ maxLen) : keyOf Tryz.prog 9 (.string t) = some (.string t.data.toList) := keyOf_string_mk Tryz.underlying9 h
theorem boolZ (w : World) : (zeroValue 4).run Tryz.prog w = .ok (.bool false) w := by kernel_rfl

theorem namedP_6 {l : Ev5.Op} {x : Ev} (h : l.had.contains x.text = true) : namedP l x = (l, 6) := by unfold namedP; rw [if_pos h]
theorem namedP_7 {l : Ev5.Op} {x : Ev} (h : l.had.contains x.text = false) (h10 : 10 ≤ l.had.length) : namedP l x = (l, 7) := by unfold namedP; rw [if_neg (by rw [h]; simp), if_pos h10]
theorem namedP_0 {l : Ev5.Op} {x : Ev} (h : l.had.contains x.text = false) (h10 : ¬ 10 ≤ l.had.length) : namedP l x = ({ l with had := l.had ++ [x.text], key := decide (x.kind = 8) }, 0) := by unfold namedP; rw [if_neg (by rw [h]; simp), if_neg h10]

set_option maxHeartbeats 2000000 in
theorem named_any (w : World) {base c : Nat} {v : Value} {p : Nat × Nat} {r : List (Nat × Nat)} {l : Ev5.Op} {os : List Ev5.Op} {ov : Bool} (h : Chk w base c v (p :: r) ⟨l :: os, ov⟩) (x : GoEv) (ht : x.t.size ≤ 140737488351232) :
    Calls Tryz.prog 81 #[.pointer (some ⟨p.1, 0, none⟩), evV x] w fun e w' => e = .returned (.int .i64 (namedP l x.ev).2) ∧ Chk w' base c v (p :: r) ⟨(namedP l x.ev).1 :: os, ov⟩ ∧ Mv base w w' := by
  obtain ⟨xk, xt, xv⟩ := x
  have hb0 : Below w.heap.size w (w.alloc (.cells (evC ⟨xk, xt, xv⟩) 85)) := (Below.refl _ _).alloc (Nat.le_refl _) _
  have H1 := h.below hb0
  have hx0 : (w.alloc (.cells (evC ⟨xk, xt, xv⟩) 85)).heap[w.heap.size]? = some (.cells (evC ⟨xk, xt, xv⟩) 85 (0, 0)) := heap_alloc_new w _
  have HB := Lib.hid (Mv.of hb0 h.base_le)
  clear h hb0
  have hkey := text_key xt (by unfold maxLen; simp only [] at ht; omega)
  have HK := Lib.hid H1
  have ho := H1.opens
  clear H1
  unfold evV
  go_enter Tryz.func81, Tryz.ntmps81
  go_upto_region 1 with (fail)
  have hx0' : (w.alloc (.cells #[.int .i64 xk, .string xt, .string xv] 85)).heap[w.heap.size]? = some (.cells (evC ⟨xk, xt, xv⟩) 85 (0, 0)) := hx0
  have HB' : RowKit.Hid (Mv base w (w.alloc (.cells #[.int .i64 xk, .string xt, .string xv] 85))) := HB
  have HK' : RowKit.Hid (Chk (w.alloc (.cells #[.int .i64 xk, .string xt, .string xv] 85)) base c v (p :: r) ⟨l :: os, ov⟩) := HK
  have ho' : Opens (w.alloc (.cells #[.int .i64 xk, .string xt, .string xv] 85)) base (p :: r) (l :: os) := ho
  clear hx0 HB HK ho
  generalize w.alloc (.cells #[.int .i64 xk, .string xt, .string xv] 85) = w1 at *
  generalize w.heap.size = bx at *
  have HX0 := Lib.hid hx0'
  obtain ⟨x0, x1, x2, x3⟩ := ev_cells hx0'
  clear hx0'
  have oc := open_cells ho'.1
  have hN := ho'.2.1
  clear ho'
  obtain ⟨o0, o1, o2, o3, o4, f0, f1, f2, f3, f4, olt⟩ := oc
  obtain ⟨lk, lkey, ltext, lfull, lhad⟩ := l
  have hND : Names w1.drew Tryz.prog 9 4 p.2 lhad := hN.same rfl
  have hND2 : Names w1.drew.drew Tryz.prog 9 4 p.2 lhad := hN.same rfl
  have hlook := hND.look (t := 107) (string_keyed Tryz.underlying9) Tryz.underlying107 Tryz.underlying4 (boolZ _) hkey
  have HN := Lib.hid hND; have HN2 := Lib.hid hND2; clear hN hND hND2
  have HKey := Lib.hid hkey; clear hkey
  cases hc : lhad.contains xt.data.toList
  · rw [hc] at hlook
    have HC := Lib.hid hc; clear hc
    go_region
    by_cases h10 : (10 : Int) ≤ lhad.length
    · go_wp2_with (first | (at_len; refine wpList_names_len (by rfl) _ _ (by rfl) _ _ Tryz.underlying107 p.2 lhad (by rfl) HN.out ?_))
      go_ret
      have hnm : namedP ⟨lk, lkey, ltext, lfull, lhad⟩ (GoEv.ev ⟨xk, xt, xv⟩) = (⟨lk, lkey, ltext, lfull, lhad⟩, 7) := namedP_7 HC.out (by simp only []; omega)
      rw [hnm]
      exact ⟨rfl, HK'.out.below (Below.refl _ _).drew, HB'.out.trans (Mv.of (Below.refl _ _).drew HK'.out.base_le)⟩
    · have h10' : ¬ 10 ≤ lhad.length := by omega
      obtain ⟨w2, hrun, hN2, hg2⟩ := HN2.out.put (t := 107) (string_keyed Tryz.underlying9) Tryz.underlying107 Tryz.underlying4 (by unfold maxLen; omega) HKey.out HC.out
      have R := Chk.named (HK'.out.below (((Below.refl _ w1).drew).drew)) hg2 hN2
      have hx2 := R.2.keep bx _ (show w1.drew.drew.heap[bx]? = _ from HX0.out) (by simp [mine])
      obtain ⟨y0, y1, y2, y3⟩ := ev_cells hx2
      obtain ⟨q0, q1, q2, q3, q4, g0, g1, g2, g3, g4, qlt⟩ := open_cells R.1.opens.1
      have HR := Lib.hid R; clear R hx2 hN2 hg2
      have hnm : namedP ⟨lk, lkey, ltext, lfull, lhad⟩ (GoEv.ev ⟨xk, xt, xv⟩) = (⟨lk, xk == 8, ltext, lfull, lhad ++ [xt.data.toList]⟩, 0) := namedP_0 HC.out h10'
      have HNM := Lib.hid hnm; clear hnm
      go_wp2_with (first | (at_len; refine wpList_names_len (by rfl) _ _ (by rfl) _ _ Tryz.underlying107 p.2 lhad (by rfl) HN.out ?_))
      go_region
      go_wp2
      go_ret
      rw [HNM.out]
      have R2 := Chk.head (l' := ⟨lk, xk == 8, ltext, lfull, lhad ++ [xt.data.toList]⟩) HR.out.1 (grown_set w2 p.1 1 (.bool (xk == 8))) (heap_set2 HR.out.1.opens.1) rfl
      exact ⟨rfl, R2.1, (HB'.out.trans (Mv.of (((Below.refl _ w1).drew).drew) HK'.out.base_le)).trans (HR.out.2.trans R2.2)⟩
  · rw [hc] at hlook
    have HC := Lib.hid hc; clear hc
    go_region
    go_wp2
    go_ret
    have hnm : namedP ⟨lk, lkey, ltext, lfull, lhad⟩ (GoEv.ev ⟨xk, xt, xv⟩) = (⟨lk, lkey, ltext, lfull, lhad⟩, 6) := namedP_6 HC.out
    rw [hnm]
    exact ⟨rfl, HK'.out.below (Below.refl _ _).drew, HB'.out.trans (Mv.of (Below.refl _ _).drew HK'.out.base_le)⟩
end Go.Proofs.YtmniblcooficgaaGreatDoor
