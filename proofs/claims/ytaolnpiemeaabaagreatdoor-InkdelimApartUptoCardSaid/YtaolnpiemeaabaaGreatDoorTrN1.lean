import Derived.Test.YtaolnpiemeaabaaGreatDoorEvM
import Derived.Deep.RegionHeld3
import Derived.Deep.AppendLies
/- Plain Lean: nodes, their walks as events, and which rows of events are a tree's. -/
namespace Go.Proofs.YtaolnpiemeaabaaGreatDoor
open Ev5
set_option linter.unusedSimpArgs false
set_option linter.unusedVariables false

/-- A node as Go has it. -/
inductive Nd where
  | mk (k : Int) (t v : ByteArray) (kids : List Nd)
def Nd.k : Nd → Int | .mk k _ _ _ => k
def Nd.t : Nd → ByteArray | .mk _ t _ _ => t
def Nd.v : Nd → ByteArray | .mk _ _ v _ => v
def Nd.kids : Nd → List Nd | .mk _ _ _ ks => ks
/-- What holds of a node if it holds of one whose kids it holds of. -/
theorem Nd.ind {C : Nd → Prop} (h : ∀ k t v ks, (∀ x ∈ ks, C x) → C (.mk k t v ks)) (n : Nd) : C n :=
  Nd.rec (motive_1 := C) (motive_2 := fun l => ∀ x ∈ l, C x) (fun k t v ks ih => h k t v ks ih) (fun x hx => by cases hx)
    (fun n r hn hr x hx => by rcases List.mem_cons.1 hx with rfl | hx; exact hn; exact hr x hx) n

def emp : ByteArray := ⟨#[]⟩
/-- The End of a kind; 0: there is none. -/
def endK (k : Int) : Int := if k = 5 then 6 else if k = 7 then 9 else if k = 10 then 12 else 0
def leafK (k : Int) : Bool := decide (k = 1 ∨ k = 2 ∨ k = 3 ∨ k = 4 ∨ k = 11)
/-- Can a node of this kind not have so many kids? -/
def oddK (k : Int) (n : Nat) : Bool := if leafK k = true then decide (0 < n) else if k = 8 then decide (n ≠ 1) else decide (endK k = 0)
def endEv (k : Int) : GoEv := ⟨endK k, emp, emp⟩
mutual
/-- The events of a node; of one that can be none an event that is refused. -/
def Nd.walk : Nd → List GoEv
  | .mk k t v ks => if oddK k ks.length = true then [⟨0, emp, emp⟩] else ⟨k, t, v⟩ :: (Nd.walks ks ++ (if endK k = 0 then [] else [endEv k]))
def Nd.walks : List Nd → List GoEv
  | [] => []
  | n :: r => n.walk ++ Nd.walks r
end
mutual
/-- No node in it is odd. -/
def Nd.good : Nd → Bool
  | .mk k _ _ ks => !oddK k ks.length && Nd.goods ks
def Nd.goods : List Nd → Bool
  | [] => true
  | n :: r => n.good && Nd.goods r
end
mutual
def Nd.size : Nd → Nat
  | .mk _ _ _ ks => 1 + Nd.sizes ks
def Nd.sizes : List Nd → Nat
  | [] => 0
  | n :: r => n.size + Nd.sizes r
end
theorem walk_mk (k : Int) (t v : ByteArray) (ks : List Nd) : (Nd.mk k t v ks).walk = if oddK k ks.length = true then [⟨0, emp, emp⟩] else ⟨k, t, v⟩ :: (Nd.walks ks ++ (if endK k = 0 then [] else [endEv k])) := by rw [Nd.walk]
theorem walks_nil : Nd.walks [] = [] := by rw [Nd.walks]
theorem walks_cons (n : Nd) (r : List Nd) : Nd.walks (n :: r) = n.walk ++ Nd.walks r := by rw [Nd.walks]
theorem walks_app (a b : List Nd) : Nd.walks (a ++ b) = Nd.walks a ++ Nd.walks b := by
  induction a with
  | nil => rw [walks_nil]; rfl
  | cons x r ih => rw [List.cons_append, walks_cons, walks_cons, ih, List.append_assoc]
theorem walks_one (n : Nd) : Nd.walks [n] = n.walk := by rw [walks_cons, walks_nil, List.append_nil]
theorem good_mk (k : Int) (t v : ByteArray) (ks : List Nd) : (Nd.mk k t v ks).good = (!oddK k ks.length && Nd.goods ks) := by rw [Nd.good]
theorem goods_nil : Nd.goods [] = true := by rw [Nd.goods]
theorem goods_cons (n : Nd) (r : List Nd) : Nd.goods (n :: r) = (n.good && Nd.goods r) := by rw [Nd.goods]
theorem goods_iff (l : List Nd) : Nd.goods l = true ↔ ∀ x ∈ l, x.good = true := by
  induction l with
  | nil => simp [goods_nil]
  | cons x r ih => simp [goods_cons, ih]
theorem size_mk (k : Int) (t v : ByteArray) (ks : List Nd) : (Nd.mk k t v ks).size = 1 + Nd.sizes ks := by rw [Nd.size]
theorem sizes_cons (n : Nd) (r : List Nd) : Nd.sizes (n :: r) = n.size + Nd.sizes r := by rw [Nd.sizes]
theorem sizes_nil : Nd.sizes [] = 0 := by rw [Nd.sizes]
theorem size_pos (n : Nd) : 1 ≤ n.size := by cases n; rw [size_mk]; omega
theorem sizes_len (l : List Nd) : l.length ≤ Nd.sizes l := by
  induction l with
  | nil => simp [sizes_nil]
  | cons x r ih => have := size_pos x; rw [sizes_cons, List.length_cons]; omega
theorem size_mem {x : Nd} {l : List Nd} (h : x ∈ l) : x.size ≤ Nd.sizes l := by
  induction l with
  | nil => cases h
  | cons y r ih => rw [sizes_cons]; rcases List.mem_cons.1 h with rfl | h; omega; have := ih h; omega
theorem walk_len (n : Nd) : n.walk.length ≤ 2 * n.size := by
  refine Nd.ind (C := fun n => n.walk.length ≤ 2 * n.size) ?_ n
  intro k t v ks ih
  have hk : ∀ l : List Nd, (∀ x ∈ l, x.walk.length ≤ 2 * x.size) → (Nd.walks l).length ≤ 2 * Nd.sizes l := by
    intro l
    induction l with
    | nil => intro _; simp [walks_nil]
    | cons x r ih => intro h; have := ih fun y hy => h y (List.mem_cons_of_mem _ hy); have := h x (by simp); rw [walks_cons, sizes_cons, List.length_append]; omega
  have := hk ks ih
  rw [walk_mk, size_mk]
  split
  · simp; omega
  · split <;> simp <;> omega
theorem walk_ne (n : Nd) : n.walk ≠ [] := by cases n; rw [walk_mk]; split <;> simp

/-- A kind's End is an End, and its own. -/
theorem endK_cases (k : Int) : (k = 5 ∧ endK k = 6) ∨ (k = 7 ∧ endK k = 9) ∨ (k = 10 ∧ endK k = 12) ∨ (k ≠ 5 ∧ k ≠ 7 ∧ k ≠ 10 ∧ endK k = 0) := by
  unfold endK
  by_cases h5 : k = 5
  · left; simp [h5]
  · by_cases h7 : k = 7
    · right; left; simp [h7]
    · by_cases h10 : k = 10
      · right; right; left; simp [h10]
      · right; right; right; simp [h5, h7, h10]
theorem odd_kind {k : Int} {n : Nat} (h : oddK k n = false) : (k = 1 ∨ k = 2 ∨ k = 3 ∨ k = 4 ∨ k = 11) ∧ n = 0 ∨ k = 8 ∧ n = 1 ∨ (k = 5 ∨ k = 7 ∨ k = 10) := by
  unfold oddK leafK at h
  split at h
  · rename_i hl; simp at hl h; exact .inl ⟨hl, h⟩
  · rename_i hl
    split at h
    · rename_i h8; simp at h; exact .inr (.inl ⟨h8, h⟩)
    · simp at h; rcases endK_cases k with ⟨h1, _⟩ | ⟨h1, _⟩ | ⟨h1, _⟩ | ⟨_, _, _, h1⟩
      · exact .inr (.inr (.inl h1))
      · exact .inr (.inr (.inr (.inl h1)))
      · exact .inr (.inr (.inr (.inr h1)))
      · exact absurd h1 h
/-- A good node's walk: its own event, its kids', its End. -/
theorem walk_good {k : Int} {t v : ByteArray} {ks : List Nd} (h : (Nd.mk k t v ks).good = true) : (Nd.mk k t v ks).walk = ⟨k, t, v⟩ :: (Nd.walks ks ++ (if endK k = 0 then [] else [endEv k])) := by
  rw [good_mk] at h; simp at h
  rw [walk_mk, if_neg (by rw [h.1]; simp)]
theorem walk_head (n : Nd) (h : n.good = true) : ∃ r, n.walk = ⟨n.k, n.t, n.v⟩ :: r ∧ n.k ≠ 6 ∧ n.k ≠ 9 ∧ n.k ≠ 12 ∧ n.k ≠ 0 := by
  cases n with
  | mk k t v ks =>
    refine ⟨_, walk_good h, ?_⟩
    rw [good_mk] at h; simp at h
    simp only [Nd.k]
    rcases odd_kind h.1 with ⟨h, _⟩ | ⟨h, _⟩ | h <;> omega
/-- Two good nodes whose walks begin alike are the same, and so is what is left. -/
theorem walk_inj (n : Nd) : ∀ (m : Nd) (r s : List GoEv), n.good = true → m.good = true → n.walk ++ r = m.walk ++ s → n = m ∧ r = s := by
  refine Nd.ind (C := fun n => ∀ (m : Nd) (r s : List GoEv), n.good = true → m.good = true → n.walk ++ r = m.walk ++ s → n = m ∧ r = s) ?_ n
  intro k t v ks ih m r s hg hm he
  cases m with
  | mk k' t' v' ks' =>
    rw [walk_good hg, walk_good hm, List.cons_append, List.cons_append] at he
    injection he with h1 h2
    injection h1 with h1a h1b h1c
    subst h1a; subst h1b; subst h1c
    rw [good_mk] at hg hm
    simp only [Bool.and_eq_true, Bool.not_eq_true'] at hg hm
    have hks := (goods_iff _).1 hg.2
    have hks' := (goods_iff _).1 hm.2
    have more : ∀ (e : Int), e = 6 ∨ e = 9 ∨ e = 12 → ∀ (l l' : List Nd), (∀ x ∈ l, x ∈ ks) → (∀ x ∈ l, x.good = true) → (∀ x ∈ l', x.good = true) → Nd.walks l ++ (⟨e, emp, emp⟩ :: r) = Nd.walks l' ++ (⟨e, emp, emp⟩ :: s) → l = l' ∧ r = s := by
      intro e hE l
      induction l with
      | nil =>
        intro l' _ _ hg' hh
        cases l' with
        | nil => rw [walks_nil] at hh; simp at hh; exact ⟨rfl, hh⟩
        | cons y q =>
          obtain ⟨z, hz, h6, h9, h12, _⟩ := walk_head y (hg' y (by simp))
          rw [walks_nil, walks_cons, hz] at hh
          simp at hh
          omega
      | cons x q ihl =>
        intro l' hin hgl hg' hh
        cases l' with
        | nil =>
          obtain ⟨z, hz, h6, h9, h12, _⟩ := walk_head x (hgl x (by simp))
          rw [walks_nil, walks_cons, hz] at hh
          simp at hh
          omega
        | cons y q' =>
          rw [walks_cons, walks_cons, List.append_assoc, List.append_assoc] at hh
          obtain ⟨e1, e2⟩ := ih x (hin x (by simp)) y _ _ (hgl x (by simp)) (hg' y (by simp)) hh
          obtain ⟨e3, e4⟩ := ihl q' (fun z hz => hin z (List.mem_cons_of_mem _ hz)) (fun z hz => hgl z (List.mem_cons_of_mem _ hz)) (fun z hz => hg' z (List.mem_cons_of_mem _ hz)) e2
          exact ⟨by rw [e1, e3], e4⟩
    rcases odd_kind hg.1 with ⟨h, hn⟩ | ⟨h, hn⟩ | h
    · rcases odd_kind hm.1 with ⟨_, hn'⟩ | ⟨h', _⟩ | h'
      · obtain rfl := List.eq_nil_of_length_eq_zero hn
        obtain rfl := List.eq_nil_of_length_eq_zero hn'
        have e0 : endK k = 0 := by rcases endK_cases k with ⟨a, _⟩ | ⟨a, _⟩ | ⟨a, _⟩ | ⟨_, _, _, a⟩; omega; omega; omega; exact a
        rw [e0, walks_nil] at h2
        exact ⟨rfl, by simpa using h2⟩
      · omega
      · omega
    · rcases odd_kind hm.1 with ⟨h', _⟩ | ⟨_, hn'⟩ | h'
      · omega
      · match ks, hn, ks', hn' with
        | [x], _, [y], _ =>
          have e0 : endK k = 0 := by rcases endK_cases k with ⟨a, _⟩ | ⟨a, _⟩ | ⟨a, _⟩ | ⟨_, _, _, a⟩; omega; omega; omega; exact a
          rw [e0, walks_one, walks_one] at h2
          simp only [if_true, List.append_nil] at h2
          obtain ⟨e1, e2⟩ := ih x (by simp) y r s (hks x (by simp)) (hks' y (by simp)) h2
          exact ⟨by rw [e1], e2⟩
      · omega
    · have hE : endK k = 6 ∨ endK k = 9 ∨ endK k = 12 := by rcases endK_cases k with ⟨_, a⟩ | ⟨_, a⟩ | ⟨_, a⟩ | ⟨a, b, c, _⟩ <;> omega
      have hne : endK k ≠ 0 := by omega
      rw [if_neg hne, List.append_assoc, List.append_assoc] at h2
      obtain ⟨e1, e2⟩ := more (endK k) hE ks ks' (fun _ h => h) hks hks' h2
      exact ⟨by rw [e1], e2⟩
end Go.Proofs.YtaolnpiemeaabaaGreatDoor

/- Plain Lean: a row of events that is a document is a node's walk. -/
namespace Go.Proofs.YtaolnpiemeaabaaGreatDoor
open Ev5
set_option linter.unusedSimpArgs false
set_option linter.unusedVariables false

/-- What is right has a kind, and is bare if it is an End. -/
structure RK (R : Ev → Bool) : Prop where
  kind : ∀ x, R x = true → 1 ≤ x.kind ∧ x.kind ≤ 12
  bare : ∀ x, R x = true → ends x.kind = true → x.text = [] ∧ x.val = []
theorem rk_right (rd : List UInt8 → List UInt8 × Int) : RK (rightP rd) := by
  refine ⟨fun x h => ?_, fun x h he => ?_⟩
  · unfold rightP at h
    repeat' split at h
    all_goals first | omega | (cases h)
  · simp [ends] at he
    unfold rightP at h
    rw [if_pos (by omega)] at h
    simp at h
    exact h
theorem ba_nil {a : ByteArray} (h : a.data.toList = []) : a = emp := by
  obtain ⟨⟨l⟩⟩ := a
  simp at h; subst h; rfl

theorem runP_step {R : Ev → Bool} {st : St} {x : Ev} {l : List Ev} (h : (runP R st (x :: l)).2.2 = 0) : (stepP R st x).2 = 0 ∧ (runP R (stepP R st x).1 l).2.2 = 0 ∧ (runP R st (x :: l)).1 = (runP R (stepP R st x).1 l).1 := by
  simp only [runP] at h ⊢
  split at h
  · rename_i h0; rw [if_pos h0]; exact ⟨h0, h, rfl⟩
  · rename_i h0; exact absurd h h0
theorem step_right {R : Ev → Bool} {st : St} {x : Ev} (h : (stepP R st x).2 = 0) : R x = true := by
  unfold stepP at h
  split at h
  · cases h
  · rename_i hr; simpa using hr

/-- A step of a value. -/
theorem step_leaf {R : Ev → Bool} {st : St} {x : Ev} (h : (stepP R st x).2 = 0) (hk : x.kind = 1 ∨ x.kind = 2 ∨ x.kind = 3 ∨ x.kind = 4) : (stepP R st x).1 = standsP st x := by
  have hr := step_right h
  unfold stepP at h ⊢
  rw [if_neg (by rw [hr]; simp), if_pos hk] at h ⊢
  split at h
  · rename_i hv; rw [if_pos hv]
  · cases h
theorem step_open {R : Ev → Bool} {st : St} {x : Ev} (h : (stepP R st x).2 = 0) (hk : x.kind = 5 ∨ x.kind = 7 ∨ x.kind = 10) : (stepP R st x).1 = ⟨⟨x.kind, false, false, false, []⟩ :: (standsP st x).opn, (standsP st x).over⟩ := by
  have hr := step_right h
  unfold stepP at h ⊢
  rw [if_neg (by rw [hr]; simp), if_neg (by omega), if_pos hk] at h ⊢
  split at h
  · cases h
  · rename_i h1
    split at h
    · cases h
    · rename_i h2; rw [if_neg h1, if_neg h2]
theorem named_ok {l : Ev5.Op} {x : Ev} (h : (namedP l x).2 = 0) : (namedP l x).1 = { l with had := l.had ++ [x.text], key := decide (x.kind = 8) } := by
  unfold namedP at h ⊢
  split at h
  · cases h
  · rename_i h1
    split at h
    · cases h
    · rename_i h2; rw [if_neg h1, if_neg h2]
/-- A step behind which no value has stood: a key, an attribute, an End. -/
theorem step_other {R : Ev → Bool} {st : St} {x : Ev} (h : (stepP R st x).2 = 0) (h1 : ¬ (x.kind = 1 ∨ x.kind = 2 ∨ x.kind = 3 ∨ x.kind = 4)) (h2 : ¬ (x.kind = 5 ∨ x.kind = 7 ∨ x.kind = 10)) :
    ∃ l r, st.opn = l :: r ∧ ((x.kind = 8 ∧ l.kind = 7 ∧ l.key = false ∧ (stepP R st x).1 = ⟨{ l with had := l.had ++ [x.text], key := true } :: r, st.over⟩) ∨
      (x.kind = 11 ∧ l.kind = 10 ∧ (stepP R st x).1 = ⟨{ l with had := l.had ++ [x.text], key := false } :: r, st.over⟩) ∨
      (x.kind ≠ 8 ∧ x.kind ≠ 11 ∧ l.kind = endOf x.kind ∧ l.key = false ∧ (stepP R st x).1 = ⟨r, st.over⟩)) := by
  have hr := step_right h
  unfold stepP at h ⊢
  rw [if_neg (by rw [hr]; simp), if_neg h1, if_neg h2] at h ⊢
  cases ho : st.opn with
  | nil => rw [ho] at h; cases h
  | cons l r =>
    refine ⟨l, r, rfl, ?_⟩
    rw [ho] at h
    simp only [] at h ⊢
    split at h
    · rename_i h8
      split at h
      · cases h
      · rename_i hc
        simp only [not_or, Decidable.not_not] at hc
        refine .inl ⟨h8, hc.1, by simpa using hc.2, ?_⟩
        rw [if_pos h8, if_neg (by rw [not_or]; exact ⟨by simpa using hc.1, hc.2⟩)]
        simp only [] at h ⊢
        rw [named_ok h, h8]; rfl
    · rename_i h8
      split at h
      · rename_i h11
        split at h
        · cases h
        · rename_i hc
          simp only [not_or, Decidable.not_not] at hc
          refine .inr (.inl ⟨h11, hc.1, ?_⟩)
          rw [if_neg h8, if_pos h11, if_neg (by rw [not_or]; exact ⟨by simpa using hc.1, hc.2⟩)]
          simp only [] at h ⊢
          rw [named_ok h, h11]; rfl
      · rename_i h11
        split at h
        · cases h
        · rename_i hc
          simp only [not_or, Decidable.not_not] at hc
          refine .inr (.inr ⟨h8, h11, hc.1, by simpa using hc.2, ?_⟩)
          rw [if_neg h8, if_neg h11, if_neg (by rw [not_or]; exact ⟨by simpa using hc.1, hc.2⟩)]

theorem stands_cons (o : Ev5.Op) (os : List Ev5.Op) (ov : Bool) (x : Ev) : standsP ⟨o :: os, ov⟩ x = ⟨{ o with key := false, full := true, text := decide (x.kind = 4) } :: os, ov⟩ := rfl

/-- What K says of rows of that length: the kids of an open thing, and its End. -/
def KidsOf (R : Ev → Bool) (n : Nat) : Prop := ∀ (l : List GoEv) (o : Ev5.Op) (os : List Ev5.Op) (ov : Bool), l.length ≤ n → (runP R ⟨o :: os, ov⟩ (l.map GoEv.ev)).2.2 = 0 → (runP R ⟨o :: os, ov⟩ (l.map GoEv.ev)).1.opn.length ≤ os.length →
  o.key = false → (o.kind = 5 ∨ o.kind = 7 ∨ o.kind = 10) →
  ∃ (kids : List Nd) (r : List GoEv), Nd.goods kids = true ∧ l = Nd.walks kids ++ endEv o.kind :: r ∧ (runP R ⟨os, ov⟩ (r.map GoEv.ev)).2.2 = 0 ∧ (runP R ⟨os, ov⟩ (r.map GoEv.ev)).1 = (runP R ⟨o :: os, ov⟩ (l.map GoEv.ev)).1
/-- A value at the head of such a row. -/
def ValOf (R : Ev → Bool) (n : Nat) : Prop := ∀ (x : GoEv) (l : List GoEv) (st : St), l.length < n → (runP R st ((x :: l).map GoEv.ev)).2.2 = 0 → (runP R st ((x :: l).map GoEv.ev)).1.opn.length ≤ st.opn.length →
  (x.k = 1 ∨ x.k = 2 ∨ x.k = 3 ∨ x.k = 4 ∨ x.k = 5 ∨ x.k = 7 ∨ x.k = 10) →
  ∃ (nd : Nd) (r : List GoEv), nd.good = true ∧ x :: l = nd.walk ++ r ∧ r.length ≤ l.length ∧ (runP R (standsP st x.ev) (r.map GoEv.ev)).2.2 = 0 ∧ (runP R (standsP st x.ev) (r.map GoEv.ev)).1 = (runP R st ((x :: l).map GoEv.ev)).1

theorem val_of {R : Ev → Bool} {n : Nat} (hK : KidsOf R n) : ValOf R (n + 1) := by
  intro x l st hl hrun hd hk
  rw [List.map_cons] at hrun hd ⊢
  obtain ⟨h0, h1, h2⟩ := runP_step hrun
  rw [h2] at hd ⊢
  by_cases hleaf : x.k = 1 ∨ x.k = 2 ∨ x.k = 3 ∨ x.k = 4
  · have hs := step_leaf h0 hleaf
    rw [hs] at h1 hd ⊢
    have hg : (Nd.mk x.k x.t x.v []).good = true := by
      rw [good_mk, goods_nil]
      have : leafK x.k = true := by simp [leafK]; omega
      simp [oddK, this]
    refine ⟨.mk x.k x.t x.v [], l, hg, ?_, Nat.le_refl _, h1, rfl⟩
    have e0 : endK x.k = 0 := by rcases endK_cases x.k with ⟨a, _⟩ | ⟨a, _⟩ | ⟨a, _⟩ | ⟨_, _, _, a⟩; omega; omega; omega; exact a
    rw [walk_good hg, e0, walks_nil]; rfl
  · have hop : x.k = 5 ∨ x.k = 7 ∨ x.k = 10 := by omega
    have hs := step_open h0 hop
    rw [hs] at h1 hd ⊢
    obtain ⟨kids, r, hg, hl2, hr1, hr2⟩ := hK l ⟨x.ev.kind, false, false, false, []⟩ (standsP st x.ev).opn (standsP st x.ev).over (by omega) h1 (by rw [stands_len]; exact hd) rfl hop
    have hgn : (Nd.mk x.k x.t x.v kids).good = true := by
      rw [good_mk, hg]
      have h3 : leafK x.k = false := by simp [leafK]; omega
      have h4 : x.k ≠ 8 := by omega
      have h5 : endK x.k ≠ 0 := by rcases endK_cases x.k with ⟨_, a⟩ | ⟨_, a⟩ | ⟨_, a⟩ | ⟨a, b, c, _⟩ <;> omega
      simp [oddK, h3, h4, h5]
    refine ⟨.mk x.k x.t x.v kids, r, hgn, ?_, ?_, hr1, hr2⟩
    · have h5 : endK x.k ≠ 0 := by rcases endK_cases x.k with ⟨_, a⟩ | ⟨_, a⟩ | ⟨_, a⟩ | ⟨a, b, c, _⟩ <;> omega
      rw [walk_good hgn, if_neg h5, hl2, List.cons_append, List.append_assoc]; rfl
    · rw [hl2]; simp; omega

theorem kids_of {R : Ev → Bool} (hR : RK R) {n : Nat} (hK : KidsOf R n) (hV : ValOf R (n + 1)) (hV0 : ValOf R n) : KidsOf R (n + 1) := by
  intro l o os ov hl hrun hd hkey hop
  cases l with
  | nil => simp [runP] at hd; omega
  | cons y r =>
    have hrun' := hrun
    rw [List.map_cons] at hrun'
    obtain ⟨h0, h1, h2⟩ := runP_step hrun'
    by_cases hv : y.k = 1 ∨ y.k = 2 ∨ y.k = 3 ∨ y.k = 4 ∨ y.k = 5 ∨ y.k = 7 ∨ y.k = 10
    · obtain ⟨nd, r2, hg, he, hlen, hr1, hr2⟩ := hV y r ⟨o :: os, ov⟩ (by simp at hl; omega) hrun (Nat.le_trans hd (by simp)) hv
      rw [stands_cons] at hr1 hr2
      obtain ⟨kids, r3, hg3, he3, hr31, hr32⟩ := hK r2 _ os ov (by simp at hl; omega) hr1 (by rw [hr2]; exact hd) rfl hop
      refine ⟨nd :: kids, r3, by rw [goods_cons, hg, hg3]; rfl, ?_, hr31, by rw [hr32, hr2]⟩
      rw [he, he3, walks_cons, List.append_assoc]
    · obtain ⟨l', r', ho, hcase⟩ := step_other h0 (by show ¬ (y.k = 1 ∨ y.k = 2 ∨ y.k = 3 ∨ y.k = 4); omega) (by show ¬ (y.k = 5 ∨ y.k = 7 ∨ y.k = 10); omega)
      simp only [List.cons.injEq] at ho
      obtain ⟨rfl, rfl⟩ := ho
      rcases hcase with ⟨h8, h7, _, hs⟩ | ⟨h11, h10, hs⟩ | ⟨n8, n11, hke, _, hs⟩
      · -- a key: the value behind it
        rw [hs] at h1
        cases r with
        | nil => rw [List.map_cons, h2, hs] at hd; simp [runP] at hd; omega
        | cons z q =>
          have h1' := h1
          rw [List.map_cons] at h1'
          obtain ⟨z0, z1, z2⟩ := runP_step h1'
          have hz : z.k = 1 ∨ z.k = 2 ∨ z.k = 3 ∨ z.k = 4 ∨ z.k = 5 ∨ z.k = 7 ∨ z.k = 10 := by
            rcases Classical.em (z.k = 1 ∨ z.k = 2 ∨ z.k = 3 ∨ z.k = 4 ∨ z.k = 5 ∨ z.k = 7 ∨ z.k = 10) with h | h
            · exact h
            · obtain ⟨l2, r2, ho2, hc2⟩ := step_other z0 (by show ¬ (z.k = 1 ∨ z.k = 2 ∨ z.k = 3 ∨ z.k = 4); omega) (by show ¬ (z.k = 5 ∨ z.k = 7 ∨ z.k = 10); omega)
              simp only [List.cons.injEq] at ho2
              obtain ⟨rfl, rfl⟩ := ho2
              rcases hc2 with ⟨_, _, hk2, _⟩ | ⟨_, h10, _⟩ | ⟨_, _, _, hk2, _⟩
              · cases hk2
              · simp only [] at h10; omega
              · cases hk2
          obtain ⟨nd, r2, hg, he, hlen, hr1, hr2⟩ := hV0 z q _ (by simp at hl; omega) h1 (by rw [List.map_cons, h2, hs] at hd; exact Nat.le_trans hd (Nat.le_succ _)) hz
          rw [stands_cons] at hr1 hr2
          obtain ⟨kids, r3, hg3, he3, hr31, hr32⟩ := hK r2 _ os ov (by simp at hl; omega) hr1 (by rw [hr2]; rw [List.map_cons, h2, hs] at hd; exact hd) rfl (.inr (.inl h7))
          have h8' : y.k = 8 := h8
          have hgk : (Nd.mk y.k y.t y.v [nd]).good = true := by
            rw [good_mk, goods_cons, hg, goods_nil, h8', show [nd].length = 1 from rfl]; decide
          refine ⟨.mk y.k y.t y.v [nd] :: kids, r3, by rw [goods_cons, hgk, hg3]; rfl, ?_, hr31, ?_⟩
          · rw [walks_cons, walk_good hgk, walks_one, he, he3, h8', show endK 8 = 0 by decide]
            simp
            obtain ⟨a, b, c⟩ := y; simp at h8'; subst h8'; rfl
          · rw [List.map_cons, h2, hs, hr32, hr2]
      · -- an attribute
        rw [hs] at h1
        obtain ⟨kids, r3, hg3, he3, hr31, hr32⟩ := hK r _ os ov (by simp at hl; omega) h1 (by rw [List.map_cons, h2, hs] at hd; exact hd) rfl hop
        have h11' : y.k = 11 := h11
        have hgk : (Nd.mk y.k y.t y.v []).good = true := by rw [good_mk, goods_nil, h11']; decide
        refine ⟨.mk y.k y.t y.v [] :: kids, r3, by rw [goods_cons, hgk, hg3]; rfl, ?_, hr31, ?_⟩
        · rw [walks_cons, walk_good hgk, walks_nil, he3, h11', show endK 11 = 0 by decide]
          simp
          obtain ⟨a, b, c⟩ := y; simp at h11'; subst h11'; rfl
        · rw [List.map_cons, h2, hs, hr32]
      · -- the End
        have hr := step_right h0
        have hk12 := hR.kind _ hr
        have hen : y.k = 6 ∨ y.k = 9 ∨ y.k = 12 := by
          have h8' : y.k ≠ 8 := n8
          have h11' : y.k ≠ 11 := n11
          have := hk12; simp only [GoEv.ev] at this; omega
        obtain ⟨e1, e2⟩ := hR.bare _ hr (by simp only [GoEv.ev, ends]; exact decide_eq_true hen)
        have ht := ba_nil e1
        have hvv := ba_nil e2
        have hy : y = endEv o.kind := by
          obtain ⟨a, b, c⟩ := y
          simp only [GoEv.ev] at ht hvv hke hen
          subst ht; subst hvv
          rw [hke]
          rcases hen with rfl | rfl | rfl <;> rfl
        refine ⟨[], r, goods_nil, by rw [walks_nil, ← hy]; rfl, ?_, ?_⟩
        · rw [hs] at h1; exact h1
        · rw [List.map_cons, h2, hs]

theorem both_of {R : Ev → Bool} (hR : RK R) : ∀ n, KidsOf R n ∧ ValOf R n
  | 0 => ⟨fun l o os ov hl hrun hd => by
      obtain rfl := List.eq_nil_of_length_eq_zero (Nat.le_zero.1 hl)
      simp [runP] at hd; omega, fun x l st hl => by omega⟩
  | n + 1 => by
    obtain ⟨hK, hV⟩ := both_of hR n
    have hV1 := val_of hK
    exact ⟨kids_of hR hK hV1 hV, hV1⟩

/-- A row of events that is a document is a good node's walk. -/
theorem doc_walk {R : Ev → Bool} (hR : RK R) (l : List GoEv) (h : (wholeP R (l.map GoEv.ev)).2 = 0) : ∃ n : Nd, n.good = true ∧ n.walk = l := by
  unfold wholeP at h
  split at h
  · rename_i he; exact absurd h he
  rename_i he
  have hrun : (runP R St.new (l.map GoEv.ev)).2.2 = 0 := Classical.not_not.1 he
  split at h
  · rename_i hd
    cases l with
    | nil => simp [runP, St.new, St.done] at hd
    | cons x r =>
      have hrun' := hrun
      rw [List.map_cons] at hrun'
      obtain ⟨h0, h1, h2⟩ := runP_step hrun'
      have hx : x.k = 1 ∨ x.k = 2 ∨ x.k = 3 ∨ x.k = 4 ∨ x.k = 5 ∨ x.k = 7 ∨ x.k = 10 := by
        rcases Classical.em (x.k = 1 ∨ x.k = 2 ∨ x.k = 3 ∨ x.k = 4 ∨ x.k = 5 ∨ x.k = 7 ∨ x.k = 10) with h | h
        · exact h
        · obtain ⟨l2, r2, ho2, _⟩ := step_other h0 (by show ¬ (x.k = 1 ∨ x.k = 2 ∨ x.k = 3 ∨ x.k = 4); omega) (by show ¬ (x.k = 5 ∨ x.k = 7 ∨ x.k = 10); omega)
          simp [St.new] at ho2
      have hd' : (runP R St.new ((x :: r).map GoEv.ev)).1.opn = [] := by
        simp only [St.done, Bool.and_eq_true, List.isEmpty_iff] at hd
        exact hd.2
      obtain ⟨nd, r2, hg, he2, _, hr1, hr2⟩ := (both_of hR (r.length + 1)).2 x r St.new (by omega) hrun (by rw [hd']; simp) hx
      refine ⟨nd, hg, ?_⟩
      cases r2 with
      | nil => rw [he2, List.append_nil]
      | cons z q =>
        rw [List.map_cons] at hr1
        obtain ⟨z0, _, _⟩ := runP_step hr1
        exact absurd z0 (done_stuck R (standsP St.new x.ev) z.ev rfl)
  · cases h

/-- A walk none of whose events is refused for its kind is a good node's. -/
theorem good_of_kinds (n : Nd) : (∀ x ∈ n.walk, x.k ≠ 0) → n.good = true := by
  refine Nd.ind (C := fun n => (∀ x ∈ n.walk, x.k ≠ 0) → n.good = true) ?_ n
  intro k t v ks ih h
  rw [walk_mk] at h
  split at h
  · exact absurd rfl (h ⟨0, emp, emp⟩ (by simp))
  · rename_i ho
    have ho' : oddK k ks.length = false := by simpa using ho
    have hk : ∀ l : List Nd, (∀ x ∈ l, x ∈ ks) → (∀ x ∈ Nd.walks l, x.k ≠ 0) → Nd.goods l = true := by
      intro l
      induction l with
      | nil => intro _ _; exact goods_nil
      | cons a r ihl =>
        intro hin hh
        rw [walks_cons] at hh
        rw [goods_cons, ih a (hin a (by simp)) (fun x hx => hh x (List.mem_append_left _ hx)), ihl (fun x hx => hin x (List.mem_cons_of_mem _ hx)) (fun x hx => hh x (List.mem_append_right _ hx))]; rfl
    rw [good_mk, ho', hk ks (fun _ h => h) (fun x hx => h x (List.mem_cons_of_mem _ (List.mem_append_left _ hx)))]; rfl
theorem run_rights {R : Ev → Bool} : ∀ (l : List Ev) (st : St), (runP R st l).2.2 = 0 → ∀ x ∈ l, R x = true
  | [], _, _, x, hx => by cases hx
  | y :: r, st, h, x, hx => by
    obtain ⟨h0, h1, _⟩ := runP_step h
    rcases List.mem_cons.1 hx with rfl | hx
    · exact step_right h0
    · exact run_rights r _ h1 x hx
theorem whole_run {R : Ev → Bool} {l : List Ev} (h : (wholeP R l).2 = 0) : (runP R St.new l).2.2 = 0 := by
  unfold wholeP at h
  split at h
  · rename_i he; exact absurd h he
  · rename_i he; exact Classical.not_not.1 he
/-- What can be walked is good. -/
theorem good_of_whole {R : Ev → Bool} (hR : RK R) (n : Nd) (h : (wholeP R (n.walk.map GoEv.ev)).2 = 0) : n.good = true := by
  refine good_of_kinds n fun x hx e => ?_
  have := hR.kind _ (run_rights _ _ (whole_run h) x.ev (List.mem_map.2 ⟨x, hx, rfl⟩))
  simp only [GoEv.ev] at this
  omega
end Go.Proofs.YtaolnpiemeaabaaGreatDoor

/- A node in memory: its kids' rows lie in blocks of S. -/
namespace Go.Proofs.YtaolnpiemeaabaaGreatDoor
open Go.RowKit Ev5
set_option linter.unusedSimpArgs false
set_option linter.unusedVariables false

mutual
/-- The four cells of a node at that place, its kids' rows in blocks of S. -/
def NdAt (w : World) (S : Nat → Prop) : Nat → Nat → Nd → Prop
  | b, o, .mk k t v ks => w.cell? ⟨b, o, none⟩ = some (.int .i64 k) ∧ w.cell? ⟨b, o + 1, none⟩ = some (.string t) ∧ w.cell? ⟨b, o + 2, none⟩ = some (.string v) ∧
      ∃ a cap, w.cell? ⟨b, o + 3, none⟩ = some (.slice a ks.length cap) ∧ ks.length ≤ cap ∧ cap ≤ maxLen ∧ (ks = [] ∨ ∃ b' o', a = some ⟨b', o', none⟩ ∧ S b' ∧ b' < w.heap.size ∧ KidsIn w S b' o' ks)
/-- A row of nodes from that place on. -/
def KidsIn (w : World) (S : Nat → Prop) : Nat → Nat → List Nd → Prop
  | _, _, [] => True
  | b, o, n :: r => NdAt w S b o n ∧ KidsIn w S b (o + 4) r
end
/-- A slice of nodes. -/
def SlIn (w : World) (S : Nat → Prop) (u : Value) (ks : List Nd) : Prop :=
  ∃ a cap, u = .slice a ks.length cap ∧ ks.length ≤ cap ∧ cap ≤ maxLen ∧ (ks = [] ∨ ∃ b' o', a = some ⟨b', o', none⟩ ∧ S b' ∧ b' < w.heap.size ∧ KidsIn w S b' o' ks)
/-- A node as a value: its kids' slice is u. -/
def ndV (n : Nd) (u : Value) : Value := .agg #[.int .i64 n.k, .string n.t, .string n.v, u]
def NdV (w : World) (S : Nat → Prop) (val : Value) (n : Nd) : Prop := ∃ u, val = ndV n u ∧ SlIn w S u n.kids

theorem ndAt_iff {w : World} {S : Nat → Prop} {b o : Nat} {n : Nd} : NdAt w S b o n ↔ (w.cell? ⟨b, o, none⟩ = some (.int .i64 n.k) ∧ w.cell? ⟨b, o + 1, none⟩ = some (.string n.t) ∧ w.cell? ⟨b, o + 2, none⟩ = some (.string n.v) ∧ ∃ u, w.cell? ⟨b, o + 3, none⟩ = some u ∧ SlIn w S u n.kids) := by
  cases n with
  | mk k t v ks =>
    rw [NdAt]
    simp only [Nd.k, Nd.t, Nd.v, Nd.kids, SlIn]
    constructor
    · rintro ⟨h0, h1, h2, a, cap, h3, h4⟩
      exact ⟨h0, h1, h2, _, h3, a, cap, rfl, h4⟩
    · rintro ⟨h0, h1, h2, u, h3, a, cap, rfl, h4⟩
      exact ⟨h0, h1, h2, a, cap, h3, h4⟩
theorem kidsIn_nil {w : World} {S : Nat → Prop} {b o : Nat} : KidsIn w S b o [] := by rw [KidsIn]; trivial
theorem kidsIn_cons {w : World} {S : Nat → Prop} {b o : Nat} {n : Nd} {r : List Nd} : KidsIn w S b o (n :: r) ↔ NdAt w S b o n ∧ KidsIn w S b (o + 4) r := by rw [KidsIn]
theorem kidsIn_iff {w : World} {S : Nat → Prop} {b : Nat} : ∀ {o : Nat} {ks : List Nd}, KidsIn w S b o ks ↔ ∀ (i : Nat) (h : i < ks.length), NdAt w S b (o + i * 4) ks[i]
  | o, [] => ⟨fun _ i h => by simp at h, fun _ => kidsIn_nil⟩
  | o, n :: r => by
    rw [kidsIn_cons, kidsIn_iff]
    constructor
    · rintro ⟨h0, hr⟩ i h
      cases i with
      | zero => rw [List.getElem_cons_zero, Nat.zero_mul, Nat.add_zero]; exact h0
      | succ i => have := hr i (by simpa using h); rw [List.getElem_cons_succ, show o + (i + 1) * 4 = o + 4 + i * 4 by omega]; exact this
    · intro h
      refine ⟨by have := h 0 (by simp); rw [List.getElem_cons_zero, Nat.zero_mul, Nat.add_zero] at this; exact this, fun i hi => ?_⟩
      have := h (i + 1) (by simpa using hi)
      rw [List.getElem_cons_succ, show o + (i + 1) * 4 = o + 4 + i * 4 by omega] at this
      exact this

/-- What two worlds have to have in common. -/
def Alike (S : Nat → Prop) (w w' : World) : Prop := w.heap.size ≤ w'.heap.size ∧ ∀ b, S b → b < w.heap.size → w'.heap[b]? = w.heap[b]?
theorem cell_alike {w w' : World} {b o : Nat} {u : Value} (h : w'.heap[b]? = w.heap[b]?) (hc : w.cell? ⟨b, o, none⟩ = some u) : w'.cell? ⟨b, o, none⟩ = some u := by
  rw [← hc]; unfold World.cell?; simp only []; rw [h]
theorem ndAt_alike {S S' : Nat → Prop} {w w' : World} (ha : Alike S w w') (hS : ∀ b, S b → b < w.heap.size → S' b) (n : Nd) : ∀ (b o : Nat), w'.heap[b]? = w.heap[b]? → NdAt w S b o n → NdAt w' S' b o n := by
  refine Nd.ind (C := fun n => ∀ (b o : Nat), w'.heap[b]? = w.heap[b]? → NdAt w S b o n → NdAt w' S' b o n) ?_ n
  intro k t v ks ih b o hb h
  rw [ndAt_iff] at h ⊢
  obtain ⟨h0, h1, h2, u, h3, a, cap, rfl, hc, hm, h4⟩ := h
  refine ⟨cell_alike hb h0, cell_alike hb h1, cell_alike hb h2, _, cell_alike hb h3, a, cap, rfl, hc, hm, ?_⟩
  rcases h4 with h4 | ⟨b', o', e, hs, hlt, hk⟩
  · exact .inl h4
  · refine .inr ⟨b', o', e, hS _ hs hlt, Nat.lt_of_lt_of_le hlt ha.1, ?_⟩
    rw [kidsIn_iff] at hk ⊢
    intro i hi
    exact ih _ (List.getElem_mem hi) b' _ (ha.2 b' hs hlt) (hk i hi)
theorem SlIn.alike {S S' : Nat → Prop} {w w' : World} {u : Value} {ks : List Nd} (h : SlIn w S u ks) (ha : Alike S w w') (hS : ∀ b, S b → b < w.heap.size → S' b) : SlIn w' S' u ks := by
  obtain ⟨a, cap, rfl, hc, hm, h4⟩ := h
  refine ⟨a, cap, rfl, hc, hm, ?_⟩
  rcases h4 with h4 | ⟨b', o', e, hs, hlt, hk⟩
  · exact .inl h4
  · refine .inr ⟨b', o', e, hS _ hs hlt, Nat.lt_of_lt_of_le hlt ha.1, ?_⟩
    rw [kidsIn_iff] at hk ⊢
    intro i hi
    exact ndAt_alike ha hS _ b' _ (ha.2 b' hs hlt) (hk i hi)
theorem alike_below {S : Nat → Prop} {w w' : World} (hb : Below w.heap.size w w') : Alike S w w' := ⟨hb.size, fun b _ h => hb.block b h⟩
theorem SlIn.below {S : Nat → Prop} {w w' : World} {u : Value} {ks : List Nd} (h : SlIn w S u ks) (hb : Below w.heap.size w w') : SlIn w' S u ks := h.alike (alike_below hb) fun _ h _ => h
theorem NdV.below {S : Nat → Prop} {w w' : World} {u : Value} {n : Nd} (h : NdV w S u n) (hb : Below w.heap.size w w') : NdV w' S u n := by
  obtain ⟨u, rfl, hs⟩ := h
  exact ⟨u, rfl, hs.below hb⟩
theorem NdV.alike {S S' : Nat → Prop} {w w' : World} {u : Value} {n : Nd} (h : NdV w S u n) (ha : Alike S w w') (hS : ∀ b, S b → b < w.heap.size → S' b) : NdV w' S' u n := by
  obtain ⟨u, rfl, hs⟩ := h
  exact ⟨u, rfl, hs.alike ha hS⟩
/-- Kids' slices: the i-th kid's cells. -/
theorem SlIn.at_ {S : Nat → Prop} {w : World} {ao : Option Addr} {len cap : Nat} {ks : List Nd} (h : SlIn w S (.slice ao len cap) ks) (i : Nat) (hi : i < ks.length) :
    ∃ b o u, ao = some ⟨b, o, none⟩ ∧ b < w.heap.size ∧ w.cell? ⟨b, o + i * 4, none⟩ = some (.int .i64 ks[i].k) ∧ w.cell? ⟨b, o + i * 4 + 1, none⟩ = some (.string ks[i].t) ∧ w.cell? ⟨b, o + i * 4 + 2, none⟩ = some (.string ks[i].v) ∧ w.cell? ⟨b, o + i * 4 + 3, none⟩ = some u ∧ SlIn w S u ks[i].kids := by
  obtain ⟨a, cap', e, hc, hm, h4⟩ := h
  injection e with e1 e2 e3
  subst e1
  rcases h4 with rfl | ⟨b', o', rfl, hs, hlt, hk⟩
  · simp at hi
  · have := kidsIn_iff.1 hk i hi
    rw [ndAt_iff] at this
    obtain ⟨h0, h1, h2, u, h3, h4⟩ := this
    exact ⟨b', o', u, rfl, hlt, h0, h1, h2, h3, h4⟩
/-- The same, and the row's block is one of S. -/
theorem SlIn.at2 {S : Nat → Prop} {w : World} {ao : Option Addr} {len cap : Nat} {ks : List Nd} (h : SlIn w S (.slice ao len cap) ks) (i : Nat) (hi : i < ks.length) :
    ∃ b o u, ao = some ⟨b, o, none⟩ ∧ b < w.heap.size ∧ w.cell? ⟨b, o + i * 4, none⟩ = some (.int .i64 ks[i].k) ∧ w.cell? ⟨b, o + i * 4 + 1, none⟩ = some (.string ks[i].t) ∧ w.cell? ⟨b, o + i * 4 + 2, none⟩ = some (.string ks[i].v) ∧ w.cell? ⟨b, o + i * 4 + 3, none⟩ = some u ∧ SlIn w S u ks[i].kids ∧ S b := by
  obtain ⟨a, cap', e, hc, hm, h4⟩ := h
  injection e with e1 e2 e3
  subst e1
  rcases h4 with rfl | ⟨b', o', rfl, hs, hlt, hk⟩
  · simp at hi
  · have := kidsIn_iff.1 hk i hi
    rw [ndAt_iff] at this
    obtain ⟨h0, h1, h2, u, h3, h4⟩ := this
    exact ⟨b', o', u, rfl, hlt, h0, h1, h2, h3, h4, hs⟩
theorem SlIn.shape {S : Nat → Prop} {w : World} {u : Value} {ks : List Nd} (h : SlIn w S u ks) : ∃ ao cap, u = .slice ao ks.length cap ∧ ks.length ≤ cap ∧ cap ≤ maxLen := by
  obtain ⟨a, cap', e, hc, hm, _⟩ := h
  exact ⟨a, cap', e, hc, hm⟩
end Go.Proofs.YtaolnpiemeaabaaGreatDoor

/- How many nodes there are below one: the walk of the reference's Few. -/
namespace Go.Proofs.YtaolnpiemeaabaaGreatDoor
open Go.RowKit Ev5
set_option linter.unusedSimpArgs false
set_option linter.unusedVariables false

mutual
def Nd.few : Nd → Int → Int → Int
  | .mk _ _ _ ks, left, deep => if deep < 0 then -1 else Nd.fews ks (left - 1) (deep - 1)
def Nd.fews : List Nd → Int → Int → Int
  | [], left, _ => left
  | n :: r, left, deep => if left < 0 then left else Nd.fews r (n.few left deep) deep
end
theorem few_mk (k : Int) (t v : ByteArray) (ks : List Nd) (left deep : Int) : (Nd.mk k t v ks).few left deep = if deep < 0 then -1 else Nd.fews ks (left - 1) (deep - 1) := by rw [Nd.few]
theorem fews_nil (left deep : Int) : Nd.fews [] left deep = left := by rw [Nd.fews]
theorem fews_cons (n : Nd) (r : List Nd) (left deep : Int) : Nd.fews (n :: r) left deep = if left < 0 then left else Nd.fews r (n.few left deep) deep := by rw [Nd.fews]
theorem fews_neg (l : List Nd) (left deep : Int) (h : left < 0) : Nd.fews l left deep = left := by
  cases l with
  | nil => rw [fews_nil]
  | cons x r => rw [fews_cons, if_pos h]
/-- What is left is what there was, less the nodes; or it is below 0. -/
theorem few_says (n : Nd) : ∀ (left deep : Int), 0 ≤ left → -1 ≤ n.few left deep ∧ n.few left deep ≤ left - 1 ∧ (0 ≤ n.few left deep → n.few left deep = left - n.size) := by
  refine Nd.ind (C := fun n => ∀ (left deep : Int), 0 ≤ left → -1 ≤ n.few left deep ∧ n.few left deep ≤ left - 1 ∧ (0 ≤ n.few left deep → n.few left deep = left - n.size)) ?_ n
  intro k t v ks ih left deep h
  have hk : ∀ (l : List Nd), (∀ x ∈ l, x ∈ ks) → ∀ (lf d : Int), -1 ≤ lf → -1 ≤ Nd.fews l lf d ∧ Nd.fews l lf d ≤ lf ∧ (0 ≤ Nd.fews l lf d → Nd.fews l lf d = lf - Nd.sizes l) := by
    intro l
    induction l with
    | nil => intro _ lf d h; rw [fews_nil, sizes_nil]; omega
    | cons x r ihl =>
      intro hin lf d h
      rw [fews_cons, sizes_cons]
      split
      · omega
      · have h1 := ih x (hin x (by simp)) lf d (by omega)
        have h2 := ihl (fun y hy => hin y (List.mem_cons_of_mem _ hy)) (x.few lf d) d (by omega)
        omega
  rw [few_mk, size_mk]
  split
  · omega
  · have := hk ks (fun _ h => h) (left - 1) (deep - 1) (by omega)
    omega

/-- A struct's box, whatever came behind it. -/
theorem box_cells {w wr : World} {cs : Array Value} {t : TypeId} (h : Below (w.heap.size + 1) (w.alloc (.cells cs t)) wr) : wr.heap[w.heap.size]? = some (.cells cs t (0, 0)) := by
  rw [h.block _ (by omega)]; exact heap_alloc_new w _
/-- What lay ahead of the box. -/
theorem box_below {w wr : World} {o : Obj} (h : Below (w.heap.size + 1) (w.alloc o) wr) : Below w.heap.size w wr := ((Below.refl _ w).alloc (Nat.le_refl _) _).trans (h.mono (by omega))

set_option maxRecDepth 100000 in
set_option maxHeartbeats 4000000 in
theorem few_any (n : Nd) : ∀ (w : World) (S : Nat → Prop) (val : Value) (left deep : Int), NdV w S val n → 0 ≤ left → left ≤ 1000 → -1 ≤ deep → deep ≤ 1000 →
    Calls Tryz.prog 21 #[val, .int .i64 left, .int .i64 deep] w fun e w' => e = .returned (.int .i64 (n.few left deep)) ∧ Below w.heap.size w w' := by
  refine Nd.ind (C := fun n => ∀ (w : World) (S : Nat → Prop) (val : Value) (left deep : Int), NdV w S val n → 0 ≤ left → left ≤ 1000 → -1 ≤ deep → deep ≤ 1000 →
    Calls Tryz.prog 21 #[val, .int .i64 left, .int .i64 deep] w fun e w' => e = .returned (.int .i64 (n.few left deep)) ∧ Below w.heap.size w w') ?_ n
  intro k t v ks ih w S val left deep hv h0 h1 h2 h3
  obtain ⟨u, rfl, hs⟩ := hv
  simp only [ndV, Nd.k, Nd.t, Nd.v, Nd.kids] at hs ⊢
  have hfm := few_mk k t v ks left deep
  have HFM := Lib.hid hfm; clear hfm
  have HS := Lib.hid hs
  obtain ⟨ao, cap, rfl, hcap, hcm⟩ := hs.shape
  clear hs
  unfold maxLen at hcm
  have HIH := Lib.hid ih; clear ih
  by_cases hd : deep < 0
  · have HD := Lib.hid (HFM.out.trans (if_pos hd))
    go_enter Tryz.func21, Tryz.ntmps21
    go_wp2_with fail
    go_ret
    exact ⟨by rw [HD.out]; rfl, (Below.refl _ _).alloc (Nat.le_refl _) _⟩
  · have HD := Lib.hid (HFM.out.trans (if_neg hd))
    have hd0 : 0 ≤ deep := by omega
    clear HFM
    go_enter Tryz.func21, Tryz.ntmps21
    go_wp2_with fail
    go_loopw [1, 7] (fun u1 u7 wr => ∃ (i : Nat) (lf : Int), i ≤ ks.length ∧ u7 = .int .i64 i ∧ u1 = .int .i64 lf ∧ -1 ≤ lf ∧ lf ≤ 1000 ∧ Hid (Nd.fews ks (left - 1) (deep - 1) = Nd.fews (ks.drop i) lf (deep - 1)) ∧ Hid (Below (w.heap.size + 1) (w.alloc (.cells #[.int .i64 k, .string t, .string v, .slice ao ks.length cap] 24)) wr))
      (fun _ u7 _ => ks.length - (intOf u7).toNat)
    case atStart => exact ⟨0, left - 1, Nat.zero_le _, rfl, rfl, by omega, by omega, rfl, Below.refl _ _⟩
    case round =>
      obtain ⟨i, lf, hi, rfl, rfl, hl0, hl1, HR, HB⟩ := hrel
      have hbx := box_cells HB.out
      have hc3 := (blk_cell hbx 3 (by simp)).1
      simp only [List.getElem_toArray, List.getElem_cons_succ, List.getElem_cons_zero] at hc3
      have hbl := lt_blk hbx
      clear hbx
      by_cases hlt : i < ks.length
      · by_cases hn : 0 ≤ lf
        · obtain ⟨b, o, uk, hao, hbw, c0, c1, c2, c3, hsk⟩ := HS.out.at_ i hlt
          subst hao
          have hB := box_below HB.out
          have hstep : Nd.fews (ks.drop i) lf (deep - 1) = Nd.fews (ks.drop (i + 1)) (ks[i].few lf (deep - 1)) (deep - 1) := by
            rw [List.drop_eq_getElem_cons hlt, fews_cons, if_neg (by omega)]
          have HST := Lib.hid (HR.out.trans hstep)
          have hsy := few_says ks[i] lf (deep - 1) hn
          have hik := HIH.out ks[i] (List.getElem_mem hlt)
          obtain ⟨x, hx⟩ : ∃ x, ks[i] = x := ⟨_, rfl⟩
          rw [hx] at c0 c1 c2 hsk hsy HST hik
          have HX := Lib.hid hik
          have d0 : wr.cell? ⟨b, o + i * 4, none⟩ = some (.int .i64 x.k) := by rw [hB.cell (p := ⟨b, o + i * 4, none⟩) hbw]; exact c0
          have d1 : wr.cell? ⟨b, o + i * 4 + 1, none⟩ = some (.string x.t) := by rw [hB.cell (p := ⟨b, o + i * 4 + 1, none⟩) hbw]; exact c1
          have d2 : wr.cell? ⟨b, o + i * 4 + 2, none⟩ = some (.string x.v) := by rw [hB.cell (p := ⟨b, o + i * 4 + 2, none⟩) hbw]; exact c2
          have d3 : wr.cell? ⟨b, o + i * 4 + 3, none⟩ = some uk := by rw [hB.cell (p := ⟨b, o + i * 4 + 3, none⟩) hbw]; exact c3
          have hsz := hB.size
          have hbr : b < wr.heap.size := by omega
          have HNV := Lib.hid (show NdV wr S (ndV x uk) x from ⟨uk, rfl, hsk.below hB⟩)
          clear hx hik hstep c0 c1 c2 c3 hB hsk HR
          go_wp2_with fail
          refine (HX.out wr S _ lf (deep - 1) HNV.out hn hl1 (by omega) (by omega)).mono ?_
          rintro e w2 ⟨rfl, hb⟩
          have HB2 := Lib.hid (HB.out.trans (hb.mono (by have := HB.out.size; simp at this; omega)))
          clear hb HB
          generalize x.few lf (deep - 1) = lf2 at *
          go_wp2_with fail
          go_roundw
          case rel => exact ⟨i + 1, lf2, by omega, by go_num, rfl, by omega, by omega, HST.out, HB2.out⟩
          case measure => simp [intOf]; omega
        · have HE := Lib.hid (HR.out.trans (fews_neg _ lf _ (by omega)))
          have hn' : lf < 0 := by omega
          clear hn HR
          go_wp2_with fail
          go_ret
          exact ⟨by rw [HD.out, HE.out]; rfl, box_below HB.out⟩
      · obtain rfl : i = ks.length := by omega
        have HE := Lib.hid (HR.out.trans (by rw [List.drop_length, fews_nil]))
        clear hlt HR
        go_wp2_with fail
        all_goals
          go_ret
          exact ⟨by rw [HD.out, HE.out]; rfl, box_below HB.out⟩
end Go.Proofs.YtaolnpiemeaabaaGreatDoor

/- Whether two nodes are the same: the walks of tree.Same (over slices.EqualFunc) and of the reference's Same. -/
namespace Go.Proofs.YtaolnpiemeaabaaGreatDoor
open Go.RowKit Ev5
set_option linter.unusedSimpArgs false
set_option linter.unusedVariables false

/-- A bool that tells whether p. -/
def BoolP (p : Prop) (w : World) (e : Ending) (w' : World) : Prop := ∃ r : Bool, e = .returned (.bool r) ∧ (r = true ↔ p) ∧ Below w.heap.size w w'
def SameOf (f : Nat) (x : Nd) : Prop := ∀ (w : World) (S S' : Nat → Prop) (va vb : Value) (y : Nd), NdV w S va x → NdV w S' vb y → Calls Tryz.prog f #[va, vb] w (BoolP (x = y) w)

theorem nd_ext {k k' : Int} {t t' v v' : ByteArray} {ks ks' : List Nd} : Nd.mk k t v ks = Nd.mk k' t' v' ks' ↔ k = k' ∧ t = t' ∧ v = v' ∧ ks = ks' := by
  constructor
  · intro h; injection h with h1 h2 h3 h4; exact ⟨h1, h2, h3, h4⟩
  · rintro ⟨rfl, rfl, rfl, rfl⟩; rfl
theorem toL_inj {a b : ByteArray} (h : a.toList = b.toList) : a = b := by
  rw [ByteArray.toList_eq, ByteArray.toList_eq] at h
  obtain ⟨⟨x⟩⟩ := a; obtain ⟨⟨y⟩⟩ := b
  simp at h; subst h; rfl
theorem NdV.mk {w : World} {S : Nat → Prop} {x : Nd} {u : Value} (h : SlIn w S u x.kids) : NdV w S (ndV x u) x := ⟨u, rfl, h⟩
theorem take_eq_step {α : Type} {a b : List α} {i : Nat} (ha : i < a.length) (hb : i < b.length) (h : a.take i = b.take i) (he : a[i] = b[i]) : a.take (i + 1) = b.take (i + 1) := by
  rw [List.take_add_one, List.take_add_one, h, List.getElem?_eq_getElem ha, List.getElem?_eq_getElem hb, he]

end Go.Proofs.YtaolnpiemeaabaaGreatDoor

/- Whether two nodes are the same: the walk of the reference's Same. -/
namespace Go.Proofs.YtaolnpiemeaabaaGreatDoor
open Go.RowKit Ev5
set_option linter.unusedSimpArgs false
set_option linter.unusedVariables false

theorem two_boxes {w wr : World} {o o' : Obj} (h : Below (w.heap.size + 2) ((w.alloc o).alloc o') wr) : wr.heap[w.heap.size]? = ((w.alloc o).alloc o').heap[w.heap.size]? ∧ wr.heap[w.heap.size + 1]? = ((w.alloc o).alloc o').heap[w.heap.size + 1]? ∧ Below w.heap.size w wr :=
  ⟨h.block _ (by omega), h.block _ (by omega), (((Below.refl _ w).alloc (Nat.le_refl _) _).alloc (by simp) _).trans (h.mono (by omega))⟩
theorem two_first (w : World) (o o' : Obj) : ((w.alloc o).alloc o').heap[w.heap.size]? = some o := by
  rw [Below.heap_alloc (w.alloc o) o' w.heap.size (by simp)]; exact heap_alloc_new w o
theorem two_last (w : World) (o o' : Obj) : ((w.alloc o).alloc o').heap[w.heap.size + 1]? = some o' := by
  have := heap_alloc_new (w.alloc o) o'
  simpa using this

set_option maxRecDepth 100000 in
set_option maxHeartbeats 8000000 in
theorem refSame_any (n : Nd) : SameOf 14 n := by
  refine Nd.ind (C := fun n => SameOf 14 n) ?_ n
  intro k t v ks ih w S S' va vb y hva hvb
  obtain ⟨k', t', v', ks'⟩ := y
  obtain ⟨u, rfl, hs⟩ := hva
  obtain ⟨u', rfl, hs'⟩ := hvb
  simp only [ndV, Nd.k, Nd.t, Nd.v, Nd.kids] at hs hs' ⊢
  have HIH := Lib.hid ih
  have HA := Lib.hid hs; have HB' := Lib.hid hs'
  obtain ⟨ao, cap, rfl, hcap, hcm⟩ := hs.shape
  obtain ⟨ao', cap', rfl, hcap', hcm'⟩ := hs'.shape
  clear ih hs hs'
  unfold maxLen at hcm hcm'
  have HB2 := Lib.hid (show Below w.heap.size w ((w.alloc (.cells #[.int .i64 k, .string t, .string v, .slice ao ks.length cap] 24)).alloc (.cells #[.int .i64 k', .string t', .string v', .slice ao' ks'.length cap'] 24)) from ((Below.refl _ _).alloc (Nat.le_refl _) _).alloc (by simp) _)
  by_cases hk : k = k'
  · by_cases ht : t = t'
    · by_cases hv : v = v'
      · subst hk; subst ht; subst hv
        by_cases hlen : ks.length = ks'.length
        · have HL := Lib.hid hlen
          have hll : decide (ks.length = ks'.length) = true := decide_eq_true hlen
          have hlb : (((ks.length : Nat) : Int) == ((ks'.length : Nat) : Int)) = true := by simp [hlen]
          have hlc : (((ks.length : Nat) : Int) != ((ks'.length : Nat) : Int)) = false := by simp [hlen]
          clear hlen
          go_enter Tryz.func14, Tryz.ntmps14
          go_wp2_with fail
          clear hll hlb hlc
          go_loopw [5] (fun u wr => ∃ i : Nat, i ≤ ks.length ∧ u = .int .i64 i ∧ Hid (ks.take i = ks'.take i) ∧ Hid (Below (w.heap.size + 2) ((w.alloc (.cells #[.int .i64 k, .string t, .string v, .slice ao ks.length cap] 24)).alloc (.cells #[.int .i64 k, .string t, .string v, .slice ao' ks'.length cap'] 24)) wr))
            (fun u _ => ks.length - (intOf u).toNat)
          case atStart => exact ⟨0, Nat.zero_le _, rfl, by show _ = _; simp, Below.refl _ _⟩
          case round =>
            obtain ⟨i, hi, rfl, HT, HB⟩ := hrel
            obtain ⟨b1, b2, hB⟩ := two_boxes HB.out
            rw [two_first] at b1; rw [two_last] at b2
            have hc3 := (blk_cell b1 3 (by simp)).1
            have hc3' := (blk_cell b2 3 (by simp)).1
            simp only [List.getElem_toArray, List.getElem_cons_succ, List.getElem_cons_zero] at hc3 hc3'
            have hbl := lt_blk b1
            have hbl' := lt_blk b2
            have HZ := Lib.hid (show w.heap.size + 2 ≤ wr.heap.size by have := HB.out.size; simp at this; omega)
            clear b1 b2
            by_cases hlt : i < ks.length
            · have hlt' : i < ks'.length := by have := HL.out; omega
              obtain ⟨b, o, ux, hao, hbw, c0, c1, c2, c3, hsx⟩ := HA.out.at_ i hlt
              obtain ⟨b', o', uy, hao', hbw', c0', c1', c2', c3', hsy⟩ := HB'.out.at_ i hlt'
              subst hao; subst hao'
              obtain ⟨ax, cx, rfl, _, _⟩ := hsx.shape
              obtain ⟨ay, cy, rfl, _, _⟩ := hsy.shape
              have hX := HIH.out ks[i] (List.getElem_mem hlt)
              have HST := Lib.hid (fun he => take_eq_step hlt hlt' HT.out he)
              have HNE := Lib.hid (show ks[i] ≠ ks'[i] → ks ≠ ks' from fun hne e => by subst e; exact hne rfl)
              obtain ⟨x, hx⟩ : ∃ x, ks[i] = x := ⟨_, rfl⟩
              obtain ⟨y, hy⟩ : ∃ y, ks'[i] = y := ⟨_, rfl⟩
              rw [hx] at c0 c1 c2 c3 hsx hX
              rw [hy] at c0' c1' c2' c3' hsy
              rw [hx, hy] at HST HNE
              have HX := Lib.hid hX
              have hsz := hB.size
              have hbr : b < wr.heap.size := by omega
              have hbr' : b' < wr.heap.size := by omega
              have d0 : wr.cell? ⟨b, o + i * 4, none⟩ = some (.int .i64 x.k) := by rw [hB.cell (p := ⟨b, o + i * 4, none⟩) hbw]; exact c0
              have d1 : wr.cell? ⟨b, o + i * 4 + 1, none⟩ = some (.string x.t) := by rw [hB.cell (p := ⟨b, o + i * 4 + 1, none⟩) hbw]; exact c1
              have d2 : wr.cell? ⟨b, o + i * 4 + 2, none⟩ = some (.string x.v) := by rw [hB.cell (p := ⟨b, o + i * 4 + 2, none⟩) hbw]; exact c2
              have d3 : wr.cell? ⟨b, o + i * 4 + 3, none⟩ = some (.slice ax x.kids.length cx) := by rw [hB.cell (p := ⟨b, o + i * 4 + 3, none⟩) hbw]; exact c3
              have d0' : wr.cell? ⟨b', o' + i * 4, none⟩ = some (.int .i64 y.k) := by rw [hB.cell (p := ⟨b', o' + i * 4, none⟩) hbw']; exact c0'
              have d1' : wr.cell? ⟨b', o' + i * 4 + 1, none⟩ = some (.string y.t) := by rw [hB.cell (p := ⟨b', o' + i * 4 + 1, none⟩) hbw']; exact c1'
              have d2' : wr.cell? ⟨b', o' + i * 4 + 2, none⟩ = some (.string y.v) := by rw [hB.cell (p := ⟨b', o' + i * 4 + 2, none⟩) hbw']; exact c2'
              have d3' : wr.cell? ⟨b', o' + i * 4 + 3, none⟩ = some (.slice ay y.kids.length cy) := by rw [hB.cell (p := ⟨b', o' + i * 4 + 3, none⟩) hbw']; exact c3'
              have HNX := Lib.hid (show NdV wr.drew S (ndV x (.slice ax x.kids.length cx)) x from .mk ((hsx.below hB).below (Below.refl _ _).drew))
              have HNY := Lib.hid (show NdV wr.drew S' (ndV y (.slice ay y.kids.length cy)) y from .mk ((hsy.below hB).below (Below.refl _ _).drew))
              have HD := Lib.hid (show ∀ w' : World, Below wr.heap.size wr.drew w' → (w'.cell? ⟨w.heap.size, 3, none⟩ = some (.slice (some ⟨b, o, none⟩) ks.length cap) ∧ w'.cell? ⟨w.heap.size + 1, 3, none⟩ = some (.slice (some ⟨b', o', none⟩) ks'.length cap') ∧
                  (w'.cell? ⟨b, o + i * 4, none⟩ = some (.int .i64 x.k) ∧ w'.cell? ⟨b, o + i * 4 + 1, none⟩ = some (.string x.t) ∧ w'.cell? ⟨b, o + i * 4 + 2, none⟩ = some (.string x.v) ∧ w'.cell? ⟨b, o + i * 4 + 3, none⟩ = some (.slice ax x.kids.length cx)) ∧
                  w'.cell? ⟨b', o' + i * 4, none⟩ = some (.int .i64 y.k) ∧ w'.cell? ⟨b', o' + i * 4 + 1, none⟩ = some (.string y.t) ∧ w'.cell? ⟨b', o' + i * 4 + 2, none⟩ = some (.string y.v) ∧ w'.cell? ⟨b', o' + i * 4 + 3, none⟩ = some (.slice ay y.kids.length cy)) from fun w' hb => by
                have e1 : ∀ (q j : Nat) (u : Value), q < wr.heap.size → wr.cell? ⟨q, j, none⟩ = some u → w'.cell? ⟨q, j, none⟩ = some u := fun q j u hq hc => by rw [hb.cell (p := ⟨q, j, none⟩) hq]; exact hc
                exact ⟨e1 _ _ _ hbl hc3, e1 _ _ _ hbl' hc3', ⟨e1 _ _ _ hbr d0, e1 _ _ _ hbr d1, e1 _ _ _ hbr d2, e1 _ _ _ hbr d3⟩, e1 _ _ _ hbr' d0', e1 _ _ _ hbr' d1', e1 _ _ _ hbr' d2', e1 _ _ _ hbr' d3'⟩)
              have hi0 : (0 : Int) ≤ (i : Int) := Int.natCast_nonneg _
              have hi1 : (i : Int) < (ks.length : Int) := by omega
              have hi2 : (i : Int) < (ks'.length : Int) := by omega
              clear c0 c1 c2 c3 c0' c1' c2' c3' hsx hsy hx hy hX
              go_wp2_with fail
              go_region_held3? (fun w' => w'.cell? ⟨w.heap.size, 3, none⟩ = some (.slice (some ⟨b, o, none⟩) ks.length cap) ∧ w'.cell? ⟨w.heap.size + 1, 3, none⟩ = some (.slice (some ⟨b', o', none⟩) ks'.length cap') ∧
                  (w'.cell? ⟨b, o + i * 4, none⟩ = some (.int .i64 x.k) ∧ w'.cell? ⟨b, o + i * 4 + 1, none⟩ = some (.string x.t) ∧ w'.cell? ⟨b, o + i * 4 + 2, none⟩ = some (.string x.v) ∧ w'.cell? ⟨b, o + i * 4 + 3, none⟩ = some (.slice ax x.kids.length cx)) ∧
                  w'.cell? ⟨b', o' + i * 4, none⟩ = some (.int .i64 y.k) ∧ w'.cell? ⟨b', o' + i * 4 + 1, none⟩ = some (.string y.t) ∧ w'.cell? ⟨b', o' + i * 4 + 2, none⟩ = some (.string y.v) ∧ w'.cell? ⟨b', o' + i * 4 + 3, none⟩ = some (.slice ay y.kids.length cy)) (first | exact HD.out _ (Below.refl _ _) | exact HD.out _ hbq | go_keep) ((go_at_call 14; refine (HX.out wr.drew S S' _ _ y HNX.out HNY.out).mono ?_; rintro e w2 ⟨r, rfl, hr, hbq⟩))
              all_goals
                have HB3 := Lib.hid (HB.out.trans (((Below.refl _ wr).drew.trans (hbq.mono (Nat.le_refl _))).mono HZ.out))
                have HR := Lib.hid hr
                clear hbq hr
                cases r
                · have HN := Lib.hid (HNE.out (fun e => by have := HR.out.2 e; simp at this))
                  go_wp2_with fail
                  go_ret
                  exact ⟨false, rfl, ⟨fun h => (by cases h), fun h => absurd (nd_ext.1 h).2.2.2 HN.out⟩, (two_boxes HB3.out).2.2⟩
                · have HT2 := Lib.hid (HST.out (HR.out.1 rfl))
                  go_wp2_with fail
                  go_roundw
                  case rel => exact ⟨i + 1, by omega, by go_num, HT2.out, HB3.out⟩
                  case measure => simp [intOf]; omega
            · obtain rfl : i = ks.length := by omega
              have HE := Lib.hid (show ks = ks' by have := HT.out; have hl := HL.out; rw [List.take_length, hl, List.take_length] at this; exact this)
              clear hlt
              go_wp2_with fail
              go_ret
              exact ⟨true, rfl, ⟨fun _ => nd_ext.2 ⟨rfl, rfl, rfl, HE.out⟩, fun _ => rfl⟩, hB⟩
        · have HN := Lib.hid (show ¬ Nd.mk k t v ks = Nd.mk k t v ks' from fun e => hlen (by rw [(nd_ext.1 e).2.2.2]))
          have hll : decide (ks.length = ks'.length) = false := decide_eq_false hlen
          have hlb : (((ks.length : Nat) : Int) == ((ks'.length : Nat) : Int)) = false := by simp; omega
          have hlc : (((ks.length : Nat) : Int) != ((ks'.length : Nat) : Int)) = true := by simp; omega
          go_enter Tryz.func14, Tryz.ntmps14
          go_wp2_with fail
          go_ret
          exact ⟨false, rfl, ⟨fun h => (by cases h), fun h => absurd h HN.out⟩, HB2.out⟩
      · subst hk; subst ht
        have HN := Lib.hid (show ¬ Nd.mk k t v ks = Nd.mk k t v' ks' from fun e => hv (nd_ext.1 e).2.2.1)
        have hv2 : (v.toList == v'.toList) = false := by rw [beq_eq_false_iff_ne]; exact fun e => hv (toL_inj e)
        have hv3 : (v.toList != v'.toList) = true := by simp [bne, hv2]
        go_enter Tryz.func14, Tryz.ntmps14
        go_wp2_with fail
        go_ret
        exact ⟨false, rfl, ⟨fun h => (by cases h), fun h => absurd h HN.out⟩, HB2.out⟩
    · subst hk
      have HN := Lib.hid (show ¬ Nd.mk k t v ks = Nd.mk k t' v' ks' from fun e => ht (nd_ext.1 e).2.1)
      have hv2 : (t.toList == t'.toList) = false := by rw [beq_eq_false_iff_ne]; exact fun e => ht (toL_inj e)
      have hv3 : (t.toList != t'.toList) = true := by simp [bne, hv2]
      go_enter Tryz.func14, Tryz.ntmps14
      go_wp2_with fail
      go_ret
      exact ⟨false, rfl, ⟨fun h => (by cases h), fun h => absurd h HN.out⟩, HB2.out⟩
  · have HN := Lib.hid (show ¬ Nd.mk k t v ks = Nd.mk k' t' v' ks' from fun e => hk (nd_ext.1 e).1)
    have hv1 : (k == k') = false := by simpa using hk
    have hv2 : decide (k = k') = false := decide_eq_false hk
    have hv3 : (k != k') = true := by simpa using hk
    go_enter Tryz.func14, Tryz.ntmps14
    go_wp2_with fail
    go_ret
    exact ⟨false, rfl, ⟨fun h => (by cases h), fun h => absurd h HN.out⟩, HB2.out⟩
end Go.Proofs.YtaolnpiemeaabaaGreatDoor

/- Rows of nodes of the call's own. -/
namespace Go.Proofs.YtaolnpiemeaabaaGreatDoor
open Go.RowKit Ev5
set_option linter.unusedSimpArgs false
set_option linter.unusedVariables false

/-- A node's cells, its kids' slice u. -/
def ndL (n : Nd) (u : Value) : List Value := [.int .i64 n.k, .string n.t, .string n.v, u]
def ndRow (ps : List (Nd × Value)) : List Value := ps.flatMap fun p => ndL p.1 p.2
theorem ndRow_len (l : List (Nd × Value)) : (ndRow l).length = l.length * 4 := by
  induction l with
  | nil => rfl
  | cons x r ih => simp [ndRow, ndL] at ih ⊢; omega
theorem ndRow_snoc (l : List (Nd × Value)) (x : Nd) (u : Value) : ndRow (l ++ [(x, u)]) = ndRow l ++ ndL x u := by simp [ndRow]
theorem ndRow_at : ∀ (l : List (Nd × Value)) (i : Nat) (h : i < l.length) (j : Nat) (hj : j < 4), (ndRow l)[i * 4 + j]? = (ndL l[i].1 l[i].2)[j]?
  | x :: r, 0, _, j, hj => by
    simp only [ndRow, List.flatMap_cons, Nat.zero_mul, Nat.zero_add, List.getElem_cons_zero]
    rw [List.getElem?_append_left (by simp [ndL]; omega)]
  | x :: r, i + 1, h, j, hj => by
    have ih := ndRow_at r i (by simpa using h) j hj
    simp only [ndRow, List.flatMap_cons, List.getElem_cons_succ] at ih ⊢
    rw [List.getElem?_append_right (by simp [ndL]; omega), show (i + 1) * 4 + j - (ndL x.1 x.2).length = i * 4 + j by simp [ndL]; omega]
    exact ih
  | [], i, h, _, _ => by simp at h
theorem nd_one {x : Nd} {a : Option Addr} {n c : Nat} : ∀ u ∈ ndL x (.slice a n c), u.oneCell' = true := by
  intro u hu
  simp [ndL] at hu
  rcases hu with rfl | rfl | rfl | rfl <;> rfl
theorem infoN : (Tryz.prog.info? 24).map (fun i => (i.zero, i.size, i.bytes)) = some (some (.agg #[.int .i64 0, .string ⟨#[]⟩, .string ⟨#[]⟩, .slice none 0 0]), 4, 64) := by kernel_rfl

/-- A row of nodes of the call's own: the nodes ps (each with its kids' slice), in v; their kids' rows lie beyond base too, in other blocks than the row. -/
structure OwnK (w : World) (base : Nat) (v : Value) (ps : List (Nd × Value)) : Prop where
  row : w.ownsRow base 24 4 v ps.length (ndRow ps)
  kids : ∀ p ∈ ps, SlIn w (fun b => base ≤ b ∧ v.ownBlock ≠ some b) p.2 p.1.kids
theorem OwnK.nil (w : World) (base : Nat) : OwnK w base (.slice none 0 0) [] := ⟨World.ownsRow_nil _ _ _ _, fun p hp => by cases hp⟩
theorem OwnK.shape {w : World} {base : Nat} {v : Value} {ps : List (Nd × Value)} (h : OwnK w base v ps) : ∃ a cap, v = .slice a ps.length cap := by
  rcases h.row.2 with ⟨rfl, h0⟩ | ⟨g, cap, cur, rfl, _⟩
  · exact ⟨none, 0, by rw [h0]⟩
  · exact ⟨_, _, rfl⟩
theorem OwnK.slIn {w : World} {base : Nat} {v : Value} {ps : List (Nd × Value)} (h : OwnK w base v ps) : SlIn w (fun b => base ≤ b) v (ps.map (·.1)) := by
  rcases h.row.2 with ⟨rfl, h0⟩ | ⟨g, cap, cur, rfl, hb, hg, hc, hm, hs, ht⟩
  · obtain rfl : ps = [] := List.eq_nil_of_length_eq_zero h0
    exact ⟨none, 0, rfl, Nat.le_refl _, by decide, .inl rfl⟩
  · refine ⟨some ⟨g, 0, none⟩, cap, by rw [List.length_map], by rw [List.length_map]; exact hc, hm, .inr ⟨g, 0, rfl, hb, lt_blk hg, ?_⟩⟩
    rw [kidsIn_iff]
    intro i hi
    have hi' : i < ps.length := by rw [List.length_map] at hi; exact hi
    have add : ∀ q : Nat, (⟨g, 0, none⟩ : Addr).add q = ⟨g, 0 + q, none⟩ := by
      intro q; unfold Addr.add; split
      · subst_vars; rfl
      · rfl
    have c : ∀ j u, j < 4 → (ndL ps[i].1 ps[i].2)[j]? = some u → w.cell? ⟨g, 0 + (i * 4 + j), none⟩ = some u := by
      intro j u hj hu
      have := h.row.cells (g := g) (by simp [Value.ownBlock]) (i * 4 + j) u (by rw [ndRow_at ps i hi' j hj]; exact hu)
      rwa [add] at this
    rw [ndAt_iff, List.getElem_map]
    refine ⟨?_, ?_, ?_, ps[i].2, ?_, ?_⟩
    · simpa using c 0 _ (by omega) rfl
    · simpa [Nat.add_assoc] using c 1 _ (by omega) rfl
    · simpa [Nat.add_assoc] using c 2 _ (by omega) rfl
    · simpa [Nat.add_assoc] using c 3 _ (by omega) rfl
    · exact (h.kids ps[i] (List.getElem_mem hi')).alike ⟨Nat.le_refl _, fun _ _ _ => rfl⟩ fun b hb _ => hb.1
theorem OwnK.below {w w' : World} {base : Nat} {v : Value} {ps : List (Nd × Value)} (h : OwnK w base v ps) (hb : Below w.heap.size w w') : OwnK w' base v ps := by
  refine ⟨h.row.kept (row := none) ⟨hb.os, hb.tape, hb.output, hb.size, fun k hk _ => hb.block k hk⟩ (by cases hv : v.ownBlock <;> simp), fun p hp => (h.kids p hp).below hb⟩
/-- A block that is none of the row's is turned. -/
theorem OwnK.other {w w' : World} {base B : Nat} {v : Value} {ps : List (Nd × Value)} (h : OwnK w base v ps) (hg : w.grownBy w' (some B)) (hB : B < base) : OwnK w' base v ps := by
  refine ⟨h.row.kept hg ?_, fun p hp => (h.kids p hp).alike ⟨hg.size, fun b hb hl => hg.block b hl (fun e => by injection e with e; have := hb.1; omega)⟩ fun _ h _ => h⟩
  rcases h.row.2 with ⟨rfl, _⟩ | ⟨g, cap, cur, rfl, hb, _⟩
  · exact .inl rfl
  · exact .inr (by simp [Value.ownBlock]; omega)
/-- A node is appended. -/
theorem OwnK.snoc {w w' : World} {base : Nat} {v : Value} {ps : List (Nd × Value)} {g cap : Nat} {x : Nd} {u : Value} (h : OwnK w base v ps) (hx : SlIn w (fun b => base ≤ b ∧ v.ownBlock ≠ some b) u x.kids)
    (hown : w'.ownsRow base 24 4 (.slice (some ⟨g, 0, none⟩) (ps.length + 1) cap) (ps.length + 1) (ndRow ps ++ ndL x u)) (hg : w.grownBy w' v.ownBlock) (hat : v.ownBlock = some g ∨ w.heap.size ≤ g) :
    OwnK w' base (.slice (some ⟨g, 0, none⟩) (ps.length + 1) cap) (ps ++ [(x, u)]) := by
  have al : ∀ (u : Value) (ks : List Nd), SlIn w (fun b => base ≤ b ∧ v.ownBlock ≠ some b) u ks → SlIn w' (fun b => base ≤ b ∧ (Value.slice (some ⟨g, 0, none⟩) (ps.length + 1) cap).ownBlock ≠ some b) u ks := by
    intro u ks hs
    refine hs.alike ⟨hg.size, fun b hb hl => hg.block b hl (fun e => hb.2 e.symm)⟩ fun b hb hl => ⟨hb.1, ?_⟩
    simp only [Value.ownBlock, ne_eq, Option.some.injEq]
    rcases hat with e | e
    · intro e2; subst e2; exact hb.2 e
    · omega
  refine ⟨by rw [ndRow_snoc, List.length_append]; exact hown, fun p hp => ?_⟩
  rcases List.mem_append.1 hp with hp | hp
  · exact al _ _ (h.kids p hp)
  · simp at hp; subst hp; exact al _ _ hx
/-- What is new lies apart from the row. -/
theorem OwnK.apart {w w' : World} {base : Nat} {v u : Value} {ps : List (Nd × Value)} {ks : List Nd} (h : OwnK w base v ps) (hbw : base ≤ w.heap.size) (hs : SlIn w' (fun b => w.heap.size ≤ b) u ks) : SlIn w' (fun b => base ≤ b ∧ v.ownBlock ≠ some b) u ks := by
  refine hs.alike ⟨Nat.le_refl _, fun _ _ _ => rfl⟩ fun b hb _ => ⟨by omega, ?_⟩
  rcases h.row.2 with ⟨rfl, _⟩ | ⟨g, cap, cur, rfl, _, hg, _⟩
  · simp [Value.ownBlock]
  · simp only [Value.ownBlock, ne_eq, Option.some.injEq]
    have := lt_blk hg
    omega
end Go.Proofs.YtaolnpiemeaabaaGreatDoor
