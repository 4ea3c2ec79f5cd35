/- Plain Lean: the reference's answer to an event, looked at from the beginning, is the state machine's. -/
import Derived.Test.YtaolnpiemeaabaaGreatDoorEvB
namespace Go.Proofs.YtaolnpiemeaabaaGreatDoor.Ev5
set_option linter.unusedSimpArgs false
set_option linter.unusedVariables false

/-- The events that stand in a thing (at depth 0), out of what comes behind its opening. -/
def ownE : Int → List Ev → List Ev
  | _, [] => []
  | d, x :: r => if ends x.kind = true then ownE (d - 1) r else (if d = 0 then [x] else []) ++ ownE (if opens x.kind = true then d + 1 else d) r
/-- How deep one is behind them. -/
def depE : Int → List Ev → Int
  | d, [] => d
  | d, x :: r => depE (if ends x.kind = true then d - 1 else if opens x.kind = true then d + 1 else d) r
theorem depE_snoc : ∀ (l : List Ev) (d : Int) (x : Ev), depE d (l ++ [x]) = (if ends x.kind = true then depE d l - 1 else if opens x.kind = true then depE d l + 1 else depE d l)
  | [], d, x => rfl
  | y :: r, d, x => by simp only [List.cons_append, depE]; exact depE_snoc r _ x
theorem ownE_snoc : ∀ (l : List Ev) (d : Int) (x : Ev), ownE d (l ++ [x]) = ownE d l ++ (if ends x.kind = true then [] else if depE d l = 0 then [x] else [])
  | [], d, x => by
    simp only [List.nil_append, ownE, depE, List.append_nil]
    rfl
  | y :: r, d, x => by
    simp only [List.cons_append, ownE, depE]
    split
    · exact ownE_snoc r _ x
    · rw [ownE_snoc r, List.append_assoc]

def lastK (o : List Ev) : Int := match o.getLast? with | some e => e.kind | none => 0
theorem lastK_snoc (o : List Ev) (x : Ev) : lastK (o ++ [x]) = x.kind := by simp [lastK]
def namesOf (k : Int) (o : List Ev) : List (List UInt8) := (o.filter fun e => decide (e.kind = k)).map (·.text)
theorem namesOf_snoc (k : Int) (o : List Ev) (x : Ev) : namesOf k (o ++ [x]) = namesOf k o ++ (if x.kind = k then [x.text] else []) := by
  unfold namesOf
  rw [List.filter_append, List.map_append]
  congr 1
  by_cases h : x.kind = k <;> simp [h]

def isVal (k : Int) : Bool := opens k || decide (k = 1 ∨ k = 2 ∨ k = 3 ∨ k = 4)
def fitsP (at_ last : Int) (x : Ev) : Bool :=
  if at_ = 5 then isVal x.kind || decide (x.kind = 6)
  else if at_ = 7 then (if last = 8 then isVal x.kind else decide (x.kind = 8 ∨ x.kind = 9))
  else if at_ = 10 then decide (x.kind = 10 ∨ x.kind = 12 ∨ (x.kind = 4 ∧ x.text ≠ [] ∧ last ≠ 4) ∨ (x.kind = 11 ∧ (last = 0 ∨ last = 11)))
  else false
/-- The reference's Step. -/
def refStepP (right : Ev → Bool) (had : List Ev) (x : Ev) : Int :=
  if right x = false then 19
  else match stackP had with
    | [] => if isVal x.kind = true ∧ had = [] then 0 else 19
    | i :: r =>
      if fitsP (kindAt had i) (lastK (ownE 0 (had.drop (i + 1)))) x = false then 19
      else if opens x.kind = true ∧ 6 ≤ r.length + 1 then 5
      else if x.kind = 8 ∨ x.kind = 11 then
        (if (namesOf x.kind (ownE 0 (had.drop (i + 1)))).contains x.text = true then 6 else if 10 ≤ (namesOf x.kind (ownE 0 (had.drop (i + 1)))).length then 7 else 0)
      else 0

/-- What an open thing knows of what stands in it. -/
structure Rel (o : Op) (own : List Ev) : Prop where
  key : o.key = decide (lastK own = 8)
  text : o.kind = 10 → o.text = decide (lastK own = 4)
  full : o.kind = 10 → o.full = decide (lastK own ≠ 0 ∧ lastK own ≠ 11)
  map : o.kind = 7 → o.had = namesOf 8 own
  elem : o.kind = 10 → o.had = namesOf 11 own
  kk : o.key = true → o.kind = 7

/-- Each open thing (the innermost ahead, under it j more) and its place. -/
def Knows (had : List Ev) : Int → List Op → List Nat → Prop
  | _, [], [] => True
  | j, o :: r, i :: s => i < had.length ∧ depE 0 (had.drop (i + 1)) = j ∧ Rel o (ownE 0 (had.drop (i + 1))) ∧ Knows had (j + 1) r s
  | _, _, _ => False

theorem Knows.end_ {had : List Ev} {x : Ev} (hx : ends x.kind = true) (ho : opens x.kind = false) : ∀ {ops : List Op} {s : List Nat} {j : Int}, Knows had j ops s → Knows (had ++ [x]) (j - 1) ops s
  | [], [], j, h => h
  | o :: r, i :: s, j, h => by
    obtain ⟨h1, h2, h3, h4⟩ := h
    have e : (had ++ [x]).drop (i + 1) = had.drop (i + 1) ++ [x] := by rw [List.drop_append_of_le_length (by omega)]
    refine ⟨by simp; omega, ?_, ?_, ?_⟩
    · rw [e, depE_snoc, h2, if_pos hx]
    · rw [e, ownE_snoc, if_pos hx, List.append_nil]; exact h3
    · have := Knows.end_ hx ho h4
      rw [show j + 1 - 1 = j - 1 + 1 from by omega] at this
      exact this
  | [], _ :: _, _, h => h
  | _ :: _, [], _, h => h
theorem Knows.flat {had : List Ev} {x : Ev} (hx : ends x.kind = false) (ho : opens x.kind = false) : ∀ {ops : List Op} {s : List Nat} {j : Int}, 0 < j → Knows had j ops s → Knows (had ++ [x]) j ops s
  | [], [], j, hj, h => h
  | o :: r, i :: s, j, hj, h => by
    obtain ⟨h1, h2, h3, h4⟩ := h
    have e : (had ++ [x]).drop (i + 1) = had.drop (i + 1) ++ [x] := by rw [List.drop_append_of_le_length (by omega)]
    refine ⟨by simp; omega, ?_, ?_, Knows.flat hx ho (by omega) h4⟩
    · rw [e, depE_snoc, h2, if_neg (by rw [hx]; simp), if_neg (by rw [ho]; simp)]
    · rw [e, ownE_snoc, if_neg (by rw [hx]; simp), h2, if_neg (by omega), List.append_nil]; exact h3
  | [], _ :: _, _, _, h => h
  | _ :: _, [], _, _, h => h
theorem Knows.open_ {had : List Ev} {x : Ev} (hx : ends x.kind = false) (ho : opens x.kind = true) : ∀ {ops : List Op} {s : List Nat} {j : Int}, 0 < j → Knows had j ops s → Knows (had ++ [x]) (j + 1) ops s
  | [], [], j, hj, h => h
  | o :: r, i :: s, j, hj, h => by
    obtain ⟨h1, h2, h3, h4⟩ := h
    have e : (had ++ [x]).drop (i + 1) = had.drop (i + 1) ++ [x] := by rw [List.drop_append_of_le_length (by omega)]
    refine ⟨by simp; omega, ?_, ?_, Knows.open_ hx ho (by omega) h4⟩
    · rw [e, depE_snoc, h2, if_neg (by rw [hx]; simp), if_pos ho]
    · rw [e, ownE_snoc, if_neg (by rw [hx]; simp), h2, if_neg (by omega), List.append_nil]; exact h3
  | [], _ :: _, _, _, h => h
  | _ :: _, [], _, _, h => h

theorem opens_ends {k : Int} (h : opens k = true) : ends k = false := by
  simp [opens] at h; simp [ends]; omega

/-- A value stands in the innermost thing. -/
theorem rel_stands (o : Op) (own : List Ev) (x : Ev) (h : Rel o own) (h8 : x.kind ≠ 8) (h11 : x.kind ≠ 11) (h0 : x.kind ≠ 0) : Rel { o with key := false, full := true, text := decide (x.kind = 4) } (own ++ [x]) := by
  refine ⟨?_, ?_, ?_, ?_, ?_, ?_⟩
  · rw [lastK_snoc]; simp [h8]
  · intro _; rw [lastK_snoc]
  · intro _; rw [lastK_snoc]; simp [h0, h11]
  · intro e; rw [namesOf_snoc, if_neg h8, List.append_nil]; exact h.map e
  · intro e; rw [namesOf_snoc, if_neg h11, List.append_nil]; exact h.elem e
  · intro e; simp at e

theorem knows_step (right : Ev → Bool) (st : St) (had : List Ev) (x : Ev) (h : Inv st had) (hk : Knows had 0 st.opn (stackP had)) (h0 : (stepP right st x).2 = 0) :
    Knows (had ++ [x]) 0 (stepP right st x).1.opn (stackP (had ++ [x])) := by
  unfold stepP at h0 ⊢
  split at h0
  · simp at h0
  rename_i hr
  rw [if_neg hr]
  split at h0
  · rename_i hv
    rw [if_pos hv]
    split at h0
    · rename_i hvp
      rw [if_pos hvp]
      have e1 : ends x.kind = false := by simp [ends]; omega
      have e2 : opens x.kind = false := by simp [opens]; omega
      rw [stackP_snoc, push, if_neg (by rw [e2]; simp), if_neg (by rw [e1]; simp)]
      cases ho : st.opn with
      | nil => rw [ho] at hk; cases hs : stackP had with
        | nil => simp [standsP, ho, Knows]
        | cons i s => rw [hs] at hk; exact hk.elim
      | cons o r => rw [ho] at hk; cases hs : stackP had with
        | nil => rw [hs] at hk; exact hk.elim
        | cons i s =>
          rw [hs] at hk
          obtain ⟨k1, k2, k3, k4⟩ := hk
          have e : (had ++ [x]).drop (i + 1) = had.drop (i + 1) ++ [x] := by rw [List.drop_append_of_le_length (by omega)]
          simp only [standsP, ho]
          refine ⟨by simp; omega, ?_, ?_, Knows.flat e1 e2 (by omega) k4⟩
          · rw [e, depE_snoc, k2, if_neg (by rw [e1]; simp), if_neg (by rw [e2]; simp)]
          · rw [e, ownE_snoc, k2, if_neg (by rw [e1]; simp), if_pos rfl]
            exact rel_stands o _ x k3 (by omega) (by omega) (by omega)
    · simp at h0
  rename_i hv
  rw [if_neg hv]
  split at h0
  · rename_i ho5
    rw [if_pos ho5]
    split at h0
    · simp at h0
    rename_i hvp
    rw [if_neg hvp]
    split at h0
    · simp at h0
    rename_i h6
    rw [if_neg h6]
    have e2 : opens x.kind = true := by simpa [opens] using ho5
    have e1 := opens_ends e2
    rw [stackP_snoc, push, if_pos e2]
    have hnew : Rel ⟨x.kind, false, false, false, []⟩ (ownE 0 ((had ++ [x]).drop (had.length + 1))) := by
      rw [show (had ++ [x]).drop (had.length + 1) = [] by simp]
      refine ⟨by simp [ownE, lastK], fun _ => by simp [ownE, lastK], fun _ => by simp [ownE, lastK], fun _ => by simp [ownE, namesOf], fun _ => by simp [ownE, namesOf], fun e => by simp at e⟩
    refine ⟨by simp, by rw [show (had ++ [x]).drop (had.length + 1) = [] by simp]; rfl, hnew, ?_⟩
    cases ho : st.opn with
    | nil => rw [ho] at hk; cases hs : stackP had with
      | nil => simp [standsP, ho, Knows]
      | cons i s => rw [hs] at hk; exact hk.elim
    | cons o r => rw [ho] at hk; cases hs : stackP had with
      | nil => rw [hs] at hk; exact hk.elim
      | cons i s =>
        rw [hs] at hk
        obtain ⟨k1, k2, k3, k4⟩ := hk
        have e : (had ++ [x]).drop (i + 1) = had.drop (i + 1) ++ [x] := by rw [List.drop_append_of_le_length (by omega)]
        simp only [standsP, ho]
        refine ⟨by simp; omega, ?_, ?_, Knows.open_ e1 e2 (by omega) k4⟩
        · rw [e, depE_snoc, k2, if_neg (by rw [e1]; simp), if_pos e2]
        · rw [e, ownE_snoc, k2, if_neg (by rw [e1]; simp), if_pos rfl]
          exact rel_stands o _ x k3 (by omega) (by omega) (by omega)
  rename_i ho5
  rw [if_neg ho5]
  have e2 : opens x.kind = false := by simp [opens]; omega
  cases ho : st.opn with
  | nil => rw [ho] at h0; simp at h0
  | cons l r =>
    rw [ho] at h0 hk
    simp only [] at h0 ⊢
    have hlk := h.okk l (by rw [ho]; simp)
    cases hs : stackP had with
    | nil => rw [hs] at hk; exact hk.elim
    | cons i s =>
      rw [hs] at hk
      obtain ⟨k1, k2, k3, k4⟩ := hk
      have e : (had ++ [x]).drop (i + 1) = had.drop (i + 1) ++ [x] := by rw [List.drop_append_of_le_length (by omega)]
      have fin : ∀ k : Int, x.kind = k → (k = 8 ∧ l.kind = 7 ∨ k = 11 ∧ l.kind = 10 ∧ l.full = false) → (namedP l x).2 = 0 → Knows (had ++ [x]) 0 ((namedP l x).1 :: r) (stackP (had ++ [x])) := by
        intro k hk hc hn
        subst hk
        have e1 : ends x.kind = false := by simp [ends]; omega
        rw [stackP_snoc, push, if_neg (by rw [e2]; simp), if_neg (by rw [e1]; simp), hs]
        unfold namedP at hn ⊢
        split at hn
        · simp at hn
        rename_i n1; rw [if_neg n1]
        split at hn
        · simp at hn
        rename_i n2; rw [if_neg n2]
        refine ⟨by simp; omega, ?_, ?_, Knows.flat e1 e2 (by omega) k4⟩
        · rw [e, depE_snoc, k2, if_neg (by rw [e1]; simp), if_neg (by rw [e2]; simp)]
        · rw [e, ownE_snoc, k2, if_neg (by rw [e1]; simp), if_pos rfl]
          rcases hc with ⟨c1, c2⟩ | ⟨c1, c2, c3⟩
          · refine ⟨by rw [lastK_snoc], fun e => by simp at e; omega, fun e => by simp at e; omega, fun _ => ?_, fun e => by simp at e; omega, fun _ => c2⟩
            · rw [namesOf_snoc, if_pos c1]; simp only []; rw [k3.map c2]
          · refine ⟨by rw [lastK_snoc], fun _ => ?_, fun _ => ?_, fun e => by simp at e; omega, fun _ => ?_, fun e => by simp at e; omega⟩
            · rw [lastK_snoc]; simp only []; rw [k3.text c2]
              have := k3.full c2
              rw [c3] at this
              have : lastK (ownE 0 (had.drop (i + 1))) ≠ 4 := by
                intro e4; rw [e4] at this; simp at this
              simp [this, c1]
            · rw [lastK_snoc]; simp [c3, c1]
            · rw [namesOf_snoc, if_pos c1]; simp only []; rw [k3.elem c2]
      split at h0
      · rename_i hk8
        rw [if_pos hk8]
        split at h0
        · simp at h0
        · rename_i hc
          rw [if_neg hc]
          exact fin _ hk8 (.inl ⟨rfl, by rcases Classical.em (l.kind = 7) with e | e; exact e; exact absurd (.inl e) hc⟩) h0
      rename_i hk8
      rw [if_neg hk8]
      split at h0
      · rename_i hk11
        rw [if_pos hk11]
        split at h0
        · simp at h0
        · rename_i hc
          rw [if_neg hc]
          exact fin _ hk11 (.inr ⟨rfl, by rcases Classical.em (l.kind = 10) with e | e; exact e; exact absurd (.inl e) hc, by cases e : l.full with | false => rfl | true => exact absurd (.inr e) hc⟩) h0
      rename_i hk11
      rw [if_neg hk11]
      split at h0
      · simp at h0
      rename_i hc
      rw [if_neg hc]
      have hek : l.kind = endOf x.kind := by
        rcases Classical.em (l.kind = endOf x.kind) with e | e
        · exact e
        · exact absurd (.inl e) hc
      have hend : ends x.kind = true := by
        simp [opens] at hlk
        unfold endOf at hek
        simp [ends]
        split at hek
        · exact .inl ‹_›
        · split at hek
          · exact .inr (.inl ‹_›)
          · split at hek
            · exact .inr (.inr ‹_›)
            · omega
      rw [stackP_snoc, push, if_neg (by rw [e2]; simp), if_pos hend, hs]
      have := Knows.end_ (x := x) hend e2 k4
      exact this

theorem knows_len {had : List Ev} : ∀ {ops : List Op} {s : List Nat} {j : Int}, Knows had j ops s → ops.length = s.length
  | [], [], _, _ => rfl
  | o :: r, i :: s, j, h => by have := knows_len h.2.2.2; simp [this]
  | [], _ :: _, _, h => h.elim
  | _ :: _, [], _, h => h.elim

theorem fits_val (l : Op) (r : List Op) (ov : Bool) (own : List Ev) (x : Ev) (hl : l.kind = 5 ∨ l.kind = 7 ∨ l.kind = 10) (h : Rel l own) (hv : isVal x.kind = true) : fitsP l.kind (lastK own) x = valueP ⟨l :: r, ov⟩ x := by
  have hv' : x.kind = 5 ∨ x.kind = 7 ∨ x.kind = 10 ∨ x.kind = 1 ∨ x.kind = 2 ∨ x.kind = 3 ∨ x.kind = 4 := by simp [isVal, opens] at hv; omega
  unfold fitsP valueP
  simp only []
  rcases hl with e | e | e
  · simp [e, hv]
  · rw [e, if_neg (by decide), if_pos rfl, if_pos rfl, h.key]
    by_cases e8 : lastK own = 8
    · rw [if_pos e8, hv]; simp [e8]
    · rw [if_neg e8]; simp [e8]; omega
  · rw [e, if_neg (by decide), if_neg (by decide), if_pos rfl, if_neg (by decide), if_pos rfl, h.text e]
    rw [Bool.eq_iff_iff]
    simp
    constructor
    · rintro (g | g | ⟨g1, g2, g3⟩ | ⟨g, _⟩)
      · exact .inl g
      · omega
      · exact .inr ⟨⟨g1, g2⟩, g3⟩
      · omega
    · rintro (g | ⟨⟨g1, g2⟩, g3⟩)
      · exact .inl g
      · exact .inr (.inr (.inl ⟨g1, g2, g3⟩))
theorem fits_key (l : Op) (own : List Ev) (x : Ev) (hl : l.kind = 5 ∨ l.kind = 7 ∨ l.kind = 10) (h : Rel l own) (h8 : x.kind = 8) : fitsP l.kind (lastK own) x = false ↔ (l.kind ≠ 7 ∨ l.key = true) := by
  unfold fitsP
  rcases hl with e | e | e
  · rw [e, if_pos rfl, h8]; simp; decide
  · rw [e, if_neg (by decide), if_pos rfl, h.key, h8]
    by_cases e8 : lastK own = 8
    · rw [if_pos e8]; simp [e8]; decide
    · rw [if_neg e8]; simp [e8]
  · rw [e, if_neg (by decide), if_neg (by decide), if_pos rfl, h8]; simp
theorem fits_attr (l : Op) (own : List Ev) (x : Ev) (hl : l.kind = 5 ∨ l.kind = 7 ∨ l.kind = 10) (h : Rel l own) (h8 : x.kind = 11) : fitsP l.kind (lastK own) x = false ↔ (l.kind ≠ 10 ∨ l.full = true) := by
  unfold fitsP
  rcases hl with e | e | e
  · rw [e, if_pos rfl, h8]; simp; decide
  · rw [e, if_neg (by decide), if_pos rfl, h8]
    by_cases e8 : lastK own = 8
    · rw [if_pos e8]; simp; decide
    · rw [if_neg e8]; simp
  · rw [e, if_neg (by decide), if_neg (by decide), if_pos rfl, h8, h.full e]; simp
theorem fits_end (l : Op) (own : List Ev) (x : Ev) (hl : l.kind = 5 ∨ l.kind = 7 ∨ l.kind = 10) (h : Rel l own) (h1 : isVal x.kind = false) (h8 : x.kind ≠ 8) (h11 : x.kind ≠ 11) : fitsP l.kind (lastK own) x = false ↔ (l.kind ≠ endOf x.kind ∨ l.key = true) := by
  unfold fitsP endOf
  have kk := h.kk
  rcases hl with e | e | e
  · rw [e, if_pos rfl, h1]
    have : l.key = false := by cases hh : l.key with | false => rfl | true => have := kk hh; omega
    rw [this]
    by_cases e6 : x.kind = 6
    · rw [if_pos e6]; simp [e6]
    · rw [if_neg e6]; simp [e6]; split <;> (try split) <;> simp
  · rw [e, if_neg (by decide), if_pos rfl, h.key]
    by_cases e8 : lastK own = 8
    · rw [if_pos e8, h1]; simp [e8]
    · rw [if_neg e8]; simp only [e8, decide_false, Bool.false_eq_true, or_false]
      by_cases e9 : x.kind = 9
      · simp [e9]
      · simp [e9, h8]; split <;> (try split) <;> simp
  · rw [e, if_neg (by decide), if_neg (by decide), if_pos rfl]
    have : l.key = false := by cases hh : l.key with | false => rfl | true => have := kk hh; omega
    rw [this]
    simp [isVal, opens] at h1
    by_cases e12 : x.kind = 12
    · simp [e12]
    · simp [e12, h11]
      have : ¬ x.kind = 10 := by omega
      have : ¬ x.kind = 4 := by omega
      simp [*]
      split <;> (try split) <;> simp

/-- The reference's answer is the machine's. -/
theorem ref_step (right : Ev → Bool) (st : St) (had : List Ev) (x : Ev) (h : Inv st had) (hk : Knows had 0 st.opn (stackP had)) : refStepP right had x = (stepP right st x).2 := by
  unfold refStepP stepP
  by_cases hr : right x = false
  · rw [if_pos hr, if_pos hr]
  rw [if_neg hr, if_neg hr]
  have hlen := knows_len hk
  cases ho : st.opn with
  | nil =>
    rw [ho] at hk
    cases hs : stackP had with
    | cons i s => rw [hs] at hk; exact hk.elim
    | nil =>
      have hov : st.over = true ↔ ¬ had = [] := by
        constructor
        · intro e hn; have := h.new hn; rw [this] at e; simp [St.new] at e
        · exact h.over
      simp only []
      by_cases hn : had = []
      · have ov : st.over = false := by cases e : st.over with | false => rfl | true => exact absurd hn (hov.1 e)
        simp only [valueP, ho, ov]
        by_cases hv : isVal x.kind = true
        · rw [if_pos ⟨hv, hn⟩]
          split
          · simp
          · split
            · simp
            · simp [isVal, opens] at hv; omega
        · rw [if_neg (fun e => hv e.1)]
          simp [isVal, opens] at hv
          rw [if_neg (by omega), if_neg (by omega)]
      · have ov := hov.2 hn
        rw [if_neg (fun e => hn e.2)]
        simp only [valueP, ho, ov]
        split
        · simp
        · split
          · simp
          · rfl
  | cons l r =>
    rw [ho] at hk hlen
    cases hs : stackP had with
    | nil => rw [hs] at hk; exact hk.elim
    | cons i s =>
      rw [hs] at hk hlen
      obtain ⟨k1, k2, k3, k4⟩ := hk
      have hlk := h.okk l (by rw [ho]; simp)
      have hkind : kindAt had i = l.kind := by
        have := h.kinds
        rw [ho, hs] at this
        simp at this
        exact this.1.symm
      have hl6 := h.deep
      simp only []
      rw [hkind]
      generalize hown : ownE 0 (had.drop (i + 1)) = own at k3
      have hkey := k3.key
      have hss : s.length = r.length := by simpa using hlen.symm
      rw [hss]
      have hlk' : l.kind = 5 ∨ l.kind = 7 ∨ l.kind = 10 := by simpa [opens] using hlk
      have est : st = ⟨l :: r, st.over⟩ := by rw [← ho]
      by_cases hv : isVal x.kind = true
      · rw [fits_val l r st.over own x hlk' k3 hv, ← est]
        by_cases h4 : x.kind = 1 ∨ x.kind = 2 ∨ x.kind = 3 ∨ x.kind = 4
        · rw [if_pos h4, if_neg (c := opens x.kind = true ∧ 6 ≤ r.length + 1) (by simp [opens]; omega), if_neg (c := x.kind = 8 ∨ x.kind = 11) (by omega)]
          cases valueP st x <;> simp
        · have h5 : x.kind = 5 ∨ x.kind = 7 ∨ x.kind = 10 := by simp [isVal, opens] at hv; omega
          rw [if_neg h4, if_pos h5, if_neg (c := x.kind = 8 ∨ x.kind = 11) (by omega)]
          have hop : opens x.kind = true := by simpa [opens] using h5
          simp only [hop, true_and, List.length_cons]
          cases valueP st x <;> simp
          split <;> simp
      · have hv' : isVal x.kind = false := by simpa using hv
        have hv2 : ¬ (x.kind = 1 ∨ x.kind = 2 ∨ x.kind = 3 ∨ x.kind = 4) ∧ ¬ (x.kind = 5 ∨ x.kind = 7 ∨ x.kind = 10) := by simp [isVal, opens] at hv'; omega
        rw [if_neg hv2.1, if_neg hv2.2]
        rw [if_neg (c := opens x.kind = true ∧ 6 ≤ r.length + 1) (by simp [opens]; omega)]
        by_cases h8 : x.kind = 8
        · rw [if_pos h8, if_pos (c := x.kind = 8 ∨ x.kind = 11) (.inl h8)]
          by_cases hf : l.kind ≠ 7 ∨ l.key = true
          · rw [if_pos ((fits_key l own x hlk' k3 h8).2 hf), if_pos hf]
          · rw [if_neg (fun e => hf ((fits_key l own x hlk' k3 h8).1 e)), if_neg hf]
            have e7 : l.kind = 7 := by rcases Classical.em (l.kind = 7) with e | e; exact e; exact absurd (.inl e) hf
            rw [h8, ← k3.map e7]
            unfold namedP
            split <;> (try split) <;> simp
        rw [if_neg h8]
        by_cases h11 : x.kind = 11
        · rw [if_pos h11, if_pos (c := x.kind = 8 ∨ x.kind = 11) (.inr h11)]
          by_cases hf : l.kind ≠ 10 ∨ l.full = true
          · rw [if_pos ((fits_attr l own x hlk' k3 h11).2 hf), if_pos hf]
          · rw [if_neg (fun e => hf ((fits_attr l own x hlk' k3 h11).1 e)), if_neg hf]
            have e7 : l.kind = 10 := by rcases Classical.em (l.kind = 10) with e | e; exact e; exact absurd (.inl e) hf
            rw [h11, ← k3.elem e7]
            unfold namedP
            split <;> (try split) <;> simp
        rw [if_neg h11, if_neg (c := x.kind = 8 ∨ x.kind = 11) (by omega)]
        by_cases hf : l.kind ≠ endOf x.kind ∨ l.key = true
        · rw [if_pos ((fits_end l own x hlk' k3 hv' h8 h11).2 hf), if_pos hf]
        · rw [if_neg (fun e => hf ((fits_end l own x hlk' k3 hv' h8 h11).1 e)), if_neg hf]

/-- The reference's Whole. -/
def refRunP (right : Ev → Bool) : List Ev → List Ev → Option (Nat × Int)
  | _, [] => none
  | pre, x :: r => if refStepP right pre x ≠ 0 then some (pre.length, refStepP right pre x) else refRunP right (pre ++ [x]) r
def refWholeP (right : Ev → Bool) (l : List Ev) : Nat × Int :=
  match refRunP right [] l with
  | some p => p
  | none => if (stackP l).isEmpty = false ∨ l = [] then (l.length, 19) else (l.length, 0)
theorem ref_run (right : Ev → Bool) : ∀ (l pre : List Ev) (st : St), Inv st pre → Knows pre 0 st.opn (stackP pre) →
    (refRunP right pre l = none ∧ (runP right st l).2.2 = 0 ∧ Inv (runP right st l).1 (pre ++ l) ∧ Knows (pre ++ l) 0 (runP right st l).1.opn (stackP (pre ++ l))) ∨
    ((runP right st l).2.2 ≠ 0 ∧ refRunP right pre l = some (pre.length + (runP right st l).2.1, (runP right st l).2.2))
  | [], pre, st, h, hk => .inl ⟨rfl, rfl, by simpa [runP] using h, by simpa [runP] using hk⟩
  | x :: r, pre, st, h, hk => by
    have e := ref_step right st pre x h hk
    by_cases hx : (stepP right st x).2 = 0
    · have ih := ref_run right r (pre ++ [x]) (stepP right st x).1 (inv_step right st pre x h hx) (knows_step right st pre x h hk hx)
      simp only [refRunP, runP]
      rw [e, if_neg (by simpa using hx), if_pos hx]
      rw [List.append_assoc] at ih
      rcases ih with ih | ih
      · exact .inl ih
      · refine .inr ⟨ih.1, ?_⟩
        rw [ih.2]; simp; omega
    · refine .inr ?_
      simp only [refRunP, runP]
      rw [e, if_pos hx, if_neg hx]
      exact ⟨hx, rfl⟩
theorem ref_whole (right : Ev → Bool) (l : List Ev) : refWholeP right l = wholeP right l := by
  unfold refWholeP wholeP
  rcases ref_run right l [] St.new inv_new (by simp [St.new, stackP, stackFrom, Knows]) with ⟨h1, h2, h3, h4⟩ | ⟨h1, h2⟩
  · rw [h1, if_neg (c := (runP right St.new l).2.2 ≠ 0) (by rw [h2]; simp)]
    simp only [List.nil_append] at h3 h4
    have hl := knows_len h4
    simp only []
    unfold St.done
    cases l with
    | nil => simp [runP, St.new]
    | cons x r =>
      have := h3.over (by simp)
      rw [this]
      cases hs : stackP (x :: r) with
      | nil => rw [hs] at hl; simp at hl; simp [hl]
      | cons i s => rw [hs] at hl; cases ho : (runP right St.new (x :: r)).1.opn with
        | nil => rw [ho] at hl; simp at hl
        | cons o q => simp
  · rw [h2, if_pos h1]; simp
end Go.Proofs.YtaolnpiemeaabaaGreatDoor.Ev5
