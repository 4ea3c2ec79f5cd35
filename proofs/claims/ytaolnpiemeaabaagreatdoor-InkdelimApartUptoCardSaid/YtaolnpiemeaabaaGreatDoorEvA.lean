/- Plain Lean: rows of events as a state machine: what stands open, and whether all is over. -/
namespace Go.Proofs.YtaolnpiemeaabaaGreatDoor.Ev5
set_option linter.unusedSimpArgs false
set_option linter.unusedVariables false

structure Ev where
  kind : Int
  text : List UInt8
  val : List UInt8
deriving DecidableEq
/-- A List, a Map or an Elem that is open. -/
structure Op where
  kind : Int
  key : Bool
  text : Bool
  full : Bool
  had : List (List UInt8)
/-- What is open (the innermost ahead), and whether a whole value has stood. -/
structure St where
  opn : List Op
  over : Bool
def St.new : St := ⟨[], false⟩

def valueP (st : St) (x : Ev) : Bool :=
  match st.opn with
  | [] => !st.over
  | l :: _ => if l.kind = 7 then l.key else if l.kind = 10 then (decide (x.kind = 10) || (decide (x.kind = 4) && !x.text.isEmpty && !l.text)) else true
def standsP (st : St) (x : Ev) : St :=
  match st.opn with
  | [] => ⟨[], true⟩
  | l :: r => ⟨{ l with key := false, full := true, text := decide (x.kind = 4) } :: r, st.over⟩
def namedP (l : Op) (x : Ev) : Op × Int :=
  if l.had.contains x.text = true then (l, 6) else if 10 ≤ l.had.length then (l, 7) else ({ l with had := l.had ++ [x.text], key := decide (x.kind = 8) }, 0)
def endOf (k : Int) : Int := if k = 6 then 5 else if k = 9 then 7 else if k = 12 then 10 else 0

def stepP (right : Ev → Bool) (st : St) (x : Ev) : St × Int :=
  if right x = false then (st, 19)
  else if x.kind = 1 ∨ x.kind = 2 ∨ x.kind = 3 ∨ x.kind = 4 then
    if valueP st x = true then (standsP st x, 0) else (st, 19)
  else if x.kind = 5 ∨ x.kind = 7 ∨ x.kind = 10 then
    if valueP st x = false then (st, 19)
    else if 6 ≤ st.opn.length then (st, 5)
    else (⟨⟨x.kind, false, false, false, []⟩ :: (standsP st x).opn, (standsP st x).over⟩, 0)
  else match st.opn with
    | [] => (st, 19)
    | l :: r =>
      if x.kind = 8 then
        if l.kind ≠ 7 ∨ l.key = true then (st, 19) else (⟨(namedP l x).1 :: r, st.over⟩, (namedP l x).2)
      else if x.kind = 11 then
        if l.kind ≠ 10 ∨ l.full = true then (st, 19) else (⟨(namedP l x).1 :: r, st.over⟩, (namedP l x).2)
      else if l.kind ≠ endOf x.kind ∨ l.key = true then (st, 19) else (⟨r, st.over⟩, 0)

def St.done (st : St) : Bool := st.over && st.opn.isEmpty

theorem stands_len (st : St) (x : Ev) : (standsP st x).opn.length = st.opn.length := by
  unfold standsP
  cases h : st.opn with
  | nil => simp
  | cons l r => simp

theorem named_err (l : Op) (x : Ev) (h : (namedP l x).2 ≠ 0) : (namedP l x).1 = l := by
  unfold namedP at h ⊢
  split
  · rfl
  · rename_i h1; rw [if_neg h1] at h
    split
    · rfl
    · rename_i h2; rw [if_neg h2] at h; exact absurd rfl h
theorem named_code (l : Op) (x : Ev) : (namedP l x).2 = 0 ∨ (namedP l x).2 = 6 ∨ (namedP l x).2 = 7 := by
  unfold namedP
  split
  · exact .inr (.inl rfl)
  · split
    · exact .inr (.inr rfl)
    · exact .inl rfl

/-- How deep a step leads; what is refused changes nothing. -/
theorem step_depth (right : Ev → Bool) (st : St) (x : Ev) (h : st.opn.length ≤ 6) :
    (stepP right st x).1.opn.length ≤ 6 ∧ (stepP right st x).1.opn.length ≤ st.opn.length + 1 ∧ st.opn.length ≤ (stepP right st x).1.opn.length + 1 ∧
    ((stepP right st x).2 ≠ 0 → (stepP right st x).1 = st) ∧ ((stepP right st x).2 = 5 → (stepP right st x).1.opn.length = 6) := by
  have key : (stepP right st x).1 = st ∧ (stepP right st x).2 = 19 ∨ (stepP right st x).1 = st ∧ (stepP right st x).2 = 5 ∧ st.opn.length = 6 ∨
      (stepP right st x).2 = 0 ∧ ((stepP right st x).1.opn.length = st.opn.length ∨ ((stepP right st x).1.opn.length = st.opn.length + 1 ∧ st.opn.length < 6) ∨ (stepP right st x).1.opn.length + 1 = st.opn.length) ∨
      (stepP right st x).1 = st ∧ ((stepP right st x).2 = 6 ∨ (stepP right st x).2 = 7) := by
    unfold stepP
    split
    · exact .inl ⟨rfl, rfl⟩
    split
    · split
      · exact .inr (.inr (.inl ⟨rfl, .inl (stands_len st x)⟩))
      · exact .inl ⟨rfl, rfl⟩
    split
    · split
      · exact .inl ⟨rfl, rfl⟩
      split
      · exact .inr (.inl ⟨rfl, rfl, by omega⟩)
      · exact .inr (.inr (.inl ⟨rfl, .inr (.inl ⟨by simp [stands_len], by omega⟩)⟩))
    cases ho : st.opn with
    | nil => exact .inl ⟨rfl, rfl⟩
    | cons l r =>
      have est : (⟨l :: r, st.over⟩ : St) = st := by rw [← ho]
      have nm : (namedP l x).2 = 0 ∧ (⟨(namedP l x).1 :: r, st.over⟩ : St).opn.length = (l :: r).length ∨ (⟨(namedP l x).1 :: r, st.over⟩ : St) = st ∧ ((namedP l x).2 = 6 ∨ (namedP l x).2 = 7) := by
        rcases named_code l x with e | e
        · exact .inl ⟨e, by simp⟩
        · exact .inr ⟨by rw [named_err l x (by omega)]; exact est, e⟩
      simp only []
      split
      · split
        · exact .inl ⟨rfl, rfl⟩
        · rcases nm with ⟨e1, e2⟩ | ⟨e1, e2⟩
          · exact .inr (.inr (.inl ⟨e1, .inl e2⟩))
          · exact .inr (.inr (.inr ⟨e1, e2⟩))
      · split
        · split
          · exact .inl ⟨rfl, rfl⟩
          · rcases nm with ⟨e1, e2⟩ | ⟨e1, e2⟩
            · exact .inr (.inr (.inl ⟨e1, .inl e2⟩))
            · exact .inr (.inr (.inr ⟨e1, e2⟩))
        · split
          · exact .inl ⟨rfl, rfl⟩
          · exact .inr (.inr (.inl ⟨rfl, .inr (.inr (by simp))⟩))
  rcases key with ⟨e1, e2⟩ | ⟨e1, e2, e3⟩ | ⟨e1, e2⟩ | ⟨e1, e2⟩
  · rw [e1, e2]; exact ⟨h, by omega, by omega, fun _ => rfl, fun h => by simp at h⟩
  · rw [e1, e2]; exact ⟨h, by omega, by omega, fun _ => rfl, fun _ => e3⟩
  · rw [e1]; exact ⟨by omega, by omega, by omega, fun h => absurd rfl h, fun h => by simp at h⟩
  · rw [e1]; exact ⟨h, by omega, by omega, fun _ => rfl, fun h => by omega⟩

/-- Behind a whole document nothing is taken. -/
theorem done_stuck (right : Ev → Bool) (st : St) (x : Ev) (h : st.done = true) : (stepP right st x).2 ≠ 0 := by
  obtain ⟨o, v⟩ := st
  simp [St.done] at h
  obtain ⟨rfl, h2⟩ := h
  subst h2
  unfold stepP
  split
  · simp
  split
  · simp [valueP]
  split
  · simp [valueP]
  · simp

/-- A row from a state on: how many are taken, and what is told of the one that is not. -/
def runP (right : Ev → Bool) : St → List Ev → St × Nat × Int
  | st, [] => (st, 0, 0)
  | st, x :: r => if (stepP right st x).2 = 0 then ((runP right (stepP right st x).1 r).1, (runP right (stepP right st x).1 r).2.1 + 1, (runP right (stepP right st x).1 r).2.2) else (st, 0, (stepP right st x).2)
def wholeP (right : Ev → Bool) (l : List Ev) : Nat × Int :=
  if (runP right St.new l).2.2 ≠ 0 then ((runP right St.new l).2.1, (runP right St.new l).2.2)
  else if (runP right St.new l).1.done = true then (l.length, 0) else (l.length, 19)

theorem run_append (right : Ev → Bool) : ∀ (a b : List Ev) (st : St), (runP right st (a ++ b)).2.2 = 0 → (runP right st a).2.2 = 0 ∧ (runP right (runP right st a).1 b).2.2 = 0
  | [], b, st, h => ⟨rfl, h⟩
  | x :: r, b, st, h => by
    simp only [List.cons_append, runP] at h ⊢
    by_cases hx : (stepP right st x).2 = 0
    · rw [if_pos hx] at h ⊢
      exact run_append right r b _ h
    · rw [if_neg hx] at h; exact absurd h hx

/-- The first events of a document can all be taken, and are no document. -/
theorem whole_begins (right : Ev → Bool) (l : List Ev) (h : (wholeP right l).2 = 0) (cut : Nat) (hc : cut < l.length) : wholeP right (l.take cut) = (cut, 19) := by
  have hr : (runP right St.new l).2.2 = 0 := by
    unfold wholeP at h
    split at h
    · rename_i h1; exact absurd h h1
    · rename_i h1; simpa using h1
  have hs := run_append right (l.take cut) (l.drop cut) St.new (by rw [List.take_append_drop]; exact hr)
  have hl : (l.take cut).length = cut := by rw [List.length_take]; omega
  have hd : (runP right St.new (l.take cut)).1.done = false := by
    rw [Bool.eq_false_iff]
    intro hd
    cases he : l.drop cut with
    | nil => have := congrArg List.length he; rw [List.length_drop] at this; simp at this; omega
    | cons x r =>
      rw [he] at hs
      have h2 := hs.2
      simp only [runP] at h2
      rw [if_neg (done_stuck right _ x hd)] at h2
      exact done_stuck right _ x hd h2
  unfold wholeP
  rw [if_neg (by simp [hs.1]), hd, hl]
  rfl
end Go.Proofs.YtaolnpiemeaabaaGreatDoor.Ev5
