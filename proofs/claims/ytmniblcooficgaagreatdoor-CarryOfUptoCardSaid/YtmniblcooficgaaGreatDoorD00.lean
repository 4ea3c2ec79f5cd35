import Derived.Lib.ValidLaws
import Derived.Lib.SpaceUEq
import Derived.Lib.IndexMore
import Derived.Shelf.GgClosure.StringsIndexFunc
import Derived.Maps.OwnOps
import Derived.Maps.OwnSet
import Derived.StringKeys
namespace Go.Proofs.YtmniblcooficgaaGreatDoor.Ev5
set_option linter.unusedSimpArgs false
set_option linter.unusedVariables false

structure Ev where
  kind : Int
  text : List UInt8
  val : List UInt8
deriving DecidableEq
structure Op where
  kind : Int
  key : Bool
  text : Bool
  full : Bool
  had : List (List UInt8)
structure St where
  opn : List Op
  over : Bool
def St.new : St := ⟨[], false⟩

def valueP (st : St) (x : Ev) : Bool :=
  match st.opn with
  | [] => !st.over
  | l :: _ => if l.kind = 7 then l.key else if l.kind = 10 then (decide (x.kind = 10) || (decide (x.kind = 4) && !x.text.isEmpty && !l.text)) else true
def standsP (st : St) (x : Ev) : St :=
  match st.opn with
  | [] => ⟨[], true⟩
  | l :: r => ⟨{ l with key := false, full := true, text := decide (x.kind = 4) } :: r, st.over⟩
def namedP (l : Op) (x : Ev) : Op × Int :=
  if l.had.contains x.text = true then (l, 6) else if 10 ≤ l.had.length then (l, 7) else ({ l with had := l.had ++ [x.text], key := decide (x.kind = 8) }, 0)
def endOf (k : Int) : Int := if k = 6 then 5 else if k = 9 then 7 else if k = 12 then 10 else 0

def stepP (right : Ev → Bool) (st : St) (x : Ev) : St × Int :=
  if right x = false then (st, 19)
  else if x.kind = 1 ∨ x.kind = 2 ∨ x.kind = 3 ∨ x.kind = 4 then
    if valueP st x = true then (standsP st x, 0) else (st, 19)
  else if x.kind = 5 ∨ x.kind = 7 ∨ x.kind = 10 then
    if valueP st x = false then (st, 19)
    else if 6 ≤ st.opn.length then (st, 5)
    else (⟨⟨x.kind, false, false, false, []⟩ :: (standsP st x).opn, (standsP st x).over⟩, 0)
  else match st.opn with
    | [] => (st, 19)
    | l :: r =>
      if x.kind = 8 then
        if l.kind ≠ 7 ∨ l.key = true then (st, 19) else (⟨(namedP l x).1 :: r, st.over⟩, (namedP l x).2)
      else if x.kind = 11 then
        if l.kind ≠ 10 ∨ l.full = true then (st, 19) else (⟨(namedP l x).1 :: r, st.over⟩, (namedP l x).2)
      else if l.kind ≠ endOf x.kind ∨ l.key = true then (st, 19) else (⟨r, st.over⟩, 0)

def St.done (st : St) : Bool := st.over && st.opn.isEmpty

theorem stands_len (st : St) (x : Ev) : (standsP st x).opn.length = st.opn.length := by
  unfold standsP
  cases h : st.opn with
  | nil => simp
  | cons l r => simp

theorem named_err (l : Op) (x : Ev) (h : (namedP l x).2 ≠ 0) : (namedP l x).1 = l := by
  unfold namedP at h ⊢
  split
  · rfl
  · rename_i h1; rw [if_neg h1] at h
    split
    · rfl
    · rename_i h2; rw [if_neg h2] at h; exact absurd rfl h
theorem named_code (l : Op) (x : Ev) : (namedP l x).2 = 0 ∨ (namedP l x).2 = 6 ∨ (namedP l x).2 = 7 := by
  unfold namedP
  split
  · exact .inr (.inl rfl)
  · split
    · exact .inr (.inr rfl)
    · exact .inl rfl

theorem step_depth (right : Ev → Bool) (st : St) (x : Ev) (h : st.opn.length ≤ 6) :
    (stepP right st x).1.opn.length ≤ 6 ∧ (stepP right st x).1.opn.length ≤ st.opn.length + 1 ∧ st.opn.length ≤ (stepP right st x).1.opn.length + 1 ∧
    ((stepP right st x).2 ≠ 0 → (stepP right st x).1 = st) ∧ ((stepP right st x).2 = 5 → (stepP right st x).1.opn.length = 6) := by
  have key : (stepP right st x).1 = st ∧ (stepP right st x).2 = 19 ∨ (stepP right st x).1 = st ∧ (stepP right st x).2 = 5 ∧ st.opn.length = 6 ∨
      (stepP right st x).2 = 0 ∧ ((stepP right st x).1.opn.length = st.opn.length ∨ ((stepP right st x).1.opn.length = st.opn.length + 1 ∧ st.opn.length < 6) ∨ (stepP right st x).1.opn.length + 1 = st.opn.length) ∨
      (stepP right st x).1 = st ∧ ((stepP right st x).2 = 6 ∨ (stepP right st x).2 = 7) := by
    unfold stepP
    split
    · exact .inl ⟨rfl, rfl⟩
    split
    · split
      · exact .inr (.inr (.inl ⟨rfl, .inl (stands_len st x)⟩))
      · exact .inl ⟨rfl, rfl⟩
    split
    · split
      · exact .inl ⟨rfl, rfl⟩
      split
      · exact .inr (.inl ⟨rfl, rfl, by omega⟩)
      · exact .inr (.inr (.inl ⟨rfl, .inr (.inl ⟨by simp [stands_len], by omega⟩)⟩))
    cases ho : st.opn with
    | nil => exact .inl ⟨rfl, rfl⟩
    | cons l r =>
      have est : (⟨l :: r, st.over⟩ : St) = st := by rw [← ho]
      have nm : (namedP l x).2 = 0 ∧ (⟨(namedP l x).1 :: r, st.over⟩ : St).opn.length = (l :: r).length ∨ (⟨(namedP l x).1 :: r, st.over⟩ : St) = st ∧ ((namedP l x).2 = 6 ∨ (namedP l x).2 = 7) := by
        rcases named_code l x with e | e
        · exact .inl ⟨e, by simp⟩
        · exact .inr ⟨by rw [named_err l x (by omega)]; exact est, e⟩
      simp only []
      split
      · split
        · exact .inl ⟨rfl, rfl⟩
        · rcases nm with ⟨e1, e2⟩ | ⟨e1, e2⟩
          · exact .inr (.inr (.inl ⟨e1, .inl e2⟩))
          · exact .inr (.inr (.inr ⟨e1, e2⟩))
      · split
        · split
          · exact .inl ⟨rfl, rfl⟩
          · rcases nm with ⟨e1, e2⟩ | ⟨e1, e2⟩
            · exact .inr (.inr (.inl ⟨e1, .inl e2⟩))
            · exact .inr (.inr (.inr ⟨e1, e2⟩))
        · split
          · exact .inl ⟨rfl, rfl⟩
          · exact .inr (.inr (.inl ⟨rfl, .inr (.inr (by simp))⟩))
  rcases key with ⟨e1, e2⟩ | ⟨e1, e2, e3⟩ | ⟨e1, e2⟩ | ⟨e1, e2⟩
  · rw [e1, e2]; exact ⟨h, by omega, by omega, fun _ => rfl, fun h => by simp at h⟩
  · rw [e1, e2]; exact ⟨h, by omega, by omega, fun _ => rfl, fun _ => e3⟩
  · rw [e1]; exact ⟨by omega, by omega, by omega, fun h => absurd rfl h, fun h => by simp at h⟩
  · rw [e1]; exact ⟨h, by omega, by omega, fun _ => rfl, fun h => by omega⟩

def runP (right : Ev → Bool) : St → List Ev → St × Nat × Int
  | st, [] => (st, 0, 0)
  | st, x :: r => if (stepP right st x).2 = 0 then ((runP right (stepP right st x).1 r).1, (runP right (stepP right st x).1 r).2.1 + 1, (runP right (stepP right st x).1 r).2.2) else (st, 0, (stepP right st x).2)
def wholeP (right : Ev → Bool) (l : List Ev) : Nat × Int :=
  if (runP right St.new l).2.2 ≠ 0 then ((runP right St.new l).2.1, (runP right St.new l).2.2)
  else if (runP right St.new l).1.done = true then (l.length, 0) else (l.length, 19)

theorem run_append (right : Ev → Bool) : ∀ (a b : List Ev) (st : St), (runP right st (a ++ b)).2.2 = 0 → (runP right st a).2.2 = 0 ∧ (runP right (runP right st a).1 b).2.2 = 0
  | [], b, st, h => ⟨rfl, h⟩
  | x :: r, b, st, h => by
    simp only [List.cons_append, runP] at h ⊢
    by_cases hx : (stepP right st x).2 = 0
    · rw [if_pos hx] at h ⊢
      exact run_append right r b _ h
    · rw [if_neg hx] at h; exact absurd h hx

end Go.Proofs.YtmniblcooficgaaGreatDoor.Ev5
namespace Go.Proofs.YtmniblcooficgaaGreatDoor.Ev5
set_option linter.unusedSimpArgs false
set_option linter.unusedVariables false

def opens (k : Int) : Bool := decide (k = 5 ∨ k = 7 ∨ k = 10)
def ends (k : Int) : Bool := decide (k = 6 ∨ k = 9 ∨ k = 12)
def push (s : List Nat) (i : Nat) (k : Int) : List Nat := if opens k = true then i :: s else if ends k = true then s.tail else s
def stackFrom : List Nat → Nat → List Ev → List Nat
  | s, _, [] => s
  | s, i, x :: r => stackFrom (push s i x.kind) (i + 1) r
def stackP (l : List Ev) : List Nat := stackFrom [] 0 l
theorem stackFrom_snoc : ∀ (l : List Ev) (s : List Nat) (i : Nat) (x : Ev), stackFrom s i (l ++ [x]) = push (stackFrom s i l) (i + l.length) x.kind
  | [], s, i, x => rfl
  | y :: r, s, i, x => by
    simp only [List.cons_append, stackFrom, List.length_cons]
    rw [stackFrom_snoc r]
    congr 1; omega
theorem stackP_snoc (l : List Ev) (x : Ev) : stackP (l ++ [x]) = push (stackP l) l.length x.kind := by
  unfold stackP; rw [stackFrom_snoc]; simp
theorem stackP_lt (l : List Ev) : ∀ i ∈ stackP l, i < l.length := by
  have gen : ∀ (l : List Ev) (s : List Nat) (i : Nat), (∀ j ∈ s, j < i) → ∀ j ∈ stackFrom s i l, j < i + l.length := by
    intro l
    induction l with
    | nil => intro s i h j hj; exact h j hj
    | cons x r ih =>
      intro s i h j hj
      have := ih (push s i x.kind) (i + 1) (by
        intro j hj
        unfold push at hj
        split at hj
        · rcases List.mem_cons.1 hj with rfl | hj
          · omega
          · have := h j hj; omega
        · split at hj
          · have := h j (List.mem_of_mem_tail hj); omega
          · have := h j hj; omega) j hj
      rw [List.length_cons]; omega
  intro i hi
  have := gen l [] 0 (by simp) i hi
  omega

def kindAt (l : List Ev) (i : Nat) : Int := match l[i]? with | some e => e.kind | none => 0
theorem kindAt_app (l : List Ev) (x : Ev) (i : Nat) (h : i < l.length) : kindAt (l ++ [x]) i = kindAt l i := by
  unfold kindAt; rw [List.getElem?_append_left h]
theorem kindAt_last (l : List Ev) (x : Ev) : kindAt (l ++ [x]) l.length = x.kind := by
  unfold kindAt; simp

structure Inv (st : St) (had : List Ev) : Prop where
  kinds : st.opn.map (·.kind) = (stackP had).map (kindAt had)
  okk : ∀ o ∈ st.opn, opens o.kind = true
  keys : ∀ o ∈ st.opn.tail, o.key = false
  key : ∀ o, st.opn.head? = some o → o.key = true → ∃ e, had.getLast? = some e ∧ e.kind = 8
  over : had ≠ [] → st.over = true
  deep : st.opn.length ≤ 6
  new : had = [] → st = St.new

theorem inv_new : Inv St.new [] := ⟨rfl, by simp [St.new], by simp [St.new], by simp [St.new], by simp, by simp [St.new], fun _ => rfl⟩

theorem kinds_app (had : List Ev) (x : Ev) : (stackP had).map (kindAt (had ++ [x])) = (stackP had).map (kindAt had) :=
  List.map_congr_left fun i hi => kindAt_app had x i (stackP_lt had i hi)

theorem inv_step (right : Ev → Bool) (st : St) (had : List Ev) (x : Ev) (h : Inv st had) (h0 : (stepP right st x).2 = 0) : Inv (stepP right st x).1 (had ++ [x]) := by
  have hdeep := (step_depth right st x h.deep).1
  have hover : ∀ st' : St, (st'.over = true) → had ++ [x] ≠ [] → st'.over = true := fun _ h _ => h
  have hnn : ¬ had ++ [x] = [] := by simp
  have stover : ∀ {l r}, st.opn = l :: r → st.over = true := by
    intro l r e
    apply h.over
    intro hh
    have := h.new hh
    rw [this] at e; simp [St.new] at e
  have hlast : (had ++ [x]).getLast? = some x := by simp
  have hkinds := kinds_app had x
  unfold stepP at h0 hdeep ⊢
  split at h0
  · simp at h0
  rename_i hr
  rw [if_neg hr] at hdeep ⊢
  split at h0
  · rename_i hk
    rw [if_pos hk] at hdeep ⊢
    split at h0
    · rename_i hv
      rw [if_pos hv] at hdeep ⊢
      have hpush : stackP (had ++ [x]) = stackP had := by
        rw [stackP_snoc, push, if_neg (by simp [opens]; omega), if_neg (by simp [ends]; omega)]
      cases ho : st.opn with
      | nil =>
        refine ⟨?_, ?_, ?_, ?_, ?_, ?_, fun e => absurd e hnn⟩
        · rw [hpush, hkinds, ← h.kinds, ho]; simp [standsP, ho]
        · simp [standsP, ho]
        · simp [standsP, ho]
        · simp [standsP, ho]
        · intro _; simp [standsP, ho]
        · simp [standsP, ho]
      | cons l r =>
        have hso := stover ho
        refine ⟨?_, ?_, ?_, ?_, ?_, hdeep, fun e => absurd e hnn⟩
        · rw [hpush, hkinds, ← h.kinds, ho]; simp [standsP, ho]
        · intro o hm
          simp [standsP, ho] at hm
          rcases hm with rfl | hm
          · exact h.okk l (by rw [ho]; simp)
          · exact h.okk o (by rw [ho]; simp [hm])
        · intro o hm
          simp [standsP, ho] at hm
          exact h.keys o (by rw [ho]; simpa using hm)
        · intro o hm hkey
          simp [standsP, ho] at hm
          subst hm; simp at hkey
        · intro _; simpa [standsP, ho] using hso
    · simp at h0
  rename_i hk1
  rw [if_neg hk1] at hdeep ⊢
  split at h0
  · rename_i hk
    rw [if_pos hk] at hdeep ⊢
    split at h0
    · simp at h0
    rename_i hv
    rw [if_neg hv] at hdeep ⊢
    split at h0
    · simp at h0
    rename_i h6
    rw [if_neg h6] at hdeep ⊢
    have hpush : stackP (had ++ [x]) = had.length :: stackP had := by
      rw [stackP_snoc, push, if_pos (by simpa [opens] using hk)]
    cases ho : st.opn with
    | nil =>
      refine ⟨?_, ?_, ?_, ?_, ?_, hdeep, fun e => absurd e hnn⟩
      · rw [hpush]; rw [List.map_cons, List.map_cons, hkinds, ← h.kinds, ho, kindAt_last]; simp [standsP, ho]
      · intro o hm
        simp [standsP, ho] at hm
        subst hm; simpa [opens] using hk
      · simp [standsP, ho]
      · intro o hm hkey
        simp [standsP, ho] at hm
        subst hm; simp at hkey
      · intro _; simp [standsP, ho]
    | cons l r =>
      have hso := stover ho
      refine ⟨?_, ?_, ?_, ?_, ?_, hdeep, fun e => absurd e hnn⟩
      · rw [hpush]; rw [List.map_cons, List.map_cons, hkinds, ← h.kinds, ho, kindAt_last]; simp [standsP, ho]
      · intro o hm
        simp [standsP, ho] at hm
        rcases hm with rfl | rfl | hm
        · simpa [opens] using hk
        · exact h.okk l (by rw [ho]; simp)
        · exact h.okk o (by rw [ho]; simp [hm])
      · intro o hm
        simp [standsP, ho] at hm
        rcases hm with rfl | hm
        · rfl
        · exact h.keys o (by rw [ho]; simpa using hm)
      · intro o hm hkey
        simp [standsP, ho] at hm
        subst hm; simp at hkey
      · intro _; simpa [standsP, ho] using hso
  rename_i hk2
  rw [if_neg hk2] at hdeep ⊢
  cases ho : st.opn with
  | nil => rw [ho] at h0; simp at h0
  | cons l r =>
    rw [ho] at h0 hdeep
    have hso := stover ho
    have hlk := h.okk l (by rw [ho]; simp)
    simp only [] at h0 hdeep ⊢
    have named : (namedP l x).2 = 0 → (namedP l x).1.kind = l.kind ∧ (namedP l x).1.key = decide (x.kind = 8) := by
      intro e
      unfold namedP at e ⊢
      split at e
      · simp at e
      · rename_i h1; rw [if_neg h1]
        split at e
        · simp at e
        · rename_i h2; rw [if_neg h2]; exact ⟨rfl, rfl⟩
    have fin : ∀ l' : Op, l'.kind = l.kind → (l'.key = true → x.kind = 8) → (opens x.kind = false) → ends x.kind = false → Inv ⟨l' :: r, st.over⟩ (had ++ [x]) := by
      intro l' e1 e2 e3 e4
      have hpush : stackP (had ++ [x]) = stackP had := by rw [stackP_snoc, push, if_neg (by rw [e3]; simp), if_neg (by rw [e4]; simp)]
      refine ⟨?_, ?_, ?_, ?_, fun _ => hso, ?_, fun e => absurd e hnn⟩
      · rw [hpush, hkinds, ← h.kinds, ho]; simp [e1]
      · intro o hm
        rcases List.mem_cons.1 hm with rfl | hm
        · rw [e1]; exact hlk
        · exact h.okk o (by rw [ho]; simp [hm])
      · intro o hm
        exact h.keys o (by rw [ho]; simpa using hm)
      · intro o hm hkey
        simp at hm
        subst hm
        exact ⟨x, hlast, e2 hkey⟩
      · have := h.deep; rw [ho] at this; simpa using this
    split at h0
    · rename_i hk8
      rw [if_pos hk8]
      split at h0
      · simp at h0
      · rename_i hc
        rw [if_neg hc]
        have hn := named h0
        exact fin _ hn.1 (fun _ => hk8) (by rw [hk8]; decide) (by rw [hk8]; decide)
    · rename_i hk8
      rw [if_neg hk8]
      split at h0
      · rename_i hk11
        rw [if_pos hk11]
        split at h0
        · simp at h0
        · rename_i hc
          rw [if_neg hc]
          have hn := named h0
          exact fin _ hn.1 (fun e => by rw [hn.2] at e; simpa using e) (by rw [hk11]; decide) (by rw [hk11]; decide)
      · rename_i hk11
        rw [if_neg hk11]
        split at h0
        · simp at h0
        · rename_i hc
          rw [if_neg hc]
          have hek : l.kind = endOf x.kind := by
            rcases Classical.em (l.kind = endOf x.kind) with e | e
            · exact e
            · exact absurd (.inl e) hc
          have hend : ends x.kind = true := by
            simp [opens] at hlk
            unfold endOf at hek
            simp [ends]
            split at hek
            · exact .inl ‹_›
            · split at hek
              · exact .inr (.inl ‹_›)
              · split at hek
                · exact .inr (.inr ‹_›)
                · omega
          have hpush : stackP (had ++ [x]) = (stackP had).tail := by
            rw [stackP_snoc, push, if_neg (by simp [opens]; simp [ends] at hend; omega), if_pos hend]
          have hk := h.kinds
          rw [ho] at hk
          refine ⟨?_, ?_, ?_, ?_, fun _ => hso, ?_, fun e => absurd e hnn⟩
          · rw [hpush]; have e2 := congrArg List.tail hkinds; have e3 := congrArg List.tail hk; rw [← List.map_tail, ← List.map_tail] at e2; rw [e2]; rw [show List.map (kindAt had) (stackP had).tail = (List.map (kindAt had) (stackP had)).tail from List.map_tail, ← hk]; rfl
          · intro o hm; exact h.okk o (by rw [ho]; exact List.mem_cons_of_mem _ hm)
          · intro o hm; exact h.keys o (by rw [ho]; exact List.mem_of_mem_tail hm)
          · intro o hm hkey
            have : o ∈ r := List.mem_of_mem_head? hm
            have := h.keys o (by rw [ho]; exact this)
            rw [this] at hkey; cases hkey
          · have := h.deep; rw [ho] at this; simp at this ⊢; omega

theorem run_app (right : Ev → Bool) : ∀ (a b : List Ev) (st : St), (runP right st a).2.2 = 0 →
    runP right st (a ++ b) = ((runP right (runP right st a).1 b).1, a.length + (runP right (runP right st a).1 b).2.1, (runP right (runP right st a).1 b).2.2)
  | [], b, st, _ => by simp [runP]
  | x :: r, b, st, h => by
    simp only [List.cons_append, runP] at h ⊢
    by_cases hx : (stepP right st x).2 = 0
    · rw [if_pos hx] at h ⊢
      have ih := run_app right r b _ h
      simp only [if_pos hx]
      rw [ih]
      simp only [List.length_cons, Prod.mk.injEq, true_and, and_true]
      omega
    · rw [if_neg hx] at h; exact absurd h hx
end Go.Proofs.YtmniblcooficgaaGreatDoor.Ev5
namespace Go.Proofs.YtmniblcooficgaaGreatDoor.Ev5
set_option linter.unusedSimpArgs false
set_option linter.unusedVariables false

def ownE : Int → List Ev → List Ev
  | _, [] => []
  | d, x :: r => if ends x.kind = true then ownE (d - 1) r else (if d = 0 then [x] else []) ++ ownE (if opens x.kind = true then d + 1 else d) r
def depE : Int → List Ev → Int
  | d, [] => d
  | d, x :: r => depE (if ends x.kind = true then d - 1 else if opens x.kind = true then d + 1 else d) r
theorem depE_snoc : ∀ (l : List Ev) (d : Int) (x : Ev), depE d (l ++ [x]) = (if ends x.kind = true then depE d l - 1 else if opens x.kind = true then depE d l + 1 else depE d l)
  | [], d, x => rfl
  | y :: r, d, x => by simp only [List.cons_append, depE]; exact depE_snoc r _ x
theorem ownE_snoc : ∀ (l : List Ev) (d : Int) (x : Ev), ownE d (l ++ [x]) = ownE d l ++ (if ends x.kind = true then [] else if depE d l = 0 then [x] else [])
  | [], d, x => by
    simp only [List.nil_append, ownE, depE, List.append_nil]
    rfl
  | y :: r, d, x => by
    simp only [List.cons_append, ownE, depE]
    split
    · exact ownE_snoc r _ x
    · rw [ownE_snoc r, List.append_assoc]

def lastK (o : List Ev) : Int := match o.getLast? with | some e => e.kind | none => 0
theorem lastK_snoc (o : List Ev) (x : Ev) : lastK (o ++ [x]) = x.kind := by simp [lastK]
def namesOf (k : Int) (o : List Ev) : List (List UInt8) := (o.filter fun e => decide (e.kind = k)).map (·.text)
theorem namesOf_snoc (k : Int) (o : List Ev) (x : Ev) : namesOf k (o ++ [x]) = namesOf k o ++ (if x.kind = k then [x.text] else []) := by
  unfold namesOf
  rw [List.filter_append, List.map_append]
  congr 1
  by_cases h : x.kind = k <;> simp [h]

def isVal (k : Int) : Bool := opens k || decide (k = 1 ∨ k = 2 ∨ k = 3 ∨ k = 4)
def fitsP (at_ last : Int) (x : Ev) : Bool :=
  if at_ = 5 then isVal x.kind || decide (x.kind = 6)
  else if at_ = 7 then (if last = 8 then isVal x.kind else decide (x.kind = 8 ∨ x.kind = 9))
  else if at_ = 10 then decide (x.kind = 10 ∨ x.kind = 12 ∨ (x.kind = 4 ∧ x.text ≠ [] ∧ last ≠ 4) ∨ (x.kind = 11 ∧ (last = 0 ∨ last = 11)))
  else false
def refStepP (right : Ev → Bool) (had : List Ev) (x : Ev) : Int :=
  if right x = false then 19
  else match stackP had with
    | [] => if isVal x.kind = true ∧ had = [] then 0 else 19
    | i :: r =>
      if fitsP (kindAt had i) (lastK (ownE 0 (had.drop (i + 1)))) x = false then 19
      else if opens x.kind = true ∧ 6 ≤ r.length + 1 then 5
      else if x.kind = 8 ∨ x.kind = 11 then
        (if (namesOf x.kind (ownE 0 (had.drop (i + 1)))).contains x.text = true then 6 else if 10 ≤ (namesOf x.kind (ownE 0 (had.drop (i + 1)))).length then 7 else 0)
      else 0

structure Rel (o : Op) (own : List Ev) : Prop where
  key : o.key = decide (lastK own = 8)
  text : o.kind = 10 → o.text = decide (lastK own = 4)
  full : o.kind = 10 → o.full = decide (lastK own ≠ 0 ∧ lastK own ≠ 11)
  map : o.kind = 7 → o.had = namesOf 8 own
  elem : o.kind = 10 → o.had = namesOf 11 own
  kk : o.key = true → o.kind = 7

def Knows (had : List Ev) : Int → List Op → List Nat → Prop
  | _, [], [] => True
  | j, o :: r, i :: s => i < had.length ∧ depE 0 (had.drop (i + 1)) = j ∧ Rel o (ownE 0 (had.drop (i + 1))) ∧ Knows had (j + 1) r s
  | _, _, _ => False

theorem Knows.end_ {had : List Ev} {x : Ev} (hx : ends x.kind = true) (ho : opens x.kind = false) : ∀ {ops : List Op} {s : List Nat} {j : Int}, Knows had j ops s → Knows (had ++ [x]) (j - 1) ops s
  | [], [], j, h => h
  | o :: r, i :: s, j, h => by
    obtain ⟨h1, h2, h3, h4⟩ := h
    have e : (had ++ [x]).drop (i + 1) = had.drop (i + 1) ++ [x] := by rw [List.drop_append_of_le_length (by omega)]
    refine ⟨by simp; omega, ?_, ?_, ?_⟩
    · rw [e, depE_snoc, h2, if_pos hx]
    · rw [e, ownE_snoc, if_pos hx, List.append_nil]; exact h3
    · have := Knows.end_ hx ho h4
      rw [show j + 1 - 1 = j - 1 + 1 from by omega] at this
      exact this
  | [], _ :: _, _, h => h
  | _ :: _, [], _, h => h
theorem Knows.flat {had : List Ev} {x : Ev} (hx : ends x.kind = false) (ho : opens x.kind = false) : ∀ {ops : List Op} {s : List Nat} {j : Int}, 0 < j → Knows had j ops s → Knows (had ++ [x]) j ops s
  | [], [], j, hj, h => h
  | o :: r, i :: s, j, hj, h => by
    obtain ⟨h1, h2, h3, h4⟩ := h
    have e : (had ++ [x]).drop (i + 1) = had.drop (i + 1) ++ [x] := by rw [List.drop_append_of_le_length (by omega)]
    refine ⟨by simp; omega, ?_, ?_, Knows.flat hx ho (by omega) h4⟩
    · rw [e, depE_snoc, h2, if_neg (by rw [hx]; simp), if_neg (by rw [ho]; simp)]
    · rw [e, ownE_snoc, if_neg (by rw [hx]; simp), h2, if_neg (by omega), List.append_nil]; exact h3
  | [], _ :: _, _, _, h => h
  | _ :: _, [], _, _, h => h
theorem Knows.open_ {had : List Ev} {x : Ev} (hx : ends x.kind = false) (ho : opens x.kind = true) : ∀ {ops : List Op} {s : List Nat} {j : Int}, 0 < j → Knows had j ops s → Knows (had ++ [x]) (j + 1) ops s
  | [], [], j, hj, h => h
  | o :: r, i :: s, j, hj, h => by
    obtain ⟨h1, h2, h3, h4⟩ := h
    have e : (had ++ [x]).drop (i + 1) = had.drop (i + 1) ++ [x] := by rw [List.drop_append_of_le_length (by omega)]
    refine ⟨by simp; omega, ?_, ?_, Knows.open_ hx ho (by omega) h4⟩
    · rw [e, depE_snoc, h2, if_neg (by rw [hx]; simp), if_pos ho]
    · rw [e, ownE_snoc, if_neg (by rw [hx]; simp), h2, if_neg (by omega), List.append_nil]; exact h3
  | [], _ :: _, _, _, h => h
  | _ :: _, [], _, _, h => h

theorem opens_ends {k : Int} (h : opens k = true) : ends k = false := by
  simp [opens] at h; simp [ends]; omega

theorem rel_stands (o : Op) (own : List Ev) (x : Ev) (h : Rel o own) (h8 : x.kind ≠ 8) (h11 : x.kind ≠ 11) (h0 : x.kind ≠ 0) : Rel { o with key := false, full := true, text := decide (x.kind = 4) } (own ++ [x]) := by
  refine ⟨?_, ?_, ?_, ?_, ?_, ?_⟩
  · rw [lastK_snoc]; simp [h8]
  · intro _; rw [lastK_snoc]
  · intro _; rw [lastK_snoc]; simp [h0, h11]
  · intro e; rw [namesOf_snoc, if_neg h8, List.append_nil]; exact h.map e
  · intro e; rw [namesOf_snoc, if_neg h11, List.append_nil]; exact h.elem e
  · intro e; simp at e

theorem knows_step (right : Ev → Bool) (st : St) (had : List Ev) (x : Ev) (h : Inv st had) (hk : Knows had 0 st.opn (stackP had)) (h0 : (stepP right st x).2 = 0) :
    Knows (had ++ [x]) 0 (stepP right st x).1.opn (stackP (had ++ [x])) := by
  unfold stepP at h0 ⊢
  split at h0
  · simp at h0
  rename_i hr
  rw [if_neg hr]
  split at h0
  · rename_i hv
    rw [if_pos hv]
    split at h0
    · rename_i hvp
      rw [if_pos hvp]
      have e1 : ends x.kind = false := by simp [ends]; omega
      have e2 : opens x.kind = false := by simp [opens]; omega
      rw [stackP_snoc, push, if_neg (by rw [e2]; simp), if_neg (by rw [e1]; simp)]
      cases ho : st.opn with
      | nil => rw [ho] at hk; cases hs : stackP had with
        | nil => simp [standsP, ho, Knows]
        | cons i s => rw [hs] at hk; exact hk.elim
      | cons o r => rw [ho] at hk; cases hs : stackP had with
        | nil => rw [hs] at hk; exact hk.elim
        | cons i s =>
          rw [hs] at hk
          obtain ⟨k1, k2, k3, k4⟩ := hk
          have e : (had ++ [x]).drop (i + 1) = had.drop (i + 1) ++ [x] := by rw [List.drop_append_of_le_length (by omega)]
          simp only [standsP, ho]
          refine ⟨by simp; omega, ?_, ?_, Knows.flat e1 e2 (by omega) k4⟩
          · rw [e, depE_snoc, k2, if_neg (by rw [e1]; simp), if_neg (by rw [e2]; simp)]
          · rw [e, ownE_snoc, k2, if_neg (by rw [e1]; simp), if_pos rfl]
            exact rel_stands o _ x k3 (by omega) (by omega) (by omega)
    · simp at h0
  rename_i hv
  rw [if_neg hv]
  split at h0
  · rename_i ho5
    rw [if_pos ho5]
    split at h0
    · simp at h0
    rename_i hvp
    rw [if_neg hvp]
    split at h0
    · simp at h0
    rename_i h6
    rw [if_neg h6]
    have e2 : opens x.kind = true := by simpa [opens] using ho5
    have e1 := opens_ends e2
    rw [stackP_snoc, push, if_pos e2]
    have hnew : Rel ⟨x.kind, false, false, false, []⟩ (ownE 0 ((had ++ [x]).drop (had.length + 1))) := by
      rw [show (had ++ [x]).drop (had.length + 1) = [] by simp]
      refine ⟨by simp [ownE, lastK], fun _ => by simp [ownE, lastK], fun _ => by simp [ownE, lastK], fun _ => by simp [ownE, namesOf], fun _ => by simp [ownE, namesOf], fun e => by simp at e⟩
    refine ⟨by simp, by rw [show (had ++ [x]).drop (had.length + 1) = [] by simp]; rfl, hnew, ?_⟩
    cases ho : st.opn with
    | nil => rw [ho] at hk; cases hs : stackP had with
      | nil => simp [standsP, ho, Knows]
      | cons i s => rw [hs] at hk; exact hk.elim
    | cons o r => rw [ho] at hk; cases hs : stackP had with
      | nil => rw [hs] at hk; exact hk.elim
      | cons i s =>
        rw [hs] at hk
        obtain ⟨k1, k2, k3, k4⟩ := hk
        have e : (had ++ [x]).drop (i + 1) = had.drop (i + 1) ++ [x] := by rw [List.drop_append_of_le_length (by omega)]
        simp only [standsP, ho]
        refine ⟨by simp; omega, ?_, ?_, Knows.open_ e1 e2 (by omega) k4⟩
        · rw [e, depE_snoc, k2, if_neg (by rw [e1]; simp), if_pos e2]
        · rw [e, ownE_snoc, k2, if_neg (by rw [e1]; simp), if_pos rfl]
          exact rel_stands o _ x k3 (by omega) (by omega) (by omega)
  rename_i ho5
  rw [if_neg ho5]
  have e2 : opens x.kind = false := by simp [opens]; omega
  cases ho : st.opn with
  | nil => rw [ho] at h0; simp at h0
  | cons l r =>
    rw [ho] at h0 hk
    simp only [] at h0 ⊢
    have hlk := h.okk l (by rw [ho]; simp)
    cases hs : stackP had with
    | nil => rw [hs] at hk; exact hk.elim
    | cons i s =>
      rw [hs] at hk
      obtain ⟨k1, k2, k3, k4⟩ := hk
      have e : (had ++ [x]).drop (i + 1) = had.drop (i + 1) ++ [x] := by rw [List.drop_append_of_le_length (by omega)]
      have fin : ∀ k : Int, x.kind = k → (k = 8 ∧ l.kind = 7 ∨ k = 11 ∧ l.kind = 10 ∧ l.full = false) → (namedP l x).2 = 0 → Knows (had ++ [x]) 0 ((namedP l x).1 :: r) (stackP (had ++ [x])) := by
        intro k hk hc hn
        subst hk
        have e1 : ends x.kind = false := by simp [ends]; omega
        rw [stackP_snoc, push, if_neg (by rw [e2]; simp), if_neg (by rw [e1]; simp), hs]
        unfold namedP at hn ⊢
        split at hn
        · simp at hn
        rename_i n1; rw [if_neg n1]
        split at hn
        · simp at hn
        rename_i n2; rw [if_neg n2]
        refine ⟨by simp; omega, ?_, ?_, Knows.flat e1 e2 (by omega) k4⟩
        · rw [e, depE_snoc, k2, if_neg (by rw [e1]; simp), if_neg (by rw [e2]; simp)]
        · rw [e, ownE_snoc, k2, if_neg (by rw [e1]; simp), if_pos rfl]
          rcases hc with ⟨c1, c2⟩ | ⟨c1, c2, c3⟩
          · refine ⟨by rw [lastK_snoc], fun e => by simp at e; omega, fun e => by simp at e; omega, fun _ => ?_, fun e => by simp at e; omega, fun _ => c2⟩
            · rw [namesOf_snoc, if_pos c1]; simp only []; rw [k3.map c2]
          · refine ⟨by rw [lastK_snoc], fun _ => ?_, fun _ => ?_, fun e => by simp at e; omega, fun _ => ?_, fun e => by simp at e; omega⟩
            · rw [lastK_snoc]; simp only []; rw [k3.text c2]
              have := k3.full c2
              rw [c3] at this
              have : lastK (ownE 0 (had.drop (i + 1))) ≠ 4 := by
                intro e4; rw [e4] at this; simp at this
              simp [this, c1]
            · rw [lastK_snoc]; simp [c3, c1]
            · rw [namesOf_snoc, if_pos c1]; simp only []; rw [k3.elem c2]
      split at h0
      · rename_i hk8
        rw [if_pos hk8]
        split at h0
        · simp at h0
        · rename_i hc
          rw [if_neg hc]
          exact fin _ hk8 (.inl ⟨rfl, by rcases Classical.em (l.kind = 7) with e | e; exact e; exact absurd (.inl e) hc⟩) h0
      rename_i hk8
      rw [if_neg hk8]
      split at h0
      · rename_i hk11
        rw [if_pos hk11]
        split at h0
        · simp at h0
        · rename_i hc
          rw [if_neg hc]
          exact fin _ hk11 (.inr ⟨rfl, by rcases Classical.em (l.kind = 10) with e | e; exact e; exact absurd (.inl e) hc, by cases e : l.full with | false => rfl | true => exact absurd (.inr e) hc⟩) h0
      rename_i hk11
      rw [if_neg hk11]
      split at h0
      · simp at h0
      rename_i hc
      rw [if_neg hc]
      have hek : l.kind = endOf x.kind := by
        rcases Classical.em (l.kind = endOf x.kind) with e | e
        · exact e
        · exact absurd (.inl e) hc
      have hend : ends x.kind = true := by
        simp [opens] at hlk
        unfold endOf at hek
        simp [ends]
        split at hek
        · exact .inl ‹_›
        · split at hek
          · exact .inr (.inl ‹_›)
          · split at hek
            · exact .inr (.inr ‹_›)
            · omega
      rw [stackP_snoc, push, if_neg (by rw [e2]; simp), if_pos hend, hs]
      have := Knows.end_ (x := x) hend e2 k4
      exact this

theorem knows_len {had : List Ev} : ∀ {ops : List Op} {s : List Nat} {j : Int}, Knows had j ops s → ops.length = s.length
  | [], [], _, _ => rfl
  | o :: r, i :: s, j, h => by have := knows_len h.2.2.2; simp [this]
  | [], _ :: _, _, h => h.elim
  | _ :: _, [], _, h => h.elim

theorem fits_val (l : Op) (r : List Op) (ov : Bool) (own : List Ev) (x : Ev) (hl : l.kind = 5 ∨ l.kind = 7 ∨ l.kind = 10) (h : Rel l own) (hv : isVal x.kind = true) : fitsP l.kind (lastK own) x = valueP ⟨l :: r, ov⟩ x := by
  have hv' : x.kind = 5 ∨ x.kind = 7 ∨ x.kind = 10 ∨ x.kind = 1 ∨ x.kind = 2 ∨ x.kind = 3 ∨ x.kind = 4 := by simp [isVal, opens] at hv; omega
  unfold fitsP valueP
  simp only []
  rcases hl with e | e | e
  · simp [e, hv]
  · rw [e, if_neg (by decide), if_pos rfl, if_pos rfl, h.key]
    by_cases e8 : lastK own = 8
    · rw [if_pos e8, hv]; simp [e8]
    · rw [if_neg e8]; simp [e8]; omega
  · rw [e, if_neg (by decide), if_neg (by decide), if_pos rfl, if_neg (by decide), if_pos rfl, h.text e]
    rw [Bool.eq_iff_iff]
    simp
    constructor
    · rintro (g | g | ⟨g1, g2, g3⟩ | ⟨g, _⟩)
      · exact .inl g
      · omega
      · exact .inr ⟨⟨g1, g2⟩, g3⟩
      · omega
    · rintro (g | ⟨⟨g1, g2⟩, g3⟩)
      · exact .inl g
      · exact .inr (.inr (.inl ⟨g1, g2, g3⟩))
theorem fits_key (l : Op) (own : List Ev) (x : Ev) (hl : l.kind = 5 ∨ l.kind = 7 ∨ l.kind = 10) (h : Rel l own) (h8 : x.kind = 8) : fitsP l.kind (lastK own) x = false ↔ (l.kind ≠ 7 ∨ l.key = true) := by
  unfold fitsP
  rcases hl with e | e | e
  · rw [e, if_pos rfl, h8]; simp; decide
  · rw [e, if_neg (by decide), if_pos rfl, h.key, h8]
    by_cases e8 : lastK own = 8
    · rw [if_pos e8]; simp [e8]; decide
    · rw [if_neg e8]; simp [e8]
  · rw [e, if_neg (by decide), if_neg (by decide), if_pos rfl, h8]; simp
theorem fits_attr (l : Op) (own : List Ev) (x : Ev) (hl : l.kind = 5 ∨ l.kind = 7 ∨ l.kind = 10) (h : Rel l own) (h8 : x.kind = 11) : fitsP l.kind (lastK own) x = false ↔ (l.kind ≠ 10 ∨ l.full = true) := by
  unfold fitsP
  rcases hl with e | e | e
  · rw [e, if_pos rfl, h8]; simp; decide
  · rw [e, if_neg (by decide), if_pos rfl, h8]
    by_cases e8 : lastK own = 8
    · rw [if_pos e8]; simp; decide
    · rw [if_neg e8]; simp
  · rw [e, if_neg (by decide), if_neg (by decide), if_pos rfl, h8, h.full e]; simp
theorem fits_end (l : Op) (own : List Ev) (x : Ev) (hl : l.kind = 5 ∨ l.kind = 7 ∨ l.kind = 10) (h : Rel l own) (h1 : isVal x.kind = false) (h8 : x.kind ≠ 8) (h11 : x.kind ≠ 11) : fitsP l.kind (lastK own) x = false ↔ (l.kind ≠ endOf x.kind ∨ l.key = true) := by
  unfold fitsP endOf
  have kk := h.kk
  rcases hl with e | e | e
  · rw [e, if_pos rfl, h1]
    have : l.key = false := by cases hh : l.key with | false => rfl | true => have := kk hh; omega
    rw [this]
    by_cases e6 : x.kind = 6
    · rw [if_pos e6]; simp [e6]
    · rw [if_neg e6]; simp [e6]; split <;> (try split) <;> simp
  · rw [e, if_neg (by decide), if_pos rfl, h.key]
    by_cases e8 : lastK own = 8
    · rw [if_pos e8, h1]; simp [e8]
    · rw [if_neg e8]; simp only [e8, decide_false, Bool.false_eq_true, or_false]
      by_cases e9 : x.kind = 9
      · simp [e9]
      · simp [e9, h8]; split <;> (try split) <;> simp
  · rw [e, if_neg (by decide), if_neg (by decide), if_pos rfl]
    have : l.key = false := by cases hh : l.key with | false => rfl | true => have := kk hh; omega
    rw [this]
    simp [isVal, opens] at h1
    by_cases e12 : x.kind = 12
    · simp [e12]
    · simp [e12, h11]
      have : ¬ x.kind = 10 := by omega
      have : ¬ x.kind = 4 := by omega
      simp [*]
      split <;> (try split) <;> simp

theorem ref_step (right : Ev → Bool) (st : St) (had : List Ev) (x : Ev) (h : Inv st had) (hk : Knows had 0 st.opn (stackP had)) : refStepP right had x = (stepP right st x).2 := by
  unfold refStepP stepP
  by_cases hr : right x = false
  · rw [if_pos hr, if_pos hr]
  rw [if_neg hr, if_neg hr]
  have hlen := knows_len hk
  cases ho : st.opn with
  | nil =>
    rw [ho] at hk
    cases hs : stackP had with
    | cons i s => rw [hs] at hk; exact hk.elim
    | nil =>
      have hov : st.over = true ↔ ¬ had = [] := by
        constructor
        · intro e hn; have := h.new hn; rw [this] at e; simp [St.new] at e
        · exact h.over
      simp only []
      by_cases hn : had = []
      · have ov : st.over = false := by cases e : st.over with | false => rfl | true => exact absurd hn (hov.1 e)
        simp only [valueP, ho, ov]
        by_cases hv : isVal x.kind = true
        · rw [if_pos ⟨hv, hn⟩]
          split
          · simp
          · split
            · simp
            · simp [isVal, opens] at hv; omega
        · rw [if_neg (fun e => hv e.1)]
          simp [isVal, opens] at hv
          rw [if_neg (by omega), if_neg (by omega)]
      · have ov := hov.2 hn
        rw [if_neg (fun e => hn e.2)]
        simp only [valueP, ho, ov]
        split
        · simp
        · split
          · simp
          · rfl
  | cons l r =>
    rw [ho] at hk hlen
    cases hs : stackP had with
    | nil => rw [hs] at hk; exact hk.elim
    | cons i s =>
      rw [hs] at hk hlen
      obtain ⟨k1, k2, k3, k4⟩ := hk
      have hlk := h.okk l (by rw [ho]; simp)
      have hkind : kindAt had i = l.kind := by
        have := h.kinds
        rw [ho, hs] at this
        simp at this
        exact this.1.symm
      have hl6 := h.deep
      simp only []
      rw [hkind]
      generalize hown : ownE 0 (had.drop (i + 1)) = own at k3
      have hkey := k3.key
      have hss : s.length = r.length := by simpa using hlen.symm
      rw [hss]
      have hlk' : l.kind = 5 ∨ l.kind = 7 ∨ l.kind = 10 := by simpa [opens] using hlk
      have est : st = ⟨l :: r, st.over⟩ := by rw [← ho]
      by_cases hv : isVal x.kind = true
      · rw [fits_val l r st.over own x hlk' k3 hv, ← est]
        by_cases h4 : x.kind = 1 ∨ x.kind = 2 ∨ x.kind = 3 ∨ x.kind = 4
        · rw [if_pos h4, if_neg (c := opens x.kind = true ∧ 6 ≤ r.length + 1) (by simp [opens]; omega), if_neg (c := x.kind = 8 ∨ x.kind = 11) (by omega)]
          cases valueP st x <;> simp
        · have h5 : x.kind = 5 ∨ x.kind = 7 ∨ x.kind = 10 := by simp [isVal, opens] at hv; omega
          rw [if_neg h4, if_pos h5, if_neg (c := x.kind = 8 ∨ x.kind = 11) (by omega)]
          have hop : opens x.kind = true := by simpa [opens] using h5
          simp only [hop, true_and, List.length_cons]
          cases valueP st x <;> simp
          split <;> simp
      · have hv' : isVal x.kind = false := by simpa using hv
        have hv2 : ¬ (x.kind = 1 ∨ x.kind = 2 ∨ x.kind = 3 ∨ x.kind = 4) ∧ ¬ (x.kind = 5 ∨ x.kind = 7 ∨ x.kind = 10) := by simp [isVal, opens] at hv'; omega
        rw [if_neg hv2.1, if_neg hv2.2]
        rw [if_neg (c := opens x.kind = true ∧ 6 ≤ r.length + 1) (by simp [opens]; omega)]
        by_cases h8 : x.kind = 8
        · rw [if_pos h8, if_pos (c := x.kind = 8 ∨ x.kind = 11) (.inl h8)]
          by_cases hf : l.kind ≠ 7 ∨ l.key = true
          · rw [if_pos ((fits_key l own x hlk' k3 h8).2 hf), if_pos hf]
          · rw [if_neg (fun e => hf ((fits_key l own x hlk' k3 h8).1 e)), if_neg hf]
            have e7 : l.kind = 7 := by rcases Classical.em (l.kind = 7) with e | e; exact e; exact absurd (.inl e) hf
            rw [h8, ← k3.map e7]
            unfold namedP
            split <;> (try split) <;> simp
        rw [if_neg h8]
        by_cases h11 : x.kind = 11
        · rw [if_pos h11, if_pos (c := x.kind = 8 ∨ x.kind = 11) (.inr h11)]
          by_cases hf : l.kind ≠ 10 ∨ l.full = true
          · rw [if_pos ((fits_attr l own x hlk' k3 h11).2 hf), if_pos hf]
          · rw [if_neg (fun e => hf ((fits_attr l own x hlk' k3 h11).1 e)), if_neg hf]
            have e7 : l.kind = 10 := by rcases Classical.em (l.kind = 10) with e | e; exact e; exact absurd (.inl e) hf
            rw [h11, ← k3.elem e7]
            unfold namedP
            split <;> (try split) <;> simp
        rw [if_neg h11, if_neg (c := x.kind = 8 ∨ x.kind = 11) (by omega)]
        by_cases hf : l.kind ≠ endOf x.kind ∨ l.key = true
        · rw [if_pos ((fits_end l own x hlk' k3 hv' h8 h11).2 hf), if_pos hf]
        · rw [if_neg (fun e => hf ((fits_end l own x hlk' k3 hv' h8 h11).1 e)), if_neg hf]

def refRunP (right : Ev → Bool) : List Ev → List Ev → Option (Nat × Int)
  | _, [] => none
  | pre, x :: r => if refStepP right pre x ≠ 0 then some (pre.length, refStepP right pre x) else refRunP right (pre ++ [x]) r
def refWholeP (right : Ev → Bool) (l : List Ev) : Nat × Int :=
  match refRunP right [] l with
  | some p => p
  | none => if (stackP l).isEmpty = false ∨ l = [] then (l.length, 19) else (l.length, 0)
theorem ref_run (right : Ev → Bool) : ∀ (l pre : List Ev) (st : St), Inv st pre → Knows pre 0 st.opn (stackP pre) →
    (refRunP right pre l = none ∧ (runP right st l).2.2 = 0 ∧ Inv (runP right st l).1 (pre ++ l) ∧ Knows (pre ++ l) 0 (runP right st l).1.opn (stackP (pre ++ l))) ∨
    ((runP right st l).2.2 ≠ 0 ∧ refRunP right pre l = some (pre.length + (runP right st l).2.1, (runP right st l).2.2))
  | [], pre, st, h, hk => .inl ⟨rfl, rfl, by simpa [runP] using h, by simpa [runP] using hk⟩
  | x :: r, pre, st, h, hk => by
    have e := ref_step right st pre x h hk
    by_cases hx : (stepP right st x).2 = 0
    · have ih := ref_run right r (pre ++ [x]) (stepP right st x).1 (inv_step right st pre x h hx) (knows_step right st pre x h hk hx)
      simp only [refRunP, runP]
      rw [e, if_neg (by simpa using hx), if_pos hx]
      rw [List.append_assoc] at ih
      rcases ih with ih | ih
      · exact .inl ih
      · refine .inr ⟨ih.1, ?_⟩
        rw [ih.2]; simp; omega
    · refine .inr ?_
      simp only [refRunP, runP]
      rw [e, if_pos hx, if_neg hx]
      exact ⟨hx, rfl⟩
theorem ref_whole (right : Ev → Bool) (l : List Ev) : refWholeP right l = wholeP right l := by
  unfold refWholeP wholeP
  rcases ref_run right l [] St.new inv_new (by simp [St.new, stackP, stackFrom, Knows]) with ⟨h1, h2, h3, h4⟩ | ⟨h1, h2⟩
  · rw [h1, if_neg (c := (runP right St.new l).2.2 ≠ 0) (by rw [h2]; simp)]
    simp only [List.nil_append] at h3 h4
    have hl := knows_len h4
    simp only []
    unfold St.done
    cases l with
    | nil => simp [runP, St.new]
    | cons x r =>
      have := h3.over (by simp)
      rw [this]
      cases hs : stackP (x :: r) with
      | nil => rw [hs] at hl; simp at hl; simp [hl]
      | cons i s => rw [hs] at hl; cases ho : (runP right St.new (x :: r)).1.opn with
        | nil => rw [ho] at hl; simp at hl
        | cons o q => simp
  · rw [h2, if_pos h1]; simp
end Go.Proofs.YtmniblcooficgaaGreatDoor.Ev5
namespace Go.Proofs.YtmniblcooficgaaGreatDoor.Ev5
set_option linter.unusedSimpArgs false
set_option linter.unusedVariables false

structure Tk (right : Ev → Bool) (st : St) (had : List Ev) : Prop where
  inv : Inv st had
  knows : Knows had 0 st.opn (stackP had)
  run : runP right St.new had = (st, had.length, 0)
  k8 : ∀ e, had.getLast? = some e → e.kind = 8 → ∃ o r, st.opn = o :: r ∧ o.key = true ∧ o.kind = 7

theorem tk_new (right : Ev → Bool) : Tk right St.new [] := ⟨inv_new, by simp [St.new, stackP, stackFrom, Knows], rfl, by simp⟩

theorem step_key (right : Ev → Bool) (st : St) (x : Ev) (h0 : (stepP right st x).2 = 0) (h8 : x.kind = 8) : ∃ o r, (stepP right st x).1.opn = o :: r ∧ o.key = true ∧ o.kind = 7 := by
  unfold stepP at h0 ⊢
  split at h0
  · simp at h0
  rename_i hr
  rw [if_neg hr]
  rw [if_neg (by omega), if_neg (by omega)] at h0 ⊢
  cases ho : st.opn with
  | nil => rw [ho] at h0; simp at h0
  | cons l r =>
    rw [ho] at h0
    simp only [] at h0 ⊢
    rw [if_pos h8]
    split at h0
    · simp at h0
    rename_i hc
    rw [if_neg hc]
    have e7 : l.kind = 7 := by rcases Classical.em (l.kind = 7) with e | e; exact e; exact absurd (.inl e) hc
    simp only [] at h0 ⊢
    unfold namedP at h0 ⊢
    split at h0
    · simp at h0
    rename_i n1; rw [if_neg n1]
    split at h0
    · simp at h0
    rename_i n2; rw [if_neg n2]
    exact ⟨_, _, rfl, by simp [h8], e7⟩

theorem Tk.step {right : Ev → Bool} {st : St} {had : List Ev} (h : Tk right st had) {x : Ev} (h0 : (stepP right st x).2 = 0) : Tk right (stepP right st x).1 (had ++ [x]) := by
  refine ⟨inv_step right st had x h.inv h0, knows_step right st had x h.inv h.knows h0, ?_, ?_⟩
  · rw [run_app right had [x] St.new (by rw [h.run]), h.run]
    simp only [runP]
    rw [if_pos h0]; simp
  · intro e he h8
    simp at he
    subst he
    exact step_key right st x h0 h8

theorem Tk.same {right : Ev → Bool} {st : St} {had : List Ev} (h : Tk right st had) {x : Ev} (h0 : (stepP right st x).2 ≠ 0) : (stepP right st x).1 = st :=
  (step_depth right st x h.inv.deep).2.2.2.1 h0

theorem Tk.at_ {right : Ev → Bool} {st : St} {had : List Ev} (h : Tk right st had) : (stackP had = [] ∧ st.opn = []) ∨ (∃ i s l r, stackP had = i :: s ∧ st.opn = l :: r ∧ i < had.length ∧ l.kind = kindAt had i ∧ (l.kind = 5 ∨ l.kind = 7 ∨ l.kind = 10) ∧ s.length = r.length) := by
  have hk := h.knows
  cases hs : stackP had with
  | nil => cases ho : st.opn with
    | nil => exact .inl ⟨rfl, rfl⟩
    | cons l r => rw [hs, ho] at hk; exact hk.elim
  | cons i s => cases ho : st.opn with
    | nil => rw [hs, ho] at hk; exact hk.elim
    | cons l r =>
      rw [hs, ho] at hk
      have hks := h.inv.kinds
      rw [hs, ho] at hks
      simp at hks
      have := h.inv.okk l (by rw [ho]; simp)
      exact .inr ⟨i, s, l, r, rfl, rfl, hk.1, hks.1, by simpa [opens] using this, by have := knows_len hk; simp at this; omega⟩
theorem Tk.len {right : Ev → Bool} {st : St} {had : List Ev} (h : Tk right st had) : (stackP had).length = st.opn.length := (knows_len h.knows).symm
theorem Tk.whole {right : Ev → Bool} {st : St} {had : List Ev} (h : Tk right st had) (hn : had ≠ []) (ho : st.opn = []) : wholeP right had = (had.length, 0) := by
  have hov := h.inv.over hn
  unfold wholeP
  rw [h.run]
  simp [St.done, hov, ho]

end Go.Proofs.YtmniblcooficgaaGreatDoor.Ev5
namespace Go.Proofs.YtmniblcooficgaaGreatDoor.Ev5
set_option linter.unusedSimpArgs false
set_option linter.unusedVariables false

def letterB (b : UInt8) : Bool := decide (97 ≤ b.toNat ∧ b.toNat ≤ 122) || decide (65 ≤ b.toNat ∧ b.toNat ≤ 90) || decide (b.toNat = 95)
def moreB (b : UInt8) : Bool := decide (48 ≤ b.toNat ∧ b.toNat ≤ 57) || decide (b.toNat = 45 ∨ b.toNat = 46)
def okB (i : Nat) (b : UInt8) : Bool := letterB b || (decide (0 < i) && moreB b)
def okFrom : Nat → List UInt8 → Bool
  | _, [] => true
  | i, b :: r => okB i b && okFrom (i + 1) r
def localP (l : List UInt8) : Bool := decide (1 ≤ l.length ∧ l.length ≤ 16) && okFrom 0 l
theorem okFrom_step (l : List UInt8) (i : Nat) (h : i < l.length) : okFrom i (l.drop i) = (okB i l[i] && okFrom (i + 1) (l.drop (i + 1))) := by
  rw [List.drop_eq_getElem_cons h]; rfl
theorem okFrom_end (l : List UInt8) (i : Nat) (h : l.length ≤ i) : okFrom i (l.drop i) = true := by
  rw [List.drop_eq_nil_of_le h]; rfl

def oddR (x : Nat) : Bool := decide (x < 33) || decide (x = 123 ∨ x = 125 ∨ x = 34 ∨ x = 60 ∨ x = 62 ∨ x = 38 ∨ x = 92)
def oddB (b : UInt8) : Bool := oddR b.toNat
theorem oddR_big (x : Nat) (h : 128 ≤ x) : oddR x = false := by simp [oddR]; omega

theorem idx_odd (s : ByteArray) : ∀ (f pos : Nat), s.size ≤ pos + f → Lib.validD (s.data.toList.drop pos) = true → (decide (0 ≤ Lib.idxFuncFrom oddR true s f pos)) = (s.data.toList.drop pos).any oddB := by
  intro f
  induction f with
  | zero =>
    intro pos h _
    rw [List.drop_eq_nil_of_le (by rw [Array.length_toList]; show s.size ≤ pos; omega)]
    rfl
  | succ f ih =>
    intro pos h hv
    by_cases hp : pos < s.size
    · have hl : pos < s.data.toList.length := by rw [Array.length_toList]; exact hp
      have hd := List.drop_eq_getElem_cons hl
      have hne : s.data.toList.drop pos ≠ [] := by rw [hd]; simp
      rw [Lib.validD_step _ hne] at hv
      split at hv
      · cases hv
      rename_i hbad
      unfold Lib.idxFuncFrom
      rw [if_pos hp, ← Lib.decodeL_drop]
      have hN := Lib.decodeL_N (s.data.toList.drop pos)
      have hw := Lib.decodeL_width (s.data.toList.drop pos)
      rw [List.drop_drop] at hv
      have ih := ih (pos + (Lib.decodeL (s.data.toList.drop pos)).2) (by omega) hv
      generalize hl' : s.data.toList.drop pos = l at *
      have hhead : (l.getD 0 0) = s.data.toList[pos] := by rw [hd]; rfl
      have hdd : ∀ k, s.data.toList.drop (pos + k) = l.drop k := by intro k; rw [← hl', List.drop_drop]
      rw [hdd] at ih
      have hcs := Lib.decodeN_cases l.length (l.getD 0 0).toNat (l.getD 1 0).toNat (l.getD 2 0).toNat (l.getD 3 0).toNat
      have hct := Lib.decodeN_conts l.length (l.getD 0 0).toNat (l.getD 1 0).toNat (l.getD 2 0).toNat (l.getD 3 0).toNat
      rw [← hN] at hcs hct
      by_cases ha : (l.getD 0 0).toNat < 128
      · have e : Lib.decodeL l = ((l.getD 0 0).toNat, 1) := by rw [hN]; exact Lib.decodeN_ascii _ _ _ _ _ ha
        rw [e] at ih ⊢
        simp only [] at ih ⊢
        have el : l = l.getD 0 0 :: l.drop 1 := by
          cases l with
          | nil => exact absurd rfl hne
          | cons a b => rfl
        rw [show l.any oddB = (oddB (l.getD 0 0) || (l.drop 1).any oddB) by conv => { lhs; rw [el] } ; rfl]
        by_cases ho : oddR (l.getD 0 0).toNat = true
        · rw [if_pos ho]; simp only [oddB, ho, Bool.true_or]; exact decide_eq_true (by omega)
        · rw [if_neg ho]; simp only [oddB, ho, Bool.false_or]; exact ih
      · have hwl : (Lib.decodeL l).2 ≤ l.length := by
          rcases Nat.lt_or_ge l.length (Lib.decodeL l).2 with h1 | h1
          · have h2 := hct.2.2.2
            have : l.length = 0 ∨ l.length = 1 ∨ l.length = 2 ∨ l.length = 3 := by omega
            have hl0 : 0 < l.length := List.length_pos_iff.2 hne
            rcases this with e | e | e | e
            · omega
            · have := hct.1 (by omega); omega
            · have := hct.2.1 (by omega); omega
            · have := hct.2.2.1 (by omega); omega
          · exact h1
        have hbig : 128 ≤ (Lib.decodeL l).1 := by
          rcases hcs with ⟨h1, _⟩ | ⟨_, _, _, h1, e⟩ | ⟨_, _, _, _, h1, e⟩ | ⟨h1, _⟩ | e
          · omega
          · rw [e]; exact h1
          · rw [e]; simp only []; omega
          · omega
          · rw [e]; decide
        rw [if_neg (by rw [oddR_big _ hbig]; simp)]
        rw [ih]
        have hsplit : l = l.take (Lib.decodeL l).2 ++ l.drop (Lib.decodeL l).2 := (List.take_append_drop _ _).symm
        have hfront : (l.take (Lib.decodeL l).2).any oddB = false := by
          rw [List.any_eq_false]
          intro b hb
          rw [List.mem_take_iff_getElem] at hb
          obtain ⟨j, hj, rfl⟩ := hb
          have hj2 : j < l.length := by omega
          have hg : l[j]'(by omega) = l.getD j 0 := by rw [List.getD_eq_getElem?_getD, List.getElem?_eq_getElem hj2]; rfl
          have : 128 ≤ (l.getD j 0).toNat := by
            have hj4 : j < (Lib.decodeL l).2 := by omega
            have h4 := hct.2.2.2
            have : j = 0 ∨ j = 1 ∨ j = 2 ∨ j = 3 := by omega
            rcases this with rfl | rfl | rfl | rfl
            · omega
            · have := hct.1 (by omega); omega
            · have := hct.2.1 (by omega); omega
            · have := hct.2.2.1 (by omega); omega
          have e := hg ▸ (oddR_big (l.getD j 0).toNat this)
          simp only [oddB]
          rw [hg, oddR_big _ this]; simp
        conv => rhs; rw [hsplit]
        rw [List.any_append, hfront, Bool.false_or]
    · unfold Lib.idxFuncFrom
      rw [if_neg hp, List.drop_eq_nil_of_le (by rw [Array.length_toList]; show s.size ≤ pos; omega)]
      rfl

def spaceP (l : List UInt8) : Bool := Lib.validD l && decide (1 ≤ l.length ∧ l.length ≤ 48) && !l.any oddB
theorem space_idx (s : ByteArray) (h : Lib.validD s.data.toList = true) : (decide (0 ≤ Lib.idxFunc oddR true s)) = s.data.toList.any oddB := by
  have := idx_odd s s.size 0 (by omega) (by simpa using h)
  unfold Lib.idxFunc
  rw [this, List.drop_zero]

def cutP (l : List UInt8) : List UInt8 × List UInt8 × Bool :=
  if l.head? = some 123 then
    (if 0 ≤ Lib.indexByte l.tail 125 ∧ spaceP (l.tail.take (Lib.indexByte l.tail 125).toNat) = true ∧ localP (l.tail.drop ((Lib.indexByte l.tail 125).toNat + 1)) = true ∧ l.length ≤ 48 then
      (l.tail.take (Lib.indexByte l.tail 125).toNat, l.tail.drop ((Lib.indexByte l.tail 125).toNat + 1), true) else ([], [], false))
  else if localP l = true ∧ l.length ≤ 48 then ([], l, true) else ([], [], false)
def fullP (l : List UInt8) : Bool := (cutP l).2.2
def mayP (l : List UInt8) : Bool := Lib.validD l && decide (l.length ≤ 48)

def trueL : List UInt8 := [116, 114, 117, 101]
def falseL : List UInt8 := [102, 97, 108, 115, 101]
def rightP (rd : List UInt8 → List UInt8 × Int) (x : Ev) : Bool :=
  if x.kind = 1 ∨ x.kind = 5 ∨ x.kind = 6 ∨ x.kind = 7 ∨ x.kind = 9 ∨ x.kind = 12 then x.text.isEmpty && x.val.isEmpty
  else if x.kind = 2 then x.val.isEmpty && (decide (x.text = trueL) || decide (x.text = falseL))
  else if x.kind = 3 then x.val.isEmpty && (decide ((rd x.text).2 = 0) && decide ((rd x.text).1 = x.text))
  else if x.kind = 4 ∨ x.kind = 8 then x.val.isEmpty && mayP x.text
  else if x.kind = 10 then x.val.isEmpty && fullP x.text
  else if x.kind = 11 then fullP x.text && mayP x.val
  else false
end Go.Proofs.YtmniblcooficgaaGreatDoor.Ev5
namespace Go.Proofs.YtmniblcooficgaaGreatDoor
open Go.Maps Go.MapKept Go.ChangeMaps
set_option linter.unusedSimpArgs false
set_option linter.unusedVariables false

def Names (w : World) (P : Program) (k e : TypeId) (b : Nat) (ks : List (List UInt8)) : Prop :=
  ∃ D : DataW Unit, w.ownsMap P k (plainElem P e) b ks.length D ∧ Maps.Tidy D ∧ Maps.size D = ks.length ∧
    (∀ s, Maps.has D (.string s) = ks.contains s) ∧ (∀ s, D.atKey (.string s) (.lit (.bool false)) = .lit (.bool (ks.contains s)))

theorem names_new (w : World) (P : Program) (k e : TypeId) : Names (w.alloc (.map #[] 0)) P k e w.heap.size [] :=
  ⟨.map [], World.ownsMap_made _ _ _ _, Maps.tidy_empty, rfl, fun s => rfl, fun s => rfl⟩

theorem Names.kept {w w' : World} {P : Program} {k e : TypeId} {b : Nat} {ks : List (List UInt8)} {row : Option Nat} (h : Names w P k e b ks) (hg : w.grownBy w' row) (hne : some b ≠ row) : Names w' P k e b ks := by
  obtain ⟨D, h1, h2⟩ := h
  exact ⟨D, h1.kept hg hne, h2⟩
theorem Names.lt {w : World} {P : Program} {k e : TypeId} {b : Nat} {ks : List (List UInt8)} (h : Names w P k e b ks) : b < w.heap.size := by
  obtain ⟨D, h1, _⟩ := h
  exact h1.lt

theorem plainElem_bool_inv {P : Program} {e : TypeId} (he : P.underlying e = some .bool) {v : Value} {z : DataW Unit × List MemPlace} (h : plainElem P e v = some z) : ∃ x, v = .bool x ∧ z = (.lit (.bool x), []) := by
  unfold plainElem at h
  rw [he] at h
  cases v <;> simp at h
  exact ⟨_, rfl, h.symm⟩

theorem Names.look {w : World} {P : Program} {k e t : TypeId} {b : Nat} {ks : List (List UInt8)} (h : Names w P k e b ks) (K : Keyed P k) (ht : P.underlying t = some (.map k e)) (he : P.underlying e = some .bool)
    (hz : (zeroValue e).run P w = .ok (.bool false) w) {key : Value} {s : List UInt8} (hkey : keyOf P k key = some (.string s)) : (Instr.lookup t (.map (some b)) key false).run P w = .ok (.bool (ks.contains s)) w := by
  obtain ⟨D, h1, h2, h3, h4, h5⟩ := h
  obtain ⟨v, ps, hrun, hv⟩ := h1.lookup K ht hz (plainElem_bool he false) hkey
  obtain ⟨x, rfl, hx⟩ := plainElem_bool_inv he hv
  rw [h5] at hx
  simp only [Prod.mk.injEq, DataW.lit.injEq, Lit.bool.injEq] at hx
  rw [hrun, hx.1]

theorem Names.put {w : World} {P : Program} {k e t : TypeId} {b : Nat} {ks : List (List UInt8)} (h : Names w P k e b ks) (K : Keyed P k) (ht : P.underlying t = some (.map k e)) (he : P.underlying e = some .bool)
    (hn : ks.length < maxLen) {key : Value} {s : List UInt8} (hkey : keyOf P k key = some (.string s)) (hs : ks.contains s = false) :
    ∃ w', (Instr.mapUpdate t (.map (some b)) key (.bool true)).run P w = .ok () w' ∧ Names w' P k e b (ks ++ [s]) ∧ w.grownBy w' (some b) := by
  obtain ⟨D, h1, h2, h3, h4, h5⟩ := h
  obtain ⟨w', hrun, hown, hg⟩ := h1.update K ht hn hkey (plainElem_bool he true)
  refine ⟨w', hrun, ⟨_, by rw [List.length_append]; exact hown, h2.put (show WideAt.IsKeyLit (.string s) from trivial) _, ?_, ?_, ?_⟩, hg⟩
  · rw [Maps.size_put h2, h4, hs]; simp [h3]
  · intro s'
    by_cases e1 : s' = s
    · subst e1
      rw [Maps.has_put_same h2.isMap (show WideAt.IsKeyLit (.string s') from trivial)]; simp
    · rw [Maps.has_put_other (fun e2 => e1 (by injection e2)), h4]; simp [e1]
  · intro s'
    by_cases e1 : s' = s
    · subst e1
      rw [Maps.atKey_put_same h2.isMap (show WideAt.IsKeyLit (.string s') from trivial)]; simp
    · rw [Maps.atKey_put_other (fun e2 => e1 (by injection e2)), h5]; simp [e1]

variable {P : Program} {w : World} {ops : Array Oper} {rest : List Oper} {o : Oper} {a : Act} {Q : Exit → Act → World → Prop}
theorem wpList_names_len (hg : o.guard = none) (m : Operand) (t : TypeId) (hop : o.op = Op.call { callee := Callee.builtin Builtin.len, args := #[m], argTypes := #[t] }) (k e : TypeId) (ht : P.underlying t = some (.map k e))
    (b : Nat) (ks : List (List UInt8)) (hm : a.eval m = .map (some b)) (hN : Names w P k e b ks) (hK : wpList P ops Q rest (a.put o.dst (.int .i64 ks.length)) w) : wpList P ops Q (o :: rest) a w := by
  refine wpList_plain hg fun K' hK' => ?_
  obtain ⟨D, h1, h2, h3, h4, h5⟩ := hN
  unfold Oper.wp
  simp [execOp, hop, resolve, invoke, builtin, hm, h1.len ht o.type, h3, Result.andThen]
  exact hK' _ _ hK
end Go.Proofs.YtmniblcooficgaaGreatDoor
