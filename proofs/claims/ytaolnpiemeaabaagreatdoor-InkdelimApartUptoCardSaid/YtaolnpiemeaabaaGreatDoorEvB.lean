/- Plain Lean: what is open behind a row of taken events, as the reference tells it; closing it. -/
import Derived.Test.YtaolnpiemeaabaaGreatDoorEvA
namespace Go.Proofs.YtaolnpiemeaabaaGreatDoor.Ev5
set_option linter.unusedSimpArgs false
set_option linter.unusedVariables false

def opens (k : Int) : Bool := decide (k = 5 ∨ k = 7 ∨ k = 10)
def ends (k : Int) : Bool := decide (k = 6 ∨ k = 9 ∨ k = 12)
/-- The places of what is open (the innermost ahead), as ref At goes. -/
def push (s : List Nat) (i : Nat) (k : Int) : List Nat := if opens k = true then i :: s else if ends k = true then s.tail else s
def stackFrom : List Nat → Nat → List Ev → List Nat
  | s, _, [] => s
  | s, i, x :: r => stackFrom (push s i x.kind) (i + 1) r
def stackP (l : List Ev) : List Nat := stackFrom [] 0 l
theorem stackFrom_snoc : ∀ (l : List Ev) (s : List Nat) (i : Nat) (x : Ev), stackFrom s i (l ++ [x]) = push (stackFrom s i l) (i + l.length) x.kind
  | [], s, i, x => rfl
  | y :: r, s, i, x => by
    simp only [List.cons_append, stackFrom, List.length_cons]
    rw [stackFrom_snoc r]
    congr 1; omega
theorem stackP_snoc (l : List Ev) (x : Ev) : stackP (l ++ [x]) = push (stackP l) l.length x.kind := by
  unfold stackP; rw [stackFrom_snoc]; simp
theorem stackP_lt (l : List Ev) : ∀ i ∈ stackP l, i < l.length := by
  have gen : ∀ (l : List Ev) (s : List Nat) (i : Nat), (∀ j ∈ s, j < i) → ∀ j ∈ stackFrom s i l, j < i + l.length := by
    intro l
    induction l with
    | nil => intro s i h j hj; exact h j hj
    | cons x r ih =>
      intro s i h j hj
      have := ih (push s i x.kind) (i + 1) (by
        intro j hj
        unfold push at hj
        split at hj
        · rcases List.mem_cons.1 hj with rfl | hj
          · omega
          · have := h j hj; omega
        · split at hj
          · have := h j (List.mem_of_mem_tail hj); omega
          · have := h j hj; omega) j hj
      rw [List.length_cons]; omega
  intro i hi
  have := gen l [] 0 (by simp) i hi
  omega

def kindAt (l : List Ev) (i : Nat) : Int := match l[i]? with | some e => e.kind | none => 0
theorem kindAt_app (l : List Ev) (x : Ev) (i : Nat) (h : i < l.length) : kindAt (l ++ [x]) i = kindAt l i := by
  unfold kindAt; rw [List.getElem?_append_left h]
theorem kindAt_last (l : List Ev) (x : Ev) : kindAt (l ++ [x]) l.length = x.kind := by
  unfold kindAt; simp

structure Inv (st : St) (had : List Ev) : Prop where
  kinds : st.opn.map (·.kind) = (stackP had).map (kindAt had)
  okk : ∀ o ∈ st.opn, opens o.kind = true
  keys : ∀ o ∈ st.opn.tail, o.key = false
  key : ∀ o, st.opn.head? = some o → o.key = true → ∃ e, had.getLast? = some e ∧ e.kind = 8
  over : had ≠ [] → st.over = true
  deep : st.opn.length ≤ 6
  new : had = [] → st = St.new

theorem inv_new : Inv St.new [] := ⟨rfl, by simp [St.new], by simp [St.new], by simp [St.new], by simp, by simp [St.new], fun _ => rfl⟩

theorem kinds_app (had : List Ev) (x : Ev) : (stackP had).map (kindAt (had ++ [x])) = (stackP had).map (kindAt had) :=
  List.map_congr_left fun i hi => kindAt_app had x i (stackP_lt had i hi)

theorem inv_step (right : Ev → Bool) (st : St) (had : List Ev) (x : Ev) (h : Inv st had) (h0 : (stepP right st x).2 = 0) : Inv (stepP right st x).1 (had ++ [x]) := by
  have hdeep := (step_depth right st x h.deep).1
  have hover : ∀ st' : St, (st'.over = true) → had ++ [x] ≠ [] → st'.over = true := fun _ h _ => h
  have hnn : ¬ had ++ [x] = [] := by simp
  have stover : ∀ {l r}, st.opn = l :: r → st.over = true := by
    intro l r e
    apply h.over
    intro hh
    have := h.new hh
    rw [this] at e; simp [St.new] at e
  have hlast : (had ++ [x]).getLast? = some x := by simp
  have hkinds := kinds_app had x
  unfold stepP at h0 hdeep ⊢
  split at h0
  · simp at h0
  rename_i hr
  rw [if_neg hr] at hdeep ⊢
  split at h0
  · rename_i hk
    rw [if_pos hk] at hdeep ⊢
    split at h0
    · rename_i hv
      rw [if_pos hv] at hdeep ⊢
      have hpush : stackP (had ++ [x]) = stackP had := by
        rw [stackP_snoc, push, if_neg (by simp [opens]; omega), if_neg (by simp [ends]; omega)]
      cases ho : st.opn with
      | nil =>
        refine ⟨?_, ?_, ?_, ?_, ?_, ?_, fun e => absurd e hnn⟩
        · rw [hpush, hkinds, ← h.kinds, ho]; simp [standsP, ho]
        · simp [standsP, ho]
        · simp [standsP, ho]
        · simp [standsP, ho]
        · intro _; simp [standsP, ho]
        · simp [standsP, ho]
      | cons l r =>
        have hso := stover ho
        refine ⟨?_, ?_, ?_, ?_, ?_, hdeep, fun e => absurd e hnn⟩
        · rw [hpush, hkinds, ← h.kinds, ho]; simp [standsP, ho]
        · intro o hm
          simp [standsP, ho] at hm
          rcases hm with rfl | hm
          · exact h.okk l (by rw [ho]; simp)
          · exact h.okk o (by rw [ho]; simp [hm])
        · intro o hm
          simp [standsP, ho] at hm
          exact h.keys o (by rw [ho]; simpa using hm)
        · intro o hm hkey
          simp [standsP, ho] at hm
          subst hm; simp at hkey
        · intro _; simpa [standsP, ho] using hso
    · simp at h0
  rename_i hk1
  rw [if_neg hk1] at hdeep ⊢
  split at h0
  · rename_i hk
    rw [if_pos hk] at hdeep ⊢
    split at h0
    · simp at h0
    rename_i hv
    rw [if_neg hv] at hdeep ⊢
    split at h0
    · simp at h0
    rename_i h6
    rw [if_neg h6] at hdeep ⊢
    have hpush : stackP (had ++ [x]) = had.length :: stackP had := by
      rw [stackP_snoc, push, if_pos (by simpa [opens] using hk)]
    cases ho : st.opn with
    | nil =>
      refine ⟨?_, ?_, ?_, ?_, ?_, hdeep, fun e => absurd e hnn⟩
      · rw [hpush]; rw [List.map_cons, List.map_cons, hkinds, ← h.kinds, ho, kindAt_last]; simp [standsP, ho]
      · intro o hm
        simp [standsP, ho] at hm
        subst hm; simpa [opens] using hk
      · simp [standsP, ho]
      · intro o hm hkey
        simp [standsP, ho] at hm
        subst hm; simp at hkey
      · intro _; simp [standsP, ho]
    | cons l r =>
      have hso := stover ho
      refine ⟨?_, ?_, ?_, ?_, ?_, hdeep, fun e => absurd e hnn⟩
      · rw [hpush]; rw [List.map_cons, List.map_cons, hkinds, ← h.kinds, ho, kindAt_last]; simp [standsP, ho]
      · intro o hm
        simp [standsP, ho] at hm
        rcases hm with rfl | rfl | hm
        · simpa [opens] using hk
        · exact h.okk l (by rw [ho]; simp)
        · exact h.okk o (by rw [ho]; simp [hm])
      · intro o hm
        simp [standsP, ho] at hm
        rcases hm with rfl | hm
        · rfl
        · exact h.keys o (by rw [ho]; simpa using hm)
      · intro o hm hkey
        simp [standsP, ho] at hm
        subst hm; simp at hkey
      · intro _; simpa [standsP, ho] using hso
  rename_i hk2
  rw [if_neg hk2] at hdeep ⊢
  cases ho : st.opn with
  | nil => rw [ho] at h0; simp at h0
  | cons l r =>
    rw [ho] at h0 hdeep
    have hso := stover ho
    have hlk := h.okk l (by rw [ho]; simp)
    simp only [] at h0 hdeep ⊢
    have named : (namedP l x).2 = 0 → (namedP l x).1.kind = l.kind ∧ (namedP l x).1.key = decide (x.kind = 8) := by
      intro e
      unfold namedP at e ⊢
      split at e
      · simp at e
      · rename_i h1; rw [if_neg h1]
        split at e
        · simp at e
        · rename_i h2; rw [if_neg h2]; exact ⟨rfl, rfl⟩
    have fin : ∀ l' : Op, l'.kind = l.kind → (l'.key = true → x.kind = 8) → (opens x.kind = false) → ends x.kind = false → Inv ⟨l' :: r, st.over⟩ (had ++ [x]) := by
      intro l' e1 e2 e3 e4
      have hpush : stackP (had ++ [x]) = stackP had := by rw [stackP_snoc, push, if_neg (by rw [e3]; simp), if_neg (by rw [e4]; simp)]
      refine ⟨?_, ?_, ?_, ?_, fun _ => hso, ?_, fun e => absurd e hnn⟩
      · rw [hpush, hkinds, ← h.kinds, ho]; simp [e1]
      · intro o hm
        rcases List.mem_cons.1 hm with rfl | hm
        · rw [e1]; exact hlk
        · exact h.okk o (by rw [ho]; simp [hm])
      · intro o hm
        exact h.keys o (by rw [ho]; simpa using hm)
      · intro o hm hkey
        simp at hm
        subst hm
        exact ⟨x, hlast, e2 hkey⟩
      · have := h.deep; rw [ho] at this; simpa using this
    split at h0
    · rename_i hk8
      rw [if_pos hk8]
      split at h0
      · simp at h0
      · rename_i hc
        rw [if_neg hc]
        have hn := named h0
        exact fin _ hn.1 (fun _ => hk8) (by rw [hk8]; decide) (by rw [hk8]; decide)
    · rename_i hk8
      rw [if_neg hk8]
      split at h0
      · rename_i hk11
        rw [if_pos hk11]
        split at h0
        · simp at h0
        · rename_i hc
          rw [if_neg hc]
          have hn := named h0
          exact fin _ hn.1 (fun e => by rw [hn.2] at e; simpa using e) (by rw [hk11]; decide) (by rw [hk11]; decide)
      · rename_i hk11
        rw [if_neg hk11]
        split at h0
        · simp at h0
        · rename_i hc
          rw [if_neg hc]
          have hek : l.kind = endOf x.kind := by
            rcases Classical.em (l.kind = endOf x.kind) with e | e
            · exact e
            · exact absurd (.inl e) hc
          have hend : ends x.kind = true := by
            simp [opens] at hlk
            unfold endOf at hek
            simp [ends]
            split at hek
            · exact .inl ‹_›
            · split at hek
              · exact .inr (.inl ‹_›)
              · split at hek
                · exact .inr (.inr ‹_›)
                · omega
          have hpush : stackP (had ++ [x]) = (stackP had).tail := by
            rw [stackP_snoc, push, if_neg (by simp [opens]; simp [ends] at hend; omega), if_pos hend]
          have hk := h.kinds
          rw [ho] at hk
          refine ⟨?_, ?_, ?_, ?_, fun _ => hso, ?_, fun e => absurd e hnn⟩
          · rw [hpush]; have e2 := congrArg List.tail hkinds; have e3 := congrArg List.tail hk; rw [← List.map_tail, ← List.map_tail] at e2; rw [e2]; rw [show List.map (kindAt had) (stackP had).tail = (List.map (kindAt had) (stackP had)).tail from List.map_tail, ← hk]; rfl
          · intro o hm; exact h.okk o (by rw [ho]; exact List.mem_cons_of_mem _ hm)
          · intro o hm; exact h.keys o (by rw [ho]; exact List.mem_of_mem_tail hm)
          · intro o hm hkey
            have : o ∈ r := List.mem_of_mem_head? hm
            have := h.keys o (by rw [ho]; exact this)
            rw [this] at hkey; cases hkey
          · have := h.deep; rw [ho] at this; simp at this ⊢; omega

/-- The End of a thing. -/
def closeOf (k : Int) : Int := if k = 7 then 9 else if k = 10 then 12 else 6
/-- One closing: the innermost thing ends. -/
theorem close_step (right : Ev → Bool) (hr : ∀ k, ends k = true → right ⟨k, [], []⟩ = true) (st : St) (l : Op) (r : List Op) (ho : st.opn = l :: r) (hk : opens l.kind = true) (hkey : l.key = false) :
    stepP right st ⟨closeOf l.kind, [], []⟩ = (⟨r, st.over⟩, 0) := by
  have hk' : l.kind = 5 ∨ l.kind = 7 ∨ l.kind = 10 := by simpa [opens] using hk
  have he : ends (closeOf l.kind) = true := by rcases hk' with e | e | e <;> rw [e] <;> decide
  unfold stepP
  rw [hr _ he, if_neg (by simp)]
  simp only []
  rw [if_neg (by rcases hk' with e | e | e <;> rw [e] <;> decide), if_neg (by rcases hk' with e | e | e <;> rw [e] <;> decide), ho]
  simp only []
  rw [if_neg (by rcases hk' with e | e | e <;> rw [e] <;> decide), if_neg (by rcases hk' with e | e | e <;> rw [e] <;> decide), if_neg (by rw [hkey]; rcases hk' with e | e | e <;> rw [e] <;> decide)]
/-- No key waits for its value. -/
def Calm (st : St) : Prop := ∀ o ∈ st.opn, o.key = false ∧ opens o.kind = true
theorem calm_of (st : St) (had : List Ev) (h : Inv st had) (hl : ∀ e, had.getLast? = some e → e.kind ≠ 8) : Calm st := by
  intro o ho
  refine ⟨?_, h.okk o ho⟩
  cases hs : st.opn with
  | nil => rw [hs] at ho; cases ho
  | cons l r =>
    rw [hs] at ho
    rcases List.mem_cons.1 ho with rfl | ho
    · rw [Bool.eq_false_iff]
      intro hk
      obtain ⟨e, he, h8⟩ := h.key o (by rw [hs]; rfl) hk
      exact hl e he h8
    · exact h.keys o (by rw [hs]; exact ho)
/-- What is open is closed by as many Ends. -/
theorem close_run (right : Ev → Bool) (hr : ∀ k, ends k = true → right ⟨k, [], []⟩ = true) : ∀ (o : List Op) (v : Bool), Calm ⟨o, v⟩ →
    runP right ⟨o, v⟩ (o.map fun l => ⟨closeOf l.kind, [], []⟩) = (⟨[], v⟩, o.length, 0)
  | [], v, _ => rfl
  | l :: r, v, h => by
    have hl := h l (by simp)
    have hs := close_step right hr ⟨l :: r, v⟩ l r rfl hl.2 hl.1
    have ih := close_run right hr r v (fun o ho => h o (by simp [show o ∈ r from ho]))
    simp only [List.map_cons, runP, hs]
    rw [if_pos True.intro, ih]
    rfl
theorem run_app (right : Ev → Bool) : ∀ (a b : List Ev) (st : St), (runP right st a).2.2 = 0 →
    runP right st (a ++ b) = ((runP right (runP right st a).1 b).1, a.length + (runP right (runP right st a).1 b).2.1, (runP right (runP right st a).1 b).2.2)
  | [], b, st, _ => by simp [runP]
  | x :: r, b, st, h => by
    simp only [List.cons_append, runP] at h ⊢
    by_cases hx : (stepP right st x).2 = 0
    · rw [if_pos hx] at h ⊢
      have ih := run_app right r b _ h
      simp only [if_pos hx]
      rw [ih]
      simp only [List.length_cons, Prod.mk.injEq, true_and, and_true]
      omega
    · rw [if_neg hx] at h; exact absurd h hx
end Go.Proofs.YtaolnpiemeaabaaGreatDoor.Ev5
