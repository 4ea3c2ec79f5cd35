/- Plain Lean: whatever was taken can be gone on with to a document. -/
import Derived.Test.YtaolnpiemeaabaaGreatDoorEvC
namespace Go.Proofs.YtaolnpiemeaabaaGreatDoor.Ev5
set_option linter.unusedSimpArgs false
set_option linter.unusedVariables false

/-- The state st stands behind the taken events had. -/
structure Tk (right : Ev → Bool) (st : St) (had : List Ev) : Prop where
  inv : Inv st had
  knows : Knows had 0 st.opn (stackP had)
  run : runP right St.new had = (st, had.length, 0)
  k8 : ∀ e, had.getLast? = some e → e.kind = 8 → ∃ o r, st.opn = o :: r ∧ o.key = true ∧ o.kind = 7

theorem tk_new (right : Ev → Bool) : Tk right St.new [] := ⟨inv_new, by simp [St.new, stackP, stackFrom, Knows], rfl, by simp⟩

theorem step_key (right : Ev → Bool) (st : St) (x : Ev) (h0 : (stepP right st x).2 = 0) (h8 : x.kind = 8) : ∃ o r, (stepP right st x).1.opn = o :: r ∧ o.key = true ∧ o.kind = 7 := by
  unfold stepP at h0 ⊢
  split at h0
  · simp at h0
  rename_i hr
  rw [if_neg hr]
  rw [if_neg (by omega), if_neg (by omega)] at h0 ⊢
  cases ho : st.opn with
  | nil => rw [ho] at h0; simp at h0
  | cons l r =>
    rw [ho] at h0
    simp only [] at h0 ⊢
    rw [if_pos h8]
    split at h0
    · simp at h0
    rename_i hc
    rw [if_neg hc]
    have e7 : l.kind = 7 := by rcases Classical.em (l.kind = 7) with e | e; exact e; exact absurd (.inl e) hc
    simp only [] at h0 ⊢
    unfold namedP at h0 ⊢
    split at h0
    · simp at h0
    rename_i n1; rw [if_neg n1]
    split at h0
    · simp at h0
    rename_i n2; rw [if_neg n2]
    exact ⟨_, _, rfl, by simp [h8], e7⟩

theorem Tk.step {right : Ev → Bool} {st : St} {had : List Ev} (h : Tk right st had) {x : Ev} (h0 : (stepP right st x).2 = 0) : Tk right (stepP right st x).1 (had ++ [x]) := by
  refine ⟨inv_step right st had x h.inv h0, knows_step right st had x h.inv h.knows h0, ?_, ?_⟩
  · rw [run_app right had [x] St.new (by rw [h.run]), h.run]
    simp only [runP]
    rw [if_pos h0]; simp
  · intro e he h8
    simp at he
    subst he
    exact step_key right st x h0 h8

theorem Tk.same {right : Ev → Bool} {st : St} {had : List Ev} (h : Tk right st had) {x : Ev} (h0 : (stepP right st x).2 ≠ 0) : (stepP right st x).1 = st :=
  (step_depth right st x h.inv.deep).2.2.2.1 h0

theorem Tk.null {right : Ev → Bool} (hr : right ⟨1, [], []⟩ = true) {st : St} {had : List Ev} (h : Tk right st had) (h8 : had = [] ∨ ∃ e, had.getLast? = some e ∧ e.kind = 8) : (stepP right st ⟨1, [], []⟩).2 = 0 := by
  have hv : valueP st ⟨1, [], []⟩ = true := by
    rcases h8 with rfl | ⟨e, he, h8⟩
    · rw [h.inv.new rfl]; rfl
    · obtain ⟨o, r, h1, h2, h3⟩ := h.k8 e he h8
      simp [valueP, h1, h2, h3]
  unfold stepP
  rw [hr, if_neg (by simp), if_pos (.inl rfl), if_pos hv]

theorem Tk.calm {right : Ev → Bool} {st : St} {had : List Ev} (h : Tk right st had) (hl : ∀ e, had.getLast? = some e → e.kind ≠ 8) : Calm st := calm_of st had h.inv hl

/-- What ref At tells, and what is open. -/
theorem Tk.at_ {right : Ev → Bool} {st : St} {had : List Ev} (h : Tk right st had) : (stackP had = [] ∧ st.opn = []) ∨ (∃ i s l r, stackP had = i :: s ∧ st.opn = l :: r ∧ i < had.length ∧ l.kind = kindAt had i ∧ (l.kind = 5 ∨ l.kind = 7 ∨ l.kind = 10) ∧ s.length = r.length) := by
  have hk := h.knows
  cases hs : stackP had with
  | nil => cases ho : st.opn with
    | nil => exact .inl ⟨rfl, rfl⟩
    | cons l r => rw [hs, ho] at hk; exact hk.elim
  | cons i s => cases ho : st.opn with
    | nil => rw [hs, ho] at hk; exact hk.elim
    | cons l r =>
      rw [hs, ho] at hk
      have hks := h.inv.kinds
      rw [hs, ho] at hks
      simp at hks
      have := h.inv.okk l (by rw [ho]; simp)
      exact .inr ⟨i, s, l, r, rfl, rfl, hk.1, hks.1, by simpa [opens] using this, by have := knows_len hk; simp at this; omega⟩
theorem Tk.len {right : Ev → Bool} {st : St} {had : List Ev} (h : Tk right st had) : (stackP had).length = st.opn.length := (knows_len h.knows).symm
theorem Tk.over_iff {right : Ev → Bool} {st : St} {had : List Ev} (h : Tk right st had) : st.over = true ↔ had ≠ [] :=
  ⟨fun e hn => by have := h.inv.new hn; rw [this] at e; simp [St.new] at e, h.inv.over⟩

theorem Tk.close {right : Ev → Bool} (hr : ∀ k, ends k = true → right ⟨k, [], []⟩ = true) {st : St} {had : List Ev} (h : Tk right st had) (hc : Calm st) {l : Op} {r : List Op} (ho : st.opn = l :: r) :
    Tk right ⟨r, st.over⟩ (had ++ [⟨closeOf l.kind, [], []⟩]) ∧ Calm ⟨r, st.over⟩ := by
  have hl := hc l (by rw [ho]; simp)
  have hs := close_step right hr st l r ho hl.2 hl.1
  have := h.step (x := ⟨closeOf l.kind, [], []⟩) (by rw [hs])
  rw [hs] at this
  exact ⟨this, fun o hm => hc o (by rw [ho]; exact List.mem_cons_of_mem _ hm)⟩

theorem Tk.whole {right : Ev → Bool} {st : St} {had : List Ev} (h : Tk right st had) (hn : had ≠ []) (ho : st.opn = []) : wholeP right had = (had.length, 0) := by
  have hov := h.inv.over hn
  unfold wholeP
  rw [h.run]
  simp [St.done, hov, ho]

/-- A calm state is left calm by Null behind a key, or at the start. -/
theorem Tk.null_calm {right : Ev → Bool} (hr : right ⟨1, [], []⟩ = true) {st : St} {had : List Ev} (h : Tk right st had) (h8 : had = [] ∨ ∃ e, had.getLast? = some e ∧ e.kind = 8) :
    Tk right (stepP right st ⟨1, [], []⟩).1 (had ++ [⟨1, [], []⟩]) ∧ Calm (stepP right st ⟨1, [], []⟩).1 := by
  have h1 := h.step (h.null hr h8)
  exact ⟨h1, h1.calm (by intro e he; simp at he; subst he; simp)⟩
end Go.Proofs.YtaolnpiemeaabaaGreatDoor.Ev5
