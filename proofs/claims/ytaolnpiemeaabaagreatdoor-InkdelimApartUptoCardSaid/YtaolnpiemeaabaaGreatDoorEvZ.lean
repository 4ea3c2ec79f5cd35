/- Step under what is known of the library's tables; a row of events in memory; lives. -/
import Derived.Test.YtaolnpiemeaabaaGreatDoorEvS
import Derived.Test.YtaolnpiemeaabaaGreatDoorEvY
namespace Go.Proofs.YtaolnpiemeaabaaGreatDoor
open Go.RowKit Ev5
set_option linter.unusedSimpArgs false
set_option linter.unusedVariables false

def RP : Ev → Bool := rightP Num2.normP
/-- An event whose kind is an int's and whose texts are no longer than the bound. -/
structure EvOK (x : GoEv) : Prop where
  k : (Lit.int .i64 x.k).wf = true
  t : x.t.size ≤ 1048576
  v : x.v.size ≤ 1048576
theorem go_step (w : World) {base c : Nat} {v : Value} {ps : List (Nat × Nat)} {st : St} (hE : EnvU w) (h : Chk w base c v ps st) (h6 : st.opn.length ≤ 6) (x : GoEv) (hx : EvOK x) :
    Calls Tryz.prog 83 #[.pointer (some ⟨c, 0, none⟩), evV x] w fun e w' => e = .returned (.int .i64 (stepP RP st x.ev).2) ∧ (∃ v' ps', Chk w' base c v' ps' (stepP RP st x.ev).1) ∧ Mv base w w' :=
  cstep_any RP w h h6 x (by have := hx.t; omega) hx.k fun W hb => right_any x W (hE.below hb) hx.t hx.v

/-- A row of events in memory. -/
structure EvIn (w : World) (v : Value) (l : List GoEv) : Prop where
  ex : ∃ (ao : Option Addr) (cap : Nat), v = .slice ao l.length cap ∧ l.length ≤ cap ∧ cap ≤ maxLen ∧
    ∀ (i : Nat) (h : i < l.length), ∃ b o, ao = some ⟨b, o, none⟩ ∧ w.cell? ⟨b, o + i * 3, none⟩ = some (.int .i64 l[i].k) ∧ w.cell? ⟨b, o + i * 3 + 1, none⟩ = some (.string l[i].t) ∧ w.cell? ⟨b, o + i * 3 + 2, none⟩ = some (.string l[i].v)
  ok : ∀ x ∈ l, EvOK x
  len : l.length ≤ 1048576
theorem EvIn.below {w w' : World} {v : Value} {l : List GoEv} (h : EvIn w v l) (hb : Below w.heap.size w w') : EvIn w' v l := by
  obtain ⟨ao, cap, h1, h2, h3, h4⟩ := h.ex
  refine ⟨⟨ao, cap, h1, h2, h3, fun i hi => ?_⟩, h.ok, h.len⟩
  obtain ⟨b, o, e, c0, c1, c2⟩ := h4 i hi
  have hl := cell_lt c0
  exact ⟨b, o, e, by rw [hb.cell (p := ⟨b, o + i * 3, none⟩) hl]; exact c0, by rw [hb.cell (p := ⟨b, o + i * 3 + 1, none⟩) hl]; exact c1, by rw [hb.cell (p := ⟨b, o + i * 3 + 2, none⟩) hl]; exact c2⟩

theorem lives1 : stepP RP St.new ⟨5, [], []⟩ = (⟨[⟨5, false, false, false, []⟩], true⟩, 0) := by kernel_rfl
theorem lives2 : stepP RP ⟨[⟨5, false, false, false, []⟩], true⟩ ⟨3, [49], []⟩ = (⟨[⟨5, false, false, true, []⟩], true⟩, 0) := by kernel_rfl
theorem lives3 : stepP RP ⟨[⟨5, false, false, true, []⟩], true⟩ ⟨6, [], []⟩ = (⟨[], true⟩, 0) := by kernel_rfl
theorem lives4 : stepP RP ⟨[], true⟩ ⟨1, [], []⟩ = (⟨[], true⟩, 19) := by kernel_rfl

theorem ok_lit (k : Int) (t : ByteArray) (hk : (Lit.int .i64 k).wf = true) (ht : t.size ≤ 1048576) : EvOK ⟨k, t, ⟨#[]⟩⟩ := ⟨hk, ht, show (0 : Nat) ≤ 1048576 by decide⟩
theorem add0 (b o : Nat) : (⟨b, o, none⟩ : Addr).add 0 = ⟨b, o, none⟩ := rfl

/-- A row from a state on, event by event. -/
theorem runP_snoc (R : Ev → Bool) (l : List Ev) (x : Ev) (h : (runP R St.new l).2.2 = 0) : runP R St.new (l ++ [x]) = if (stepP R (runP R St.new l).1 x).2 = 0 then ((stepP R (runP R St.new l).1 x).1, l.length + 1, 0) else ((runP R St.new l).1, l.length, (stepP R (runP R St.new l).1 x).2) := by
  rw [run_app R l [x] St.new h]
  simp only [runP]
  split <;> simp
theorem runP_stop (R : Ev → Bool) (l r : List Ev) (x : Ev) (h : (runP R St.new l).2.2 = 0) (hx : (stepP R (runP R St.new l).1 x).2 ≠ 0) : wholeP R (l ++ x :: r) = (l.length, (stepP R (runP R St.new l).1 x).2) := by
  have : runP R St.new (l ++ x :: r) = ((runP R St.new l).1, l.length, (stepP R (runP R St.new l).1 x).2) := by
    rw [run_app R l (x :: r) St.new h]
    simp only [runP]
    rw [if_neg hx]; simp
  unfold wholeP
  rw [this, if_pos hx]
theorem runP_end (R : Ev → Bool) (l : List Ev) (h : (runP R St.new l).2.2 = 0) : wholeP R l = (l.length, if (runP R St.new l).1.done = true then 0 else 19) := by
  unfold wholeP
  rw [if_neg (by rw [h]; simp)]
  split <;> rfl
theorem runP_deep (R : Ev → Bool) : ∀ (l : List Ev) (st : St), st.opn.length ≤ 6 → (runP R st l).1.opn.length ≤ 6
  | [], st, h => h
  | x :: r, st, h => by
    simp only [runP]
    split
    · exact runP_deep R r _ (step_depth R st x h).1
    · exact h

end Go.Proofs.YtaolnpiemeaabaaGreatDoor
