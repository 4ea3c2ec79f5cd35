/- Helpers of the laws of layer 5: parts of a row of events; a row of the call's own that was taken. -/
import Derived.Test.YtaolnpiemeaabaaGreatDoorEvT
namespace Go.Proofs.YtaolnpiemeaabaaGreatDoor
open Go.RowKit Ev5
set_option linter.unusedSimpArgs false
set_option linter.unusedVariables false

theorem EvIn.take {w : World} {ao : Option Addr} {cap : Nat} {l : List GoEv} (h : EvIn w (.slice ao l.length cap) l) (n : Nat) (hn : n ≤ l.length) : EvIn w (.slice ao (l.take n).length cap) (l.take n) := by
  obtain ⟨ao', cap', h1, h2, h3, h4⟩ := h.ex
  injection h1 with e1 e2 e3
  subst e1; subst e3
  have hl : (l.take n).length = n := by rw [List.length_take]; omega
  refine ⟨⟨ao, cap, rfl, by omega, h3, fun i hi => ?_⟩, fun x hx => h.ok x (List.mem_of_mem_take hx), by have := h.len; omega⟩
  have := h4 i (by omega)
  rwa [← List.getElem_take (h := hi)] at this
theorem EvIn.some {w : World} {ao : Option Addr} {n cap : Nat} {l : List GoEv} (h : EvIn w (.slice ao n cap) l) (hl : 0 < l.length) : n = l.length ∧ n ≤ cap ∧ ∃ b o, ao = some ⟨b, o, none⟩ := by
  obtain ⟨ao', cap', h1, h2, h3, h4⟩ := h.ex
  injection h1 with e1 e2 e3
  subst e1; subst e3
  obtain ⟨b, o, e, _⟩ := h4 0 hl
  exact ⟨e2, by omega, b, o, e⟩

theorem mod_lt (x : Int) (n : Nat) (hn : 0 < n) (h : 0 ≤ x) : ∃ m : Nat, x % (n : Int) = m ∧ m < n := by
  have h1 := Int.emod_nonneg x (b := (n : Int)) (by omega)
  have h2 := Int.emod_lt_of_pos x (b := (n : Int)) (by omega)
  exact ⟨(x % (n : Int)).toNat, by omega, by omega⟩
theorem whole_nil : wholeP RP [] = (0, 19) := rfl
def nullE : GoEv := ⟨1, ⟨#[]⟩, ⟨#[]⟩⟩
theorem nullE_ok : EvOK nullE := ok_lit 1 _ (by decide) (show (0 : Nat) ≤ 1048576 by decide)
theorem RP_null : RP ⟨1, [], []⟩ = true := rfl
theorem RP_end (k : Int) (h : ends k = true) : RP ⟨k, [], []⟩ = true := right_end _ k h
/-- The taken events, in memory and as they are. -/
structure Had (w0 w : World) (base : Nat) (v : Value) (had : List GoEv) (st : St) : Prop where
  own : EvOwn w base v had
  ok : ∀ x ∈ had, EvOK x
  tk : Tk RP st (had.map GoEv.ev)
  bel : Below w0.heap.size w0 w
theorem Had.below {w0 w w' : World} {base : Nat} {v : Value} {had : List GoEv} {st : St} (h : Had w0 w base v had st) (hb : Below w.heap.size w w') : Had w0 w' base v had st :=
  ⟨h.own.below hb, h.ok, h.tk, below_then h.bel hb⟩
theorem Had.kind {w0 w : World} {base : Nat} {v : Value} {had : List GoEv} {st : St} (h : Had w0 w base v had st) (hl : had.length ≤ 1048576) (i : Nat) (hi : i < had.length) : ∃ g cap, v = .slice (some ⟨g, 0, none⟩) had.length cap ∧ w.cell? ⟨g, i * 3, none⟩ = some (.int .i64 had[i].k) ∧ g < w.heap.size ∧ had.length ≤ cap := by
  obtain ⟨ao, cap, e, hc, _, hh⟩ := (h.own.evIn h.ok hl).ex
  obtain ⟨b, o, e2, c0, _, _⟩ := hh i hi
  rcases h.own.2 with ⟨e3, h0⟩ | ⟨g, cap', cur, e3, hb, hg, hc', hm, hs, ht⟩
  · omega
  · rw [e3] at e
    injection e with e4 e5 e6
    rw [e2] at e4
    injection e4 with e4
    injection e4 with e7 e8
    subst e7; subst e8
    exact ⟨g, cap', e3, by simpa using c0, cell_lt c0, hc'⟩
theorem Had.shape {w0 w : World} {base : Nat} {v : Value} {had : List GoEv} {st : St} (h : Had w0 w base v had st) : ∃ a cap, v = .slice a had.length cap := by
  rcases h.own.2 with ⟨e3, h0⟩ | ⟨g, cap', cur, e3, _⟩
  · exact ⟨none, 0, by rw [e3, h0]⟩
  · exact ⟨_, _, e3⟩
/-- Behind an append of an event. -/
theorem Had.snoc {w0 w w' : World} {base : Nat} {v v' : Value} {had : List GoEv} {st st' : St} (h : Had w0 w base v had st) (x : GoEv) (hx : EvOK x) (hbase : w0.heap.size ≤ base) (hbw : base ≤ w.heap.size)
    (hown : w'.ownsRow base 84 3 v' (had.length + 1) (evRow had ++ evL x)) (hg : (w.alloc (.cells #[.int .i64 x.k, .string x.t, .string x.v] 84)).grownBy w' v.ownBlock) (htk : Tk RP st' (had.map GoEv.ev ++ [x.ev])) : Had w0 w' base v' (had ++ [x]) st' := by
  refine ⟨?_, fun y hy => ?_, by rw [List.map_append]; exact htk, ?_⟩
  · show World.ownsRow _ _ _ _ _ _ _
    rw [evRow_snoc, List.length_append]; exact hown
  · rcases List.mem_append.1 hy with hy | hy
    · exact h.ok y hy
    · simp at hy; subst hy; exact hx
  · exact (h.bel.alloc h.bel.size _).grown hg (by have := h.bel.size; simp; omega) (fun q hq => by have := (h.own.lt q hq).1; omega)

theorem Had.last {w0 w : World} {base : Nat} {v : Value} {had : List GoEv} {st : St} (h : Had w0 w base v had st) (hl : had.length ≤ 1048576) {m : Nat} (hm : had.length = m + 1) : ∃ g cap q, v = .slice (some ⟨g, 0, none⟩) (m + 1) cap ∧ w.cell? ⟨g, m * 3, none⟩ = some (.int .i64 q) ∧ g < w.heap.size ∧ m + 1 ≤ cap ∧
    ∃ e, (had.map GoEv.ev).getLast? = some e ∧ e.kind = q := by
  obtain ⟨g, cap, e, c0, hg, hc⟩ := h.kind hl m (by omega)
  refine ⟨g, cap, (had[m]'(by omega)).k, by rw [e, hm], c0, hg, by omega, (had[m]'(by omega)).ev, ?_, rfl⟩
  rw [List.getLast?_map, List.getLast?_eq_getElem?, show had.length - 1 = m by omega, List.getElem?_eq_getElem (by omega)]
  rfl
theorem closeOf_cases {k : Int} (h : k = 5 ∨ k = 7 ∨ k = 10) : closeOf k = 6 ∨ closeOf k = 9 ∨ closeOf k = 12 := by rcases h with rfl | rfl | rfl <;> decide
theorem end_ok {k : Int} (h : k = 6 ∨ k = 9 ∨ k = 12) : EvOK ⟨k, ⟨#[]⟩, ⟨#[]⟩⟩ := ok_lit k _ (by rcases h with rfl | rfl | rfl <;> decide) (show (0 : Nat) ≤ 1048576 by decide)
/-- An append to a row of events: how the walk goes over it. -/
theorem ev_len (had : List GoEv) (h : had.length ≤ 200) : had.length + 1 ≤ maxLen ∧ (had.length + 1) * 40 ≤ 140737488355328 := by unfold maxLen; omega

end Go.Proofs.YtaolnpiemeaabaaGreatDoor
