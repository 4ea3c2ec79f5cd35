/- A map from strings to bool that serves as a set of names: told by the list of its keys. -/
import Derived.Maps.OwnOps
import Derived.Maps.OwnSet
import Derived.StringKeys
namespace Go.Proofs.YtaolnpiemeaabaaGreatDoor
open Go.Maps Go.MapKept Go.ChangeMaps
set_option linter.unusedSimpArgs false
set_option linter.unusedVariables false

/-- Block b is a map that holds just the names ks, each with true. -/
def Names (w : World) (P : Program) (k e : TypeId) (b : Nat) (ks : List (List UInt8)) : Prop :=
  ∃ D : DataW Unit, w.ownsMap P k (plainElem P e) b ks.length D ∧ Maps.Tidy D ∧ Maps.size D = ks.length ∧
    (∀ s, Maps.has D (.string s) = ks.contains s) ∧ (∀ s, D.atKey (.string s) (.lit (.bool false)) = .lit (.bool (ks.contains s)))

theorem names_new (w : World) (P : Program) (k e : TypeId) : Names (w.alloc (.map #[] 0)) P k e w.heap.size [] :=
  ⟨.map [], World.ownsMap_made _ _ _ _, Maps.tidy_empty, rfl, fun s => rfl, fun s => rfl⟩

theorem Names.kept {w w' : World} {P : Program} {k e : TypeId} {b : Nat} {ks : List (List UInt8)} {row : Option Nat} (h : Names w P k e b ks) (hg : w.grownBy w' row) (hne : some b ≠ row) : Names w' P k e b ks := by
  obtain ⟨D, h1, h2⟩ := h
  exact ⟨D, h1.kept hg hne, h2⟩
theorem Names.lt {w : World} {P : Program} {k e : TypeId} {b : Nat} {ks : List (List UInt8)} (h : Names w P k e b ks) : b < w.heap.size := by
  obtain ⟨D, h1, _⟩ := h
  exact h1.lt

theorem plainElem_bool_inv {P : Program} {e : TypeId} (he : P.underlying e = some .bool) {v : Value} {z : DataW Unit × List MemPlace} (h : plainElem P e v = some z) : ∃ x, v = .bool x ∧ z = (.lit (.bool x), []) := by
  unfold plainElem at h
  rw [he] at h
  cases v <;> simp at h
  exact ⟨_, rfl, h.symm⟩

theorem Names.look {w : World} {P : Program} {k e t : TypeId} {b : Nat} {ks : List (List UInt8)} (h : Names w P k e b ks) (K : Keyed P k) (ht : P.underlying t = some (.map k e)) (he : P.underlying e = some .bool)
    (hz : (zeroValue e).run P w = .ok (.bool false) w) {key : Value} {s : List UInt8} (hkey : keyOf P k key = some (.string s)) : (Instr.lookup t (.map (some b)) key false).run P w = .ok (.bool (ks.contains s)) w := by
  obtain ⟨D, h1, h2, h3, h4, h5⟩ := h
  obtain ⟨v, ps, hrun, hv⟩ := h1.lookup K ht hz (plainElem_bool he false) hkey
  obtain ⟨x, rfl, hx⟩ := plainElem_bool_inv he hv
  rw [h5] at hx
  simp only [Prod.mk.injEq, DataW.lit.injEq, Lit.bool.injEq] at hx
  rw [hrun, hx.1]

theorem Names.put {w : World} {P : Program} {k e t : TypeId} {b : Nat} {ks : List (List UInt8)} (h : Names w P k e b ks) (K : Keyed P k) (ht : P.underlying t = some (.map k e)) (he : P.underlying e = some .bool)
    (hn : ks.length < maxLen) {key : Value} {s : List UInt8} (hkey : keyOf P k key = some (.string s)) (hs : ks.contains s = false) :
    ∃ w', (Instr.mapUpdate t (.map (some b)) key (.bool true)).run P w = .ok () w' ∧ Names w' P k e b (ks ++ [s]) ∧ w.grownBy w' (some b) := by
  obtain ⟨D, h1, h2, h3, h4, h5⟩ := h
  obtain ⟨w', hrun, hown, hg⟩ := h1.update K ht hn hkey (plainElem_bool he true)
  refine ⟨w', hrun, ⟨_, by rw [List.length_append]; exact hown, h2.put (show WideAt.IsKeyLit (.string s) from trivial) _, ?_, ?_, ?_⟩, hg⟩
  · rw [Maps.size_put h2, h4, hs]; simp [h3]
  · intro s'
    by_cases e1 : s' = s
    · subst e1
      rw [Maps.has_put_same h2.isMap (show WideAt.IsKeyLit (.string s') from trivial)]; simp
    · rw [Maps.has_put_other (fun e2 => e1 (by injection e2)), h4]; simp [e1]
  · intro s'
    by_cases e1 : s' = s
    · subst e1
      rw [Maps.atKey_put_same h2.isMap (show WideAt.IsKeyLit (.string s') from trivial)]; simp
    · rw [Maps.atKey_put_other (fun e2 => e1 (by injection e2)), h5]; simp [e1]

variable {P : Program} {w : World} {ops : Array Oper} {rest : List Oper} {o : Oper} {a : Act} {Q : Exit → Act → World → Prop}
/-- 'm[k]' at the operation: (at_lookup; refine wpList_names_look ..). -/
theorem wpList_names_look (hg : o.guard = none) (m x : Operand) (t : TypeId) (hop : o.op = Op.lookup t m x false) (k e : TypeId) (K : Keyed P k) (ht : P.underlying t = some (.map k e)) (he : P.underlying e = some .bool)
    (hz : (zeroValue e).run P w = .ok (.bool false) w) (b : Nat) (ks : List (List UInt8)) (hm : a.eval m = .map (some b)) (hN : Names w P k e b ks) (key : Value) (s : List UInt8) (hx : a.eval x = key) (hkey : keyOf P k key = some (.string s))
    (hK : wpList P ops Q rest (a.put o.dst (.bool (ks.contains s))) w) : wpList P ops Q (o :: rest) a w := by
  refine wpList_plain hg fun K' hK' => ?_
  have hrun := hN.look K ht he hz hkey
  unfold Oper.wp
  simp [execOp, hop, hm, hx, hrun, Result.andThen, -List.contains_eq_mem]
  exact hK' _ _ hK
/-- 'm[k] = true' at the operation: (at_mapUpdate; refine wpList_names_put ..; intro w1 hN1 hg1). -/
theorem wpList_names_put (hg : o.guard = none) (m x v : Operand) (t : TypeId) (hop : o.op = Op.mapUpdate t m x v) (k e : TypeId) (K : Keyed P k) (ht : P.underlying t = some (.map k e)) (he : P.underlying e = some .bool)
    (b : Nat) (ks : List (List UInt8)) (hm : a.eval m = .map (some b)) (hN : Names w P k e b ks) (hn : ks.length < maxLen) (key : Value) (s : List UInt8) (hx : a.eval x = key) (hv : a.eval v = .bool true) (hkey : keyOf P k key = some (.string s)) (hs : ks.contains s = false)
    (hK : ∀ w', Names w' P k e b (ks ++ [s]) → w.grownBy w' (some b) → wpList P ops Q rest (a.put o.dst undef) w') : wpList P ops Q (o :: rest) a w := by
  refine wpList_plain hg fun K' hK' => ?_
  obtain ⟨w', hrun, r1, r2⟩ := hN.put K ht he hn hkey hs
  unfold Oper.wp
  simp [execOp, hop, hm, hx, hv, hrun, Result.andThen]
  exact hK' _ _ (hK w' r1 r2)
/-- 'len(m)' at the operation: (at_len; refine wpList_names_len ..). -/
theorem wpList_names_len (hg : o.guard = none) (m : Operand) (t : TypeId) (hop : o.op = Op.call { callee := Callee.builtin Builtin.len, args := #[m], argTypes := #[t] }) (k e : TypeId) (ht : P.underlying t = some (.map k e))
    (b : Nat) (ks : List (List UInt8)) (hm : a.eval m = .map (some b)) (hN : Names w P k e b ks) (hK : wpList P ops Q rest (a.put o.dst (.int .i64 ks.length)) w) : wpList P ops Q (o :: rest) a w := by
  refine wpList_plain hg fun K' hK' => ?_
  obtain ⟨D, h1, h2, h3, h4, h5⟩ := hN
  unfold Oper.wp
  simp [execOp, hop, resolve, invoke, builtin, hm, h1.len ht o.type, h3, Result.andThen]
  exact hK' _ _ hK
end Go.Proofs.YtaolnpiemeaabaaGreatDoor
