/- A slice of events that is handed in, opened to its cells; the bound on its bulk. -/
import Derived.Test.YtaolnpiemeaabaaGreatDoorEvZ
import Derived.Test.YtaolnpiemeaabaaGreatDoorRows
import Derived.Deep.Slices
import Derived.Deep.Fields
import Derived.ChangeSame
namespace Go.Proofs.YtaolnpiemeaabaaGreatDoor
open Go.ChangeShapes Go.WideShapes Go.Deep Go.RowKit
set_option linter.unusedSimpArgs false
set_option linter.unusedVariables false
section
variable {H : Type} {enc : TypeId × Value → H} {P : Program} {w : World} {base : Nat} {spare : Nat → Bool} {held : Bool}
theorem open_slice_fields {t e : TypeId} {fs : Array Field} {fuel : Nat} {cs : List Value} {x : DataW H × List MemPlace} (ht : P.underlying t = some (.slice e)) (he : P.underlying e = some (.struct fs))
    (hone : oneCellFields P fs = true) (hC : P.cellsOf e = fs.size) (h : DataW.trod enc P w base spare held fuel t cs = some x) :
    (cs = [.slice none 0 0] ∧ x = (.nil, [])) ∨
    ∃ (a : Addr) (len cap m : Nat) (D : Nat → DataW H) (Pl : Nat → List MemPlace), cs = [.slice (some a) len cap] ∧ base ≤ a.block ∧ len ≤ cap ∧ cap ≤ maxLen ∧ m = (if spare a.block then cap else len) ∧
      x = (.slice ((List.range len).map D) ((List.range (m - len)).map fun j => D (len + j)), MemPlace.row a (m * fs.size) ++ (List.range m).flatMap Pl) ∧
      ∀ i, i < m → ∃ (ys : List (DataW H × List MemPlace)) (n : Nat), D i = .agg (ys.map (·.1)) ∧ Pl i = ys.flatMap (·.2) ∧ ys.length = fs.size ∧
        ∀ (j : Nat) (f : Field), fs[j]? = some f → ∃ (v : Value) (y : DataW H × List MemPlace), w.cell? (a.add (i * fs.size + j)) = some v ∧ ys[j]? = some y ∧ DataW.trod enc P w base spare held n f.type [v] = some y := by
  rcases open_slice ht h with h0 | ⟨a, len, cap, m, n, D, Pl, hcs, hb, hl, hm, hmm, hx, hi⟩
  · exact .inl h0
  · refine .inr ⟨a, len, cap, m, D, Pl, hcs, hb, hl, hm, hmm, by rw [hC] at hx; exact hx, fun i him => ?_⟩
    obtain ⟨cs', hc, ht'⟩ := hi i him
    rw [hC] at hc
    obtain ⟨ys, n', hn', hy, hlen, hyl, hf⟩ := DataW.trod_struct he ht'
    obtain ⟨_, hcl, hat⟩ := World.cells?_some hc
    simp only [Prod.mk.injEq] at hy
    refine ⟨ys, n', hy.1, hy.2, hyl, fun j f hj => ?_⟩
    obtain ⟨ho, hk⟩ := hone_of hone j f hj
    have hjl : j < fs.size := (Array.getElem?_eq_some_iff.1 hj).1
    have hcell := hat j hjl
    have hv : cs'[j]? = some (cs'[j]'(by omega)) := List.getElem?_eq_getElem (by omega)
    have h1 := hf j f hj
    rw [ho, hk] at h1
    have hone' : (cs'.drop j).take 1 = [cs'[j]'(by omega)] := by
      rw [List.drop_eq_getElem_cons (by omega)]
      rfl
    rw [hone'] at h1
    have hys : ys[j]? = some (ys[j]'(by omega)) := List.getElem?_eq_getElem (by omega)
    refine ⟨_, _, ?_, hys, h1.trans hys⟩
    rw [← Go.Deep.add_add, hcell, hv]
end

theorem bulk_one {H : Type} (d : DataW H) : 1 ≤ Rows.uptoBulk d := by
  cases d with
  | lit l => cases l <;> simp [Rows.uptoBulk]
  | nil => simp [Rows.uptoBulk]
  | ptr d => simp [Rows.uptoBulk]
  | slice elems spare => simp [Rows.uptoBulk]
  | agg parts => simp [Rows.uptoBulk]
  | iface t d => simp [Rows.uptoBulk]
  | map entries => simp [Rows.uptoBulk]
  | held h => simp [Rows.uptoBulk]
theorem bulk_part {H : Type} {d : DataW H} {l : List (DataW H)} (h : d ∈ l) : Rows.uptoBulk d ≤ Rows.uptoBulkAll l := by
  induction l with
  | nil => cases h
  | cons x r ih =>
    simp only [Rows.uptoBulkAll]
    cases List.mem_cons.1 h with
    | inl e => subst e; omega
    | inr e => have := ih e; omega
theorem bulk_len {H : Type} (l : List (DataW H)) : l.length ≤ Rows.uptoBulkAll l := by
  induction l with
  | nil => simp [Rows.uptoBulkAll]
  | cons x r ih => have := bulk_one x; simp only [Rows.uptoBulkAll, List.length_cons]; omega
theorem bulk_bound {H : Type} {l : List (DataW H)} (hk : Rows.uptoSmall H l = true) : Rows.uptoBulkAll l ≤ 1048576 := of_decide_eq_true hk

theorem list_of {α : Type} (P : Nat → α → Prop) : ∀ (n : Nat), (∀ i, i < n → ∃ x, P i x) → ∃ l : List α, l.length = n ∧ ∀ (i : Nat) (h : i < l.length), P i l[i]
  | 0, _ => ⟨[], rfl, fun i h => by simp at h⟩
  | n + 1, h => by
    obtain ⟨l, hl, hp⟩ := list_of P n fun i hi => h i (by omega)
    obtain ⟨x, hx⟩ := h n (by omega)
    refine ⟨l ++ [x], by simp [hl], fun i hi => ?_⟩
    by_cases e : i < l.length
    · rw [List.getElem_append_left e]; exact hp i e
    · have : i = n := by simp at hi; omega
      subst this
      rw [List.getElem_append_right (by omega)]
      simpa [hl] using hx

/-- The slice of events that is handed in. -/
theorem ev_open {H : Type} {enc : TypeId × Value → H} {w : World} {v : Value} {d : DataW H} {p : List MemPlace} (hv : ∃ a n c, v = .slice a n c) (h : DataW.Trod enc Tryz.prog w 0 (fun _ => true) true 38 v d p) (hbk : Rows.uptoBulk d ≤ 1048576) :
    ∃ l : List GoEv, EvIn w v l := by
  obtain ⟨a0, n0, c0, rfl⟩ := hv
  obtain ⟨fuel, hf⟩ := h
  rcases open_slice_fields Tryz.underlying38 Tryz.underlying84 (by kernel_rfl) (by kernel_rfl) hf with ⟨hcs, hx⟩ | ⟨a, len, cap, m, D, Pl, hcs, _, hl, hm, hmm, hx, hi⟩
  · simp [Value.cells] at hcs
    obtain ⟨rfl, rfl, rfl⟩ := hcs
    exact ⟨[], EvIn.mk ⟨none, 0, rfl, Nat.le_refl _, by decide, fun i h => by simp at h⟩ (fun x hx => by cases hx) (by simp)⟩
  · simp [Value.cells] at hcs
    obtain ⟨rfl, rfl, rfl⟩ := hcs
    simp only [if_true] at hmm
    subst hmm
    simp only [Prod.mk.injEq] at hx
    obtain ⟨rfl, _⟩ := hx
    simp only [Rows.uptoBulk] at hbk
    have hlen : n0 ≤ 1048576 := by have := bulk_len ((List.range n0).map D); simp at this; omega
    obtain ⟨l, hll, hlp⟩ := list_of (fun i (x : GoEv) => (∃ b o, a = ⟨b, o, none⟩ ∧ w.cell? ⟨b, o + i * 3, none⟩ = some (.int .i64 x.k) ∧ w.cell? ⟨b, o + i * 3 + 1, none⟩ = some (.string x.t) ∧ w.cell? ⟨b, o + i * 3 + 2, none⟩ = some (.string x.v)) ∧ EvOK x) n0 (by
      intro i hin
      obtain ⟨ys, n, hD, _, hyl, hfld⟩ := hi i (by omega)
      have hDb : Rows.uptoBulk (D i) ≤ 1048576 := by
        have := bulk_part (d := D i) (l := (List.range n0).map D) (List.mem_map.2 ⟨i, List.mem_range.2 hin, rfl⟩)
        omega
      rw [hD] at hDb
      simp only [Rows.uptoBulk] at hDb
      obtain ⟨u0, y0, e0, f0, t0⟩ := hfld 0 _ rfl
      obtain ⟨u1, y1, e1, f1, t1⟩ := hfld 1 _ rfl
      obtain ⟨u2, y2, e2, f2, t2⟩ := hfld 2 _ rfl
      obtain ⟨k, ek, rfl, hkw⟩ := DataW.trod_int Tryz.underlying3 t0
      obtain ⟨tt, et, rfl, _⟩ := DataW.trod_string Tryz.underlying9 t1
      obtain ⟨vv, evv, rfl, _⟩ := DataW.trod_string Tryz.underlying9 t2
      simp only [List.cons.injEq, and_true] at ek et evv
      subst ek; subst et; subst evv
      have g1 := bulk_part (d := (DataW.lit (.string tt.data.toList) : DataW H)) (l := ys.map (·.1)) (List.mem_map.2 ⟨_, List.mem_of_getElem? f1, rfl⟩)
      have g2 := bulk_part (d := (DataW.lit (.string vv.data.toList) : DataW H)) (l := ys.map (·.1)) (List.mem_map.2 ⟨_, List.mem_of_getElem? f2, rfl⟩)
      simp only [Rows.uptoBulk] at g1 g2
      rw [Array.length_toList] at g1 g2
      have s1 : tt.data.size = tt.size := rfl
      have s2 : vv.data.size = vv.size := rfl
      have hspot : a.spot = none := by
        have := World.cell?_spot e1
        have h := World.cell?_spot e0
        unfold Addr.add at h
        split at h
        · exact h
        · rename_i hne
          by_cases hi0 : i = 0
          · subst hi0; exact absurd rfl hne
          · obtain ⟨ys0, n0', hD0, _, _, hfld0⟩ := hi 0 (by omega)
            obtain ⟨u00, y00, e00, _, _⟩ := hfld0 0 _ rfl
            have h00 := World.cell?_spot e00
            simpa [Addr.add] using h00
      obtain ⟨b, o, sp⟩ := a
      simp only at hspot
      subst hspot
      have eadd : ∀ q : Nat, (⟨b, o, none⟩ : Addr).add q = ⟨b, o + q, none⟩ := by
        intro q; unfold Addr.add; split
        · subst_vars; rfl
        · rfl
      rw [eadd] at e0 e1 e2
      refine ⟨⟨k, tt, vv⟩, ⟨b, o, rfl, ?_, ?_, ?_⟩, hkw, by simp only []; omega, by simp only []; omega⟩
      · simpa using e0
      · simpa [Nat.add_assoc] using e1
      · simpa [Nat.add_assoc] using e2)
    refine ⟨l, ⟨some a, m, by rw [hll], by omega, hm, fun i hi => ?_⟩, fun x hx => ?_, by omega⟩
    · obtain ⟨⟨b, o, e, c0, c1, c2⟩, _⟩ := hlp i hi
      exact ⟨b, o, by rw [e], c0, c1, c2⟩
    · obtain ⟨i, hi, rfl⟩ := List.mem_iff_getElem.1 hx
      exact (hlp i hi).2
end Go.Proofs.YtaolnpiemeaabaaGreatDoor
