/- A list of whole numbers in memory; the tail as a number; zeros stripped. -/
import Derived.Test.YtaolnpiemeaabaaGreatDoorNumR
import Derived.Test.YtaolnpiemeaabaaGreatDoorNumB
import Derived.Test.YtaolnpiemeaabaaGreatDoorNumM
import Derived.StillTailTactics
import Derived.Deep.RegionLaw
import Derived.IntWalk
import Derived.Deep.RegionHeld3
import Derived.Deep.AppendLies
import Derived.OwnWalk
import Derived.Laws.AppendOwn
namespace Go.Proofs.YtaolnpiemeaabaaGreatDoor
open Go.RowKit Num2
set_option linter.unusedSimpArgs false
set_option linter.unusedVariables false

theorem infoI : (Tryz.prog.info? 3).map (fun i => (i.zero, i.size, i.bytes)) = some (some (.int .i64 0), 1, 8) := by kernel_rfl
def dg1 (c : UInt8) : Int := (c.toNat : Int) - 48
def dgs (l : List UInt8) : List Value := l.map fun c => .int .i64 (dg1 c)

def dgI (l : List UInt8) : List Int := l.map dg1
/-- A slice that reads as a list of whole numbers, in blocks from lo on. -/
def Cells (w : World) (lo : Nat) (sv : Value) (ds : List Int) : Prop :=
  ∃ (A : Option Addr) (c : Nat), sv = .slice A ds.length c ∧ ds.length ≤ c ∧ c ≤ maxLen ∧
    (ds ≠ [] → ∃ b off, A = some ⟨b, off, none⟩ ∧ lo ≤ b ∧ b < w.heap.size ∧ ∀ i (h : i < ds.length), w.cell? ⟨b, off + i, none⟩ = some (.int .i64 ds[i]))
theorem Cells.of_own {w : World} {lo : Nat} {e : TypeId} {sv : Value} {n : Nat} {ds : List Int} (h : w.ownsRow lo e 1 sv n (ds.map (Value.int .i64))) (hm : n ≤ maxLen) : Cells w lo sv ds := by
  have hlt := h.lt
  have hc := fun g => h.cells (g := g)
  obtain ⟨hl, h | ⟨g, cap, cur, rfl, h1, h2, h3, h4, h5, h6⟩⟩ := h
  · obtain ⟨rfl, rfl⟩ := h
    simp at hl
    subst hl
    exact ⟨none, 0, rfl, Nat.le_refl _, Nat.zero_le _, fun h => absurd rfl h⟩
  · have hn : ds.length = n := by simpa using hl
    refine ⟨some ⟨g, 0, none⟩, cap, by rw [hn], by omega, h4, fun _ => ⟨g, 0, rfl, h1, (hlt g rfl).2, fun i hi => ?_⟩⟩
    have := hc g rfl i (.int .i64 ds[i]) (by simp [hi])
    by_cases h0 : i = 0
    · subst h0; simpa [Addr.add] using this
    · simpa [Addr.add, h0] using this
theorem Cells.keep {w w' : World} {lo : Nat} {sv : Value} {ds : List Int} (h : Cells w lo sv ds) (hs : w.heap.size ≤ w'.heap.size) (hc : ∀ b o, lo ≤ b → b < w.heap.size → w'.cell? ⟨b, o, none⟩ = w.cell? ⟨b, o, none⟩) : Cells w' lo sv ds := by
  obtain ⟨A, c, e, h1, h2, h3⟩ := h
  refine ⟨A, c, e, h1, h2, fun hne => ?_⟩
  obtain ⟨b, off, eA, hb, hlt, hcell⟩ := h3 hne
  exact ⟨b, off, eA, hb, Nat.lt_of_lt_of_le hlt hs, fun i hi => by rw [hc b _ hb hlt]; exact hcell i hi⟩
theorem Cells.below {w w' : World} {lo : Nat} {sv : Value} {ds : List Int} (h : Cells w lo sv ds) (hb : Below w.heap.size w w') : Cells w' lo sv ds :=
  h.keep hb.size (fun b o _ hlt => hb.cell (p := ⟨b, o, none⟩) hlt)
theorem Cells.setCell {w : World} {lo : Nat} {sv : Value} {ds : List Int} (h : Cells w lo sv ds) (a : Addr) (ha : a.block < lo) (v : Value) : Cells (w.setCell a v) lo sv ds :=
  h.keep (by simp) (fun b o hb hlt => World.cell?_of_block (w := w) (Below.heap_setCell w a v b (by omega)))

/-- One byte of the tail: has a '-' been met; the number so far. -/
def scan (st : Bool × Int) (c : UInt8) : Bool × Int := (st.1 || decide (c.toNat = 45), if dig c = true ∧ st.2 < 1099511627776 then 10 * st.2 + ((c.toNat : Int) - 48) else st.2)

def Rel2 (w wr : World) (b : Nat) (sg : Bool) (sv : Value) (p : Int) (ds : List Int) : Prop :=
  Three wr w.heap.size (.bool false) (.slice none 0 0) (.int .i64 0) ∧ Three wr b (.bool sg) sv (.int .i64 p) ∧ Cells wr (w.heap.size + 2) sv ds ∧ Below w.heap.size w wr ∧ w.heap.size + 2 ≤ wr.heap.size

def stripR (ds : List Int) : List Int := (ds.reverse.dropWhile (· == 0)).reverse
theorem stripR_nil : stripR [] = [] := rfl
theorem stripR_zero (l : List Int) : stripR (l ++ [0]) = stripR l := by simp [stripR]
theorem stripR_ne (l : List Int) {z : Int} (h : z ≠ 0) : stripR (l ++ [z]) = l ++ [z] := by simp [stripR, h]
theorem stripR_len (l : List Int) : (stripR l).length ≤ l.length := by
  unfold stripR
  rw [List.length_reverse]
  refine Nat.le_trans (List.dropWhile_sublist _).length_le ?_
  rw [List.length_reverse]; exact Nat.le_refl _
def signed (st : Bool × Int) : Int := if st.1 = true then -st.2 else st.2
theorem scan_bd (l : List UInt8) : ∀ st : Bool × Int, 0 ≤ st.2 → st.2 ≤ 10995116277769 → 0 ≤ (l.foldl scan st).2 ∧ (l.foldl scan st).2 ≤ 10995116277769 := by
  induction l with
  | nil => intro st h0 h1; exact ⟨h0, h1⟩
  | cons c r ih =>
    intro st h0 h1
    rw [List.foldl_cons]
    apply ih
    · unfold scan; simp only []; split
      · rename_i h; have := h.1; simp [dig] at this; omega
      · exact h0
    · unfold scan; simp only []; split
      · rename_i h; have := h.1; simp [dig] at this; omega
      · exact h1

def Rel1 (w wr : World) (b : Nat) (sg : Bool) (sv p : Value) (n : Nat) (ds : List Value) : Prop :=
  Three wr w.heap.size (.bool false) (.slice none 0 0) (.int .i64 0) ∧ Three wr b (.bool sg) sv p ∧ wr.ownsRow (w.heap.size + 2) 3 1 sv n ds ∧ Below w.heap.size w wr ∧ w.heap.size + 2 ≤ wr.heap.size

end Go.Proofs.YtaolnpiemeaabaaGreatDoor
