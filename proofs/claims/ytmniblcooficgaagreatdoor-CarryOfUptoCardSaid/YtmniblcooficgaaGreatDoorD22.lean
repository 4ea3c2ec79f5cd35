import Derived.Deep.RegionHeld3
import Derived.Test.YtmniblcooficgaaGreatDoorD20
import Derived.Test.YtmniblcooficgaaGreatDoorD08
import Derived.Deep.RegionLaw
import Derived.Deep.LoopGhost
import Derived.Deep.DeepCutAuto
import Derived.Deep.CutBlock
import Derived.Test.YtmniblcooficgaaGreatDoorD21
import Derived.Test.YtmniblcooficgaaGreatDoorD02
namespace Go.Proofs.YtmniblcooficgaaGreatDoor
open Go.RowKit Ev5
set_option linter.unusedSimpArgs false
set_option linter.unusedVariables false

theorem refRun_at (R : Ev → Bool) (l : List GoEv) (k : Nat) (h : k < l.length) : refRunP R ((l.take k).map GoEv.ev) ((l.drop k).map GoEv.ev) = if refStepP R ((l.take k).map GoEv.ev) l[k].ev ≠ 0 then some (k, refStepP R ((l.take k).map GoEv.ev) l[k].ev) else refRunP R ((l.take (k + 1)).map GoEv.ev) ((l.drop (k + 1)).map GoEv.ev) := by
  rw [List.drop_eq_getElem_cons h, List.map_cons]
  simp only [refRunP]
  rw [show ((l.take k).map GoEv.ev).length = k by rw [List.length_map, List.length_take]; omega, show (l.take k).map GoEv.ev ++ [l[k].ev] = (l.take (k + 1)).map GoEv.ev by rw [List.take_add_one, List.getElem?_eq_getElem h, List.map_append]; rfl]

set_option maxRecDepth 1000000 in
set_option maxHeartbeats 8000000 in
theorem refWhole_any (w : World) (v : Value) (l : List GoEv) (hin : EvIn w v l) :
    Calls Tryz.prog 39 #[v] w fun e w' => e = .returned (.tuple #[.int .i64 (refWholeP RP (l.map GoEv.ev)).1, .int .i64 (refWholeP RP (l.map GoEv.ev)).2]) ∧ Below w.heap.size w w' := by
  have HIN := Lib.hid hin
  obtain ⟨ao, cap, rfl, hcap, hcm, hcells⟩ := hin.ex
  have HC := Lib.hid hcells
  have hlen := hin.len
  clear hin hcells
  have HNL := Lib.hid (show (l.map GoEv.ev).length = l.length from List.length_map _)
  go_enter Tryz.func39, Tryz.ntmps39
  go_wp2_with fail
  go_loopw [4] (fun vi wr => ∃ k : Nat, k ≤ l.length ∧ vi = .int .i64 k ∧ Hid (refRunP RP [] (l.map GoEv.ev) = refRunP RP ((l.take k).map GoEv.ev) ((l.drop k).map GoEv.ev)) ∧ Hid (Below w.heap.size w wr))
    (fun vi _ => l.length - (intOf vi).toNat)
  case atStart => exact ⟨0, Nat.zero_le _, rfl, rfl, Below.refl _ _⟩
  case round =>
    obtain ⟨k, hk, rfl, HR, HB⟩ := hrel
    by_cases hlt : k < l.length
    · obtain ⟨b, o, hao, c0, c1, c2⟩ := HC.out k hlt
      subst hao
      have hbl : b < w.heap.size := cell_lt c0
      have hxs := refRun_at RP l k hlt
      obtain ⟨x, hx⟩ : ∃ x, l[k] = x := ⟨_, rfl⟩
      rw [hx] at c0 c1 c2 hxs
      have hmem : x ∈ l := by rw [← hx]; exact List.getElem_mem hlt
      have HOK := Lib.hid (HIN.out.ok x hmem)
      have HXS := Lib.hid hxs
      have hin2 := (HIN.out.take k (by omega)).below HB.out
      rw [show (l.take k).length = k by rw [List.length_take]; omega] at hin2
      have HI2 := Lib.hid hin2
      clear hx hmem hxs hin2
      have d0 : wr.cell? ⟨b, o + k * 3, none⟩ = some (.int .i64 x.k) := by rw [HB.out.cell (p := ⟨b, o + k * 3, none⟩) hbl]; exact c0
      have d1 : wr.cell? ⟨b, o + k * 3 + 1, none⟩ = some (.string x.t) := by rw [HB.out.cell (p := ⟨b, o + k * 3 + 1, none⟩) hbl]; exact c1
      have d2 : wr.cell? ⟨b, o + k * 3 + 2, none⟩ = some (.string x.v) := by rw [HB.out.cell (p := ⟨b, o + k * 3 + 2, none⟩) hbl]; exact c2
      have HD := Lib.hid (show ∀ w' : World, Below wr.heap.size wr.drew w' → w'.cell? ⟨b, o + k * 3, none⟩ = some (.int .i64 x.k) ∧ w'.cell? ⟨b, o + k * 3 + 1, none⟩ = some (.string x.t) ∧ w'.cell? ⟨b, o + k * 3 + 2, none⟩ = some (.string x.v) from fun w' hb => by
        have hb2 : Below w.heap.size w w' := HB.out.trans (((Below.refl _ wr).drew.trans hb).mono HB.out.size)
        exact ⟨by rw [hb2.cell (p := ⟨b, o + k * 3, none⟩) hbl]; exact c0, by rw [hb2.cell (p := ⟨b, o + k * 3 + 1, none⟩) hbl]; exact c1, by rw [hb2.cell (p := ⟨b, o + k * 3 + 2, none⟩) hbl]; exact c2⟩)
      clear c0 c1 c2
      have hszr := HB.out.size
      have hbr : b < wr.heap.size := by omega
      have hk0 : (0 : Int) ≤ (k : Int) := Int.natCast_nonneg _
      have hk1 : (k : Int) ≤ (cap : Int) := by omega
      have hk2 : (k : Int) < (l.length : Int) := by omega
      have hk3 : k ≤ 1048576 := by omega
      go_wp2_with fail
      go_region_held3? (fun w' => w'.cell? ⟨b, o + k * 3, none⟩ = some (.int .i64 x.k) ∧ w'.cell? ⟨b, o + k * 3 + 1, none⟩ = some (.string x.t) ∧ w'.cell? ⟨b, o + k * 3 + 2, none⟩ = some (.string x.v)) (first | exact HD.out _ (Below.refl _ _) | exact HD.out _ hbq | go_keep) ((go_at_call 65; refine (refStep_any wr.drew (.slice (some ⟨b, o, none⟩) k cap) (l.take k) (HI2.out.below (Below.refl _ _).drew) x HOK.out).mono ?_; rintro e w2 ⟨rfl, hbq⟩))
      all_goals
        have HB2 := Lib.hid (HB.out.trans (((Below.refl _ wr).drew.trans (hbq.mono (Nat.le_refl _))).mono HB.out.size))
        obtain ⟨E, hE⟩ : ∃ E, refStepP RP ((l.take k).map GoEv.ev) x.ev = E := ⟨_, rfl⟩
        have hE2 : refStepP RP (List.take k (List.map GoEv.ev l)) x.ev = E := by rw [← List.map_take]; exact hE
        rw [hE] at HXS
        first | rw [hE2] | rw [hE]
        clear hE hE2
        by_cases hz : E = 0
        · subst hz
          have HR2 := Lib.hid (HR.out.trans (HXS.out.trans (if_neg (by simp))))
          clear HXS
          go_wp2_with fail
          go_roundw
          case rel => exact ⟨k + 1, by omega, by go_num, HR2, HB2.out⟩
          case measure => simp [intOf]; omega
        · have HR2 := Lib.hid (show refWholeP RP (l.map GoEv.ev) = (k, E) by unfold refWholeP; rw [HR.out, HXS.out, if_pos hz])
          have hzb : (E != 0) = true := by simp [hz]
          clear hz HXS
          go_wp2_with fail
          go_ret2
          exact ⟨by rw [HR2.out]; rfl, HB2.out⟩
    · obtain rfl : k = l.length := by omega
      have hn := HR.out
      rw [List.drop_length, List.take_length] at hn
      have HW := Lib.hid (show refWholeP RP (l.map GoEv.ev) = if (stackP (l.map GoEv.ev)).isEmpty = false ∨ l.map GoEv.ev = [] then ((l.map GoEv.ev).length, 19) else ((l.map GoEv.ev).length, 0) by unfold refWholeP; rw [hn]; rfl)
      clear hn hlt HR
      go_wp2_with fail
      refine (at_any _ _ l (HIN.out.below HB.out)).mono ?_
      rintro e w2 ⟨rfl, hb⟩
      have HB2 := Lib.hid (below_then HB.out hb); clear hb
      obtain ⟨S, hS⟩ : ∃ S, stackP (l.map GoEv.ev) = S := ⟨_, rfl⟩
      have hSl := stackP_lt (l.map GoEv.ev)
      rw [hS] at HW hSl
      rw [hS]
      clear hS
      rw [HNL.out] at HW hSl
      cases S with
      | cons i r =>
        have hi := hSl i (by simp)
        have HR := Lib.hid (HW.out.trans (if_pos (.inl rfl)))
        clear hSl HW
        rw [show headI (i :: r) = (i : Int) from rfl]
        have hi0 : (0 : Int) ≤ (i : Int) := Int.natCast_nonneg _
        generalize (i :: r).length = sl
        go_wp2_with fail
        go_ret2
        exact ⟨by rw [HR.out]; rfl, HB2.out⟩
      | nil =>
        rw [show headI [] = -1 from rfl, List.length_nil]
        clear hSl
        by_cases h0 : l.length = 0
        · obtain rfl : l = [] := List.eq_nil_of_length_eq_zero h0
          have HR := Lib.hid (HW.out.trans (if_pos (.inr rfl)))
          simp only [List.length_nil] at HR HIN ⊢
          clear HW h0
          go_wp2_with fail
          go_ret2
          exact ⟨by rw [HR.out]; rfl, HB2.out⟩
        · have HR := Lib.hid (HW.out.trans (if_neg (by intro h; rcases h with h | h; simp at h; have := congrArg List.length h; simp at this; rw [this] at h0; exact h0 rfl)))
          have hb0 : ((l.length : Int) == 0) = false := by rw [beq_eq_false_iff_ne]; omega
          clear HW h0
          go_wp2_with fail
          go_ret2
          exact ⟨by rw [HR.out]; rfl, HB2.out⟩

end Go.Proofs.YtmniblcooficgaaGreatDoor
namespace Go.Proofs.YtmniblcooficgaaGreatDoor
open Go.RowKit Ev5
set_option linter.unusedSimpArgs false
set_option linter.unusedVariables false

def Dv (v : Value) (n : Nat) (v' : Value) : Prop := ∀ (W : World) (l : List GoEv), EvIn W v l → n ≤ l.length → EvIn W v' (l.drop n)
theorem Dv.refl (v : Value) : Dv v 0 v := fun W l h _ => by rw [List.drop_zero]; exact h
theorem Dv.trans {u v x : Value} {n m : Nat} (h : Dv u n v) (k : Dv v m x) : Dv u (n + m) x := fun W l hl hn => by
  rw [← List.drop_drop]; exact k W _ (h W l hl (by omega)) (by rw [List.length_drop]; omega)
structure Bd (w0 w : World) (A : Nat) (k : Int) (t v : ByteArray) (lv0 lv : Value) (m : Nat) (u : Value) (ps : List (Nd × Value)) : Prop where
  lb : w.heap[A]? = some (.cells #[lv] 44 (0, 0))
  rs : w.heap[A + 1]? = some (.cells #[.int .i64 0, .string ⟨#[]⟩, .string ⟨#[]⟩, .slice none 0 0] 24 (0, 0))
  nb : w.heap[A + 2]? = some (.cells #[.int .i64 k, .string t, .string v, u] 24 (0, 0))
  dv : Dv lv0 m lv
  own : OwnK w (A + 3) u ps
  bel : Below A w0 w
theorem Bd.below {w0 w w' : World} {A : Nat} {k : Int} {t v : ByteArray} {lv0 lv : Value} {m : Nat} {u : Value} {ps : List (Nd × Value)} (h : Bd w0 w A k t v lv0 lv m u ps) (hb : Below w.heap.size w w') : Bd w0 w' A k t v lv0 lv m u ps :=
  ⟨(hb.block _ (lt_blk h.lb)).trans h.lb, (hb.block _ (lt_blk h.rs)).trans h.rs, (hb.block _ (lt_blk h.nb)).trans h.nb, h.dv, h.own.below hb, h.bel.trans (hb.mono (by have := lt_blk h.lb; omega))⟩
theorem Bd.left {w0 w : World} {A : Nat} {k : Int} {t v : ByteArray} {lv0 lv lv' : Value} {m n : Nat} {u : Value} {ps : List (Nd × Value)} (h : Bd w0 w A k t v lv0 lv m u ps) (hd : Dv lv n lv') :
    Bd w0 (w.setCell ⟨A, 0, none⟩ lv') A k t v lv0 lv' (m + n) u ps := by
  have o : ∀ b, b ≠ A → (w.setCell ⟨A, 0, none⟩ lv').heap[b]? = w.heap[b]? := fun b hb => Below.heap_setCell w _ _ b (by simpa using hb)
  exact ⟨heap_set1 h.lb, (o _ (by omega)).trans h.rs, (o _ (by omega)).trans h.nb, h.dv.trans hd, h.own.other (grown_set w A 0 _) (by omega), h.bel.setCell (p := ⟨A, 0, none⟩) (Nat.le_refl _) _⟩

theorem Bd.far {w0 w W3 w5 : World} {A : Nat} {k : Int} {t v : ByteArray} {lv0 lv : Value} {m : Nat} {u : Value} {ps : List (Nd × Value)} (h : Bd w0 w A k t v lv0 lv m u ps) (hb : Below w.heap.size w W3) (hg : W3.grownBy w5 u.ownBlock) :
    w5.heap[A]? = some (.cells #[lv] 44 (0, 0)) ∧ w5.heap[A + 1]? = some (.cells #[.int .i64 0, .string ⟨#[]⟩, .string ⟨#[]⟩, .slice none 0 0] 24 (0, 0)) ∧ w5.heap[A + 2]? = some (.cells #[.int .i64 k, .string t, .string v, u] 24 (0, 0)) ∧ Below A w0 w5 := by
  have h3 := h.below hb
  have hne : ∀ b, b < A + 3 → u.ownBlock ≠ some b := by
    intro b hb' e
    rcases h3.own.row.2 with ⟨rfl, _⟩ | ⟨g, cap, cur, rfl, hg', _⟩
    · simp [Value.ownBlock] at e
    · simp [Value.ownBlock] at e; omega
  refine ⟨(hg.block A (lt_blk h3.lb) (fun e => hne A (by omega) e.symm)).trans h3.lb, (hg.block _ (lt_blk h3.rs) (fun e => hne _ (by omega) e.symm)).trans h3.rs, (hg.block _ (lt_blk h3.nb) (fun e => hne _ (by omega) e.symm)).trans h3.nb, ?_⟩
  refine h3.bel.trans (Below.grown (Below.refl A W3) hg (by have := lt_blk h3.lb; omega) (fun b hb' => ?_))
  rcases Nat.lt_or_ge b A with h1 | h1
  · exact absurd hb' (hne b (by omega))
  · exact h1
theorem Bd.push {w0 w W3 w5 w6 : World} {A : Nat} {k : Int} {t v : ByteArray} {lv0 lv : Value} {m g cap : Nat} {u ux : Value} {ps : List (Nd × Value)} {x : Nd} (h : Bd w0 w A k t v lv0 lv m u ps) (hb : Below w.heap.size w W3) (hg : W3.grownBy w5 u.ownBlock) (hat : u.ownBlock = some g ∨ W3.heap.size ≤ g)
    (hsk : SlIn w (fun b => A + 3 ≤ b ∧ u.ownBlock ≠ some b) ux x.kids)
    (hrow : w6.ownsRow (A + 3) 24 4 (.slice (some ⟨g, 0, none⟩) (ps.length + 1) cap) (ps.length + 1) (ndRow ps ++ ndL x ux))
    (hnb : w6.heap[A + 2]? = some (.cells #[.int .i64 k, .string t, .string v, .slice (some ⟨g, 0, none⟩) (ps.length + 1) cap] 24 (0, 0)))
    (hoth : ∀ b, b ≠ g → b ≠ A + 2 → w6.heap[b]? = w5.heap[b]?) (hsz : w6.heap.size = w5.heap.size) (hos : w6.os = w5.os) (htape : w6.tape = w5.tape) (hout : w6.output = w5.output) :
    Bd w0 w6 A k t v lv0 lv m (.slice (some ⟨g, 0, none⟩) (ps.length + 1) cap) (ps ++ [(x, ux)]) := by
  have h3 := h.below hb
  obtain ⟨f1, f2, f3, f4⟩ := h.far hb hg
  have hgA : A + 3 ≤ g := by
    rcases hat with e | e
    · rcases h3.own.row.2 with ⟨rfl, _⟩ | ⟨g', cap', cur, rfl, hg', _⟩
      · simp [Value.ownBlock] at e
      · simp [Value.ownBlock] at e; omega
    · have := lt_blk h3.nb; omega
  have hgn : ∀ b, b < W3.heap.size → u.ownBlock ≠ some b → b ≠ g := by
    intro b hb' hne e
    subst e
    rcases hat with e | e
    · exact hne e
    · omega
  have al : ∀ (y : Value) (ks : List Nd), SlIn W3 (fun b => A + 3 ≤ b ∧ u.ownBlock ≠ some b) y ks → SlIn w6 (fun b => A + 3 ≤ b ∧ (Value.slice (some ⟨g, 0, none⟩) (ps.length + 1) cap).ownBlock ≠ some b) y ks := by
    intro y ks hs
    refine hs.alike ⟨by rw [hsz]; exact hg.size, fun b hb' hl => ?_⟩ fun b hb' hl => ⟨hb'.1, ?_⟩
    · rw [hoth b (hgn b hl hb'.2) (by omega)]
      exact hg.block b hl (fun e => hb'.2 e.symm)
    · simp only [Value.ownBlock, ne_eq, Option.some.injEq]
      exact fun e => hgn b hl hb'.2 e.symm
  refine ⟨(hoth A (by omega) (by omega)).trans f1, (hoth (A + 1) (by omega) (by omega)).trans f2, hnb, h.dv, ⟨by rw [ndRow_snoc, List.length_append]; exact hrow, fun p hp => ?_⟩, ⟨hos.trans f4.os, htape.trans f4.tape, hout.trans f4.output, by rw [hsz]; exact f4.size, fun b hb' => (hoth b (by omega) (by omega)).trans (f4.block b hb')⟩⟩
  rcases List.mem_append.1 hp with hp | hp
  · exact al _ _ (h3.own.kids p hp)
  · simp at hp; subst hp; exact al _ _ (hsk.below hb)

end Go.Proofs.YtmniblcooficgaaGreatDoor

namespace Go.Proofs.YtmniblcooficgaaGreatDoor
open Go.RowKit Ev5
set_option linter.unusedSimpArgs false
set_option linter.unusedVariables false

end Go.Proofs.YtmniblcooficgaaGreatDoor

namespace Go.Proofs.YtmniblcooficgaaGreatDoor
open Go.RowKit Ev5
set_option linter.unusedSimpArgs false
set_option linter.unusedVariables false

end Go.Proofs.YtmniblcooficgaaGreatDoor

namespace Go.Proofs.YtmniblcooficgaaGreatDoor
open Go.RowKit Ev5
set_option linter.unusedSimpArgs false
set_option linter.unusedVariables false

structure IntsIn (w : World) (v : Value) (l : List Int) : Prop where
  ex : ∃ (ao : Option Addr) (cap : Nat), v = .slice ao l.length cap ∧ l.length ≤ cap ∧ cap ≤ maxLen ∧
    ∀ (i : Nat) (h : i < l.length), ∃ b o, ao = some ⟨b, o, none⟩ ∧ w.cell? ⟨b, o + i, none⟩ = some (.int .i64 l[i])
  ok : ∀ x ∈ l, (Lit.int .i64 x).wf = true
theorem IntsIn.below {w w' : World} {v : Value} {l : List Int} (h : IntsIn w v l) (hb : Below w.heap.size w w') : IntsIn w' v l := by
  obtain ⟨ao, cap, h1, h2, h3, h4⟩ := h.ex
  refine ⟨⟨ao, cap, h1, h2, h3, fun i hi => ?_⟩, h.ok⟩
  obtain ⟨b, o, e, c⟩ := h4 i hi
  exact ⟨b, o, e, by rw [hb.cell (p := ⟨b, o + i, none⟩) (cell_lt c)]; exact c⟩
def Nd.at_ : Nd → List Int → Option Nd
  | n, [] => some n
  | n, k :: r => if h : 0 ≤ k ∧ k < n.kids.length then (n.kids[k.toNat]'(by omega)).at_ r else none
theorem kid_size {n : Nd} {i : Nat} (hi : i < n.kids.length) : n.kids[i].size < n.size := by
  cases n with
  | mk k t v ks => rw [size_mk]; have := size_mem (List.getElem_mem hi); simp only [Nd.kids] at this ⊢; omega
theorem kids_size (n : Nd) : n.size = 1 + Nd.sizes n.kids := by cases n; rw [size_mk]; rfl

end Go.Proofs.YtmniblcooficgaaGreatDoor

namespace Go.Proofs.YtmniblcooficgaaGreatDoor
open Go.RowKit Ev5
set_option linter.unusedSimpArgs false
set_option linter.unusedVariables false

end Go.Proofs.YtmniblcooficgaaGreatDoor
