import Derived.Test.YtmniblcooficgaaGreatDoorD03
import Derived.Test.YtmniblcooficgaaGreatDoorD07
import Derived.LoopN
import Derived.Test.YtmniblcooficgaaGreatDoorD06
namespace Go.Proofs.YtmniblcooficgaaGreatDoor
open Go.RowKit Ev5
set_option linter.unusedSimpArgs false
set_option linter.unusedVariables false

def RP : Ev → Bool := rightP Num2.normP
structure EvOK (x : GoEv) : Prop where
  k : (Lit.int .i64 x.k).wf = true
  t : x.t.size ≤ 1048576
  v : x.v.size ≤ 1048576
theorem go_step (w : World) {base c : Nat} {v : Value} {ps : List (Nat × Nat)} {st : St} (hE : EnvU w) (h : Chk w base c v ps st) (h6 : st.opn.length ≤ 6) (x : GoEv) (hx : EvOK x) :
    Calls Tryz.prog 50 #[.pointer (some ⟨c, 0, none⟩), evV x] w fun e w' => e = .returned (.int .i64 (stepP RP st x.ev).2) ∧ (∃ v' ps', Chk w' base c v' ps' (stepP RP st x.ev).1) ∧ Mv base w w' :=
  cstep_any RP w h h6 x (by have := hx.t; omega) hx.k fun W hb => right_any x W (hE.below hb) hx.t hx.v

structure EvIn (w : World) (v : Value) (l : List GoEv) : Prop where
  ex : ∃ (ao : Option Addr) (cap : Nat), v = .slice ao l.length cap ∧ l.length ≤ cap ∧ cap ≤ maxLen ∧
    ∀ (i : Nat) (h : i < l.length), ∃ b o, ao = some ⟨b, o, none⟩ ∧ w.cell? ⟨b, o + i * 3, none⟩ = some (.int .i64 l[i].k) ∧ w.cell? ⟨b, o + i * 3 + 1, none⟩ = some (.string l[i].t) ∧ w.cell? ⟨b, o + i * 3 + 2, none⟩ = some (.string l[i].v)
  ok : ∀ x ∈ l, EvOK x
  len : l.length ≤ 1048576
theorem EvIn.below {w w' : World} {v : Value} {l : List GoEv} (h : EvIn w v l) (hb : Below w.heap.size w w') : EvIn w' v l := by
  obtain ⟨ao, cap, h1, h2, h3, h4⟩ := h.ex
  refine ⟨⟨ao, cap, h1, h2, h3, fun i hi => ?_⟩, h.ok, h.len⟩
  obtain ⟨b, o, e, c0, c1, c2⟩ := h4 i hi
  have hl := cell_lt c0
  exact ⟨b, o, e, by rw [hb.cell (p := ⟨b, o + i * 3, none⟩) hl]; exact c0, by rw [hb.cell (p := ⟨b, o + i * 3 + 1, none⟩) hl]; exact c1, by rw [hb.cell (p := ⟨b, o + i * 3 + 2, none⟩) hl]; exact c2⟩

theorem ok_lit (k : Int) (t : ByteArray) (hk : (Lit.int .i64 k).wf = true) (ht : t.size ≤ 1048576) : EvOK ⟨k, t, ⟨#[]⟩⟩ := ⟨hk, ht, show (0 : Nat) ≤ 1048576 by decide⟩
theorem runP_snoc (R : Ev → Bool) (l : List Ev) (x : Ev) (h : (runP R St.new l).2.2 = 0) : runP R St.new (l ++ [x]) = if (stepP R (runP R St.new l).1 x).2 = 0 then ((stepP R (runP R St.new l).1 x).1, l.length + 1, 0) else ((runP R St.new l).1, l.length, (stepP R (runP R St.new l).1 x).2) := by
  rw [run_app R l [x] St.new h]
  simp only [runP]
  split <;> simp
theorem runP_stop (R : Ev → Bool) (l r : List Ev) (x : Ev) (h : (runP R St.new l).2.2 = 0) (hx : (stepP R (runP R St.new l).1 x).2 ≠ 0) : wholeP R (l ++ x :: r) = (l.length, (stepP R (runP R St.new l).1 x).2) := by
  have : runP R St.new (l ++ x :: r) = ((runP R St.new l).1, l.length, (stepP R (runP R St.new l).1 x).2) := by
    rw [run_app R l (x :: r) St.new h]
    simp only [runP]
    rw [if_neg hx]; simp
  unfold wholeP
  rw [this, if_pos hx]
theorem runP_end (R : Ev → Bool) (l : List Ev) (h : (runP R St.new l).2.2 = 0) : wholeP R l = (l.length, if (runP R St.new l).1.done = true then 0 else 19) := by
  unfold wholeP
  rw [if_neg (by rw [h]; simp)]
  split <;> rfl
theorem runP_deep (R : Ev → Bool) : ∀ (l : List Ev) (st : St), st.opn.length ≤ 6 → (runP R st l).1.opn.length ≤ 6
  | [], st, h => h
  | x :: r, st, h => by
    simp only [runP]
    split
    · exact runP_deep R r _ (step_depth R st x h).1
    · exact h

end Go.Proofs.YtmniblcooficgaaGreatDoor
namespace Go.Proofs.YtmniblcooficgaaGreatDoor
open Go.RowKit Ev5
set_option linter.unusedSimpArgs false
set_option linter.unusedVariables false

def ints (s : List Nat) : List Value := s.reverse.map fun (i : Nat) => .int .i64 (i : Int)
def headI : List Nat → Int
  | [] => -1
  | i :: _ => i
theorem ints_len (s : List Nat) : (ints s).length = s.length := by simp [ints]
theorem ints_cons (i : Nat) (r : List Nat) : ints (i :: r) = ints r ++ [.int .i64 (i : Int)] := by simp [ints]

theorem row_shape {w : World} {base : Nat} {v : Value} {s : List Nat} (h : w.ownsRow base 3 1 v s.length (ints s)) :
    (s = [] ∧ ∃ a cap, v = .slice a 0 cap) ∨ (∃ i r g cap, s = i :: r ∧ v = .slice (some ⟨g, 0, none⟩) (r.length + 1) cap ∧ w.cell? ⟨g, r.length, none⟩ = some (.int .i64 (i : Int)) ∧ g < w.heap.size ∧ r.length + 1 ≤ cap ∧
      w.ownsRow base 3 1 (.slice (some ⟨g, 0, none⟩) r.length cap) r.length (ints r)) := by
  cases s with
  | nil =>
    refine .inl ⟨rfl, ?_⟩
    rcases h.2 with ⟨rfl, _⟩ | ⟨g, cap, cur, rfl, _⟩
    · exact ⟨_, _, rfl⟩
    · exact ⟨_, _, rfl⟩
  | cons i r =>
    refine .inr ⟨i, r, ?_⟩
    rcases h.2 with ⟨_, h0⟩ | ⟨g, cap, cur, rfl, hb, hg, hc, hm, hs, ht⟩
    · simp at h0
    · refine ⟨g, cap, rfl, by simp, ?_, (Array.getElem?_eq_some_iff.1 hg).1, by simpa using hc, ⟨by simp [ints_len], .inr ⟨g, cap, cur, rfl, hb, hg, by simp at hc; omega, hm, hs, ?_⟩⟩⟩
      · have := h.cells (g := g) (by simp [Value.ownBlock]) r.length (.int .i64 (i : Int)) (by rw [ints_cons]; simp [ints])
        have e : (⟨g, 0, none⟩ : Addr).add r.length = ⟨g, r.length, none⟩ := by unfold Addr.add; split <;> simp_all
        rw [← e]; exact this
      · have := congrArg (List.take (r.length * 1)) ht
        rw [List.take_take, show min (r.length * 1) ((i :: r).length * 1) = r.length * 1 by simp] at this
        rw [this, ints_cons]
        simp [ints]

def evL (x : GoEv) : List Value := [.int .i64 x.k, .string x.t, .string x.v]
def evRow (l : List GoEv) : List Value := l.flatMap evL
theorem evRow_snoc (l : List GoEv) (x : GoEv) : evRow (l ++ [x]) = evRow l ++ evL x := by simp [evRow]
theorem evRow_at : ∀ (l : List GoEv) (i : Nat) (h : i < l.length) (j : Nat) (hj : j < 3), (evRow l)[i * 3 + j]? = (evL l[i])[j]?
  | x :: r, 0, _, j, hj => by
    simp only [evRow, List.flatMap_cons, Nat.zero_mul, Nat.zero_add, List.getElem_cons_zero]
    rw [List.getElem?_append_left (by simp [evL]; omega)]
  | x :: r, i + 1, h, j, hj => by
    have ih := evRow_at r i (by simpa using h) j hj
    simp only [evRow, List.flatMap_cons, List.getElem_cons_succ] at ih ⊢
    rw [List.getElem?_append_right (by simp [evL]; omega), show (i + 1) * 3 + j - (evL x).length = i * 3 + j by simp [evL]; omega]
    exact ih
  | [], i, h, _, _ => by simp at h

def EvOwn (w : World) (base : Nat) (v : Value) (l : List GoEv) : Prop := w.ownsRow base 85 3 v l.length (evRow l)
theorem EvOwn.evIn {w : World} {base : Nat} {v : Value} {l : List GoEv} (h : EvOwn w base v l) (hok : ∀ x ∈ l, EvOK x) (hl : l.length ≤ 1048576) : EvIn w v l := by
  refine ⟨?_, hok, hl⟩
  rcases h.2 with ⟨rfl, h0⟩ | ⟨g, cap, cur, rfl, hb, hg, hc, hm, hs, ht⟩
  · refine ⟨none, 0, by rw [h0], by omega, by decide, fun i hi => by omega⟩
  · refine ⟨some ⟨g, 0, none⟩, cap, rfl, hc, hm, fun i hi => ⟨g, 0, rfl, ?_⟩⟩
    have add : ∀ q : Nat, (⟨g, 0, none⟩ : Addr).add q = ⟨g, 0 + q, none⟩ := by
      intro q; unfold Addr.add; split
      · subst_vars; rfl
      · rfl
    have c : ∀ j u, j < 3 → (evL l[i])[j]? = some u → w.cell? ⟨g, 0 + (i * 3 + j), none⟩ = some u := by
      intro j u hj hu
      have := h.cells (g := g) (by simp [Value.ownBlock]) (i * 3 + j) u (by rw [evRow_at l i hi j hj]; exact hu)
      rwa [add] at this
    refine ⟨?_, ?_, ?_⟩
    · simpa using c 0 _ (by omega) rfl
    · simpa [Nat.add_assoc] using c 1 _ (by omega) rfl
    · simpa [Nat.add_assoc] using c 2 _ (by omega) rfl
theorem EvOwn.keeps {w w' : World} {base : Nat} {v : Value} {l : List GoEv} (h : EvOwn w base v l) (hk : Keeps w w') : EvOwn w' base v l := by
  refine ⟨h.1, ?_⟩
  rcases h.2 with h0 | ⟨g, cap, cur, rfl, hb, hg, rest⟩
  · exact .inl h0
  · exact .inr ⟨g, cap, cur, rfl, hb, hk g _ hg (by simp [mine]), rest⟩
theorem EvOwn.below {w w' : World} {base : Nat} {v : Value} {l : List GoEv} (h : EvOwn w base v l) (hb : Below w.heap.size w w') : EvOwn w' base v l := h.keeps (Keeps.below hb)
theorem Chk.aside {w w' : World} {base base' c : Nat} {v u : Value} {ps : List (Nat × Nat)} {st : St} {l : List GoEv} (h : Chk w base c v ps st) (ho : EvOwn w base' u l) (hg : w.grownBy w' u.ownBlock) : Chk w' base c v ps st := by
  have hu : ∀ (k : Nat) (o : Obj), w.heap[k]? = some o → (∀ cs, o ≠ Obj.cells cs 85 (0, 0)) → w'.heap[k]? = some o := by
    intro k o hk hne
    rw [hg.block k (lt_blk hk) (fun e => ?_)]
    · exact hk
    · rcases ho.2 with ⟨rfl, _⟩ | ⟨g, cap, cur, rfl, _, hgg, _⟩
      · simp [Value.ownBlock] at e
      · simp [Value.ownBlock] at e; subst e; rw [hk] at hgg; injection hgg with hgg; exact hne _ hgg
  refine ⟨h.low, hu c _ h.blk (by simp), ⟨h.row.1, ?_⟩, h.opens.same fun k hk => ?_⟩
  · rcases h.row.2 with h0 | ⟨g, cap, cur, e, hb, hgg, rest⟩
    · exact .inl h0
    · exact .inr ⟨g, cap, cur, e, hb, hu g _ hgg (by simp), rest⟩
  · rcases List.mem_append.1 hk with hk | hk
    · obtain ⟨cs, hc⟩ := h.opens.fst k hk; rw [hc]; exact hu k _ hc (by simp)
    · obtain ⟨es, cl, hc⟩ := h.opens.snd k hk; rw [hc]; exact hu k _ hc (by simp)
theorem infoE : (Tryz.prog.info? 85).map (fun i => (i.zero, i.size, i.bytes)) = some (some (.agg #[.int .i64 0, .string ⟨#[]⟩, .string ⟨#[]⟩]), 3, 40) := by kernel_rfl
theorem ev_news {w : World} {x : GoEv} : ∀ j u, (evL x)[j]? = some u → (w.alloc (.cells #[.int .i64 x.k, .string x.t, .string x.v] 85)).cell? ((⟨w.heap.size, 0, none⟩ : Addr).add j) = some u := by
  intro j u hu
  have hb : (w.alloc (.cells #[.int .i64 x.k, .string x.t, .string x.v] 85)).heap[w.heap.size]? = some (.cells #[.int .i64 x.k, .string x.t, .string x.v] 85 (0, 0)) := heap_alloc_new w _
  have hj : j < 3 := by
    rcases Nat.lt_or_ge j 3 with h | h
    · exact h
    · rw [List.getElem?_eq_none (by simp [evL]; omega)] at hu; cases hu
  have add : (⟨w.heap.size, 0, none⟩ : Addr).add j = ⟨w.heap.size, j, none⟩ := by unfold Addr.add; split <;> simp_all
  rw [add]
  have := (blk_cell hb j (by simpa using hj)).1
  rw [this, ← hu]
  have : j = 0 ∨ j = 1 ∨ j = 2 := by omega
  rcases this with rfl | rfl | rfl <;> rfl
theorem ev_one {x : GoEv} : ∀ u ∈ evL x, u.oneCell' = true := by
  intro u hu
  simp [evL] at hu
  rcases hu with rfl | rfl | rfl <;> rfl

set_option maxRecDepth 100000 in
set_option maxHeartbeats 4000000 in
theorem at_any (w : World) (v : Value) (l : List GoEv) (hin : EvIn w v l) :
    Calls Tryz.prog 66 #[v] w fun e w' => e = .returned (.tuple #[.int .i64 (headI (stackP (l.map GoEv.ev))), .int .i64 (stackP (l.map GoEv.ev)).length]) ∧ Below w.heap.size w w' := by
  have HIN := Lib.hid hin
  obtain ⟨ao, cap, rfl, hcap, hcm, hcells⟩ := hin.ex
  have HC := Lib.hid hcells
  have hlen := hin.len
  clear hin hcells
  obtain ⟨i0, hi, hz0, hz1, hz2⟩ := info_parts infoI
  have HI := Lib.hid hi; clear hi
  go_enter Tryz.func66, Tryz.ntmps66
  go_wp2_with fail
  go_loopw [4, 5] (fun u vi wr => ∃ k : Nat, k ≤ l.length ∧ vi = .int .i64 k ∧ Hid (wr.ownsRow w.heap.size 3 1 u (stackP ((l.take k).map GoEv.ev)).length (ints (stackP ((l.take k).map GoEv.ev)))) ∧ Hid (Below w.heap.size w wr) ∧ Hid ((stackP ((l.take k).map GoEv.ev)).length ≤ k))
    (fun _ vi _ => l.length - (intOf vi).toNat)
  case atStart => exact ⟨0, Nat.zero_le _, rfl, World.ownsRow_nil _ _ _ _, Below.refl _ _, Nat.le_refl _⟩
  case round =>
    obtain ⟨k, hk, rfl, HO, HB, HS⟩ := hrel
    by_cases hlt : k < l.length
    · obtain ⟨b, o, hao, c0, _, _⟩ := HC.out k hlt
      subst hao
      have hbl : b < w.heap.size := cell_lt c0
      have htk : (l.take (k + 1)).map GoEv.ev = (l.take k).map GoEv.ev ++ [l[k].ev] := by rw [List.take_add_one, List.getElem?_eq_getElem hlt, List.map_append]; rfl
      have hst := stackP_snoc ((l.take k).map GoEv.ev) l[k].ev
      rw [← htk, show ((l.take k).map GoEv.ev).length = k by rw [List.length_map, List.length_take]; omega] at hst
      obtain ⟨q, hq⟩ : ∃ q, l[k].k = q := ⟨_, rfl⟩
      have hqe : l[k].ev.kind = q := hq
      rw [hqe] at hst
      rw [hq] at c0
      have d0 : wr.cell? ⟨b, o + k * 3, none⟩ = some (.int .i64 q) := by rw [HB.out.cell (p := ⟨b, o + k * 3, none⟩) hbl]; exact c0
      have HST := Lib.hid hst
      have HSK := HS.out
      clear hq hqe hst htk c0 HS
      generalize stackP ((l.take k).map GoEv.ev) = s at *
      have hszr := HB.out.size
      have hbr : b < wr.heap.size := by omega
      have hk2 : k ≤ 1048576 := by omega
      by_cases hop : q = 5 ∨ q = 7 ∨ q = 10
      · have hpu : push s k q = k :: s := by unfold push; rw [if_pos (by simpa [opens] using hop)]
        have HPU := Lib.hid (HST.out.trans hpu); clear hpu HST
        have hks : ((q == 5) = true) ∨ ((q == 5) = false ∧ (q == 7) = true) ∨ ((q == 5) = false ∧ (q == 7) = false ∧ (q == 10) = true) := by
          rcases hop with rfl | rfl | rfl <;> simp
        clear hop
        rcases hks with q5 | ⟨q5, q7⟩ | ⟨q5, q7, q10⟩
        all_goals
          go_wp2_with (first
            | (at_builtin; refine wpList_append_own _ (by rfl) _ _ _ (by rfl) w.heap.size 3 i0 _ 1 8 Tryz.underlying27 HI.out hz0 hz1 hz2 rfl (by omega) _ s.length _ (by rfl) (HO.out.alloc _) ⟨wr.heap.size, 0, none⟩ 1 1 [.int .i64 (k : Int)] (by rfl) (by rfl) (World.news_of_block (cs := #[.int .i64 (k : Int)]) (t := 3) (fr := (0, 0)) (heap_alloc_new wr _)) (by simp [Value.oneCell']) (by unfold maxLen; omega) (by omega) (by simp; omega) ?_)
            | fail)
          intro v' w3 hown3 hgrow3 _
          have hb3 : Below w.heap.size w w3 := (HB.out.alloc HB.out.size _).grown hgrow3 (by have := HB.out.size; simp; omega) (fun q hq => by have := (HO.out.lt q hq).1; omega)
          have H3 := Lib.hid hown3; have HB3 := Lib.hid hb3
          clear hown3 hgrow3 hb3
          go_wp2_with fail
          go_roundw
          case rel => exact ⟨k + 1, by omega, by go_num, by show World.ownsRow _ _ _ _ _ _ _; rw [HPU.out, ints_cons]; exact H3.out, HB3.out, by show _ ≤ _; rw [HPU.out]; simp; omega⟩
          case measure => simp [intOf]; omega
      · have p5 : (q == 5) = false := by simp; omega
        have p7 : (q == 7) = false := by simp; omega
        have p10 : (q == 10) = false := by simp; omega
        by_cases hen : q = 6 ∨ q = 9 ∨ q = 12
        · have hpu : push s k q = s.tail := by unfold push; rw [if_neg (by simpa [opens] using hop), if_pos (by simpa [ends] using hen)]
          have HPU := Lib.hid (HST.out.trans hpu); clear hpu HST
          have hks : ((q == 6) = true) ∨ ((q == 6) = false ∧ (q == 9) = true) ∨ ((q == 6) = false ∧ (q == 9) = false ∧ (q == 12) = true) := by
            rcases hen with rfl | rfl | rfl <;> simp
          clear hop hen
          rcases row_shape HO.out with ⟨rfl, a, cc, rfl⟩ | ⟨i, r, g, cc, rfl, rfl, hcc, hgg, hrc, hrow⟩
          · rcases hks with q6 | ⟨q6, q9⟩ | ⟨q6, q9, q12⟩
            all_goals
              go_wp2_with fail
              go_roundw
              case rel => exact ⟨k + 1, by omega, by go_num, by show World.ownsRow _ _ _ _ _ _ _; rw [HPU.out]; exact HO.out, HB.out, by show _ ≤ _; rw [HPU.out]; simp⟩
              case measure => simp [intOf]; omega
          · have HRW := Lib.hid hrow
            have hr0 : (0 : Int) ≤ (r.length : Int) := Int.natCast_nonneg _
            have hr1 : (r.length : Int) ≤ (cc : Int) := by omega
            have hr2 : r.length + 1 ≤ k := by simpa using HSK
            clear hrow hcc HSK
            rcases hks with q6 | ⟨q6, q9⟩ | ⟨q6, q9, q12⟩
            all_goals
              go_wp2_with fail
              go_roundw
              case rel => exact ⟨k + 1, by omega, by go_num, by show World.ownsRow _ _ _ _ _ _ _; rw [HPU.out]; exact HRW.out, HB.out, by show _ ≤ _; rw [HPU.out]; simp; omega⟩
              case measure => simp [intOf]; omega
        · have p6 : (q == 6) = false := by simp; omega
          have p9 : (q == 9) = false := by simp; omega
          have p12 : (q == 12) = false := by simp; omega
          have hpu : push s k q = s := by unfold push; rw [if_neg (by simpa [opens] using hop), if_neg (by simpa [ends] using hen)]
          have HPU := Lib.hid (HST.out.trans hpu); clear hpu HST hop hen
          go_wp2_with fail
          go_roundw
          case rel => exact ⟨k + 1, by omega, by go_num, by show World.ownsRow _ _ _ _ _ _ _; rw [HPU.out]; exact HO.out, HB.out, by show _ ≤ _; rw [HPU.out]; omega⟩
          case measure => simp [intOf]; omega
    · obtain rfl : k = l.length := by omega
      have hte : l.take l.length = l := List.take_length
      rw [hte] at HO HS
      clear hte hlt
      have HSK := HS.out
      clear HS
      obtain ⟨s, hs⟩ : ∃ s, stackP (l.map GoEv.ev) = s := ⟨_, rfl⟩
      rw [hs] at HO HSK
      have HSS := Lib.hid hs; clear hs
      rcases row_shape HO.out with ⟨rfl, a, cc, rfl⟩ | ⟨i, r, g, cc, rfl, rfl, hcc, hgg, hrc, _⟩
      · go_wp2_with fail
        go_ret2
        exact ⟨by rw [HSS.out]; rfl, HB.out⟩
      · have hr0 : (0 : Int) ≤ (r.length : Int) := Int.natCast_nonneg _
        have hr2 : r.length + 1 ≤ l.length := by simpa using HSK
        generalize hrl : r.length = rl at *
        go_wp2_with fail
        go_ret2
        exact ⟨by rw [HSS.out, List.length_cons, hrl]; rfl, HB.out⟩
end Go.Proofs.YtmniblcooficgaaGreatDoor
namespace Go.Proofs.YtmniblcooficgaaGreatDoor
open Go.RowKit Ev5
set_option linter.unusedSimpArgs false
set_option linter.unusedVariables false

theorem EvIn.take {w : World} {ao : Option Addr} {cap : Nat} {l : List GoEv} (h : EvIn w (.slice ao l.length cap) l) (n : Nat) (hn : n ≤ l.length) : EvIn w (.slice ao (l.take n).length cap) (l.take n) := by
  obtain ⟨ao', cap', h1, h2, h3, h4⟩ := h.ex
  injection h1 with e1 e2 e3
  subst e1; subst e3
  have hl : (l.take n).length = n := by rw [List.length_take]; omega
  refine ⟨⟨ao, cap, rfl, by omega, h3, fun i hi => ?_⟩, fun x hx => h.ok x (List.mem_of_mem_take hx), by have := h.len; omega⟩
  have := h4 i (by omega)
  rwa [← List.getElem_take (h := hi)] at this
theorem EvIn.some {w : World} {ao : Option Addr} {n cap : Nat} {l : List GoEv} (h : EvIn w (.slice ao n cap) l) (hl : 0 < l.length) : n = l.length ∧ n ≤ cap ∧ ∃ b o, ao = some ⟨b, o, none⟩ := by
  obtain ⟨ao', cap', h1, h2, h3, h4⟩ := h.ex
  injection h1 with e1 e2 e3
  subst e1; subst e3
  obtain ⟨b, o, e, _⟩ := h4 0 hl
  exact ⟨e2, by omega, b, o, e⟩

structure Had (w0 w : World) (base : Nat) (v : Value) (had : List GoEv) (st : St) : Prop where
  own : EvOwn w base v had
  ok : ∀ x ∈ had, EvOK x
  tk : Tk RP st (had.map GoEv.ev)
  bel : Below w0.heap.size w0 w
theorem Had.below {w0 w w' : World} {base : Nat} {v : Value} {had : List GoEv} {st : St} (h : Had w0 w base v had st) (hb : Below w.heap.size w w') : Had w0 w' base v had st :=
  ⟨h.own.below hb, h.ok, h.tk, below_then h.bel hb⟩
theorem Had.kind {w0 w : World} {base : Nat} {v : Value} {had : List GoEv} {st : St} (h : Had w0 w base v had st) (hl : had.length ≤ 1048576) (i : Nat) (hi : i < had.length) : ∃ g cap, v = .slice (some ⟨g, 0, none⟩) had.length cap ∧ w.cell? ⟨g, i * 3, none⟩ = some (.int .i64 had[i].k) ∧ g < w.heap.size ∧ had.length ≤ cap := by
  obtain ⟨ao, cap, e, hc, _, hh⟩ := (h.own.evIn h.ok hl).ex
  obtain ⟨b, o, e2, c0, _, _⟩ := hh i hi
  rcases h.own.2 with ⟨e3, h0⟩ | ⟨g, cap', cur, e3, hb, hg, hc', hm, hs, ht⟩
  · omega
  · rw [e3] at e
    injection e with e4 e5 e6
    rw [e2] at e4
    injection e4 with e4
    injection e4 with e7 e8
    subst e7; subst e8
    exact ⟨g, cap', e3, by simpa using c0, cell_lt c0, hc'⟩
theorem Had.shape {w0 w : World} {base : Nat} {v : Value} {had : List GoEv} {st : St} (h : Had w0 w base v had st) : ∃ a cap, v = .slice a had.length cap := by
  rcases h.own.2 with ⟨e3, h0⟩ | ⟨g, cap', cur, e3, _⟩
  · exact ⟨none, 0, by rw [e3, h0]⟩
  · exact ⟨_, _, e3⟩
theorem Had.snoc {w0 w w' : World} {base : Nat} {v v' : Value} {had : List GoEv} {st st' : St} (h : Had w0 w base v had st) (x : GoEv) (hx : EvOK x) (hbase : w0.heap.size ≤ base) (hbw : base ≤ w.heap.size)
    (hown : w'.ownsRow base 85 3 v' (had.length + 1) (evRow had ++ evL x)) (hg : (w.alloc (.cells #[.int .i64 x.k, .string x.t, .string x.v] 85)).grownBy w' v.ownBlock) (htk : Tk RP st' (had.map GoEv.ev ++ [x.ev])) : Had w0 w' base v' (had ++ [x]) st' := by
  refine ⟨?_, fun y hy => ?_, by rw [List.map_append]; exact htk, ?_⟩
  · show World.ownsRow _ _ _ _ _ _ _
    rw [evRow_snoc, List.length_append]; exact hown
  · rcases List.mem_append.1 hy with hy | hy
    · exact h.ok y hy
    · simp at hy; subst hy; exact hx
  · exact (h.bel.alloc h.bel.size _).grown hg (by have := h.bel.size; simp; omega) (fun q hq => by have := (h.own.lt q hq).1; omega)

theorem Had.last {w0 w : World} {base : Nat} {v : Value} {had : List GoEv} {st : St} (h : Had w0 w base v had st) (hl : had.length ≤ 1048576) {m : Nat} (hm : had.length = m + 1) : ∃ g cap q, v = .slice (some ⟨g, 0, none⟩) (m + 1) cap ∧ w.cell? ⟨g, m * 3, none⟩ = some (.int .i64 q) ∧ g < w.heap.size ∧ m + 1 ≤ cap ∧
    ∃ e, (had.map GoEv.ev).getLast? = some e ∧ e.kind = q := by
  obtain ⟨g, cap, e, c0, hg, hc⟩ := h.kind hl m (by omega)
  refine ⟨g, cap, (had[m]'(by omega)).k, by rw [e, hm], c0, hg, by omega, (had[m]'(by omega)).ev, ?_, rfl⟩
  rw [List.getLast?_map, List.getLast?_eq_getElem?, show had.length - 1 = m by omega, List.getElem?_eq_getElem (by omega)]
  rfl
end Go.Proofs.YtmniblcooficgaaGreatDoor
namespace Go.Proofs.YtmniblcooficgaaGreatDoor.Ev5
def ownI : Int → Nat → List Ev → List Nat
  | _, _, [] => []
  | d, i, x :: r => if ends x.kind = true then ownI (d - 1) (i + 1) r else (if d = 0 then [i] else []) ++ ownI (if opens x.kind = true then d + 1 else d) (i + 1) r
theorem ownI_le : ∀ (l : List Ev) (d : Int) (i : Nat), (ownI d i l).length ≤ l.length
  | [], _, _ => Nat.le_refl _
  | x :: r, d, i => by
    simp only [ownI, List.length_cons]
    split
    · have := ownI_le r (d - 1) (i + 1); omega
    · have := ownI_le r (if opens x.kind = true then d + 1 else d) (i + 1)
      rw [List.length_append]; split <;> simp <;> omega
theorem ownI_ge : ∀ (l : List Ev) (d : Int) (i : Nat), ∀ j ∈ ownI d i l, i ≤ j ∧ j < i + l.length
  | [], _, _, j, h => by cases h
  | x :: r, d, i, j, h => by
    simp only [ownI] at h
    simp only [List.length_cons]
    split at h
    · have := ownI_ge r _ _ j h; omega
    · rcases List.mem_append.1 h with h | h
      · split at h
        · simp at h; omega
        · cases h
      · have := ownI_ge r _ _ j h; omega
theorem ownI_ev : ∀ (l : List Ev) (d : Int) (i : Nat) (f : Nat → Ev), (∀ j (h : j < l.length), f (i + j) = l[j]) → (ownI d i l).map f = ownE d l
  | [], _, _, _, _ => rfl
  | x :: r, d, i, f, hf => by
    have h0 : f i = x := hf 0 (by simp)
    have hr : ∀ j (h : j < r.length), f (i + 1 + j) = r[j] := fun j h => by
      have := hf (j + 1) (by simpa using h)
      rw [show i + 1 + j = i + (j + 1) by omega]; simpa using this
    simp only [ownI, ownE]
    split
    · exact ownI_ev r _ _ f hr
    · rw [List.map_append, ownI_ev r _ _ f hr]
      congr 1
      split <;> simp [h0]
theorem ownI_step (d : Int) (i : Nat) (l : List Ev) (h : i < l.length) : ownI d i (l.drop i) = if ends l[i].kind = true then ownI (d - 1) (i + 1) (l.drop (i + 1)) else (if d = 0 then [i] else []) ++ ownI (if opens l[i].kind = true then d + 1 else d) (i + 1) (l.drop (i + 1)) := by
  rw [List.drop_eq_getElem_cons h]; rfl
theorem ownI_end (d : Int) (i : Nat) (l : List Ev) (h : l.length ≤ i) : ownI d i (l.drop i) = [] := by
  rw [List.drop_eq_nil_of_le h]; rfl
end Go.Proofs.YtmniblcooficgaaGreatDoor.Ev5
namespace Go.Proofs.YtmniblcooficgaaGreatDoor
open Go.RowKit Ev5
set_option linter.unusedSimpArgs false
set_option linter.unusedVariables false

def fwd (s : List Nat) : List Value := s.map fun (i : Nat) => .int .i64 (i : Int)
theorem fwd_snoc (s : List Nat) (i : Nat) : fwd (s ++ [i]) = fwd s ++ [.int .i64 (i : Int)] := by simp [fwd]

set_option maxRecDepth 100000 in
set_option maxHeartbeats 8000000 in
theorem own_any (w : World) (v : Value) (l : List GoEv) (m : Nat) (hm : m < l.length) (hin : EvIn w v l) :
    Calls Tryz.prog 91 #[v, .int .i64 (m : Int)] w fun e w' => (∃ u, e = .returned u ∧ w'.ownsRow w.heap.size 3 1 u (ownI 0 (m + 1) ((l.map GoEv.ev).drop (m + 1))).length (fwd (ownI 0 (m + 1) ((l.map GoEv.ev).drop (m + 1))))) ∧ Below w.heap.size w w' := by
  have HIN := Lib.hid hin
  obtain ⟨ao, cap, rfl, hcap, hcm, hcells⟩ := hin.ex
  have HC := Lib.hid hcells
  have hlen := hin.len
  clear hin hcells
  obtain ⟨i0, hi, hz0, hz1, hz2⟩ := info_parts infoI
  have HI := Lib.hid hi; clear hi
  obtain ⟨R, hR⟩ : ∃ R, ownI 0 (m + 1) ((l.map GoEv.ev).drop (m + 1)) = R := ⟨_, rfl⟩
  rw [hR]
  have HR := Lib.hid hR; clear hR
  go_enter Tryz.func91, Tryz.ntmps91
  go_wp2_with fail
  go_loopw [5, 6, 7] (fun u vd vi wr => ∃ (k : Nat) (d : Int) (xs : List Nat), vi = .int .i64 (k : Int) ∧ vd = .int .i64 d ∧ k ≤ l.length ∧ -(k : Int) ≤ d ∧ d ≤ k ∧ xs.length ≤ k ∧ Hid (wr.ownsRow w.heap.size 3 1 u xs.length (fwd xs)) ∧ Hid (Below w.heap.size w wr) ∧ Hid (xs ++ ownI d k ((l.map GoEv.ev).drop k) = R))
    (fun _ _ vi _ => l.length - (intOf vi).toNat)
  case atStart => exact ⟨m + 1, 0, [], by go_num, rfl, by omega, by omega, by omega, by simp, World.ownsRow_nil _ _ _ _, Below.refl _ _, by show _ = _; rw [HR.out]; rfl⟩
  case round =>
    obtain ⟨k, d, xs, rfl, rfl, hk, hd0, hd1, hxs, HO, HB, HX⟩ := hrel
    by_cases hlt : k < l.length
    · obtain ⟨b, o, hao, c0, _, _⟩ := HC.out k hlt
      subst hao
      have hbl : b < w.heap.size := cell_lt c0
      have hstep := ownI_step d k (l.map GoEv.ev) (by rw [List.length_map]; exact hlt)
      obtain ⟨q, hq⟩ : ∃ q, l[k].k = q := ⟨_, rfl⟩
      have hqe : ((l.map GoEv.ev)[k]'(by rw [List.length_map]; exact hlt)).kind = q := by rw [List.getElem_map]; exact hq
      rw [hqe] at hstep
      rw [hq] at c0
      have HST := HX.out
      rw [hstep] at HST
      have HX2 := Lib.hid HST
      have d0 : wr.cell? ⟨b, o + k * 3, none⟩ = some (.int .i64 q) := by rw [HB.out.cell (p := ⟨b, o + k * 3, none⟩) hbl]; exact c0
      clear hq hqe hstep HST HX c0
      have hszr := HB.out.size
      have hbr : b < wr.heap.size := by omega
      have hk2 : k ≤ 1048576 := by omega
      by_cases hen : q = 6 ∨ q = 9 ∨ q = 12
      · have HX3 := HX2.out
        rw [if_pos (by simpa [ends] using hen)] at HX3
        have HX4 := Lib.hid HX3; clear HX3 HX2
        have hks : ((q == 6) = true) ∨ ((q == 6) = false ∧ (q == 9) = true) ∨ ((q == 6) = false ∧ (q == 9) = false ∧ (q == 12) = true) := by
          rcases hen with rfl | rfl | rfl <;> simp
        clear hen
        rcases hks with q6 | ⟨q6, q9⟩ | ⟨q6, q9, q12⟩
        all_goals
          go_wp2_with fail
          go_roundw
          case rel => exact ⟨k + 1, d - 1, xs, by go_num, rfl, by omega, by omega, by omega, by omega, HO, HB, HX4⟩
          case measure => simp [intOf]; omega
      · have p6 : (q == 6) = false := by simp; omega
        have p9 : (q == 9) = false := by simp; omega
        have p12 : (q == 12) = false := by simp; omega
        have HX3 := HX2.out
        rw [if_neg (by simpa [ends] using hen)] at HX3
        have HX4 := Lib.hid HX3; clear HX3 HX2 hen
        by_cases hop : q = 5 ∨ q = 7 ∨ q = 10
        · have HX5 := HX4.out
          rw [if_pos (c := opens q = true) (by simpa [opens] using hop)] at HX5
          have hks : ((q == 5) = true) ∨ ((q == 5) = false ∧ (q == 7) = true) ∨ ((q == 5) = false ∧ (q == 7) = false ∧ (q == 10) = true) := by
            rcases hop with rfl | rfl | rfl <;> simp
          clear hop HX4
          by_cases hd : d = 0
          · subst hd
            rw [if_pos rfl, ← List.append_assoc] at HX5
            have HX6 := Lib.hid HX5; clear HX5
            rcases hks with q5 | ⟨q5, q7⟩ | ⟨q5, q7, q10⟩
            all_goals
              go_wp2_with (first
                | (at_builtin; refine wpList_append_own _ (by rfl) _ _ _ (by rfl) w.heap.size 3 i0 _ 1 8 Tryz.underlying27 HI.out hz0 hz1 hz2 rfl (by omega) _ xs.length _ (by rfl) (HO.out.alloc _) ⟨wr.heap.size, 0, none⟩ 1 1 [.int .i64 (k : Int)] (by rfl) (by rfl) (World.news_of_block (cs := #[.int .i64 (k : Int)]) (t := 3) (fr := (0, 0)) (heap_alloc_new wr _)) (by simp [Value.oneCell']) (by unfold maxLen; omega) (by omega) (by simp; omega) ?_)
                | fail)
              intro v' w3 hown3 hgrow3 _
              have hb3 : Below w.heap.size w w3 := (HB.out.alloc HB.out.size _).grown hgrow3 (by have := HB.out.size; simp; omega) (fun q hq => by have := (HO.out.lt q hq).1; omega)
              have H3 := Lib.hid hown3; have HB3 := Lib.hid hb3
              clear hown3 hgrow3 hb3
              go_wp2_with fail
              go_roundw
              case rel => exact ⟨k + 1, 1, xs ++ [k], by go_num, by first | rfl | go_num, by omega, by omega, by omega, by simp; omega, by show World.ownsRow _ _ _ _ _ _ _; rw [fwd_snoc, List.length_append]; exact H3.out, HB3, HX6⟩
              case measure => simp [intOf]; omega
          · have hdb : (d == 0) = false := by simp [hd]
            rw [if_neg hd, List.nil_append] at HX5
            have HX6 := Lib.hid HX5; clear HX5 hd
            rcases hks with q5 | ⟨q5, q7⟩ | ⟨q5, q7, q10⟩
            all_goals
              go_wp2_with fail
              go_roundw
              case rel => exact ⟨k + 1, d + 1, xs, by go_num, rfl, by omega, by omega, by omega, by omega, HO, HB, HX6⟩
              case measure => simp [intOf]; omega
        · have p5 : (q == 5) = false := by simp; omega
          have p7 : (q == 7) = false := by simp; omega
          have p10 : (q == 10) = false := by simp; omega
          have HX5 := HX4.out
          rw [if_neg (c := opens q = true) (by simpa [opens] using hop)] at HX5
          clear hop HX4
          by_cases hd : d = 0
          · subst hd
            rw [if_pos rfl, ← List.append_assoc] at HX5
            have HX6 := Lib.hid HX5; clear HX5
            go_wp2_with (first
              | (at_builtin; refine wpList_append_own _ (by rfl) _ _ _ (by rfl) w.heap.size 3 i0 _ 1 8 Tryz.underlying27 HI.out hz0 hz1 hz2 rfl (by omega) _ xs.length _ (by rfl) (HO.out.alloc _) ⟨wr.heap.size, 0, none⟩ 1 1 [.int .i64 (k : Int)] (by rfl) (by rfl) (World.news_of_block (cs := #[.int .i64 (k : Int)]) (t := 3) (fr := (0, 0)) (heap_alloc_new wr _)) (by simp [Value.oneCell']) (by unfold maxLen; omega) (by omega) (by simp; omega) ?_)
              | fail)
            intro v' w3 hown3 hgrow3 _
            have hb3 : Below w.heap.size w w3 := (HB.out.alloc HB.out.size _).grown hgrow3 (by have := HB.out.size; simp; omega) (fun q hq => by have := (HO.out.lt q hq).1; omega)
            have H3 := Lib.hid hown3; have HB3 := Lib.hid hb3
            clear hown3 hgrow3 hb3
            go_wp2_with fail
            go_roundw
            case rel => exact ⟨k + 1, 0, xs ++ [k], by go_num, rfl, by omega, by omega, by omega, by simp; omega, by show World.ownsRow _ _ _ _ _ _ _; rw [fwd_snoc, List.length_append]; exact H3.out, HB3, HX6⟩
            case measure => simp [intOf]; omega
          · have hdb : (d == 0) = false := by simp [hd]
            rw [if_neg hd, List.nil_append] at HX5
            have HX6 := Lib.hid HX5; clear HX5 hd
            go_wp2_with fail
            go_roundw
            case rel => exact ⟨k + 1, d, xs, by go_num, rfl, by omega, by omega, by omega, by omega, HO, HB, HX6⟩
            case measure => simp [intOf]; omega
    · obtain rfl : k = l.length := by omega
      have hx := HX.out
      rw [ownI_end d l.length (l.map GoEv.ev) (by rw [List.length_map]; exact Nat.le_refl _), List.append_nil] at hx
      subst hx
      clear hlt HX
      go_wp2_with fail
      go_ret
      exact ⟨⟨_, rfl, HO.out⟩, HB.out⟩
end Go.Proofs.YtmniblcooficgaaGreatDoor
namespace Go.Proofs.YtmniblcooficgaaGreatDoor
open Go.RowKit Ev5
set_option linter.unusedSimpArgs false
set_option linter.unusedVariables false

def mayR (x : Int) : Bool := decide (0 ≤ x ∧ x ≤ 1114111 ∧ (x < 55296 ∨ 57343 < x))
def longR (x : Int) : Int := if x < 128 then 1 else if x < 2048 then 2 else if x < 65536 then 3 else 4
set_option maxHeartbeats 1000000 in
theorem refMay1_any (x : Int) (w : World) :
    Calls Tryz.prog 162 #[.int .i64 x] w fun e w' => e = .returned (.bool (mayR x)) ∧ w' = w := by
  by_cases h0 : 0 ≤ x
  · by_cases h1 : x ≤ 1114111
    · by_cases h2 : x < 55296
      · have HM := Lib.hid (show mayR x = true by simp [mayR]; omega)
        go_enter Tryz.func162, Tryz.ntmps162
        go_wp2
        go_ret
        exact ⟨by rw [HM.out]; rfl, rfl⟩
      · by_cases h3 : 57343 < x
        · have HM := Lib.hid (show mayR x = true by simp [mayR]; omega)
          go_enter Tryz.func162, Tryz.ntmps162
          go_wp2
          go_ret
          exact ⟨by rw [HM.out]; rfl, rfl⟩
        · have HM := Lib.hid (show mayR x = false by simp [mayR]; omega)
          have b3 : decide (57343 < x) = false := decide_eq_false h3
          go_enter Tryz.func162, Tryz.ntmps162
          go_wp2
          go_ret
          exact ⟨by rw [HM.out]; rfl, rfl⟩
    · have HM := Lib.hid (show mayR x = false by simp [mayR]; omega)
      have b3 : decide (x ≤ 1114111) = false := decide_eq_false h1
      go_enter Tryz.func162, Tryz.ntmps162
      go_wp2
      go_ret
      exact ⟨by rw [HM.out]; rfl, rfl⟩
  · have HM := Lib.hid (show mayR x = false by simp [mayR]; omega)
    have b3 : decide (0 ≤ x) = false := decide_eq_false h0
    go_enter Tryz.func162, Tryz.ntmps162
    go_wp2
    go_ret
    exact ⟨by rw [HM.out]; rfl, rfl⟩
theorem refLong_any (x : Int) (w : World) :
    Calls Tryz.prog 163 #[.int .i64 x] w fun e w' => e = .returned (.int .i64 (longR x)) ∧ w' = w := by
  by_cases h1 : x < 128
  · have HM := Lib.hid (show longR x = 1 by simp [longR]; omega)
    go_enter Tryz.func163, Tryz.ntmps163
    go_wp2
    go_ret
    exact ⟨by rw [HM.out]; rfl, rfl⟩
  by_cases h2 : x < 2048
  · have HM := Lib.hid (show longR x = 2 by simp [longR]; omega)
    go_enter Tryz.func163, Tryz.ntmps163
    go_wp2
    go_ret
    exact ⟨by rw [HM.out]; rfl, rfl⟩
  by_cases h3 : x < 65536
  · have HM := Lib.hid (show longR x = 3 by simp [longR]; omega)
    go_enter Tryz.func163, Tryz.ntmps163
    go_wp2
    go_ret
    exact ⟨by rw [HM.out]; rfl, rfl⟩
  · have HM := Lib.hid (show longR x = 4 by simp [longR]; omega)
    go_enter Tryz.func163, Tryz.ntmps163
    go_wp2
    go_ret
    exact ⟨by rw [HM.out]; rfl, rfl⟩

def wN (n b0 b1 b2 b3 : Nat) : Nat := if (Lib.decodeN n b0 b1 b2 b3).1 = 65533 ∧ (Lib.decodeN n b0 b1 b2 b3).2 = 1 then 0 else (Lib.decodeN n b0 b1 b2 b3).2
def oneW (l : List UInt8) : Nat := if l = [] then 0 else wN l.length (l.getD 0 0).toNat (l.getD 1 0).toNat (l.getD 2 0).toNat (l.getD 3 0).toNat
theorem wN_1 (n b0 b1 b2 b3 : Nat) (h : b0 < 128) : wN n b0 b1 b2 b3 = 1 := by
  unfold wN; rw [Lib.decodeN_ascii _ _ _ _ _ h]; simp; omega
theorem wN_0 (n b0 b1 b2 b3 : Nat) (h : (128 ≤ b0 ∧ b0 < 192) ∨ (248 ≤ b0 ∧ b0 < 256)) : wN n b0 b1 b2 b3 = 0 := by
  unfold wN; rw [Lib.decodeN_bad _ _ _ _ _ (by omega)]; simp
theorem wN_2 (n b0 b1 b2 b3 : Nat) (h : 192 ≤ b0 ∧ b0 < 224) : wN n b0 b1 b2 b3 = if 1 < n ∧ b1 / 64 = 2 ∧ 128 ≤ b0 % 32 * 64 + b1 % 64 then 2 else 0 := by
  have hd : Lib.decodeN n b0 b1 b2 b3 = if 1 < n ∧ b1 / 64 = 2 ∧ 128 ≤ b0 % 32 * 64 + b1 % 64 then (b0 % 32 * 64 + b1 % 64, 2) else (65533, 1) := by
    unfold Lib.decodeN
    repeat' split
    all_goals first | (exfalso; omega) | rfl
  unfold wN; rw [hd]; split <;> simp
theorem wN_3 (n b0 b1 b2 b3 : Nat) (h : 224 ≤ b0 ∧ b0 < 240) : wN n b0 b1 b2 b3 = if 2 < n ∧ b1 / 64 = 2 ∧ b2 / 64 = 2 ∧ 2048 ≤ b0 % 16 * 4096 + b1 % 64 * 64 + b2 % 64 ∧ (b0 % 16 * 4096 + b1 % 64 * 64 + b2 % 64 < 55296 ∨ 57344 ≤ b0 % 16 * 4096 + b1 % 64 * 64 + b2 % 64) then 3 else 0 := by
  have hd : Lib.decodeN n b0 b1 b2 b3 = if 2 < n ∧ b1 / 64 = 2 ∧ b2 / 64 = 2 ∧ 2048 ≤ b0 % 16 * 4096 + b1 % 64 * 64 + b2 % 64 ∧ (b0 % 16 * 4096 + b1 % 64 * 64 + b2 % 64 < 55296 ∨ 57344 ≤ b0 % 16 * 4096 + b1 % 64 * 64 + b2 % 64) then (b0 % 16 * 4096 + b1 % 64 * 64 + b2 % 64, 3) else (65533, 1) := by
    unfold Lib.decodeN
    repeat' split
    all_goals first | (exfalso; omega) | rfl
  unfold wN; rw [hd]; split <;> simp
theorem wN_4 (n b0 b1 b2 b3 : Nat) (h : 240 ≤ b0 ∧ b0 < 248) : wN n b0 b1 b2 b3 = if 3 < n ∧ b1 / 64 = 2 ∧ b2 / 64 = 2 ∧ b3 / 64 = 2 ∧ 65536 ≤ b0 % 8 * 262144 + b1 % 64 * 4096 + b2 % 64 * 64 + b3 % 64 ∧ b0 % 8 * 262144 + b1 % 64 * 4096 + b2 % 64 * 64 + b3 % 64 ≤ 1114111 then 4 else 0 := by
  have hd : Lib.decodeN n b0 b1 b2 b3 = if 3 < n ∧ b1 / 64 = 2 ∧ b2 / 64 = 2 ∧ b3 / 64 = 2 ∧ 65536 ≤ b0 % 8 * 262144 + b1 % 64 * 4096 + b2 % 64 * 64 + b3 % 64 ∧ b0 % 8 * 262144 + b1 % 64 * 4096 + b2 % 64 * 64 + b3 % 64 ≤ 1114111 then (b0 % 8 * 262144 + b1 % 64 * 4096 + b2 % 64 * 64 + b3 % 64, 4) else (65533, 1) := by
    unfold Lib.decodeN
    repeat' split
    all_goals first | (exfalso; omega) | rfl
  unfold wN; rw [hd]; split <;> simp

theorem at_getD (s : ByteArray) (j : Nat) (h : j < s.size) : (s.data.toList.getD j 0) = s[j] := by
  rw [List.getD_eq_getElem?_getD, List.getElem?_eq_getElem (by rw [Array.length_toList]; exact h)]; rfl
theorem oneW_size (s : ByteArray) (h : 0 < s.size) : oneW s.data.toList = wN s.size (s.data.toList.getD 0 0).toNat (s.data.toList.getD 1 0).toNat (s.data.toList.getD 2 0).toNat (s.data.toList.getD 3 0).toNat := by
  unfold oneW
  rw [if_neg (by intro e; have h3 : s.data.toList.length = 0 := by { rw [e]; rfl }; rw [Array.length_toList] at h3; have h2 : s.data.size = s.size := rfl; omega)]
  rw [show s.data.toList.length = s.size by rw [Array.length_toList]; rfl]

theorem longR_cases (x : Int) : (x < 128 ∧ longR x = 1) ∨ (128 ≤ x ∧ x < 2048 ∧ longR x = 2) ∨ (2048 ≤ x ∧ x < 65536 ∧ longR x = 3) ∨ (65536 ≤ x ∧ longR x = 4) := by
  unfold longR
  by_cases h1 : x < 128
  · rw [if_pos h1]; exact .inl ⟨h1, rfl⟩
  by_cases h2 : x < 2048
  · rw [if_neg h1, if_pos h2]; exact .inr (.inl ⟨by omega, h2, rfl⟩)
  by_cases h3 : x < 65536
  · rw [if_neg h1, if_neg h2, if_pos h3]; exact .inr (.inr (.inl ⟨by omega, h3, rfl⟩))
  · rw [if_neg h1, if_neg h2, if_neg h3]; exact .inr (.inr (.inr ⟨by omega, rfl⟩))
end Go.Proofs.YtmniblcooficgaaGreatDoor
