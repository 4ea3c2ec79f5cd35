/- Rows of events of the call's own; the walk of the reference's At. -/
import Derived.Test.YtaolnpiemeaabaaGreatDoorEvZ
namespace Go.Proofs.YtaolnpiemeaabaaGreatDoor
open Go.RowKit Ev5
set_option linter.unusedSimpArgs false
set_option linter.unusedVariables false

def ints (s : List Nat) : List Value := s.reverse.map fun (i : Nat) => .int .i64 (i : Int)
def headI : List Nat → Int
  | [] => -1
  | i :: _ => i
theorem ints_len (s : List Nat) : (ints s).length = s.length := by simp [ints]
theorem ints_cons (i : Nat) (r : List Nat) : ints (i :: r) = ints r ++ [.int .i64 (i : Int)] := by simp [ints]

/-- A row of the call's own that holds numbers, the last ahead. -/
theorem row_shape {w : World} {base : Nat} {v : Value} {s : List Nat} (h : w.ownsRow base 3 1 v s.length (ints s)) :
    (s = [] ∧ ∃ a cap, v = .slice a 0 cap) ∨ (∃ i r g cap, s = i :: r ∧ v = .slice (some ⟨g, 0, none⟩) (r.length + 1) cap ∧ w.cell? ⟨g, r.length, none⟩ = some (.int .i64 (i : Int)) ∧ g < w.heap.size ∧ r.length + 1 ≤ cap ∧
      w.ownsRow base 3 1 (.slice (some ⟨g, 0, none⟩) r.length cap) r.length (ints r)) := by
  cases s with
  | nil =>
    refine .inl ⟨rfl, ?_⟩
    rcases h.2 with ⟨rfl, _⟩ | ⟨g, cap, cur, rfl, _⟩
    · exact ⟨_, _, rfl⟩
    · exact ⟨_, _, rfl⟩
  | cons i r =>
    refine .inr ⟨i, r, ?_⟩
    rcases h.2 with ⟨_, h0⟩ | ⟨g, cap, cur, rfl, hb, hg, hc, hm, hs, ht⟩
    · simp at h0
    · refine ⟨g, cap, rfl, by simp, ?_, (Array.getElem?_eq_some_iff.1 hg).1, by simpa using hc, ⟨by simp [ints_len], .inr ⟨g, cap, cur, rfl, hb, hg, by simp at hc; omega, hm, hs, ?_⟩⟩⟩
      · have := h.cells (g := g) (by simp [Value.ownBlock]) r.length (.int .i64 (i : Int)) (by rw [ints_cons]; simp [ints])
        have e : (⟨g, 0, none⟩ : Addr).add r.length = ⟨g, r.length, none⟩ := by unfold Addr.add; split <;> simp_all
        rw [← e]; exact this
      · have := congrArg (List.take (r.length * 1)) ht
        rw [List.take_take, show min (r.length * 1) ((i :: r).length * 1) = r.length * 1 by simp] at this
        rw [this, ints_cons]
        simp [ints]

/-- An event's cells, and a row's. -/
def evL (x : GoEv) : List Value := [.int .i64 x.k, .string x.t, .string x.v]
def evRow (l : List GoEv) : List Value := l.flatMap evL
theorem evRow_len (l : List GoEv) : (evRow l).length = l.length * 3 := by
  induction l with
  | nil => rfl
  | cons x r ih => simp [evRow, evL] at ih ⊢; omega
theorem evRow_snoc (l : List GoEv) (x : GoEv) : evRow (l ++ [x]) = evRow l ++ evL x := by simp [evRow]
theorem evRow_at : ∀ (l : List GoEv) (i : Nat) (h : i < l.length) (j : Nat) (hj : j < 3), (evRow l)[i * 3 + j]? = (evL l[i])[j]?
  | x :: r, 0, _, j, hj => by
    simp only [evRow, List.flatMap_cons, Nat.zero_mul, Nat.zero_add, List.getElem_cons_zero]
    rw [List.getElem?_append_left (by simp [evL]; omega)]
  | x :: r, i + 1, h, j, hj => by
    have ih := evRow_at r i (by simpa using h) j hj
    simp only [evRow, List.flatMap_cons, List.getElem_cons_succ] at ih ⊢
    rw [List.getElem?_append_right (by simp [evL]; omega), show (i + 1) * 3 + j - (evL x).length = i * 3 + j by simp [evL]; omega]
    exact ih
  | [], i, h, _, _ => by simp at h

/-- A row of events of the call's own. -/
def EvOwn (w : World) (base : Nat) (v : Value) (l : List GoEv) : Prop := w.ownsRow base 84 3 v l.length (evRow l)
theorem EvOwn.evIn {w : World} {base : Nat} {v : Value} {l : List GoEv} (h : EvOwn w base v l) (hok : ∀ x ∈ l, EvOK x) (hl : l.length ≤ 1048576) : EvIn w v l := by
  refine ⟨?_, hok, hl⟩
  rcases h.2 with ⟨rfl, h0⟩ | ⟨g, cap, cur, rfl, hb, hg, hc, hm, hs, ht⟩
  · refine ⟨none, 0, by rw [h0], by omega, by decide, fun i hi => by omega⟩
  · refine ⟨some ⟨g, 0, none⟩, cap, rfl, hc, hm, fun i hi => ⟨g, 0, rfl, ?_⟩⟩
    have add : ∀ q : Nat, (⟨g, 0, none⟩ : Addr).add q = ⟨g, 0 + q, none⟩ := by
      intro q; unfold Addr.add; split
      · subst_vars; rfl
      · rfl
    have c : ∀ j u, j < 3 → (evL l[i])[j]? = some u → w.cell? ⟨g, 0 + (i * 3 + j), none⟩ = some u := by
      intro j u hj hu
      have := h.cells (g := g) (by simp [Value.ownBlock]) (i * 3 + j) u (by rw [evRow_at l i hi j hj]; exact hu)
      rwa [add] at this
    refine ⟨?_, ?_, ?_⟩
    · simpa using c 0 _ (by omega) rfl
    · simpa [Nat.add_assoc] using c 1 _ (by omega) rfl
    · simpa [Nat.add_assoc] using c 2 _ (by omega) rfl
theorem EvOwn.keeps {w w' : World} {base : Nat} {v : Value} {l : List GoEv} (h : EvOwn w base v l) (hk : Keeps w w') : EvOwn w' base v l := by
  refine ⟨h.1, ?_⟩
  rcases h.2 with h0 | ⟨g, cap, cur, rfl, hb, hg, rest⟩
  · exact .inl h0
  · exact .inr ⟨g, cap, cur, rfl, hb, hk g _ hg (by simp [mine]), rest⟩
theorem EvOwn.below {w w' : World} {base : Nat} {v : Value} {l : List GoEv} (h : EvOwn w base v l) (hb : Below w.heap.size w w') : EvOwn w' base v l := h.keeps (Keeps.below hb)
/-- An append to a row of events leaves a Check alone. -/
theorem Chk.aside {w w' : World} {base base' c : Nat} {v u : Value} {ps : List (Nat × Nat)} {st : St} {l : List GoEv} (h : Chk w base c v ps st) (ho : EvOwn w base' u l) (hg : w.grownBy w' u.ownBlock) : Chk w' base c v ps st := by
  have hu : ∀ (k : Nat) (o : Obj), w.heap[k]? = some o → (∀ cs, o ≠ Obj.cells cs 84 (0, 0)) → w'.heap[k]? = some o := by
    intro k o hk hne
    rw [hg.block k (lt_blk hk) (fun e => ?_)]
    · exact hk
    · rcases ho.2 with ⟨rfl, _⟩ | ⟨g, cap, cur, rfl, _, hgg, _⟩
      · simp [Value.ownBlock] at e
      · simp [Value.ownBlock] at e; subst e; rw [hk] at hgg; injection hgg with hgg; exact hne _ hgg
  refine ⟨h.low, hu c _ h.blk (by simp), ⟨h.row.1, ?_⟩, h.opens.same fun k hk => ?_⟩
  · rcases h.row.2 with h0 | ⟨g, cap, cur, e, hb, hgg, rest⟩
    · exact .inl h0
    · exact .inr ⟨g, cap, cur, e, hb, hu g _ hgg (by simp), rest⟩
  · rcases List.mem_append.1 hk with hk | hk
    · obtain ⟨cs, hc⟩ := h.opens.fst k hk; rw [hc]; exact hu k _ hc (by simp)
    · obtain ⟨es, cl, hc⟩ := h.opens.snd k hk; rw [hc]; exact hu k _ hc (by simp)
theorem infoE : (Tryz.prog.info? 84).map (fun i => (i.zero, i.size, i.bytes)) = some (some (.agg #[.int .i64 0, .string ⟨#[]⟩, .string ⟨#[]⟩]), 3, 40) := by kernel_rfl
/-- An event's block, newly laid, holds its cells. -/
theorem ev_news {w : World} {x : GoEv} : ∀ j u, (evL x)[j]? = some u → (w.alloc (.cells #[.int .i64 x.k, .string x.t, .string x.v] 84)).cell? ((⟨w.heap.size, 0, none⟩ : Addr).add j) = some u := by
  intro j u hu
  have hb : (w.alloc (.cells #[.int .i64 x.k, .string x.t, .string x.v] 84)).heap[w.heap.size]? = some (.cells #[.int .i64 x.k, .string x.t, .string x.v] 84 (0, 0)) := heap_alloc_new w _
  have hj : j < 3 := by
    rcases Nat.lt_or_ge j 3 with h | h
    · exact h
    · rw [List.getElem?_eq_none (by simp [evL]; omega)] at hu; cases hu
  have add : (⟨w.heap.size, 0, none⟩ : Addr).add j = ⟨w.heap.size, j, none⟩ := by unfold Addr.add; split <;> simp_all
  rw [add]
  have := (blk_cell hb j (by simpa using hj)).1
  rw [this, ← hu]
  have : j = 0 ∨ j = 1 ∨ j = 2 := by omega
  rcases this with rfl | rfl | rfl <;> rfl
theorem ev_one {x : GoEv} : ∀ u ∈ evL x, u.oneCell' = true := by
  intro u hu
  simp [evL] at hu
  rcases hu with rfl | rfl | rfl <;> rfl

set_option maxRecDepth 100000 in
set_option maxHeartbeats 4000000 in
theorem at_any (w : World) (v : Value) (l : List GoEv) (hin : EvIn w v l) :
    Calls Tryz.prog 70 #[v] w fun e w' => e = .returned (.tuple #[.int .i64 (headI (stackP (l.map GoEv.ev))), .int .i64 (stackP (l.map GoEv.ev)).length]) ∧ Below w.heap.size w w' := by
  have HIN := Lib.hid hin
  obtain ⟨ao, cap, rfl, hcap, hcm, hcells⟩ := hin.ex
  have HC := Lib.hid hcells
  have hlen := hin.len
  clear hin hcells
  obtain ⟨i0, hi, hz0, hz1, hz2⟩ := info_parts infoI
  have HI := Lib.hid hi; clear hi
  go_enter Tryz.func70, Tryz.ntmps70
  go_wp2_with fail
  go_loopw [4, 5] (fun u vi wr => ∃ k : Nat, k ≤ l.length ∧ vi = .int .i64 k ∧ Hid (wr.ownsRow w.heap.size 3 1 u (stackP ((l.take k).map GoEv.ev)).length (ints (stackP ((l.take k).map GoEv.ev)))) ∧ Hid (Below w.heap.size w wr) ∧ Hid ((stackP ((l.take k).map GoEv.ev)).length ≤ k))
    (fun _ vi _ => l.length - (intOf vi).toNat)
  case atStart => exact ⟨0, Nat.zero_le _, rfl, World.ownsRow_nil _ _ _ _, Below.refl _ _, Nat.le_refl _⟩
  case round =>
    obtain ⟨k, hk, rfl, HO, HB, HS⟩ := hrel
    by_cases hlt : k < l.length
    · obtain ⟨b, o, hao, c0, _, _⟩ := HC.out k hlt
      subst hao
      have hbl : b < w.heap.size := cell_lt c0
      have htk : (l.take (k + 1)).map GoEv.ev = (l.take k).map GoEv.ev ++ [l[k].ev] := by rw [List.take_add_one, List.getElem?_eq_getElem hlt, List.map_append]; rfl
      have hst := stackP_snoc ((l.take k).map GoEv.ev) l[k].ev
      rw [← htk, show ((l.take k).map GoEv.ev).length = k by rw [List.length_map, List.length_take]; omega] at hst
      obtain ⟨q, hq⟩ : ∃ q, l[k].k = q := ⟨_, rfl⟩
      have hqe : l[k].ev.kind = q := hq
      rw [hqe] at hst
      rw [hq] at c0
      have d0 : wr.cell? ⟨b, o + k * 3, none⟩ = some (.int .i64 q) := by rw [HB.out.cell (p := ⟨b, o + k * 3, none⟩) hbl]; exact c0
      have HST := Lib.hid hst
      have HSK := HS.out
      clear hq hqe hst htk c0 HS
      generalize stackP ((l.take k).map GoEv.ev) = s at *
      have hszr := HB.out.size
      have hbr : b < wr.heap.size := by omega
      have hk2 : k ≤ 1048576 := by omega
      by_cases hop : q = 5 ∨ q = 7 ∨ q = 10
      · have hpu : push s k q = k :: s := by unfold push; rw [if_pos (by simpa [opens] using hop)]
        have HPU := Lib.hid (HST.out.trans hpu); clear hpu HST
        have hks : ((q == 5) = true) ∨ ((q == 5) = false ∧ (q == 7) = true) ∨ ((q == 5) = false ∧ (q == 7) = false ∧ (q == 10) = true) := by
          rcases hop with rfl | rfl | rfl <;> simp
        clear hop
        rcases hks with q5 | ⟨q5, q7⟩ | ⟨q5, q7, q10⟩
        all_goals
          go_wp2_with (first
            | (at_builtin; refine wpList_append_own _ (by rfl) _ _ _ (by rfl) w.heap.size 3 i0 _ 1 8 Tryz.underlying27 HI.out hz0 hz1 hz2 rfl (by omega) _ s.length _ (by rfl) (HO.out.alloc _) ⟨wr.heap.size, 0, none⟩ 1 1 [.int .i64 (k : Int)] (by rfl) (by rfl) (World.news_of_block (cs := #[.int .i64 (k : Int)]) (t := 3) (fr := (0, 0)) (heap_alloc_new wr _)) (by simp [Value.oneCell']) (by unfold maxLen; omega) (by omega) (by simp; omega) ?_)
            | fail)
          intro v' w3 hown3 hgrow3 _
          have hb3 : Below w.heap.size w w3 := (HB.out.alloc HB.out.size _).grown hgrow3 (by have := HB.out.size; simp; omega) (fun q hq => by have := (HO.out.lt q hq).1; omega)
          have H3 := Lib.hid hown3; have HB3 := Lib.hid hb3
          clear hown3 hgrow3 hb3
          go_wp2_with fail
          go_roundw
          case rel => exact ⟨k + 1, by omega, by go_num, by show World.ownsRow _ _ _ _ _ _ _; rw [HPU.out, ints_cons]; exact H3.out, HB3.out, by show _ ≤ _; rw [HPU.out]; simp; omega⟩
          case measure => simp [intOf]; omega
      · have p5 : (q == 5) = false := by simp; omega
        have p7 : (q == 7) = false := by simp; omega
        have p10 : (q == 10) = false := by simp; omega
        by_cases hen : q = 6 ∨ q = 9 ∨ q = 12
        · have hpu : push s k q = s.tail := by unfold push; rw [if_neg (by simpa [opens] using hop), if_pos (by simpa [ends] using hen)]
          have HPU := Lib.hid (HST.out.trans hpu); clear hpu HST
          have hks : ((q == 6) = true) ∨ ((q == 6) = false ∧ (q == 9) = true) ∨ ((q == 6) = false ∧ (q == 9) = false ∧ (q == 12) = true) := by
            rcases hen with rfl | rfl | rfl <;> simp
          clear hop hen
          rcases row_shape HO.out with ⟨rfl, a, cc, rfl⟩ | ⟨i, r, g, cc, rfl, rfl, hcc, hgg, hrc, hrow⟩
          · rcases hks with q6 | ⟨q6, q9⟩ | ⟨q6, q9, q12⟩
            all_goals
              go_wp2_with fail
              go_roundw
              case rel => exact ⟨k + 1, by omega, by go_num, by show World.ownsRow _ _ _ _ _ _ _; rw [HPU.out]; exact HO.out, HB.out, by show _ ≤ _; rw [HPU.out]; simp⟩
              case measure => simp [intOf]; omega
          · have HRW := Lib.hid hrow
            have hr0 : (0 : Int) ≤ (r.length : Int) := Int.natCast_nonneg _
            have hr1 : (r.length : Int) ≤ (cc : Int) := by omega
            have hr2 : r.length + 1 ≤ k := by simpa using HSK
            clear hrow hcc HSK
            rcases hks with q6 | ⟨q6, q9⟩ | ⟨q6, q9, q12⟩
            all_goals
              go_wp2_with fail
              go_roundw
              case rel => exact ⟨k + 1, by omega, by go_num, by show World.ownsRow _ _ _ _ _ _ _; rw [HPU.out]; exact HRW.out, HB.out, by show _ ≤ _; rw [HPU.out]; simp; omega⟩
              case measure => simp [intOf]; omega
        · have p6 : (q == 6) = false := by simp; omega
          have p9 : (q == 9) = false := by simp; omega
          have p12 : (q == 12) = false := by simp; omega
          have hpu : push s k q = s := by unfold push; rw [if_neg (by simpa [opens] using hop), if_neg (by simpa [ends] using hen)]
          have HPU := Lib.hid (HST.out.trans hpu); clear hpu HST hop hen
          go_wp2_with fail
          go_roundw
          case rel => exact ⟨k + 1, by omega, by go_num, by show World.ownsRow _ _ _ _ _ _ _; rw [HPU.out]; exact HO.out, HB.out, by show _ ≤ _; rw [HPU.out]; omega⟩
          case measure => simp [intOf]; omega
    · obtain rfl : k = l.length := by omega
      have hte : l.take l.length = l := List.take_length
      rw [hte] at HO HS
      clear hte hlt
      have HSK := HS.out
      clear HS
      obtain ⟨s, hs⟩ : ∃ s, stackP (l.map GoEv.ev) = s := ⟨_, rfl⟩
      rw [hs] at HO HSK
      have HSS := Lib.hid hs; clear hs
      rcases row_shape HO.out with ⟨rfl, a, cc, rfl⟩ | ⟨i, r, g, cc, rfl, rfl, hcc, hgg, hrc, _⟩
      · go_wp2_with fail
        go_ret2
        exact ⟨by rw [HSS.out]; rfl, HB.out⟩
      · have hr0 : (0 : Int) ≤ (r.length : Int) := Int.natCast_nonneg _
        have hr2 : r.length + 1 ≤ l.length := by simpa using HSK
        generalize hrl : r.length = rl at *
        go_wp2_with fail
        go_ret2
        exact ⟨by rw [HSS.out, List.length_cons, hrl]; rfl, HB.out⟩
end Go.Proofs.YtaolnpiemeaabaaGreatDoor
