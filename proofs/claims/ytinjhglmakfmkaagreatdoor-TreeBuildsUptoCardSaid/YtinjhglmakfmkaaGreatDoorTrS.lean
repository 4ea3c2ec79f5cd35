/- The walk of the reference's one: the node with which events begin, and how many it has. -/
import Derived.Test.YtinjhglmakfmkaaGreatDoorTrN3
namespace Go.Proofs.YtinjhglmakfmkaaGreatDoor
open Go.RowKit Ev5
set_option linter.unusedSimpArgs false
set_option linter.unusedVariables false

def OnePost (x : Nd) (w : World) (e : Ending) (w' : World) : Prop :=
  ∃ a cap, e = .returned (.tuple #[.agg #[.int .i64 x.k, .string x.t, .string x.v, .slice a x.kids.length cap], .int .i64 (x.walk.length : Int)]) ∧ SlIn w' (fun b => w.heap.size ≤ b) (.slice a x.kids.length cap) x.kids ∧ Below w.heap.size w w'
def OneOf (x : Nd) : Prop := ∀ (w : World) (lv : Value) (rest : List GoEv), EvIn w lv (x.walk ++ rest) → Calls Tryz.prog 46 #[lv] w (OnePost x w)

/-- The state of a call of one: the result's block, the node's box, its kids so far. -/
structure On (w0 w : World) (A : Nat) (k : Int) (t v : ByteArray) (u : Value) (ps : List (Nd × Value)) : Prop where
  rs : w.heap[A]? = some (.cells #[.int .i64 0, .string ⟨#[]⟩, .string ⟨#[]⟩, .slice none 0 0] 39 (0, 0))
  nb : w.heap[A + 1]? = some (.cells #[.int .i64 k, .string t, .string v, u] 39 (0, 0))
  own : OwnK w (A + 2) u ps
  bel : Below A w0 w
theorem On.below {w0 w w' : World} {A : Nat} {k : Int} {t v : ByteArray} {u : Value} {ps : List (Nd × Value)} (h : On w0 w A k t v u ps) (hb : Below w.heap.size w w') : On w0 w' A k t v u ps :=
  ⟨(hb.block _ (lt_blk h.rs)).trans h.rs, (hb.block _ (lt_blk h.nb)).trans h.nb, h.own.below hb, h.bel.trans (hb.mono (by have := lt_blk h.rs; omega))⟩
theorem On.far {w0 w : World} {A : Nat} {k : Int} {t v : ByteArray} {u : Value} {ps : List (Nd × Value)} (h : On w0 w A k t v u ps) (W3 w5 : World) (hb : Below w.heap.size w W3) (hg : W3.grownBy w5 u.ownBlock) :
    w5.heap[A]? = some (.cells #[.int .i64 0, .string ⟨#[]⟩, .string ⟨#[]⟩, .slice none 0 0] 39 (0, 0)) ∧ w5.heap[A + 1]? = some (.cells #[.int .i64 k, .string t, .string v, u] 39 (0, 0)) ∧ Below A w0 w5 := by
  have h3 := h.below hb
  have hne : ∀ b, b < A + 2 → u.ownBlock ≠ some b := by
    intro b hb' e
    rcases h3.own.row.2 with ⟨rfl, _⟩ | ⟨g, cap, cur, rfl, hg', _⟩
    · simp [Value.ownBlock] at e
    · simp [Value.ownBlock] at e; omega
  refine ⟨?_, ?_, ?_⟩
  · rw [hg.block A (lt_blk h3.rs) (fun e => hne A (by omega) e.symm)]; exact h3.rs
  · rw [hg.block (A + 1) (lt_blk h3.nb) (fun e => hne (A + 1) (by omega) e.symm)]; exact h3.nb
  · refine h3.bel.trans (Below.grown (Below.refl A W3) hg (by have := lt_blk h3.rs; omega) (fun b hb' => ?_))
    rcases Nat.lt_or_ge b A with h1 | h1
    · exact absurd hb' (hne b (by omega))
    · exact h1
/-- A kid has been appended, and the row laid in the node's box. -/
theorem On.push {w0 w W3 w5 : World} {A : Nat} {k : Int} {t v : ByteArray} {u uk : Value} {ps : List (Nd × Value)} {x : Nd} {g cap : Nat} (h : On w0 w A k t v u ps) (hb : Below w.heap.size w W3) (hsk : SlIn W3 (fun b => w.heap.size ≤ b) uk x.kids)
    (hown : w5.ownsRow (A + 2) 39 4 (.slice (some ⟨g, 0, none⟩) (ps.length + 1) cap) (ps.length + 1) (ndRow ps ++ ndL x uk)) (hg : W3.grownBy w5 u.ownBlock) (hat : u.ownBlock = some g ∨ W3.heap.size ≤ g) :
    On w0 (w5.setCell ⟨A + 1, 3, none⟩ (.slice (some ⟨g, 0, none⟩) (ps.length + 1) cap)) A k t v (.slice (some ⟨g, 0, none⟩) (ps.length + 1) cap) (ps ++ [(x, uk)]) := by
  obtain ⟨f1, f2, f3⟩ := h.far W3 w5 hb hg
  have hBw : A + 2 ≤ w.heap.size := by have := lt_blk h.nb; omega
  have ho : OwnK W3 (A + 2) u ps := h.own.below hb
  have hsk' := h.own.apart hBw hsk
  have ho2 := ho.snoc hsk' hown hg hat
  exact ⟨(set_other (by omega)).trans f1, heap_set4 f2, ho2.other (grown_set w5 (A + 1) 3 _) (by omega), f3.setCell (p := ⟨A + 1, 3, none⟩) (by show A ≤ A + 1; omega) _⟩

set_option maxRecDepth 1000000 in
set_option maxHeartbeats 8000000 in
theorem one_nd (x : Nd) : x.good = true → OneOf x := by
  refine Nd.ind (C := fun x => x.good = true → OneOf x) ?_ x
  intro k t v ks ih hg w lv rest hev
  rw [walk_good hg] at hev
  rw [good_mk] at hg
  simp only [Bool.and_eq_true, Bool.not_eq_true'] at hg
  have hgs := (goods_iff _).1 hg.2
  have HOD := Lib.hid hg.1
  have HIH := Lib.hid (fun x hx => ih x hx (hgs x hx))
  have HGS := Lib.hid hgs
  obtain ⟨E, hE⟩ : ∃ E, endK k = E := ⟨_, rfl⟩
  rw [hE, List.cons_append] at hev
  have HEK := Lib.hid hE; clear hE
  obtain ⟨L, hL⟩ : ∃ L, Nd.walks ks ++ (if E = 0 then [] else [endEv k]) ++ rest = L := ⟨_, rfl⟩
  rw [hL] at hev
  have HL := Lib.hid hL; clear hL
  have HEV := Lib.hid hev
  obtain ⟨b, o, cap, rfl, hcap, hcm, c0, c1, c2, hbl⟩ := evIn_first hev
  clear ih hg hgs hev
  unfold maxLen at hcm
  go_enter Tryz.func46, Tryz.ntmps46
  go_wp2_with fail
  have HB2 := Lib.hid (show Below w.heap.size w (w.alloc (.cells #[.int .i64 0, .string ⟨#[]⟩, .string ⟨#[]⟩, .slice none 0 0] 39)) from (Below.refl _ _).alloc (Nat.le_refl _) _)
  have hR := heap_alloc_new w (.cells #[.int .i64 0, .string ⟨#[]⟩, .string ⟨#[]⟩, .slice none 0 0] 39)
  obtain ⟨w1, hw1⟩ : ∃ w1, w.alloc (.cells #[.int .i64 0, .string ⟨#[]⟩, .string ⟨#[]⟩, .slice none 0 0] 39) = w1 := ⟨_, rfl⟩
  have hs1 : w1.heap.size = w.heap.size + 1 := by rw [← hw1]; simp
  rw [hw1] at HB2 hR
  rw [hw1]
  have HAR := Lib.hid hR
  have HS1 := Lib.hid hs1
  have HD := Lib.hid (show ∀ w' : World, Below w1.heap.size w1 w' → w'.cell? ⟨b, o, none⟩ = some (.int .i64 k) ∧ w'.cell? ⟨b, o + 1, none⟩ = some (.string t) ∧ w'.cell? ⟨b, o + 2, none⟩ = some (.string v) from fun w' hb => by
    have hb0 : Below w.heap.size w w' := HB2.out.trans (hb.mono HB2.out.size)
    exact ⟨by rw [hb0.cell (p := ⟨b, o, none⟩) hbl]; exact c0, by rw [hb0.cell (p := ⟨b, o + 1, none⟩) hbl]; exact c1, by rw [hb0.cell (p := ⟨b, o + 2, none⟩) hbl]; exact c2⟩)
  have hbl1 : b < w1.heap.size := by omega
  have hlen1 : (0 : Int) < ((L.length : Int) + 1) := by omega
  clear c0 c1 c2 hw1 hR hs1
  go_region_held3? (fun w' => w'.cell? ⟨b, o, none⟩ = some (.int .i64 k) ∧ w'.cell? ⟨b, o + 1, none⟩ = some (.string t) ∧ w'.cell? ⟨b, o + 2, none⟩ = some (.string v)) (first | exact HD.out _ (Below.refl _ _).drew | exact HD.out _ ((Below.refl _ _).alloc (Nat.le_refl _) _).drew | go_keep) ((first | fail))
  have HB3 := Lib.hid (show Below w1.heap.size w1 (w1.alloc (.cells #[.int .i64 k, .string t, .string v, .slice none 0 0] 39)).drew from ((Below.refl _ _).alloc (Nat.le_refl _) _).drew)
  have hnb : (w1.alloc (.cells #[.int .i64 k, .string t, .string v, .slice none 0 0] 39)).drew.heap[w1.heap.size]? = some (.cells #[.int .i64 k, .string t, .string v, .slice none 0 0] 39 (0, 0)) := heap_alloc_new w1 _
  obtain ⟨w2, hw2⟩ : ∃ w2, (w1.alloc (.cells #[.int .i64 k, .string t, .string v, .slice none 0 0] 39)).drew = w2 := ⟨_, rfl⟩
  rw [hw2] at HB3 hnb
  rw [hw2]
  have hsz1 := HS1.out
  rw [hsz1] at hnb
  have HBD := Lib.hid (show On w w2 w.heap.size k t v (.slice none 0 0) [] from
    ⟨(HB3.out.block _ (by omega)).trans HAR.out, hnb, OwnK.nil _ _, bthen HB2.out HB3.out⟩)
  rw [hsz1]
  clear hnb hw2 hsz1 HB3 HD hbl1 HAR HS1 HB2
  obtain ⟨n0, n1, n2, n3, m0, m1, m2, m3, hnl⟩ := nd_cells HBD.out.nb
  obtain ⟨r0, r1, r2, r3, s0, s1, s2, s3, hrl⟩ := nd_cells HBD.out.rs
  have hcap1 : (1 : Int) ≤ (cap : Int) := by omega
  have hlen1 : (1 : Int) ≤ ((L.length : Int) + 1) := by omega
  obtain ⟨i0, hi, hz0, hz1, hz2⟩ := info_parts infoN
  have HI := Lib.hid hi; clear hi
  have HWL := Lib.hid (show (Nd.mk k t v ks).walk.length = 1 + (Nd.walks ks).length + (if E = 0 then 0 else 1) by
    rw [walk_mk, if_neg (by rw [HOD.out]; simp), HEK.out, List.length_cons, List.length_append]; split <;> simp <;> omega)
  have HALL := Lib.hid (show ∀ done todo, ks = done ++ todo → (⟨k, t, v⟩ :: L : List GoEv).drop (1 + (Nd.walks done).length) = Nd.walks todo ++ ((if E = 0 then [] else [endEv k]) ++ rest) ∧ 1 + (Nd.walks done).length ≤ (⟨k, t, v⟩ :: L : List GoEv).length from fun done todo hk => by
    have hl := HL.out
    rw [hk, walks_app, List.append_assoc, List.append_assoc] at hl
    rw [← hl]
    constructor
    · rw [show 1 + (Nd.walks done).length = (Nd.walks done).length + 1 by omega, List.drop_succ_cons, List.drop_left]
    · simp; omega)
  by_cases h8 : k = 8
  · have hks : ∃ x, ks = [x] := by
      rcases odd_kind HOD.out with ⟨h, _⟩ | ⟨_, h⟩ | h
      · omega
      · match ks, h with
        | [x], _ => exact ⟨x, rfl⟩
      · omega
    obtain ⟨x, rfl⟩ := hks
    have hE : E = 0 := by rw [← HEK.out, h8]; rfl
    have h8b : (k == 8) = true := by simp [h8]
    have HE := Lib.hid hE
    clear hE h8
    obtain ⟨ha1, ha2⟩ := HALL.out [] [x] rfl
    rw [walks_nil] at ha1 ha2
    simp only [List.length_nil, Nat.add_zero] at ha1 ha2
    rw [walks_one] at ha1
    have HA1 := Lib.hid ha1; have HA2 := Lib.hid ha2
    clear ha1 ha2
    have hxl : x.walk.length ≤ 1048576 := by
      have h2 := congrArg List.length HA1.out
      have h3 := HEV.out.len
      simp at h2 h3
      omega
    have hww : wrap64 (1 + (x.walk.length : Int)) = 1 + (x.walk.length : Int) := by unfold wrap64; omega
    have hc2 : 1 < cap := by
      have h1 : 0 < x.walk.length := List.length_pos_iff.2 (walk_ne x)
      have h2 := congrArg List.length HA1.out
      simp at h2
      omega
    have hin2 : EvIn w2 (.slice (some ⟨b, o + 3, none⟩) L.length (cap - 1)) (x.walk ++ ((if E = 0 then [] else [endEv k]) ++ rest)) := by
      have h := evIn_drop HEV.out 1 HA2.out (some ⟨b, o + 3, none⟩) (.inl (by simp))
      rw [HA1.out, show L.length + 1 - 1 = L.length by omega] at h
      exact h.below HBD.out.bel
    go_wp2_with fail
    refine (HIH.out x (by simp) w2 _ _ hin2).mono ?_
    rintro e w3 ⟨a3, c3, rfl, hsk, hb⟩
    have HSK := Lib.hid hsk
    have HB3 := Lib.hid (HBD.out.below hb)
    have HBB := Lib.hid hb
    have hbel3 := hb.size
    have hA2 := lt_blk HBD.out.nb
    clear n0 n1 n2 n3 m0 m1 m2 m3 hnl r0 r1 r2 r3 s0 s1 s2 s3 hrl hsk hb hin2
    obtain ⟨n0, n1, n2, n3, m0, m1, m2, m3, hnl⟩ := nd_cells HB3.out.nb
    have HBL := Lib.hid (show Below w3.heap.size w3 ((w3.alloc (.cells #[.int .i64 x.k, .string x.t, .string x.v, .slice a3 x.kids.length c3] 39)).alloc (.cells #[.int .i64 x.k, .string x.t, .string x.v, .slice a3 x.kids.length c3] 39)) from ((Below.refl _ _).alloc (Nat.le_refl _) _).alloc (by simp) _)
    go_upto_region 6 with (first
      | (at_builtin; refine wpList_append_lies _ (by rfl) _ _ _ (by rfl) (w.heap.size + 2) 39 i0 _ 4 64 Tryz.underlying37 HI.out hz0 hz1 hz2 rfl (by omega) _ 0 _ (by rfl) (HB3.out.below HBL.out).own.row ⟨w3.heap.size + 1, 0, none⟩ 1 1 (ndL x (.slice a3 x.kids.length c3)) (by rfl) (by rfl) (World.news_of_block (by simpa using heap_alloc_new (w3.alloc (.cells #[.int .i64 x.k, .string x.t, .string x.v, .slice a3 x.kids.length c3] 39)) _)) nd_one (by omega) (by unfold maxLen; omega) (by omega) (by simp; omega) (w3.heap.size + 2) (by simp) ?_
         intro gg cap' w5 hown1 hgrow hat hlt2
         obtain ⟨f1, f2, _⟩ := HB3.out.far _ _ HBL.out hgrow
         obtain ⟨n0, n1, n2, n3, m0, m1, m2, m3, hnl⟩ := nd_cells f2)
      | fail)
    have hN := HBD.out.push (bthen HBB.out HBL.out) (HSK.out.below HBL.out) hown1 hgrow (by rcases hat with h | h; exact .inl h; exact .inr (by simp; omega))
    obtain ⟨w6, hw6⟩ : ∃ w6, w5.setCell ⟨w.heap.size + 1, 3, none⟩ (.slice (some ⟨gg, 0, none⟩) 1 cap') = w6 := ⟨_, rfl⟩
    have hN2 : On w w6 w.heap.size k t v (.slice (some ⟨gg, 0, none⟩) 1 cap') [(x, .slice a3 x.kids.length c3)] := by rw [← hw6]; exact hN
    first | rw [hw6] | (simp only [Nat.zero_add]; rw [hw6])
    have HN := Lib.hid hN2
    have HW2 := Lib.hid (show (Nd.mk k t v [x]).walk.length = 1 + x.walk.length by rw [HWL.out, HE.out, walks_one]; simp)
    clear hN hN2 hw6 hown1 hgrow hat hlt2 f1 f2 n0 n1 n2 n3 m0 m1 m2 m3 hnl
    obtain ⟨n0, n1, n2, n3, m0, m1, m2, m3, hnl⟩ := nd_cells HN.out.nb
    obtain ⟨r0, r1, r2, r3, s0, s1, s2, s3, hrl⟩ := nd_cells HN.out.rs
    go_wp2_with fail
    obtain ⟨w7, hw7⟩ : ∃ w7, ((((w6.setCell ⟨w.heap.size, 0, none⟩ (.int .i64 k)).setCell ⟨w.heap.size, 1, none⟩ (.string t)).setCell ⟨w.heap.size, 2, none⟩ (.string v)).setCell ⟨w.heap.size, 3, none⟩ (.slice (some ⟨gg, 0, none⟩) 1 cap')) = w7 := ⟨_, rfl⟩
    obtain ⟨hf, hgr⟩ := fill4 (.int .i64 k) (.string t) (.string v) (.slice (some ⟨gg, 0, none⟩) 1 cap') HN.out.rs
    rw [hw7] at hf hgr
    rw [hw7]
    obtain ⟨q0, q1, q2, q3, _, _, _, _, hql⟩ := nd_cells hf
    have hsl := (HN.out.own.other hgr (by omega)).slIn
    have hbe := HN.out.bel.grown hgr HN.out.bel.size (fun b hb => by injection hb; omega)
    refine bodyPost_ret (v := .tuple #[.agg #[.int .i64 k, .string t, .string v, .slice (some ⟨gg, 0, none⟩) 1 cap'], .int .i64 (1 + x.walk.length)]) (by simp [results, Tryz.results46, go_sem, q0, q1, q2, q3, hww]) rfl ⟨some ⟨gg, 0, none⟩, cap', by rw [HW2.out]; simp [Nd.k, Nd.t, Nd.v, Nd.kids], hsl.alike ⟨Nat.le_refl _, fun _ _ _ => rfl⟩ fun b hb _ => by omega, hbe⟩
  · have h8b : (k == 8) = false := by simp [h8]
    go_wp2_with fail
    refine (refEnd_any _ _).mono ?_
    rintro e w4 ⟨rfl, hw⟩
    subst hw
    rw [HEK.out]
    by_cases hE : E = 0
    · have hks : ks = [] := by
        rcases odd_kind HOD.out with ⟨_, h⟩ | ⟨h, _⟩ | h
        · exact List.eq_nil_of_length_eq_zero h
        · omega
        · have := HEK.out
          rcases endK_cases k with ⟨_, a⟩ | ⟨_, a⟩ | ⟨_, a⟩ | ⟨a, b, c, _⟩ <;> omega
      subst hks
      have HW2 := Lib.hid (show (Nd.mk k t v []).walk.length = 1 by rw [HWL.out, hE, walks_nil]; rfl)
      subst hE
      go_wp2_with fail
      obtain ⟨w7, hw7⟩ : ∃ w7, ((((w4.setCell ⟨w.heap.size, 0, none⟩ (.int .i64 k)).setCell ⟨w.heap.size, 1, none⟩ (.string t)).setCell ⟨w.heap.size, 2, none⟩ (.string v)).setCell ⟨w.heap.size, 3, none⟩ (.slice none 0 0)) = w7 := ⟨_, rfl⟩
      obtain ⟨hf, hgr⟩ := fill4 (.int .i64 k) (.string t) (.string v) (.slice none 0 0) HBD.out.rs
      rw [hw7] at hf hgr
      rw [hw7]
      obtain ⟨q0, q1, q2, q3, _, _, _, _, hql⟩ := nd_cells hf
      have hsl := (HBD.out.own.other hgr (by omega)).slIn
      have hbe := HBD.out.bel.grown hgr HBD.out.bel.size (fun b hb => by injection hb; omega)
      refine bodyPost_ret (v := .tuple #[.agg #[.int .i64 k, .string t, .string v, .slice none 0 0], .int .i64 1]) (by simp [results, Tryz.results46, go_sem, q0, q1, q2, q3]) rfl ⟨none, 0, by rw [HW2.out]; simp [Nd.k, Nd.t, Nd.v, Nd.kids], hsl.alike ⟨Nat.le_refl _, fun _ _ _ => rfl⟩ fun b hb _ => by omega, hbe⟩
    · have hEb : (E == 0) = false := by simp [hE]
      have hE3 : E = 6 ∨ E = 9 ∨ E = 12 := by
        have := HEK.out
        rcases endK_cases k with ⟨_, a⟩ | ⟨_, a⟩ | ⟨_, a⟩ | ⟨_, _, _, a⟩ <;> omega
      have HE3 := Lib.hid hE3
      have HE0 := Lib.hid hE
      have HW2 := Lib.hid (show (Nd.mk k t v ks).walk.length = 1 + (Nd.walks ks).length + 1 by rw [HWL.out, if_neg hE])
      clear hE h8 hE3
      go_wp2_with fail
      go_loopg [5] ks.length (fun g u wx => ∃ (done todo : List Nd) (at_ : Nat) (u' : Value) (ps : List (Nd × Value)), g = todo.length ∧ u = .int .i64 at_ ∧ Hid (1 + (Nd.walks done).length = at_) ∧ Hid (ks = done ++ todo) ∧ Hid (On w wx w.heap.size k t v u' ps) ∧ Hid (ps.map (·.1) = done))
      case atStart => exact ⟨[], ks, 1, _, [], rfl, rfl, by show _ = _; rw [walks_nil]; rfl, rfl, HBD.out, rfl⟩
      case round =>
        obtain ⟨done, todo, at_, u', ps, hg, rfl, HAT, HSP, HBr, HPS⟩ := hrel
        clear n0 n1 n2 n3 m0 m1 m2 m3 hnl r0 r1 r2 r3 s0 s1 s2 s3 hrl
        obtain ⟨n0, n1, n2, n3, m0, m1, m2, m3, hnl⟩ := nd_cells HBr.out.nb
        obtain ⟨r0, r1, r2, r3, s0, s1, s2, s3, hrl⟩ := nd_cells HBr.out.rs
        obtain ⟨hd1, hd2⟩ := HALL.out done todo HSP.out
        rw [if_neg HE0.out, HAT.out] at hd1
        rw [HAT.out] at hd2
        have hall := evIn_drop HEV.out at_ hd2 (some ⟨b, o + at_ * 3, none⟩) (.inl rfl)
        rw [hd1] at hall
        have hbel := HBr.out.bel
        have hbsz := hbel.size
        have hbr : b < wr.heap.size := by omega
        have hlen9 := HEV.out.len
        rw [List.length_cons] at hlen9
        have hat1 : 1 ≤ at_ := by have := HAT.out; omega
        cases todo with
        | nil =>
          rw [walks_nil, List.nil_append, List.singleton_append] at hall
          obtain ⟨b', o', cap', heq, hcap', hcm', e0, e1, e2, hbl'⟩ := evIn_first hall
          injection heq with h1 h2 h3
          injection h1 with h1
          injection h1 with h1 h4
          subst h1; subst h4
          have hatl : (at_ : Int) < (L.length : Int) + 1 := by omega
          have hatc : at_ < cap := by omega
          have hkE : (endEv k).k = E := HEK.out
          rw [hkE] at e0
          have d0 : wr.cell? ⟨b, o + at_ * 3, none⟩ = some (.int .i64 E) := by rw [hbel.cell (p := ⟨b, o + at_ * 3, none⟩) hbl]; exact e0
          have hEE : (E != E) = false := by simp
          have hatb : at_ ≤ 1048577 := by omega
          have HPS2 := Lib.hid (show ps.map (·.1) = ks by rw [HPS.out, HSP.out, List.append_nil])
          have HW3 := Lib.hid (show (Nd.mk k t v ks).walk.length = at_ + 1 by rw [HW2.out, HSP.out, List.append_nil, HAT.out])
          obtain ⟨ua, uc, rfl⟩ := HBr.out.own.shape
          clear hall hd1 hd2 e0 e1 e2 hkE hbel h2 h3 hcap' hcm' hbl'
          go_wp2_with fail
          obtain ⟨w7, hw7⟩ : ∃ w7, ((((wr.setCell ⟨w.heap.size, 0, none⟩ (.int .i64 k)).setCell ⟨w.heap.size, 1, none⟩ (.string t)).setCell ⟨w.heap.size, 2, none⟩ (.string v)).setCell ⟨w.heap.size, 3, none⟩ (.slice ua ps.length uc)) = w7 := ⟨_, rfl⟩
          obtain ⟨hf, hgr⟩ := fill4 (.int .i64 k) (.string t) (.string v) (.slice ua ps.length uc) HBr.out.rs
          rw [hw7] at hf hgr
          rw [hw7]
          obtain ⟨q0, q1, q2, q3, _, _, _, _, hql⟩ := nd_cells hf
          have hsl := (HBr.out.own.other hgr (by omega)).slIn
          have hbe := HBr.out.bel.grown hgr HBr.out.bel.size (fun b hb => by injection hb; omega)
          rw [HPS2.out] at hsl
          have hpl : ps.length = ks.length := by have := congrArg List.length HPS2.out; rwa [List.length_map] at this
          rw [hpl] at q3 hsl
          refine bodyPost_ret (v := .tuple #[.agg #[.int .i64 k, .string t, .string v, .slice ua ks.length uc], .int .i64 ((at_ : Int) + 1)]) (by simp [results, Tryz.results46, go_sem, q0, q1, q2, q3]) rfl ⟨ua, uc, by rw [HW3.out]; simp [Nd.k, Nd.t, Nd.v, Nd.kids], hsl.alike ⟨Nat.le_refl _, fun _ _ _ => rfl⟩ fun b hb _ => by omega, hbe⟩
        | cons x todo' =>
          have hxg : x ∈ ks := by rw [HSP.out]; simp
          obtain ⟨r', hwx, h6, h9, h12, _⟩ := walk_head x (HGS.out x hxg)
          have hall2 := hall
          rw [walks_cons, hwx, List.cons_append, List.cons_append] at hall2
          obtain ⟨b', o', cap', heq, hcap', hcm', e0, e1, e2, hbl'⟩ := evIn_first hall2
          injection heq with h1 h2 h3
          injection h1 with h1
          injection h1 with h1 h4
          subst h1; subst h4
          have hatl : (at_ : Int) < (L.length : Int) + 1 := by omega
          have hatc : at_ < cap := by omega
          have hatb : at_ ≤ 1048576 := by omega
          have d0 : wr.cell? ⟨b, o + at_ * 3, none⟩ = some (.int .i64 x.k) := by rw [hbel.cell (p := ⟨b, o + at_ * 3, none⟩) hbl]; exact e0
          have hEE : (x.k != E) = true := by have := HE3.out; simp; omega
          rw [walks_cons, List.append_assoc] at hall
          have HIN2 := Lib.hid (hall.below hbel)
          have hxl : x.walk.length ≤ 1048576 := by
            have h2 := hall.len
            simp at h2
            omega
          have HPL := Lib.hid (show ps.length ≤ 1048576 by
            have h1 := congrArg List.length HPS.out
            rw [List.length_map] at h1
            have h2 := walks_ge done
            have h3 := HAT.out
            omega)
          have HX := Lib.hid (HIH.out x hxg)
          have HSP2 := Lib.hid (show ks = (done ++ [x]) ++ todo' by rw [HSP.out, List.append_assoc]; rfl)
          have HPS2 := Lib.hid (fun ux : Value => show (ps ++ [(x, ux)]).map (·.1) = done ++ [x] by rw [List.map_append, HPS.out]; rfl)
          have HLN := Lib.hid (show 1 + (Nd.walks (done ++ [x])).length = at_ + x.walk.length by rw [walks_app, walks_one, List.length_append, ← HAT.out]; omega)
          obtain ⟨ua, uc, rfl⟩ := HBr.out.own.shape
          clear hall hall2 hd1 hd2 e0 e1 e2 h6 h9 h12 hbel hxg hwx h2 h3 hcap' hcm' hbl'
          go_wp2_with fail
          refine (HX.out wr _ _ HIN2.out).mono ?_
          rintro e w3 ⟨a3, c3, rfl, hsk, hb⟩
          have HSK := Lib.hid hsk
          have HB3 := Lib.hid (HBr.out.below hb)
          have HBB := Lib.hid hb
          have hbel3 := hb.size
          have hA2 := lt_blk HBr.out.nb
          have hpl := HPL.out
          clear n0 n1 n2 n3 m0 m1 m2 m3 hnl r0 r1 r2 r3 s0 s1 s2 s3 hrl hsk hb
          obtain ⟨n0, n1, n2, n3, m0, m1, m2, m3, hnl⟩ := nd_cells HB3.out.nb
          have HBL := Lib.hid (show Below w3.heap.size w3 ((w3.alloc (.cells #[.int .i64 x.k, .string x.t, .string x.v, .slice a3 x.kids.length c3] 39)).alloc (.cells #[.int .i64 x.k, .string x.t, .string x.v, .slice a3 x.kids.length c3] 39)) from ((Below.refl _ _).alloc (Nat.le_refl _) _).alloc (by simp) _)
          go_wp2_with (first
            | (at_builtin; refine wpList_append_lies _ (by rfl) _ _ _ (by rfl) (w.heap.size + 2) 39 i0 _ 4 64 Tryz.underlying37 HI.out hz0 hz1 hz2 rfl (by omega) _ ps.length _ (by rfl) (HB3.out.below HBL.out).own.row ⟨w3.heap.size + 1, 0, none⟩ 1 1 (ndL x (.slice a3 x.kids.length c3)) (by rfl) (by rfl) (World.news_of_block (by simpa using heap_alloc_new (w3.alloc (.cells #[.int .i64 x.k, .string x.t, .string x.v, .slice a3 x.kids.length c3] 39)) _)) nd_one (by omega) (by unfold maxLen; omega) (by omega) (by simp; omega) (w3.heap.size + 2) (by simp) ?_
               intro gg cap' w5 hown1 hgrow hat hlt2
               obtain ⟨f1, f2, _⟩ := HB3.out.far _ _ HBL.out hgrow
               obtain ⟨n0, n1, n2, n3, m0, m1, m2, m3, hnl⟩ := nd_cells f2)
            | fail)
          have HN := Lib.hid (HBr.out.push (bthen HBB.out HBL.out) (HSK.out.below HBL.out) hown1 hgrow (by rcases hat with h | h; exact .inl h; exact .inr (by simp; omega)))
          go_roundg todo'.length
          case measure => simp at hg; omega
          case rel =>
            refine ⟨done ++ [x], todo', at_ + x.walk.length, .slice (some ⟨gg, 0, none⟩) (ps.length + 1) cap', ps ++ [(x, .slice a3 x.kids.length c3)], rfl, ?_, HLN, HSP2, ?_, ?_⟩
            · go_num
            · exact HN
            · exact HPS2.out _
end Go.Proofs.YtinjhglmakfmkaaGreatDoor
