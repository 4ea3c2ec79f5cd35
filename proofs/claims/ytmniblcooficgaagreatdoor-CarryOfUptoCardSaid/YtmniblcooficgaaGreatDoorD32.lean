import Derived.Test.YtmniblcooficgaaGreatDoorD31
namespace Go.Proofs.YtmniblcooficgaaGreatDoor
open Go.RowKit Ev5
set_option linter.unusedSimpArgs false
set_option linter.unusedVariables false

def inO (l : List Nd) : Nat := (l.filter fun a => decide (a.k ≠ 8)).length
def aheadO (l : List Nd) : Int := if inO l = 0 then 0 else 2 * (inO l : Int) + match l.getLast? with
  | some u => if u.k = 8 then ((wordP u.t).1.size : Int) else 0
  | none => 0
def szO (n : Nd) : Int := if n.kids = [] then ((rowF n.k n.t n.v []).length : Int) else -1
def tpO (l : List Nd) : Bool := match l.getLast? with
  | none => true
  | some n => if n.k = 10 then false else if n.k = 8 then true else decide (aheadO l.dropLast + szO n ≤ 160)
theorem tpO_last (way : List Nd) (n : Nd) : tpO (way ++ [n]) = if n.k = 10 then false else if n.k = 8 then true else decide (aheadO way + szO n ≤ 160) := by
  unfold tpO
  rw [List.getLast?_concat, List.dropLast_concat]
theorem inO_app (a b : List Nd) : inO (a ++ b) = inO a + inO b := by unfold inO; rw [List.filter_append, List.length_append]
theorem inO_le (l : List Nd) : inO l ≤ l.length := List.length_filter_le ..
theorem inO_one (n : Nd) : inO [n] = if n.k = 8 then 0 else 1 := by
  unfold inO
  by_cases h : n.k = 8 <;> simp [h]
theorem ahead_list {way : List Nd} {n : Nd} (h : n.k ≠ 8) : aheadO (way ++ [n]) = 2 * (inO way : Int) + 2 := by
  unfold aheadO
  rw [inO_app, inO_one, if_neg h, if_neg (by omega), List.getLast?_concat]
  simp only []
  rw [if_neg h]
  omega
theorem ahead_key {way : List Nd} {n k : Nd} (h : n.k ≠ 8) (hk : k.k = 8) : aheadO (way ++ [n] ++ [k]) = 2 * (inO way : Int) + ((wordP k.t).1.size : Int) + 2 := by
  unfold aheadO
  rw [inO_app, inO_app, inO_one, inO_one, if_neg h, if_pos hk, if_neg (by omega), List.getLast?_concat]
  simp only []
  rw [if_pos hk]
  omega
set_option maxRecDepth 100000 in
set_option maxHeartbeats 4000000 in
theorem lineV_any (k x : Nd) (o : Option (List Int)) (F D : Int) (W : World) (lb fb kb db X B : Nat) (v : Value) (p : List Int) (S : Nat → Prop) (u uk : Value) (i : Int) (hE : ∀ W', Below W.heap.size W W' → EnvU W')
    (hlb : W.heap[lb]? = some (.cells #[.pointer (some ⟨X, 0, none⟩)] 41 (0, 0))) (hfb : W.heap[fb]? = some (.cells #[.int .i64 F] 3 (0, 0))) (hdb : W.heap[db]? = some (.cells #[.int .i64 D] 3 (0, 0)))
    (hkb : W.heap[kb]? = some (.cells #[.int .i64 k.k, .string k.t, .string k.v, uk] 24 (0, 0))) (hkt : k.t.size ≤ 1048576) (hF : 0 ≤ F ∧ F ≤ 10000000) (hD : -1 ≤ D ∧ D ≤ 10000000) (hu : ∃ a l c, u = .slice a l c)
    (hne : ∀ b, b = lb ∨ b = fb ∨ b = kb ∨ b = db → b ≠ X ∧ v.ownBlock ≠ some b) (hX : X < W.heap.size) (hv : ∀ g, v.ownBlock = some g → g < W.heap.size)
    (hcall : ∀ W', Below W.heap.size W W' → Calls Tryz.prog 31 #[.pointer (some ⟨X, 0, none⟩), ndV x u, .int .i64 (F + ((wordP k.t).1.size : Int) + 2), .int .i64 (D + 1)] W' (LkEnd B X v p o W')) :
    Calls Tryz.prog 57 #[.int .i64 i, ndV x u, .pointer (some ⟨lb, 0, none⟩), .pointer (some ⟨fb, 0, none⟩), .pointer (some ⟨kb, 0, none⟩), .pointer (some ⟨db, 0, none⟩)] W (LkEnd B X v p o W) := by
  obtain ⟨ua, ul, uc, rfl⟩ := hu
  have HWD := Lib.hid (fun (w' : World) (h : EnvU w') => wordS_any k.t w' h hkt)
  obtain ⟨Q, hQ⟩ : ∃ Q, (wordP k.t).1 = Q := ⟨_, rfl⟩
  have hQs : Q.size ≤ 1048576 := by have := word_len k.t hkt; rw [hQ] at this; exact this
  rw [hQ] at HWD hcall
  have HC := Lib.hid hcall; have HE := Lib.hid hE
  have HB := Lib.hid (show Below W.heap.size W (W.alloc (.cells #[.int .i64 x.k, .string x.t, .string x.v, .slice ua ul uc] 24)) from (Below.refl _ _).alloc (Nat.le_refl _) _)
  obtain ⟨c0, f0⟩ := blk_cell hlb 0 (by simp)
  obtain ⟨c1, f1⟩ := blk_cell hfb 0 (by simp)
  obtain ⟨c2, f2⟩ := blk_cell hdb 0 (by simp)
  obtain ⟨x0, x1, x2, x3, _, _, _, _, hxl⟩ := nd_cells hkb
  have hl0 := lt_blk hlb; have hl1 := lt_blk hfb; have hl2 := lt_blk hdb
  have HNE := Lib.hid hne; have HXW := Lib.hid hX; have HVW := Lib.hid hv
  have hkl := lt_blk hkb
  clear hQ hcall hE hlb hfb hdb hkb hne hX hv
  unfold ndV
  go_enter Tryz.func57, Tryz.ntmps57
  have HD := Lib.hid (show ∀ w' : World, Below W.heap.size W w' → w'.cell? ⟨lb, 0, none⟩ = some (.pointer (some ⟨X, 0, none⟩)) ∧ w'.cell? ⟨fb, 0, none⟩ = some (.int .i64 F) ∧ w'.cell? ⟨db, 0, none⟩ = some (.int .i64 D) from fun w' hb => ⟨(hb.cell (p := ⟨lb, 0, none⟩) hl0).trans c0, (hb.cell (p := ⟨fb, 0, none⟩) hl1).trans c1, (hb.cell (p := ⟨db, 0, none⟩) hl2).trans c2⟩)
  have e1 : IntKind.i64.wrap (F + (Q.size : Int)) = F + (Q.size : Int) := IntWalk.i64_in _ (by omega)
  have e2 : IntKind.i64.wrap (F + (Q.size : Int) + 2) = F + (Q.size : Int) + 2 := IntWalk.i64_in _ (by omega)
  have e3 : IntKind.i64.wrap (D + 1) = D + 1 := IntWalk.i64_in _ (by omega)
  have HKC := Lib.hid (show ∀ w' : World, Below W.heap.size W w' → w'.cell? ⟨kb, 1, none⟩ = some (.string k.t) from fun w' hb => (hb.cell (p := ⟨kb, 1, none⟩) hxl).trans x1)
  clear c0 c1 c2 x0 x1 x2 x3
  have HBD := Lib.hid (bthen HB.out (Below.refl _ _).drew)
  obtain ⟨c0, c1, c2⟩ := HD.out _ HBD.out
  have c3 := HKC.out _ HBD.out
  have hy : (W.alloc (.cells #[.int .i64 x.k, .string x.t, .string x.v, .slice ua ul uc] 24)).drew.heap[W.heap.size]? = some (.cells #[.int .i64 x.k, .string x.t, .string x.v, .slice ua ul uc] 24 (0, 0)) := heap_alloc_new W _
  obtain ⟨y0, y1, y2, y3, _, _, _, _, hyl⟩ := nd_cells hy
  clear c0 c1 c2 c3 y0 y1 y2 y3 hyl
  obtain ⟨W0, hW0⟩ : ∃ W0, W.alloc (.cells #[.int .i64 x.k, .string x.t, .string x.v, .slice ua ul uc] 24) = W0 := ⟨_, rfl⟩
  have HSZ := Lib.hid (show W0.heap.size = W.heap.size + 1 by rw [← hW0]; simp)
  rw [hW0] at HB HBD hy
  have HY := Lib.hid hy
  have HS := Lib.hid (show ∀ w' : World, Below W0.drew.heap.size W0.drew w' → w'.cell? ⟨lb, 0, none⟩ = some (.pointer (some ⟨X, 0, none⟩)) ∧ w'.cell? ⟨fb, 0, none⟩ = some (.int .i64 F) ∧ w'.cell? ⟨db, 0, none⟩ = some (.int .i64 D) ∧ w'.cell? ⟨kb, 1, none⟩ = some (.string k.t) ∧
      w'.cell? ⟨W.heap.size, 0, none⟩ = some (.int .i64 x.k) ∧ w'.cell? ⟨W.heap.size, 1, none⟩ = some (.string x.t) ∧ w'.cell? ⟨W.heap.size, 2, none⟩ = some (.string x.v) ∧ w'.cell? ⟨W.heap.size, 3, none⟩ = some (.slice ua ul uc) from fun w' hb => by
    obtain ⟨c0, c1, c2⟩ := HD.out _ (bthen HBD.out hb)
    obtain ⟨y0, y1, y2, y3, _⟩ := nd_cells ((hb.block _ (lt_blk HY.out)).trans HY.out)
    exact ⟨c0, c1, c2, HKC.out _ (bthen HBD.out hb), y0, y1, y2, y3⟩)
  clear hy
  go_wp2_with fail
  try rw [hW0]
  refine wp_region_held_drew (S := fun w' => w'.cell? ⟨lb, 0, none⟩ = some (.pointer (some ⟨X, 0, none⟩)) ∧ w'.cell? ⟨fb, 0, none⟩ = some (.int .i64 F) ∧ w'.cell? ⟨db, 0, none⟩ = some (.int .i64 D) ∧ w'.cell? ⟨kb, 1, none⟩ = some (.string k.t) ∧
      w'.cell? ⟨W.heap.size, 0, none⟩ = some (.int .i64 x.k) ∧ w'.cell? ⟨W.heap.size, 1, none⟩ = some (.string x.t) ∧ w'.cell? ⟨W.heap.size, 2, none⟩ = some (.string x.v) ∧ w'.cell? ⟨W.heap.size, 3, none⟩ = some (.slice ua ul uc)) (by kernel_rfl) (HS.out _ (Below.refl _ _)) (fun hHeld => ?_)
  refine wpAnyH_take (i := 0) (v := .pointer (some ⟨X, 0, none⟩)) rfl (by kernel_rfl) (by kernel_rfl) (by kernel_rfl) (fun _ _ _ h => h) (Or.inl ⟨by rfl, ?_⟩) hHeld ?_
  · intro w1 hSw
    obtain ⟨c0, c1, c2, c3, y0, y1, y2, y3⟩ := hSw
    go_simp
  simp only [List.getElem_toArray, List.getElem_cons_succ, List.getElem_cons_zero, Act.put, List.setIfInBounds_toArray, List.set_cons_zero, List.set_cons_succ]
  refine wpAnyH_take (i := 1) (v := .agg #[.int .i64 x.k, .string x.t, .string x.v, .slice ua ul uc]) rfl (by kernel_rfl) (by kernel_rfl) (by kernel_rfl) (fun _ _ _ h => h) (Or.inl ⟨by rfl, ?_⟩) hHeld ?_
  · intro w1 hSw
    obtain ⟨c0, c1, c2, c3, y0, y1, y2, y3⟩ := hSw
    go_simp
  simp only [List.getElem_toArray, List.getElem_cons_succ, List.getElem_cons_zero, Act.put, List.setIfInBounds_toArray, List.set_cons_zero, List.set_cons_succ]
  refine wpAnyH_take (i := 2) (v := .int .i64 F) rfl (by kernel_rfl) (by kernel_rfl) (by kernel_rfl) (fun _ _ _ h => h) (Or.inl ⟨by rfl, ?_⟩) hHeld ?_
  · intro w1 hSw
    obtain ⟨c0, c1, c2, c3, y0, y1, y2, y3⟩ := hSw
    go_simp
  simp only [List.getElem_toArray, List.getElem_cons_succ, List.getElem_cons_zero, Act.put, List.setIfInBounds_toArray, List.set_cons_zero, List.set_cons_succ]
  refine wpAnyH_take (i := 3) (v := .pointer (some ⟨kb, 1, none⟩)) rfl (by kernel_rfl) (by kernel_rfl) (by kernel_rfl) (fun _ _ _ h => h) (Or.inl ⟨by rfl, ?_⟩) hHeld ?_
  · intro w1 hSw
    obtain ⟨c0, c1, c2, c3, y0, y1, y2, y3⟩ := hSw
    go_simp
  simp only [List.getElem_toArray, List.getElem_cons_succ, List.getElem_cons_zero, Act.put, List.setIfInBounds_toArray, List.set_cons_zero, List.set_cons_succ]
  refine wpAnyH_take (i := 4) (v := .string k.t) rfl (by kernel_rfl) (by kernel_rfl) (by kernel_rfl) (fun _ _ _ h => h) (Or.inl ⟨by rfl, ?_⟩) hHeld ?_
  · intro w1 hSw
    obtain ⟨c0, c1, c2, c3, y0, y1, y2, y3⟩ := hSw
    go_simp
  simp only [List.getElem_toArray, List.getElem_cons_succ, List.getElem_cons_zero, Act.put, List.setIfInBounds_toArray, List.set_cons_zero, List.set_cons_succ]
  refine wpAnyH_take (i := 9) (v := .int .i64 D) rfl (by kernel_rfl) (by kernel_rfl) (by kernel_rfl) (fun _ _ _ h => h) (Or.inl ⟨by rfl, ?_⟩) hHeld ?_
  · intro w1 hSw
    obtain ⟨c0, c1, c2, c3, y0, y1, y2, y3⟩ := hSw
    go_simp
  simp only [List.getElem_toArray, List.getElem_cons_succ, List.getElem_cons_zero, Act.put, List.setIfInBounds_toArray, List.set_cons_zero, List.set_cons_succ]
  refine wpAnyH_take (i := 10) (v := .int .i64 (D + 1)) rfl (by kernel_rfl) (by kernel_rfl) (by kernel_rfl) (fun _ _ _ h => h) (Or.inl ⟨by rfl, ?_⟩) hHeld ?_
  · intro w1 hSw
    obtain ⟨c0, c1, c2, c3, y0, y1, y2, y3⟩ := hSw
    go_simp
  simp only [List.getElem_toArray, List.getElem_cons_succ, List.getElem_cons_zero, Act.put, List.setIfInBounds_toArray, List.set_cons_zero, List.set_cons_succ]
  refine wpAnyH_ready (rs := [5]) (by kernel_rfl) (by simp) ?_
  refine AllReadyH.cons rfl (fun K hK => ?_) AllReadyH.nil
  simp only [List.getElem_toArray, List.getElem_cons_succ, List.getElem_cons_zero]
  rw [if_pos (by rfl)]
  go_simp
  refine (HWD.out _ (HE.out _ HBD.out)).mono ?_
  rintro e w2 ⟨rfl, hb⟩
  have HBW := Lib.hid (bthen HBD.out hb)
  have HB2 := Lib.hid hb
  refine hK.out _ _ (HS.out _ hb) (fun hHeld2 => ?_)
  clear hK hb
  refine wpAnyH_take (i := 6) (v := .int .i64 (Q.size : Int)) rfl (by kernel_rfl) (by kernel_rfl) (by kernel_rfl) (fun _ _ _ h => h) (Or.inl ⟨by rfl, ?_⟩) hHeld2 ?_
  · intro w1 hSw
    obtain ⟨c0, c1, c2, c3, y0, y1, y2, y3⟩ := hSw
    go_simp
  simp only [List.getElem_toArray, List.getElem_cons_succ, List.getElem_cons_zero, Act.put, List.setIfInBounds_toArray, List.set_cons_zero, List.set_cons_succ]
  refine wpAnyH_take (i := 7) (v := .int .i64 (F + (Q.size : Int))) rfl (by kernel_rfl) (by kernel_rfl) (by kernel_rfl) (fun _ _ _ h => h) (Or.inl ⟨by rfl, ?_⟩) hHeld2 ?_
  · intro w1 hSw
    obtain ⟨c0, c1, c2, c3, y0, y1, y2, y3⟩ := hSw
    go_simp
  simp only [List.getElem_toArray, List.getElem_cons_succ, List.getElem_cons_zero, Act.put, List.setIfInBounds_toArray, List.set_cons_zero, List.set_cons_succ]
  refine wpAnyH_take (i := 8) (v := .int .i64 (F + (Q.size : Int) + 2)) rfl (by kernel_rfl) (by kernel_rfl) (by kernel_rfl) (fun _ _ _ h => h) (Or.inl ⟨by rfl, ?_⟩) hHeld2 ?_
  · intro w1 hSw
    obtain ⟨c0, c1, c2, c3, y0, y1, y2, y3⟩ := hSw
    go_simp
  simp only [List.getElem_toArray, List.getElem_cons_succ, List.getElem_cons_zero, Act.put, List.setIfInBounds_toArray, List.set_cons_zero, List.set_cons_succ]
  refine wpAnyH_ready (rs := [11]) (by kernel_rfl) (by simp) ?_
  refine AllReadyH.cons rfl (fun K hK => ?_) AllReadyH.nil
  simp only [List.getElem_toArray, List.getElem_cons_succ, List.getElem_cons_zero]
  rw [if_pos (by rfl)]
  go_simp
  refine (HC.out _ HBW.out).mono ?_
  intro e w3 he
  have he2 := he.after HBW.out
  cases o with
  | none =>
    obtain ⟨⟨rr, rfl⟩, v', hp⟩ := he2
    obtain ⟨_, v2, hp2⟩ := he
    have keep : ∀ b, b = lb ∨ b = fb ∨ b = kb ∨ b = db ∨ b = W.heap.size → w3.heap[b]? = w2.heap[b]? := fun b hb => by
      have hw2 := HBW.out.size
      have hs2 : W.heap.size + 1 ≤ w2.heap.size := by
        have h := HB2.out.size
        have h2 : W0.drew.heap.size = W0.heap.size := rfl
        have h3 := HSZ.out
        omega
      have h1 := HXW.out
      refine hp2.far.oth b ?_ ?_ ?_
      · rcases hb with rfl | rfl | rfl | rfl | rfl <;> omega
      · rcases hb with h | h | h | h | h
        · exact (HNE.out b (.inl h)).1
        · exact (HNE.out b (.inr (.inl h))).1
        · exact (HNE.out b (.inr (.inr (.inl h)))).1
        · exact (HNE.out b (.inr (.inr (.inr h)))).1
        · omega
      · rcases hb with h | h | h | h | h
        · exact (HNE.out b (.inl h)).2
        · exact (HNE.out b (.inr (.inl h))).2
        · exact (HNE.out b (.inr (.inr (.inl h)))).2
        · exact (HNE.out b (.inr (.inr (.inr h)))).2
        · intro e; have := HVW.out b e; omega
    have cell : ∀ b j, b = lb ∨ b = fb ∨ b = kb ∨ b = db ∨ b = W.heap.size → w3.cell? ⟨b, j, none⟩ = w2.cell? ⟨b, j, none⟩ := fun b j hb => by
      unfold World.cell?
      rw [keep b hb]
    obtain ⟨c0, c1, c2, c3, y0, y1, y2, y3⟩ := hHeld2
    refine hK.out _ _ ⟨by rw [cell _ _ (by simp)]; exact c0, by rw [cell _ _ (by simp)]; exact c1, by rw [cell _ _ (by simp)]; exact c2, by rw [cell _ _ (by simp)]; exact c3, by rw [cell _ _ (by simp)]; exact y0, by rw [cell _ _ (by simp)]; exact y1, by rw [cell _ _ (by simp)]; exact y2, by rw [cell _ _ (by simp)]; exact y3⟩ (fun _ => ?_)
    refine wpAnyH_done (by kernel_rfl) ?_ _
    go_end0
    exact ⟨⟨_, rfl⟩, _, hp⟩
  | some q =>
    obtain ⟨hfar, a, c, rfl, hints⟩ := he2
    exact ⟨rfl, hfar, a, c, rfl, hints⟩
end Go.Proofs.YtmniblcooficgaaGreatDoor
namespace Go.Proofs.YtmniblcooficgaaGreatDoor
open Go.RowKit Ev5
set_option linter.unusedSimpArgs false
set_option linter.unusedVariables false

def LineAt (x : Nd) (way : List Nd) : Prop := ∀ (W : World) (B X : Nat) (v : Value) (p : List Int) (S : Nat → Prop) (u : Value), (∀ W', Below B W W' → EnvU W') → Lk W B X v p → NdV W S (ndV x u) x → (∀ b, S b → b < B) → B ≤ W.heap.size → p.length + x.size ≤ 100000 →
  Calls Tryz.prog 31 #[.pointer (some ⟨X, 0, none⟩), ndV x u, .int .i64 (aheadO way), .int .i64 ((inO way : Int) - 1)] W (LkEnd B X v p (firstP tpO way x p) W)
set_option maxRecDepth 100000 in
set_option maxHeartbeats 4000000 in
theorem lineK_any (n k : Nd) (way : List Nd) (hn8 : n.k ≠ 8) (hn10 : n.k ≠ 10) (hkk : n.k ≠ 5 → k.k = 8) (hL : n.k = 5 → LineAt k (way ++ [n])) (hV : ∀ x ∈ k.kids, k.k = 8 → LineAt x (way ++ [n] ++ [k])) (W : World) (nb lb fb db X B : Nat) (v : Value) (p : List Int) (S : Nat → Prop) (u un : Value) (i : Int) (hE : ∀ W', Below B W W' → EnvU W')
    (hlb : W.heap[lb]? = some (.cells #[.pointer (some ⟨X, 0, none⟩)] 41 (0, 0))) (hfb : W.heap[fb]? = some (.cells #[.int .i64 (2 * (inO way : Int))] 3 (0, 0))) (hdb : W.heap[db]? = some (.cells #[.int .i64 ((inO way : Int) - 1)] 3 (0, 0)))
    (hnb : W.heap[nb]? = some (.cells #[.int .i64 n.k, .string n.t, .string n.v, un] 24 (0, 0))) (hkt : k.ok) (hwl : way.length ≤ 100000)
    (hne : ∀ b, b = lb ∨ b = fb ∨ b = nb ∨ b = db → b ≠ X ∧ v.ownBlock ≠ some b)
    (hlk : Lk W B X v p) (hv : NdV W S (ndV k u) k) (hSB : ∀ b, S b → b < B) (hB : B ≤ W.heap.size) (hl : p.length + k.size ≤ 100000) :
    Calls Tryz.prog 56 #[.int .i64 i, ndV k u, .pointer (some ⟨nb, 0, none⟩), .pointer (some ⟨lb, 0, none⟩), .pointer (some ⟨fb, 0, none⟩), .pointer (some ⟨db, 0, none⟩)] W (LkEnd B X v p (firstP tpO (way ++ [n]) k p) W) := by
  obtain ⟨u2, e2, hs⟩ := hv
  obtain rfl : u = u2 := by simpa [ndV] using e2
  clear e2
  obtain ⟨ao, cap, rfl, hcap, hcm⟩ := hs.shape
  have hmf : ∀ (fn : Fn) (first cap : Array Value) (w : World), (Instr.makeFunc fn first cap).run Tryz.prog w = .ok (.func fn first cap) w := fun _ _ _ _ => rfl
  have hil := inO_le way
  obtain ⟨c0, f0⟩ := blk_cell hlb 0 (by simp)
  obtain ⟨c1, f1⟩ := blk_cell hfb 0 (by simp)
  obtain ⟨c2, f2⟩ := blk_cell hdb 0 (by simp)
  obtain ⟨x0, x1, x2, x3, _, _, _, _, hxl⟩ := nd_cells hnb
  have hl0 := lt_blk hlb; have hl1 := lt_blk hfb; have hl2 := lt_blk hdb
  have HB := Lib.hid (show Below W.heap.size W (W.alloc (.cells #[.int .i64 k.k, .string k.t, .string k.v, .slice ao k.kids.length cap] 24)) from (Below.refl _ _).alloc (Nat.le_refl _) _)
  have HX := Lib.hid (heap_alloc_new W (.cells #[.int .i64 k.k, .string k.t, .string k.v, .slice ao k.kids.length cap] 24))
  have H := Lib.hid hlk; have HS := Lib.hid hs; have HSB := Lib.hid hSB; have HBB := Lib.hid hB; have HE := Lib.hid hE; have HNE := Lib.hid hne; have HVA := Lib.hid hV; have HOK := Lib.hid hkt
  have HLB := Lib.hid hlb; have HFB := Lib.hid hfb; have HDB := Lib.hid hdb
  have HXW := Lib.hid (lt_blk hlk.blk)
  have HVW := Lib.hid (fun g (e : v.ownBlock = some g) => (hlk.row.lt g e).2)
  have hsz := kids_size k
  have hsl := sizes_len k.kids
  obtain ⟨I, hI⟩ : ∃ I : Int, (inO way : Int) = I := ⟨_, rfl⟩
  have hI0 : 0 ≤ I ∧ I ≤ 100000 := by omega
  by_cases h5 : n.k = 5
  · have HC := Lib.hid (fun (W' : World) (hb : Below W.heap.size W W') => hL h5 W' B X v p S (.slice ao k.kids.length cap) (fun W2 h2 => hE _ ((hb.mono hB).trans h2)) (hlk.below hb) (.mk (hs.below hb)) hSB (Nat.le_trans hB hb.size) hl)
    have HC2 := Lib.hid (show ∀ W' : World, Below W.heap.size W W' → Calls Tryz.prog 31 #[.pointer (some ⟨X, 0, none⟩), .agg #[.int .i64 k.k, .string k.t, .string k.v, .slice ao k.kids.length cap], .int .i64 (2 * I + 2), .int .i64 I] W' (LkEnd B X v p (firstP tpO (way ++ [n]) k p) W') from fun W' hb => by
      have h := HC.out W' hb
      rw [show aheadO (way ++ [n]) = 2 * I + 2 by rw [ahead_list hn8, hI], show ((inO (way ++ [n]) : Nat) : Int) - 1 = I by rw [inO_app, inO_one, if_neg hn8]; omega] at h
      exact h)
    have e1 : IntKind.i64.wrap (2 * I + 2) = 2 * I + 2 := IntWalk.i64_in _ (by omega)
    have e3 : IntKind.i64.wrap (I - 1 + 1) = I := (IntWalk.i64_in _ (by omega)).trans (by omega)
    have e4 : IntKind.i64.wrap I = I := IntWalk.i64_in _ (by omega)
    rw [hI] at c1 c2
    rw [h5] at x0
    clear hlb hfb hdb hnb hlk hs hSB hB hE hne hV hL HC h5 hkk
    unfold ndV
    go_enter Tryz.func56, Tryz.ntmps56
    go_wp2_with fail
    refine (HC2.out _ HB.out).mono ?_
    intro e w3 he
    have he2 := he.after HB.out
    cases ho : firstP tpO (way ++ [n]) k p with
    | none =>
      rw [ho] at he2
      obtain ⟨⟨rr, rfl⟩, v', hp⟩ := he2
      have HP := Lib.hid hp
      have HO := Lib.hid ho
      clear hp he
      go_wp2_with fail
      go_end0
      show LkEnd B X v p (firstP tpO (way ++ [n]) k p) W _ _
      rw [HO.out]
      exact ⟨⟨_, rfl⟩, _, HP.out⟩
    | some q =>
      rw [ho] at he2
      obtain ⟨hfar, a, c, rfl, hints⟩ := he2
      have HF2 := Lib.hid hfar; have HI := Lib.hid hints
      have HO := Lib.hid ho
      clear hfar hints he
      go_wp2_with fail
      exact ⟨rfl, HF2.out, a, c, rfl, HI.out⟩
  · have h8 := hkk h5
    have hnb5 : (n.k == 5) = false := by simp [h5]
    have HR := Lib.hid (firstP_kids (tp := tpO) (way := way ++ [n]) (n := k) (p := p) (by rw [tpO_last]; simp [h8]))
    have HVB := Lib.hid (fun (j : Nat) (hj : j < k.kids.length) => hV k.kids[j] (List.getElem_mem hj) h8)
    have H8 := Lib.hid h8
    clear hlb hfb hdb hnb hlk hs hSB hB hE hne hV hL hkk h8
    unfold ndV
    go_enter Tryz.func56, Tryz.ntmps56
    go_wp2_with fail
    refine (kids_any 57 #[.pointer (some ⟨lb, 0, none⟩), .pointer (some ⟨fb, 0, none⟩), .pointer (some ⟨W.heap.size, 0, none⟩), .pointer (some ⟨db, 0, none⟩)] (fun args w => by rfl) _ B X v p S k _ (fun i => if hi : i < k.kids.length then firstP tpO (way ++ [n] ++ [k]) k.kids[i] (p ++ [(i : Int)]) else none) (H.out.below HB.out) ⟨_, rfl, HS.out.below HB.out⟩ HSB.out (Nat.le_trans HBB.out HB.out.size) (by omega) (by omega) (fun W' v' j hj uu hfar hat hlkW hnW => ?_)).mono ?_
    · rw [dif_pos hj]
      have hks := kid_size (n := k) hj
      have hxw := HXW.out
      have hBW : Below B W W' := (HB.out.mono HBB.out).trans (hfar.below H.out.lo (fun g e => (H.out.row.lt g e).1) (Nat.le_trans HBB.out HB.out.size))
      have keep : ∀ b, b = lb ∨ b = fb ∨ b = nb ∨ b = db → b < W.heap.size → W'.heap[b]? = W.heap[b]? := fun b h1 h2 => (hfar.oth b (Nat.lt_of_lt_of_le h2 HB.out.size) (HNE.out b h1).1 (HNE.out b h1).2).trans (HB.out.block b h2)
      have knew : ∀ b, b = lb ∨ b = fb ∨ b = nb ∨ b = db → b < W.heap.size → v'.ownBlock ≠ some b := fun b h1 h2 => by
        rcases hat with e | e
        · rw [e]; exact (HNE.out b h1).2
        · intro e2; have := e b e2; have := HB.out.size; omega
      have kX : W.heap.size ≠ X := by omega
      have kv : v'.ownBlock ≠ some W.heap.size := by
        rcases hat with e | e
        · rw [e]; intro e2; have := HVW.out _ e2; omega
        · intro e2; have := e _ e2; simp at this; omega
      have kk : W'.heap[W.heap.size]? = some (.cells #[.int .i64 k.k, .string k.t, .string k.v, .slice ao k.kids.length cap] 24 (0, 0)) := (hfar.oth W.heap.size (by simp) kX (fun e => by have := HVW.out _ e; omega)).trans HX.out
      have hkts : k.t.size ≤ 1048576 := by
        have h := HOK.out
        cases k with
        | mk a b c d => rw [ok_mk] at h; exact h.1.t
      refine lineV_any k k.kids[j] _ (2 * I) (I - 1) W' lb fb W.heap.size db X B v' _ S uu (.slice ao k.kids.length cap) j (fun W2 h2 => HE.out _ (hBW.trans (h2.mono (Nat.le_trans HBB.out hBW.size)))) ?_ ?_ ?_ kk hkts (by omega) (by omega) (by obtain ⟨u2, e2, h2⟩ := hnW; obtain ⟨a2, c2, h3, _⟩ := h2.shape; exact ⟨a2, _, c2, (show uu = u2 by simpa [ndV] using e2).trans h3⟩) ?_ (Nat.lt_of_lt_of_le hxw hBW.size) (fun g e => (hlkW.row.lt g e).2) ?_
      · rw [keep lb (.inl rfl) hl0]; exact HLB.out
      · rw [keep fb (.inr (.inl rfl)) hl1, ← hI]; exact HFB.out
      · rw [keep db (.inr (.inr (.inr rfl))) hl2, ← hI]; exact HDB.out
      · intro b hb
        rcases hb with rfl | rfl | rfl | rfl
        · exact ⟨(HNE.out _ (.inl rfl)).1, knew _ (.inl rfl) hl0⟩
        · exact ⟨(HNE.out _ (.inr (.inl rfl))).1, knew _ (.inr (.inl rfl)) hl1⟩
        · exact ⟨kX, kv⟩
        · exact ⟨(HNE.out _ (.inr (.inr (.inr rfl)))).1, knew _ (.inr (.inr (.inr rfl))) hl2⟩
      · intro W2 h2
        have h := HVB.out j hj W2 B X v' (p ++ [(j : Int)]) S uu (fun W3 h3 => HE.out _ (hBW.trans ((h2.mono (Nat.le_trans HBB.out hBW.size)).trans h3))) (hlkW.below h2) (hnW.below h2) HSB.out (Nat.le_trans HBB.out (Nat.le_trans hBW.size h2.size)) (by rw [List.length_append, List.length_singleton]; omega)
        rw [show aheadO (way ++ [n] ++ [k]) = 2 * I + ((wordP k.t).1.size : Int) + 2 by rw [ahead_key hn8 H8.out, hI], show ((inO (way ++ [n] ++ [k]) : Nat) : Int) - 1 = I - 1 + 1 by rw [inO_app, inO_app, inO_one, inO_one, if_neg hn8, if_pos H8.out]; omega] at h
        exact h
    · intro e w3 he
      have he2 := he.after HB.out
      rw [← HR.out] at he2
      cases ho : firstP tpO (way ++ [n]) k p with
      | none =>
        rw [ho] at he2
        obtain ⟨⟨rr, rfl⟩, v', hp⟩ := he2
        have HP := Lib.hid hp
        have HO := Lib.hid ho
        clear hp he
        go_wp2_with fail
        go_end0
        show LkEnd B X v p (firstP tpO (way ++ [n]) k p) W _ _
        rw [HO.out]
        exact ⟨⟨_, rfl⟩, _, HP.out⟩
      | some q =>
        rw [ho] at he2
        obtain ⟨hfar, a, c, rfl, hints⟩ := he2
        have HF2 := Lib.hid hfar; have HI := Lib.hid hints
        have HO := Lib.hid ho
        clear hfar hints he
        go_wp2_with fail
        exact ⟨rfl, HF2.out, a, c, rfl, HI.out⟩
set_option maxRecDepth 100000 in
set_option maxHeartbeats 8000000 in
theorem line_any : ∀ (N : Nat) (n : Nd) (way : List Nd), n.size ≤ N → Tf RP n → n.ok → n.k ≠ 8 → n.k ≠ 11 → way.length + n.size ≤ 100000 → (aheadO way ≤ 5000000) → LineAt n way := by
  intro N
  induction N with
  | zero => intro n way hn; have := kids_size n; omega
  | succ N ih =>
    intro n way hn htf hok h8 h11 hwl haw W B X v p S u hE hlk hv hSB hB hl
    obtain ⟨u2, e2, hs⟩ := hv
    obtain rfl : u = u2 := by simpa [ndV] using e2
    clear e2
    obtain ⟨ao, cap, rfl, hcap, hcm⟩ := hs.shape
    have hmf : ∀ (fn : Fn) (first cap : Array Value) (w : World), (Instr.makeFunc fn first cap).run Tryz.prog w = .ok (.func fn first cap) w := fun _ _ _ _ => rfl
    have hil := inO_le way
    have H := Lib.hid hlk; have HS := Lib.hid hs; have HSB := Lib.hid hSB; have HBB := Lib.hid hB; have HE := Lib.hid hE
    obtain ⟨A, hA⟩ : ∃ A, aheadO way = A := ⟨_, rfl⟩
    obtain ⟨I, hI⟩ : ∃ I : Int, (inO way : Int) = I := ⟨_, rfl⟩
    have hA0 : 0 ≤ A := by
      rw [← hA]; unfold aheadO
      split
      · omega
      · split
        · split <;> omega
        · omega
    rw [hA, hI]
    have h3 := threeC W (.cells #[.pointer (some ⟨X, 0, none⟩)] 41) (.cells #[.int .i64 n.k, .string n.t, .string n.v, .slice ao n.kids.length cap] 24) (.cells #[.int .i64 (I - 1)] 3)
    have H3 := Lib.hid h3
    have HBX := Lib.hid h3.2.2.2
    by_cases h10 : n.k = 10
    · have HR := Lib.hid (show firstP tpO way n p = some p from firstP_no (by rw [tpO_last, if_pos h10]))
      have hkb : (n.k == 10) = true := by simp [h10]
      clear hlk hs hSB hB hE h3 h10 h8 h11
      unfold ndV
      go_enter Tryz.func31, Tryz.ntmps31
      go_wp2_with fail
      refine (fails_any _ B X v p (H.out.below HBX.out) (by omega)).mono ?_
      intro e w3 he
      have he2 : LkEnd B X v p (some p) W e w3 := he.after HBX.out
      obtain ⟨hfar, a, c, rfl, hints⟩ := he2
      have HF2 := Lib.hid hfar; have HI := Lib.hid hints
      clear hfar hints he
      go_wp2_with fail
      exact ⟨rfl, by rw [HR.out]; exact ⟨HF2.out, a, c, rfl, HI.out⟩⟩
    · have hkb : (n.k == 10) = false := by simp [h10]
      have HTP := Lib.hid (show tpO (way ++ [n]) = decide (A + szO n ≤ 160) by rw [tpO_last, if_neg h10, if_neg h8, hA])
      have hok2 : (Nd.mk n.k n.t n.v []).ok := by
        cases n with
        | mk a b c d => rw [ok_mk] at hok ⊢; exact ⟨hok.1, (oks_iff _).2 fun x hx => by cases hx⟩
      have hrl := textF_row n.k n.t n.v [] (by cases n with | mk a b c d => rw [ok_mk] at hok; exact hok.1.t) (by cases n with | mk a b c d => rw [ok_mk] at hok; exact hok.1.v)
      obtain ⟨Y, hY, hYL⟩ : ∃ Y : ByteArray, strV ((Nd.mk n.k n.t n.v []).txt rowF) = .string Y ∧ Y.size = (rowF n.k n.t n.v []).length := ⟨_, rfl, by rw [txt_mk, txts_nil]; rfl⟩
      have hYs : Y.size ≤ 1050000 := by rw [hYL]; simp only [lenS] at hrl; omega
      have HRW := Lib.hid (fun (w' : World) (h : EnvU w') => show Calls Tryz.prog 22 #[.agg #[.int .i64 n.k, .string n.t, .string n.v, .slice none 0 0]] w' fun e w2 => e = .returned (.string Y) ∧ Below w'.heap.size w' w2 from
        (row_any (Nd.mk n.k n.t n.v []) hok2 (by rw [size_mk, sizes_nil]; omega) w' (fun _ => True) _ h ⟨.slice none 0 0, rfl, none, 0, rfl, Nat.le_refl _, by decide, .inl rfl⟩).mono fun e w2 h => ⟨by rw [h.1, hY], h.2⟩)
      have HYL := Lib.hid hYL
      clear hlk hs hSB hB hE h3 hok2 hrl hY hYL
      have hen := HE.out _ (HBX.out.mono HBB.out)
      have HEN := Lib.hid hen
      have HNX := Lib.hid (And.intro h10 (And.intro h8 h11))
      have HSZN := Lib.hid (show p.length + n.kids.length ≤ 100000 by have := kids_size n; have := sizes_len n.kids; omega)
      have w1 : IntKind.i64.wrap (A + -1) = A + -1 := IntWalk.i64_in _ (by omega)
      have w1' : IntKind.i64.wrap (A - 1) = A - 1 := IntWalk.i64_in _ (by omega)
      have w2 : IntKind.i64.wrap (A + (Y.size : Int)) = A + (Y.size : Int) := IntWalk.i64_in _ (by omega)
      have w3 : IntKind.i64.wrap (I - 1 + 1) = I := (IntWalk.i64_in _ (by omega)).trans (by omega)
      have w4' : IntKind.i64.wrap I = I := IntWalk.i64_in _ (by omega)
      have w5 : IntKind.i64.wrap (2 * I) = 2 * I := IntWalk.i64_in _ (by omega)
      clear hen h10 h8 h11
      by_cases hk0 : n.kids = []
      · have hk1 : n.kids.length = 0 := by rw [hk0]; rfl
        have hki : ¬ (0 : Int) < (n.kids.length : Int) := by omega
        have HSZ := Lib.hid (show szO n = (Y.size : Int) by unfold szO; rw [if_pos hk0, HYL.out])
        clear hk0 hk1
        by_cases hA160 : A + (Y.size : Int) ≤ 160
        · have HR := Lib.hid (firstP_kids (tp := tpO) (way := way) (n := n) (p := p) (by rw [HTP.out, HSZ.out]; exact decide_eq_true (by omega)))
          have ha1 : ¬ (160 < A + (Y.size : Int)) := by omega
          unfold ndV
          go_enter Tryz.func31, Tryz.ntmps31
          go_wp2_with fail
          refine (HRW.out _ HEN.out).mono ?_
          rintro e w4 ⟨rfl, hb⟩
          have HB4 := Lib.hid (bthen HBX.out hb)
          have HL4 := Lib.hid ((hb.block _ (lt_blk H3.out.1)).trans H3.out.1)
          have HN4 := Lib.hid ((hb.block _ (lt_blk H3.out.2.1)).trans H3.out.2.1)
          have HD4 := Lib.hid ((hb.block _ (lt_blk H3.out.2.2.1)).trans H3.out.2.2.1)
          obtain ⟨c2, f2⟩ := blk_cell HD4.out 0 (by simp)
          have hl2 := lt_blk HD4.out
          obtain ⟨c0, f0⟩ := blk_cell HL4.out 0 (by simp)
          have hl0 := lt_blk HL4.out
          obtain ⟨x0, x1, x2, x3, _, _, _, _, hxl⟩ := nd_cells HN4.out
          clear hb
          go_wp2_with fail
          have HB5 := Lib.hid (show Below W.heap.size W (w4.alloc (.cells #[.int .i64 (2 * I)] 3)) from bthen HB4.out ((Below.refl _ _).alloc (Nat.le_refl _) _))
          have HB45 := Lib.hid (show Below w4.heap.size w4 (w4.alloc (.cells #[.int .i64 (2 * I)] 3)) from (Below.refl _ _).alloc (Nat.le_refl _) _)
          have HF5 := Lib.hid (heap_alloc_new w4 (.cells #[.int .i64 (2 * I)] 3))
          refine (kids_any 56 #[.pointer (some ⟨W.heap.size + 1, 0, none⟩), .pointer (some ⟨W.heap.size, 0, none⟩), .pointer (some ⟨w4.heap.size, 0, none⟩), .pointer (some ⟨W.heap.size + 1 + 1, 0, none⟩)] (fun args w => by rfl) _ B X v p S n _ (fun i => if hi : i < n.kids.length then firstP tpO (way ++ [n]) n.kids[i] (p ++ [(i : Int)]) else none) (H.out.below HB5.out) ⟨_, rfl, HS.out.below HB5.out⟩ HSB.out (Nat.le_trans HBB.out HB5.out.size) (by have := HSZN.out; omega) (by have := HSZN.out; omega) (fun W' v' j hj uu hfar hat hlkW hnW => ?_)).mono ?_
          · rw [dif_pos hj]
            have hks := kid_size (n := n) hj
            have hmem := List.getElem_mem hj
            have hxw := lt_blk H.out.blk
            have hs4 := HB4.out.size
            have hlD := lt_blk HD4.out
            have hlF := lt_blk HF5.out
            have hBW : Below B W W' := (HB5.out.mono HBB.out).trans (hfar.below H.out.lo (fun g e => (H.out.row.lt g e).1) (Nat.le_trans HBB.out HB5.out.size))
            have hvw : ∀ g, v.ownBlock = some g → g < W.heap.size := fun g e => (H.out.row.lt g e).2
            have keep : ∀ b, W.heap.size ≤ b → b < (w4.alloc (.cells #[.int .i64 (2 * I)] 3)).heap.size → W'.heap[b]? = (w4.alloc (.cells #[.int .i64 (2 * I)] 3)).heap[b]? := fun b h1 h2 => hfar.oth b h2 (by omega) (fun e => by have := hvw b e; omega)
            have knew : ∀ b, W.heap.size ≤ b → b < (w4.alloc (.cells #[.int .i64 (2 * I)] 3)).heap.size → b ≠ X ∧ v'.ownBlock ≠ some b := fun b h1 h2 => by
              refine ⟨by omega, ?_⟩
              rcases hat with e | e
              · rw [e]; intro e2; have := hvw b e2; omega
              · intro e2; have := e b e2; omega
            have hsz5 := HB45.out.size
            have hcellsz : w4.heap.size < (w4.alloc (.cells #[.int .i64 (2 * I)] 3)).heap.size := hlF
            have hkid : Kin n.k n.kids[j].k ∧ Tf RP n.kids[j] := by
              cases n with
              | mk a b c d =>
                cases htf with
                | mk _ _ _ _ hr ho hk ht => exact ⟨hk _ hmem, ht _ hmem⟩
            have hkok : n.kids[j].ok := by
              cases n with
              | mk a b c d => rw [ok_mk] at hok; exact (oks_iff _).1 hok.2 _ hmem
            have hkin := hkid.1
            unfold Kin valK at hkin
            obtain ⟨g10, g8, g11⟩ := HNX.out
            refine lineK_any n n.kids[j] way g8 g10 (by omega) (fun h5 => ?_) (fun x hx hk8 => ?_) W' (W.heap.size + 1) W.heap.size w4.heap.size (W.heap.size + 1 + 1) X B v' _ S uu (.slice ao n.kids.length cap) j (fun W2 h2 => HE.out _ (hBW.trans h2)) ?_ ?_ ?_ ?_ hkok (by omega) ?_ hlkW hnW HSB.out (Nat.le_trans HBB.out hBW.size) (by rw [List.length_append, List.length_singleton]; omega)
            · exact ih n.kids[j] (way ++ [n]) (by omega) hkid.2 hkok (by omega) (by omega) (by rw [List.length_append, List.length_singleton]; omega) (by rw [ahead_list g8]; omega)
            · have hxs := size_mem hx
              have hkz := kids_size n.kids[j]
              have hxk : Kin 8 x.k ∧ Tf RP x ∧ x.ok := by
                obtain ⟨y, hy⟩ : ∃ y, n.kids[j] = y := ⟨_, rfl⟩
                rw [hy] at hx hk8 hkok
                have hty := hkid.2
                rw [hy] at hty
                cases y with
                | mk a b c d =>
                  cases hty with
                  | mk _ _ _ _ hr ho hk ht =>
                    rw [ok_mk] at hkok
                    have h9 := hk x hx
                    rw [show a = 8 from hk8] at h9
                    exact ⟨h9, ht x hx, (oks_iff _).1 hkok.2 x hx⟩
              have hwd := word_len n.kids[j].t (by
                obtain ⟨y, hy⟩ : ∃ y, n.kids[j] = y := ⟨_, rfl⟩
                rw [hy] at hkok ⊢
                cases y with
                | mk a b c d => rw [ok_mk] at hkok; exact hkok.1.t)
              have hwd2 : (wordP n.kids[j].t).1.size = (wordP n.kids[j].t).1.data.toList.length := rfl
              have hxin := hxk.1
              unfold Kin valK at hxin
              exact ih x (way ++ [n] ++ [n.kids[j]]) (by omega) hxk.2.1 hxk.2.2 (by omega) (by omega) (by rw [List.length_append, List.length_append, List.length_singleton, List.length_singleton]; omega) (by rw [ahead_key g8 hk8]; omega)
            · rw [keep _ (Nat.le_refl _) (by omega), HB45.out.block _ (lt_blk HL4.out)]; exact HL4.out
            · rw [hI, keep _ hs4 hlF]; exact HF5.out
            · rw [hI, keep _ (by omega) (by omega), HB45.out.block _ hlD]; exact HD4.out
            · rw [keep _ (by omega) (by omega), HB45.out.block _ (lt_blk HN4.out)]; exact HN4.out
            · intro b hb
              rcases hb with rfl | rfl | rfl | rfl
              · exact knew _ (Nat.le_refl _) (by omega)
              · exact knew _ hs4 hlF
              · exact knew _ (by omega) (by omega)
              · exact knew _ (by omega) (by omega)
          · intro e w6 he
            have he2 := he.after HB5.out
            rw [← HR.out] at he2
            cases hq : firstP tpO way n p with
            | none =>
              rw [hq] at he2
              obtain ⟨⟨rr, rfl⟩, v', hp⟩ := he2
              have HP := Lib.hid hp
              have HO := Lib.hid hq
              clear hp he
              go_wp2_with fail
              go_end0
              show LkEnd B X v p (firstP tpO way n p) W _ _
              rw [HO.out]
              exact ⟨⟨_, rfl⟩, _, HP.out⟩
            | some q =>
              rw [hq] at he2
              obtain ⟨hfar, a, c, rfl, hints⟩ := he2
              have HF2 := Lib.hid hfar; have HI := Lib.hid hints
              have HO := Lib.hid hq
              clear hfar hints he
              go_wp2_with fail
              exact ⟨rfl, HF2.out, a, c, rfl, HI.out⟩
        · have HR := Lib.hid (show firstP tpO way n p = some p from firstP_no (by rw [HTP.out, HSZ.out]; exact decide_eq_false (by omega)))
          have ha1 : 160 < A + (Y.size : Int) := by omega
          unfold ndV
          go_enter Tryz.func31, Tryz.ntmps31
          go_wp2_with fail
          refine (HRW.out _ HEN.out).mono ?_
          rintro e w4 ⟨rfl, hb⟩
          have HB4 := Lib.hid (bthen HBX.out hb)
          have HL4 := Lib.hid ((hb.block _ (lt_blk H3.out.1)).trans H3.out.1)
          have HN4 := Lib.hid ((hb.block _ (lt_blk H3.out.2.1)).trans H3.out.2.1)
          have HD4 := Lib.hid ((hb.block _ (lt_blk H3.out.2.2.1)).trans H3.out.2.2.1)
          obtain ⟨c2, f2⟩ := blk_cell HD4.out 0 (by simp)
          have hl2 := lt_blk HD4.out
          obtain ⟨c0, f0⟩ := blk_cell HL4.out 0 (by simp)
          have hl0 := lt_blk HL4.out
          obtain ⟨x0, x1, x2, x3, _, _, _, _, hxl⟩ := nd_cells HN4.out
          clear hb
          go_wp2_with fail
          refine (fails_any _ B X v p (H.out.below HB4.out) (by omega)).mono ?_
          intro e w5 he
          have he2 : LkEnd B X v p (some p) W e w5 := he.after HB4.out
          obtain ⟨hfar, a, c, rfl, hints⟩ := he2
          have HF2 := Lib.hid hfar; have HI := Lib.hid hints
          clear hfar hints he
          go_wp2_with fail
          exact ⟨rfl, by rw [HR.out]; exact ⟨HF2.out, a, c, rfl, HI.out⟩⟩
      · have hk1 : 0 < n.kids.length := List.length_pos_iff.2 hk0
        have hki : (0 : Int) < (n.kids.length : Int) := by omega
        have HSZ := Lib.hid (show szO n = -1 by unfold szO; rw [if_neg hk0])
        clear hk0
        by_cases hA160 : A - 1 ≤ 160
        · have HR := Lib.hid (firstP_kids (tp := tpO) (way := way) (n := n) (p := p) (by rw [HTP.out, HSZ.out]; exact decide_eq_true (by omega)))
          have ha1 : ¬ (160 < A - 1) := by omega
          have ha2 : ¬ (160 < A + -1) := by omega
          unfold ndV
          go_enter Tryz.func31, Tryz.ntmps31
          go_wp2_with fail
          refine (HRW.out _ HEN.out).mono ?_
          rintro e w4 ⟨rfl, hb⟩
          have HB4 := Lib.hid (bthen HBX.out hb)
          have HL4 := Lib.hid ((hb.block _ (lt_blk H3.out.1)).trans H3.out.1)
          have HN4 := Lib.hid ((hb.block _ (lt_blk H3.out.2.1)).trans H3.out.2.1)
          have HD4 := Lib.hid ((hb.block _ (lt_blk H3.out.2.2.1)).trans H3.out.2.2.1)
          obtain ⟨c2, f2⟩ := blk_cell HD4.out 0 (by simp)
          have hl2 := lt_blk HD4.out
          obtain ⟨c0, f0⟩ := blk_cell HL4.out 0 (by simp)
          have hl0 := lt_blk HL4.out
          obtain ⟨x0, x1, x2, x3, _, _, _, _, hxl⟩ := nd_cells HN4.out
          clear hb
          go_wp2_with fail
          have HB5 := Lib.hid (show Below W.heap.size W (w4.alloc (.cells #[.int .i64 (2 * I)] 3)) from bthen HB4.out ((Below.refl _ _).alloc (Nat.le_refl _) _))
          have HB45 := Lib.hid (show Below w4.heap.size w4 (w4.alloc (.cells #[.int .i64 (2 * I)] 3)) from (Below.refl _ _).alloc (Nat.le_refl _) _)
          have HF5 := Lib.hid (heap_alloc_new w4 (.cells #[.int .i64 (2 * I)] 3))
          refine (kids_any 56 #[.pointer (some ⟨W.heap.size + 1, 0, none⟩), .pointer (some ⟨W.heap.size, 0, none⟩), .pointer (some ⟨w4.heap.size, 0, none⟩), .pointer (some ⟨W.heap.size + 1 + 1, 0, none⟩)] (fun args w => by rfl) _ B X v p S n _ (fun i => if hi : i < n.kids.length then firstP tpO (way ++ [n]) n.kids[i] (p ++ [(i : Int)]) else none) (H.out.below HB5.out) ⟨_, rfl, HS.out.below HB5.out⟩ HSB.out (Nat.le_trans HBB.out HB5.out.size) (by have := HSZN.out; omega) (by have := HSZN.out; omega) (fun W' v' j hj uu hfar hat hlkW hnW => ?_)).mono ?_
          · rw [dif_pos hj]
            have hks := kid_size (n := n) hj
            have hmem := List.getElem_mem hj
            have hxw := lt_blk H.out.blk
            have hs4 := HB4.out.size
            have hlD := lt_blk HD4.out
            have hlF := lt_blk HF5.out
            have hBW : Below B W W' := (HB5.out.mono HBB.out).trans (hfar.below H.out.lo (fun g e => (H.out.row.lt g e).1) (Nat.le_trans HBB.out HB5.out.size))
            have hvw : ∀ g, v.ownBlock = some g → g < W.heap.size := fun g e => (H.out.row.lt g e).2
            have keep : ∀ b, W.heap.size ≤ b → b < (w4.alloc (.cells #[.int .i64 (2 * I)] 3)).heap.size → W'.heap[b]? = (w4.alloc (.cells #[.int .i64 (2 * I)] 3)).heap[b]? := fun b h1 h2 => hfar.oth b h2 (by omega) (fun e => by have := hvw b e; omega)
            have knew : ∀ b, W.heap.size ≤ b → b < (w4.alloc (.cells #[.int .i64 (2 * I)] 3)).heap.size → b ≠ X ∧ v'.ownBlock ≠ some b := fun b h1 h2 => by
              refine ⟨by omega, ?_⟩
              rcases hat with e | e
              · rw [e]; intro e2; have := hvw b e2; omega
              · intro e2; have := e b e2; omega
            have hsz5 := HB45.out.size
            have hcellsz : w4.heap.size < (w4.alloc (.cells #[.int .i64 (2 * I)] 3)).heap.size := hlF
            have hkid : Kin n.k n.kids[j].k ∧ Tf RP n.kids[j] := by
              cases n with
              | mk a b c d =>
                cases htf with
                | mk _ _ _ _ hr ho hk ht => exact ⟨hk _ hmem, ht _ hmem⟩
            have hkok : n.kids[j].ok := by
              cases n with
              | mk a b c d => rw [ok_mk] at hok; exact (oks_iff _).1 hok.2 _ hmem
            have hkin := hkid.1
            unfold Kin valK at hkin
            obtain ⟨g10, g8, g11⟩ := HNX.out
            refine lineK_any n n.kids[j] way g8 g10 (by omega) (fun h5 => ?_) (fun x hx hk8 => ?_) W' (W.heap.size + 1) W.heap.size w4.heap.size (W.heap.size + 1 + 1) X B v' _ S uu (.slice ao n.kids.length cap) j (fun W2 h2 => HE.out _ (hBW.trans h2)) ?_ ?_ ?_ ?_ hkok (by omega) ?_ hlkW hnW HSB.out (Nat.le_trans HBB.out hBW.size) (by rw [List.length_append, List.length_singleton]; omega)
            · exact ih n.kids[j] (way ++ [n]) (by omega) hkid.2 hkok (by omega) (by omega) (by rw [List.length_append, List.length_singleton]; omega) (by rw [ahead_list g8]; omega)
            · have hxs := size_mem hx
              have hkz := kids_size n.kids[j]
              have hxk : Kin 8 x.k ∧ Tf RP x ∧ x.ok := by
                obtain ⟨y, hy⟩ : ∃ y, n.kids[j] = y := ⟨_, rfl⟩
                rw [hy] at hx hk8 hkok
                have hty := hkid.2
                rw [hy] at hty
                cases y with
                | mk a b c d =>
                  cases hty with
                  | mk _ _ _ _ hr ho hk ht =>
                    rw [ok_mk] at hkok
                    have h9 := hk x hx
                    rw [show a = 8 from hk8] at h9
                    exact ⟨h9, ht x hx, (oks_iff _).1 hkok.2 x hx⟩
              have hwd := word_len n.kids[j].t (by
                obtain ⟨y, hy⟩ : ∃ y, n.kids[j] = y := ⟨_, rfl⟩
                rw [hy] at hkok ⊢
                cases y with
                | mk a b c d => rw [ok_mk] at hkok; exact hkok.1.t)
              have hwd2 : (wordP n.kids[j].t).1.size = (wordP n.kids[j].t).1.data.toList.length := rfl
              have hxin := hxk.1
              unfold Kin valK at hxin
              exact ih x (way ++ [n] ++ [n.kids[j]]) (by omega) hxk.2.1 hxk.2.2 (by omega) (by omega) (by rw [List.length_append, List.length_append, List.length_singleton, List.length_singleton]; omega) (by rw [ahead_key g8 hk8]; omega)
            · rw [keep _ (Nat.le_refl _) (by omega), HB45.out.block _ (lt_blk HL4.out)]; exact HL4.out
            · rw [hI, keep _ hs4 hlF]; exact HF5.out
            · rw [hI, keep _ (by omega) (by omega), HB45.out.block _ hlD]; exact HD4.out
            · rw [keep _ (by omega) (by omega), HB45.out.block _ (lt_blk HN4.out)]; exact HN4.out
            · intro b hb
              rcases hb with rfl | rfl | rfl | rfl
              · exact knew _ (Nat.le_refl _) (by omega)
              · exact knew _ hs4 hlF
              · exact knew _ (by omega) (by omega)
              · exact knew _ (by omega) (by omega)
          · intro e w6 he
            have he2 := he.after HB5.out
            rw [← HR.out] at he2
            cases hq : firstP tpO way n p with
            | none =>
              rw [hq] at he2
              obtain ⟨⟨rr, rfl⟩, v', hp⟩ := he2
              have HP := Lib.hid hp
              have HO := Lib.hid hq
              clear hp he
              go_wp2_with fail
              go_end0
              show LkEnd B X v p (firstP tpO way n p) W _ _
              rw [HO.out]
              exact ⟨⟨_, rfl⟩, _, HP.out⟩
            | some q =>
              rw [hq] at he2
              obtain ⟨hfar, a, c, rfl, hints⟩ := he2
              have HF2 := Lib.hid hfar; have HI := Lib.hid hints
              have HO := Lib.hid hq
              clear hfar hints he
              go_wp2_with fail
              exact ⟨rfl, HF2.out, a, c, rfl, HI.out⟩
        · have HR := Lib.hid (show firstP tpO way n p = some p from firstP_no (by rw [HTP.out, HSZ.out]; exact decide_eq_false (by omega)))
          have ha1 : 160 < A - 1 := by omega
          have ha2 : 160 < A + -1 := by omega
          unfold ndV
          go_enter Tryz.func31, Tryz.ntmps31
          go_wp2_with fail
          refine (HRW.out _ HEN.out).mono ?_
          rintro e w4 ⟨rfl, hb⟩
          have HB4 := Lib.hid (bthen HBX.out hb)
          have HL4 := Lib.hid ((hb.block _ (lt_blk H3.out.1)).trans H3.out.1)
          have HN4 := Lib.hid ((hb.block _ (lt_blk H3.out.2.1)).trans H3.out.2.1)
          have HD4 := Lib.hid ((hb.block _ (lt_blk H3.out.2.2.1)).trans H3.out.2.2.1)
          obtain ⟨c2, f2⟩ := blk_cell HD4.out 0 (by simp)
          have hl2 := lt_blk HD4.out
          obtain ⟨c0, f0⟩ := blk_cell HL4.out 0 (by simp)
          have hl0 := lt_blk HL4.out
          obtain ⟨x0, x1, x2, x3, _, _, _, _, hxl⟩ := nd_cells HN4.out
          clear hb
          go_wp2_with fail
          refine (fails_any _ B X v p (H.out.below HB4.out) (by omega)).mono ?_
          intro e w5 he
          have he2 : LkEnd B X v p (some p) W e w5 := he.after HB4.out
          obtain ⟨hfar, a, c, rfl, hints⟩ := he2
          have HF2 := Lib.hid hfar; have HI := Lib.hid hints
          clear hfar hints he
          go_wp2_with fail
          exact ⟨rfl, by rw [HR.out]; exact ⟨HF2.out, a, c, rfl, HI.out⟩⟩
end Go.Proofs.YtmniblcooficgaaGreatDoor
namespace Go.Proofs.YtmniblcooficgaaGreatDoor
open Go.RowKit Ev5
set_option linter.unusedSimpArgs false
set_option linter.unusedVariables false

set_option maxRecDepth 100000 in
set_option maxHeartbeats 2000000 in
theorem outline_any (n : Nd) (htf : Tf RP n ∧ valK n.k) (hok : n.ok) (w : World) (B X : Nat) (v : Value) (p : List Int) (S : Nat → Prop) (nv : Value) (hE : ∀ W', Below B w W' → EnvU W') (hlk : Lk w B X v p) (hv : NdV w S nv n) (hSB : ∀ b, S b → b < B) (hB : B ≤ w.heap.size) (hl : p.length + n.size ≤ 100000) :
    Calls Tryz.prog 17 #[.pointer (some ⟨X, 0, none⟩), nv] w (LkEnd B X v p (firstP tpO [] n p) w) := by
  obtain ⟨u, rfl, hs⟩ := hv
  obtain ⟨ao, cap, rfl, hcap, hcm⟩ := hs.shape
  obtain ⟨h1, h2⟩ := htf
  unfold valK at h2
  have HL := Lib.hid (line_any n.size n [] (Nat.le_refl _) h1 hok (by omega) (by omega) (by simp; omega) (by decide))
  have HB := Lib.hid (show Below w.heap.size w (w.alloc (.cells #[.int .i64 n.k, .string n.t, .string n.v, .slice ao n.kids.length cap] 24)) from (Below.refl _ _).alloc (Nat.le_refl _) _)
  have H := Lib.hid hlk; have HS := Lib.hid hs; have HSB := Lib.hid hSB; have HBB := Lib.hid hB; have HE := Lib.hid hE
  clear hlk hs hSB hB hE h1 h2
  unfold ndV
  go_enter Tryz.func17, Tryz.ntmps17
  go_wp2_with fail
  refine (HL.out _ B X v p S (.slice ao n.kids.length cap) (fun W' hb => HE.out _ ((HB.out.mono HBB.out).trans hb)) (H.out.below HB.out) (.mk (HS.out.below HB.out)) HSB.out (Nat.le_trans HBB.out HB.out.size) hl).mono ?_
  intro e w3 he
  have he2 := he.after HB.out
  cases ho : firstP tpO [] n p with
  | none =>
    rw [ho] at he2
    obtain ⟨⟨rr, rfl⟩, v', hp⟩ := he2
    have HP := Lib.hid hp
    have HO := Lib.hid ho
    clear hp he
    go_wp2_with fail
    go_end0
    show LkEnd B X v p (firstP tpO [] n p) w _ _
    rw [HO.out]
    exact ⟨⟨_, rfl⟩, _, HP.out⟩
  | some q =>
    rw [ho] at he2
    obtain ⟨hfar, a, c, rfl, hints⟩ := he2
    have HF2 := Lib.hid hfar; have HI := Lib.hid hints
    have HO := Lib.hid ho
    clear hfar hints he
    go_wp2_with fail
    exact ⟨rfl, HF2.out, a, c, rfl, HI.out⟩
set_option maxRecDepth 100000 in
set_option maxHeartbeats 4000000 in
theorem carryOutline_any (n : Nd) (w : World) (S : Nat → Prop) (v : Value) (hE : EnvU w) (hv : NdV w S v n) (hok : n.ok) (hN : n.size ≤ 50000) :
    Calls Tryz.prog 7 #[.int .i64 3, v] w (OfPost (ofP tpO n) w) := by
  obtain ⟨u, rfl, hs⟩ := hv
  obtain ⟨ao, cap, rfl, hcap, hcm⟩ := hs.shape
  have HV := Lib.hid (NdV.mk hs.ltC); have HE := Lib.hid hE; have HOK := Lib.hid hok; have HN := Lib.hid hN
  have HWL := Lib.hid (show n.walk.length ≤ 100000 by have := walk_len n; omega)
  have hmf : ∀ (fn : Fn) (first cap : Array Value) (w : World), (Instr.makeFunc fn first cap).run Tryz.prog w = .ok (.func fn first cap) w := fun _ _ _ _ => rfl
  clear hs hE hok hN
  unfold ndV
  go_enter_defers Tryz.func7, Tryz.ntmps7
  have h3 := threeC w (.cells #[.int .i64 n.k, .string n.t, .string n.v, .slice ao n.kids.length cap] 24) (.cells #[.slice none 0 0] 27) (.cells #[.int .i64 0] 28)
  have H3 := Lib.hid h3
  clear h3
  go_wp2_with fail
  refine (treeMay_any n _ _ _ (HE.out.below H3.out.2.2.2) (HV.out.below H3.out.2.2.2) (fun b hb => Nat.lt_of_lt_of_le hb H3.out.2.2.2.size) HOK.out HWL.out).mono ?_
  rintro e w2 ⟨rfl, hb⟩
  have hx0 := (hb.block _ (lt_blk H3.out.1)).trans H3.out.1
  have hx1 := (hb.block _ (lt_blk H3.out.2.1)).trans H3.out.2.1
  have hx2 := (hb.block _ (lt_blk H3.out.2.2.1)).trans H3.out.2.2.1
  have HB2 := Lib.hid (bthen H3.out.2.2.2 hb)
  obtain ⟨x0, x1, x2, x3, _, _, _, _, hxl⟩ := nd_cells hx0
  obtain ⟨P5, h5⟩ : ∃ P5, w.heap.size + 1 + 1 = P5 := ⟨_, rfl⟩
  obtain ⟨P4, h4⟩ : ∃ P4, w.heap.size + 1 = P4 := ⟨_, rfl⟩
  have hne : P5 ≠ P4 := by omega
  have hne' : P4 ≠ P5 := by omega
  have HLO := Lib.hid (show w.heap.size ≤ P4 ∧ w.heap.size ≤ P5 by omega)
  rw [h5] at hx2
  rw [h4] at hx1
  rw [h5, h4]
  have HX := Lib.hid (And.intro hx1 hx2)
  have hl4 := lt_blk hx1
  have hl5 := lt_blk hx2
  obtain ⟨c4, g4⟩ := blk_cell hx1 0 (by simp)
  obtain ⟨c5, g5⟩ := blk_cell hx2 0 (by simp)
  obtain ⟨E, hE⟩ : ∃ E, (wholeP RP (n.walk.map GoEv.ev)).2 = E := ⟨_, rfl⟩
  have HEQ := Lib.hid (show n.wh = E from hE)
  rw [hE]
  clear hb hx0 hx1 hx2 hE h4 h5
  by_cases hz : E = 0
  · subst hz
    have HLK := Lib.hid (show ∀ W : World, Below w.heap.size w W → Lk (W.alloc (.cells #[.slice none 0 0] 42)) W.heap.size W.heap.size (.slice none 0 0) [] from fun W _ => ⟨heap_alloc_new W _, World.ownsRow_nil _ _ _ _, (by simp [Value.ownBlock]), Nat.le_refl _, fun x hx => by cases hx⟩)
    go_wp2_with fail
    have hlk := HLK.out w2 HB2.out
    have hbl : Below w2.heap.size w2 (w2.alloc (.cells #[.slice none 0 0] 42)) := (Below.refl _ _).alloc (Nat.le_refl _) _
    have hnv := HV.out.below (bthen HB2.out hbl)
    refine (outline_any n (tf_wh HEQ.out) HOK.out _ w2.heap.size w2.heap.size (.slice none 0 0) [] _ _ (fun W' hb => HE.out.below (bthen HB2.out (hbl.trans hb))) hlk hnv (fun b hb => Nat.lt_of_lt_of_le hb HB2.out.size) (by simp) (by have := HN.out; simp; omega)).mono ?_
    intro e w3 he
    have hfar : LkFar w2.heap.size (.slice none 0 0) (w2.alloc (.cells #[.slice none 0 0] 42)) w3 := by
      cases ho : firstP tpO [] n [] with
      | none => rw [ho] at he; obtain ⟨_, v', hp⟩ := he; exact hp.far
      | some q => rw [ho] at he; exact he.1
    have hb3 : Below w2.heap.size w2 w3 := by
      refine ⟨hfar.os, hfar.tape, hfar.output, Nat.le_trans hbl.size hfar.size, fun k hk => ?_⟩
      rw [hfar.oth k (Nat.lt_of_lt_of_le hk hbl.size) (by omega) (by simp [Value.ownBlock])]
      exact hbl.block k hk
    have HB3 := Lib.hid hb3
    have hx4 := (hb3.block _ hl4).trans HX.out.1
    have hx5 := (hb3.block _ hl5).trans HX.out.2
    have HX3 := Lib.hid (And.intro hx4 hx5)
    have hl43 := lt_blk hx4
    have hl53 := lt_blk hx5
    clear c4 g4 c5 g5 hl4 hl5 x0 x1 x2 x3 hxl hnv hlk hfar hb3
    obtain ⟨c4, g4⟩ := blk_cell hx4 0 (by simp)
    obtain ⟨c5, g5⟩ := blk_cell hx5 0 (by simp)
    clear hx4 hx5
    cases ho : firstP tpO [] n [] with
    | none =>
      rw [ho] at he
      obtain ⟨⟨rr, rfl⟩, v', hp⟩ := he
      have HP := Lib.hid (show ofP tpO n = (none, 0) by unfold ofP; rw [if_neg (by rw [HEQ.out]; simp), ho])
      clear hp
      go_wp2_with fail
      obtain ⟨W9, hW9⟩ : ∃ W9, (w3.setCell ⟨P4, 0, none⟩ (.slice none 0 0)).setCell ⟨P5, 0, none⟩ (.int .i64 0) = W9 := ⟨_, rfl⟩
      have hk := two_vars HX3.out.1 HX3.out.2 hne' (.slice none 0 0) (.int .i64 0)
      rw [hW9] at hk
      have k4 : W9.cell? ⟨P4, 0, none⟩ = some (.slice none 0 0) := (blk_cell hk.1 0 (by simp)).1
      have k5 : W9.cell? ⟨P5, 0, none⟩ = some (.int .i64 0) := (blk_cell hk.2 0 (by simp)).1
      have hbw : Below w.heap.size w W9 := by
        rw [← hW9]
        exact ((bthen HB2.out HB3.out).setCell (p := ⟨P4, 0, none⟩) HLO.out.1 _).setCell (p := ⟨P5, 0, none⟩) HLO.out.2 _
      rw [hW9]
      refine leaves_cons (f := 14) (args := #[.pointer (some ⟨P4, 0, none⟩), .pointer (some ⟨P5, 0, none⟩)]) (by simp) (by simp [go_sem]) ?_
      refine (of1_idle ⟨P4, 0, none⟩ ⟨P5, 0, none⟩ W9).mono ?_
      rintro e u' w'' ⟨rfl, rfl, hb⟩
      have m4 : w''.cell? ⟨P4, 0, none⟩ = some (.slice none 0 0) := by rw [hb.cell (p := ⟨P4, 0, none⟩) (cell_lt k4)]; exact k4
      have m5 : w''.cell? ⟨P5, 0, none⟩ = some (.int .i64 0) := by rw [hb.cell (p := ⟨P5, 0, none⟩) (cell_lt k5)]; exact k5
      have hbb := bthen hbw hb
      simp [Leaves, settle, results, Tryz.results7, go_sem, m4, m5]
      rw [HP.out]
      exact ⟨hbb, none, 0, 0, rfl, rfl⟩
    | some q =>
      rw [ho] at he
      obtain ⟨_, a, c, rfl, hints⟩ := he
      have HP := Lib.hid (show ofP tpO n = (some q, 20) by unfold ofP; rw [if_neg (by rw [HEQ.out]; simp), ho])
      have HI := Lib.hid hints
      clear hints
      go_wp2_with fail
      refine leaves_cons (f := 14) (args := #[.pointer (some ⟨P4, 0, none⟩), .pointer (some ⟨P5, 0, none⟩)]) (by simp) (by simp [go_sem]) ?_
      refine (of1_catch P4 P5 a q.length c [] w3 _ _ HX3.out.1 HX3.out.2 hne').mono ?_
      rintro e u' w'' ⟨rfl, rfl, hw⟩
      obtain ⟨W9, hW9⟩ : ∃ W9, (w3.setCell ⟨P4, 0, none⟩ (.slice a q.length c)).setCell ⟨P5, 0, none⟩ (.int .i64 20) = W9 := ⟨_, rfl⟩
      have hk := two_vars HX3.out.1 HX3.out.2 hne' (.slice a q.length c) (.int .i64 20)
      rw [hW9] at hk hw
      have hba : Below W9.heap.size W9 w'' := by rw [hw]; exact (Below.refl _ _).alloc (Nat.le_refl _) _
      have m4 : w''.cell? ⟨P4, 0, none⟩ = some (.slice a q.length c) := (blk_cell ((hba.block _ (lt_blk hk.1)).trans hk.1) 0 (by simp)).1
      have m5 : w''.cell? ⟨P5, 0, none⟩ = some (.int .i64 20) := (blk_cell ((hba.block _ (lt_blk hk.2)).trans hk.2) 0 (by simp)).1
      have hbw : Below w.heap.size w W9 := by
        rw [← hW9]
        exact ((bthen HB2.out HB3.out).setCell (p := ⟨P4, 0, none⟩) HLO.out.1 _).setCell (p := ⟨P5, 0, none⟩) HLO.out.2 _
      have hbb := bthen hbw hba
      have hii : IntsIn w'' (.slice a q.length c) q := by
        obtain ⟨ao, cp, e, h1, h2, h3⟩ := HI.out.ints.ex
        injection e with e1 e2 e3
        subst e1; subst e3
        refine ⟨⟨a, c, rfl, h1, h2, fun i hi => ?_⟩, HI.out.ints.ok⟩
        obtain ⟨b, o, e, hc⟩ := h3 i hi
        refine ⟨b, o, e, ?_⟩
        have hnew := HI.out.new _ e
        have hb1 : w2.heap.size < b := by have h := hnew; simp at h; omega
        have hp4 := lt_blk HX.out.1
        have hp5 := lt_blk HX.out.2
        have hlt := cell_lt hc
        have h9 : W9.cell? ⟨b, o + i, none⟩ = some (.int .i64 q[i]) := by
          rw [← hW9, World.cell?_setCell_other _ _ _ _ (fun e => by injection e with e; omega), World.cell?_setCell_other _ _ _ _ (fun e => by injection e with e; omega)]; exact hc
        rw [hba.cell (p := ⟨b, o + i, none⟩) (cell_lt h9)]
        exact h9
      simp [Leaves, settle, results, Tryz.results7, go_sem, m4, m5]
      rw [HP.out]
      exact ⟨hbb, a, q.length, c, rfl, rfl, hii⟩
  · have hzb : (E != 0) = true := by simp [hz]
    go_wp2_with fail
    obtain ⟨W9, hW9⟩ : ∃ W9, (w2.setCell ⟨P4, 0, none⟩ (.slice none 0 0)).setCell ⟨P5, 0, none⟩ (.int .i64 E) = W9 := ⟨_, rfl⟩
    have hk := two_vars HX.out.1 HX.out.2 hne' (.slice none 0 0) (.int .i64 E)
    rw [hW9] at hk
    have k4 : W9.cell? ⟨P4, 0, none⟩ = some (.slice none 0 0) := (blk_cell hk.1 0 (by simp)).1
    have k5 : W9.cell? ⟨P5, 0, none⟩ = some (.int .i64 E) := (blk_cell hk.2 0 (by simp)).1
    have hbw : Below w.heap.size w W9 := by
      rw [← hW9]
      exact (HB2.out.setCell (p := ⟨P4, 0, none⟩) HLO.out.1 _).setCell (p := ⟨P5, 0, none⟩) HLO.out.2 _
    rw [hW9]
    have hP := Lib.hid (show ofP tpO n = (none, E) by unfold ofP; rw [if_pos (by rw [HEQ.out]; exact hz), HEQ.out])
    simp [bodyPostD, Leaves, settle, results, Tryz.results7, go_sem, k4, k5]
    rw [hP.out]
    exact ⟨hbw, none, 0, 0, rfl, rfl⟩
end Go.Proofs.YtmniblcooficgaaGreatDoor
