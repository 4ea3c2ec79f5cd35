import Derived.RangeFuncNested
import Derived.RangeFuncBound
import Derived.RangeFuncCalls
import Derived.RangeFuncLeaves
import Derived.Shelf.Abstract
import Derived.Shelf.RegionOpen
import Derived.WalkKit
import Derived.OwnWalkIn
import Derived.TacticsInMore
import Derived.LoopNIn
import Derived.LoopIn
import Derived.Test.YtmniblcooficgaaGreatDoorD21
import Derived.Test.YtmniblcooficgaaGreatDoorD08
import Derived.Test.YtmniblcooficgaaGreatDoorD22
namespace Go.Proofs.YtmniblcooficgaaGreatDoor
open Go.RowKit Go.Shelf Ev5
attribute [local go_sem] Oper.semAt_some
set_option linter.unusedSimpArgs false
set_option linter.unusedVariables false

structure NdKp (n₀ : Nat) (W W' : World) : Prop where
  bel : Below n₀ W W'
  nd : ∀ (b : Nat) (cs : Array Value), W.heap[b]? = some (.cells cs 24 (0, 0)) → W'.heap[b]? = some (.cells cs 24 (0, 0))
theorem NdKp.of {n₀ : Nat} {W W' : World} (h : Below W.heap.size W W') (hn : n₀ ≤ W.heap.size) : NdKp n₀ W W' := ⟨h.mono hn, fun b cs hb => (h.block b (lt_blk hb)).trans hb⟩
theorem NdKp.trans {n₀ : Nat} {A B C : World} (h : NdKp n₀ A B) (k : NdKp n₀ B C) : NdKp n₀ A C := ⟨h.bel.trans k.bel, fun b cs hb => k.nd b cs (h.nd b cs hb)⟩
theorem NdKp.sl {n₀ : Nat} {W W' : World} {S : Nat → Prop} {u : Value} {ks : List Nd} (h : NdKp n₀ W W') (hS : ∀ b, S b → b < n₀) (hs : SlIn W S u ks) : SlIn W' S u ks :=
  hs.alike ⟨h.bel.size, fun b hb _ => h.bel.block b (hS b hb)⟩ fun _ h _ => h

def Rounds (l n₀ N : Nat) (J Jx : List GoEv → World → Prop) : Prop := ∀ pre x W, EvOK x → J pre W → pre.length < N → YieldAt Fence.wide 0 Tryz.prog l #[evV x] W fun e W' =>
  (e = .returned (.bool true) ∧ J (pre ++ [x]) W' ∧ NdKp n₀ W W') ∨ (e = .returned (.bool false) ∧ Jx (pre ++ [x]) W')
def GoesY (l n₀ N : Nat) (J Jx : List GoEv → World → Prop) (x : Nd) : Prop := ∀ (S : Nat → Prop) (val : Value) (pre : List GoEv) (W : World), NdV W S val x → x.ok → (∀ b, S b → b < n₀) → n₀ ≤ W.heap.size → J pre W → pre.length + x.walk.length ≤ N →
  CallsIn Fence.wide 0 Tryz.prog 76 #[val, .func (.yield l) #[] #[]] W fun e W' =>
    (e = .returned (.bool true) ∧ J (pre ++ x.walk) W' ∧ NdKp n₀ W W') ∨ (e = .returned (.bool false) ∧ ∃ q, q <+: x.walk ∧ Jx (pre ++ q) W')

set_option maxRecDepth 1000000 in
set_option maxHeartbeats 8000000 in
theorem goes_in (l n₀ N : Nat) (J Jx : List GoEv → World → Prop) (hJ : ∀ pre W W', J pre W → Below W.heap.size W W' → J pre W') (hY : Rounds l n₀ N J Jx) (x : Nd) : GoesY l n₀ N J Jx x := by
  refine Nd.ind (C := GoesY l n₀ N J Jx) ?_ x
  intro k t v ks ih S val pre W hnv hok hS hn hj hlen
  obtain ⟨u, rfl, hs⟩ := hnv
  simp only [ndV, Nd.k, Nd.t, Nd.v, Nd.kids] at hs ⊢
  have HS := Lib.hid hs
  obtain ⟨ao, cap, rfl, hcap, hcm⟩ := hs.shape
  have HNV := Lib.hid (show ∀ W', Below W.heap.size W W' → NdV W' S (ndV (.mk k t v ks) (.slice ao ks.length cap)) (.mk k t v ks) from fun W' hb => .mk (hs.below hb))
  clear hs
  unfold maxLen at hcm
  have HIH := Lib.hid ih; have HSS := Lib.hid hS; have HJ := Lib.hid hJ; have HY := Lib.hid hY
  have HJ0 := Lib.hid hj; have HLEN := Lib.hid hlen
  rw [ok_mk] at hok
  have HOX := Lib.hid hok.1
  have HOKS := Lib.hid ((oks_iff _).1 hok.2)
  clear ih hS hJ hY hj hlen hok
  have HB1 := Lib.hid (show Below W.heap.size W (W.alloc (.cells #[.int .i64 k, .string t, .string v, .slice ao ks.length cap] 24)) from (Below.refl _ _).alloc (Nat.le_refl _) _)
  refine callsIn_of_wp Tryz.func76 rfl trivial ?_ rfl
  simp only [Tryz.ntmps76, List.size_toArray, List.length_cons, List.length_nil, Nat.reduceAdd, Nat.reduceSub, Array.replicate_succ, Array.replicate_zero, List.push_toArray, List.append_toArray, List.nil_append, List.cons_append]
  gi_wp2_with fail
  refine ⟨trivial, rfl, ?_⟩
  refine (callsIn_wide.2 (treeOdd_any (.mk k t v ks) _ S _ (HNV.out _ HB1.out))).mono ?_
  rintro e W2 ⟨rfl, hb⟩
  simp only [Nd.k, Nd.kids]
  have HB2 := Lib.hid (bthen HB1.out hb)
  have hbx := (hb.block W.heap.size (by simp)).trans (heap_alloc_new W _)
  have HBX := Lib.hid hbx
  clear hb
  obtain ⟨k0, k1, k2, k3, _, _, _, _, hbl⟩ := nd_cells hbx
  clear hbx
  have HJ2 := Lib.hid (HJ.out _ _ _ HJ0.out HB2.out)
  have HKP2 := Lib.hid (NdKp.of HB2.out hn)
  cases hod : oddK k ks.length
  · have HWK := Lib.hid (show (Nd.mk k t v ks).walk = ⟨k, t, v⟩ :: (Nd.walks ks ++ (if endK k = 0 then [] else [endEv k])) by rw [walk_mk, if_neg (by rw [hod]; simp)])
    clear hod
    have hl := HLEN.out
    rw [HWK.out, List.length_cons, List.length_append] at hl
    obtain ⟨fn, tmps, assign, body, hy, hR⟩ := HY.out pre ⟨k, t, v⟩ W2 HOX.out HJ2.out (by omega)
    dsimp only [evV] at hy
    have HR := Lib.hid hR
    clear hl hR
    gi_wp2_with fail
    refine ⟨rfl, ?_⟩
    refine HR.out.mono ?_
    rintro e W3 (⟨rfl, hj3, hk3⟩ | ⟨rfl, hjx⟩)
    · have HJ3 := Lib.hid hj3
      have HKP3 := Lib.hid (HKP2.out.trans hk3)
      have hbx3 := hk3.nd _ _ HBX.out
      have HBX3 := Lib.hid hbx3
      clear hj3 hk3 hy HR
      obtain ⟨k0', k1', k2', k3', _, _, _, _, hbl3⟩ := nd_cells hbx3
      have HN3 := Lib.hid (show n₀ ≤ W3.heap.size from Nat.le_trans hn HKP3.out.bel.size)
      clear hbx3 k0 k1 k2 k3 hbl
      gi_wp2_with fail
      gi_loopw [26] (fun p wr => ∃ i : Nat, i ≤ ks.length ∧ p = .int .i64 i ∧ Hid (J (pre ++ (⟨k, t, v⟩ :: Nd.walks (ks.take i))) wr) ∧ Hid (NdKp n₀ W3 wr))
        (fun p _ => ks.length - (intOf p).toNat)
      case atStart =>
        refine ⟨0, Nat.zero_le _, rfl, ?_, NdKp.of (Below.refl _ _) HN3.out⟩
        show J _ _
        rw [List.take_zero, walks_nil]; exact HJ3.out
      case round =>
        obtain ⟨i, hi, rfl, HJr, HKr⟩ := hrel
        have hbxr := HKr.out.nd _ _ HBX3.out
        obtain ⟨g0, g1, g2, g3, _, _, _, _, hblr⟩ := nd_cells hbxr
        have HKW := Lib.hid (HKP3.out.trans HKr.out)
        have hnr : n₀ ≤ wr.heap.size := Nat.le_trans HN3.out HKr.out.bel.size
        by_cases hlt : i < ks.length
        · obtain ⟨b, o, ux, hao, hbw', c0, c1, c2, c3, hsx, hSb⟩ := HS.out.at2 i hlt
          subst hao
          obtain ⟨ax, cx, rfl, _, _⟩ := hsx.shape
          have hX := HIH.out ks[i] (List.getElem_mem hlt)
          have hOx := HOKS.out ks[i] (List.getElem_mem hlt)
          have hbb := HSS.out b hSb
          have HTK := Lib.hid (show Nd.walks (ks.take (i + 1)) = Nd.walks (ks.take i) ++ ks[i].walk by rw [List.take_add_one, List.getElem?_eq_getElem hlt, walks_app]; show _ ++ Nd.walks [ks[i]] = _; rw [walks_one])
          have HSP := Lib.hid (show Nd.walks ks = Nd.walks (ks.take i) ++ (ks[i].walk ++ Nd.walks (ks.drop (i + 1))) by
            conv => lhs; rw [← List.take_append_drop i ks, walks_app, List.drop_eq_getElem_cons hlt, walks_cons])
          obtain ⟨x, hx⟩ : ∃ x, ks[i] = x := ⟨_, rfl⟩
          rw [hx] at c0 c1 c2 c3 hsx hX hOx HTK HSP
          have hBW := HKW.out.bel
          have d0 : wr.cell? ⟨b, o + i * 4, none⟩ = some (.int .i64 x.k) := by rw [hBW.cell (p := ⟨b, o + i * 4, none⟩) hbb]; exact c0
          have d1 : wr.cell? ⟨b, o + i * 4 + 1, none⟩ = some (.string x.t) := by rw [hBW.cell (p := ⟨b, o + i * 4 + 1, none⟩) hbb]; exact c1
          have d2 : wr.cell? ⟨b, o + i * 4 + 2, none⟩ = some (.string x.v) := by rw [hBW.cell (p := ⟨b, o + i * 4 + 2, none⟩) hbb]; exact c2
          have d3 : wr.cell? ⟨b, o + i * 4 + 3, none⟩ = some (.slice ax x.kids.length cx) := by rw [hBW.cell (p := ⟨b, o + i * 4 + 3, none⟩) hbb]; exact c3
          have hbr : b < wr.heap.size := by have := hBW.size; omega
          have hbB : Below wr.heap.size wr (wr.alloc (.cells #[.int .i64 x.k, .string x.t, .string x.v, .slice ax x.kids.length cx] 24)) := (Below.refl _ _).alloc (Nat.le_refl _) _
          have HNX := Lib.hid (show NdV (wr.alloc (.cells #[.int .i64 x.k, .string x.t, .string x.v, .slice ax x.kids.length cx] 24)) S (ndV x (.slice ax x.kids.length cx)) x from .mk ((HKW.out.sl HSS.out hsx).below hbB))
          have HJB := Lib.hid (HJ.out _ _ _ HJr.out hbB)
          have HKB := Lib.hid (NdKp.of hbB hnr)
          have hnb : n₀ ≤ (wr.alloc (.cells #[.int .i64 x.k, .string x.t, .string x.v, .slice ax x.kids.length cx] 24)).heap.size := by rw [World.size_alloc]; omega
          have HX := Lib.hid hX
          have HOKX := Lib.hid hOx
          have HL2 := Lib.hid (show (pre ++ (⟨k, t, v⟩ :: Nd.walks (ks.take i)) : List GoEv).length + x.walk.length ≤ N by
            have h1 := HLEN.out
            rw [HWK.out, HSP.out] at h1
            simp only [List.length_append, List.length_cons] at h1 ⊢
            omega)
          clear c0 c1 c2 c3 hsx hx hX hOx hbxr hSb hbB hBW
          gi_wp2_with fail
          refine ⟨trivial, rfl, ?_⟩
          refine (HX.out S _ _ _ HNX.out HOKX.out HSS.out hnb HJB.out HL2.out).mono ?_
          rintro e W5 (⟨rfl, hj5, hk5⟩ | ⟨rfl, q, hq, hjx⟩)
          · have HJ5 := Lib.hid (show J (pre ++ (⟨k, t, v⟩ :: Nd.walks (ks.take (i + 1)))) W5 by rw [HTK.out, ← List.cons_append, ← List.append_assoc]; exact hj5)
            have HK5 := Lib.hid (HKr.out.trans (HKB.out.trans hk5))
            clear hj5 hk5
            gi_wp2_with fail
            go_roundw
            case rel => exact ⟨i + 1, by omega, by go_num, HJ5.out, HK5.out⟩
            case measure => simp [intOf]; omega
          · have HQ := Lib.hid (show (⟨k, t, v⟩ :: Nd.walks (ks.take i)) ++ q <+: (Nd.mk k t v ks).walk by
              obtain ⟨r, hr⟩ := hq
              rw [HWK.out, HSP.out]
              exact ⟨r ++ Nd.walks (ks.drop (i + 1)) ++ (if endK k = 0 then [] else [endEv k]), by rw [← hr]; simp⟩)
            have HJX := Lib.hid hjx
            clear hjx hq
            gi_wp2_with fail
            go_ret
            exact .inr ⟨rfl, _, HQ.out, by rw [← List.append_assoc]; exact HJX.out⟩
        · obtain rfl : i = ks.length := by omega
          rw [List.take_length] at HJr
          clear hlt hbxr
          gi_wp2_with fail
          refine ⟨trivial, rfl, ?_⟩
          refine (callsIn_wide.2 (ends_any _ _)).mono ?_
          rintro e W6 ⟨rfl, hw⟩
          subst hw
          by_cases hE : endK k = 0
          · have hEb : (endK k == 0) = true := by simp [hE]
            have HW2 := Lib.hid (show (Nd.mk k t v ks).walk = ⟨k, t, v⟩ :: Nd.walks ks by rw [HWK.out, if_pos hE, List.append_nil])
            obtain ⟨E, hEE⟩ : ∃ E, endK k = E := ⟨_, rfl⟩
            rw [hEE] at hEb
            rw [hEE]
            clear hE hEE
            gi_wp2_with fail
            refine ⟨fun _ h => (by cases h), ?_⟩
            gi_wp2_with fail
            go_ret
            exact .inl ⟨rfl, by rw [HW2.out]; exact HJr.out, HKW.out⟩
          · have hEb : (endK k == 0) = false := by simp [hE]
            have HW2 := Lib.hid (show (Nd.mk k t v ks).walk = (⟨k, t, v⟩ :: Nd.walks ks) ++ [⟨endK k, ⟨#[]⟩, ⟨#[]⟩⟩] by rw [HWK.out, if_neg hE, List.cons_append]; rfl)
            obtain ⟨E, hEE⟩ : ∃ E, endK k = E := ⟨_, rfl⟩
            have HEO := Lib.hid (show EvOK ⟨endK k, ⟨#[]⟩, ⟨#[]⟩⟩ from endEv_ok k)
            rw [hEE] at hEb HW2 HEO
            rw [hEE]
            clear hE hEE
            have hl := HLEN.out
            rw [HW2.out, List.length_append, List.length_singleton] at hl
            obtain ⟨fn, tmps, assign, body, hy, hR⟩ := HY.out _ ⟨E, ⟨#[]⟩, ⟨#[]⟩⟩ W6 HEO.out HJr.out (by rw [List.length_append]; omega)
            dsimp only [evV] at hy
            have HR := Lib.hid hR
            clear hl hR
            gi_wp2_with fail
            refine ⟨rfl, ?_⟩
            refine HR.out.mono ?_
            rintro e W7 (⟨rfl, hj7, hk7⟩ | ⟨rfl, hjx⟩)
            · have HJ7 := Lib.hid hj7
              have HK7 := Lib.hid (HKW.out.trans hk7)
              clear hj7 hk7
              gi_wp2_with fail
              go_ret
              exact .inl ⟨rfl, by rw [HW2.out, ← List.append_assoc]; exact HJ7.out, HK7.out⟩
            · have HJX := Lib.hid hjx
              clear hjx
              gi_wp2_with fail
              go_ret
              exact .inr ⟨rfl, _, by rw [HW2.out]; exact List.prefix_refl _, by rw [← List.append_assoc]; exact HJX.out⟩
    · have HJX := Lib.hid hjx
      clear hjx
      gi_wp2_with fail
      go_ret
      exact .inr ⟨rfl, [⟨k, t, v⟩], by rw [HWK.out]; exact ⟨_, rfl⟩, HJX.out⟩
  · have HWK := Lib.hid (show (Nd.mk k t v ks).walk = [⟨0, emp, emp⟩] by rw [walk_mk, if_pos hod])
    clear hod
    have hl := HLEN.out
    rw [HWK.out, List.length_singleton] at hl
    obtain ⟨fn, tmps, assign, body, hy, hR⟩ := HY.out pre ⟨0, ⟨#[]⟩, ⟨#[]⟩⟩ W2 ⟨by show (Lit.int .i64 0).wf = true; decide, emp_size, emp_size⟩ HJ2.out (by omega)
    dsimp only [evV] at hy
    have HR := Lib.hid hR
    clear hl hR
    gi_wp2_with fail
    refine ⟨rfl, ?_⟩
    refine HR.out.mono ?_
    rintro e W3 (⟨rfl, hj3, hk3⟩ | ⟨rfl, hjx⟩)
    · have HJ3 := Lib.hid hj3
      have HKP3 := Lib.hid (HKP2.out.trans hk3)
      clear hj3 hk3
      gi_wp2_with fail
      go_ret
      exact .inl ⟨rfl, by rw [HWK.out]; exact HJ3.out, HKP3.out⟩
    · have HJX := Lib.hid hjx
      clear hjx
      gi_wp2_with fail
      go_ret
      exact .inr ⟨rfl, _, by rw [HWK.out]; exact List.prefix_refl _, HJX.out⟩

set_option maxRecDepth 100000 in
set_option maxHeartbeats 4000000 in
theorem walk1_in (l n₀ N Bn : Nat) (J Jx : List GoEv → World → Prop) (hJ : ∀ pre W W', J pre W → Below W.heap.size W W' → J pre W') (hY : Rounds l n₀ N J Jx) (x : Nd) (W : World) (S : Nat → Prop) (ua : Option Addr) (uc : Nat)
    (hb : W.heap[Bn]? = some (.cells #[.int .i64 x.k, .string x.t, .string x.v, .slice ua x.kids.length uc] 24 (0, 0))) (hs : SlIn W S (.slice ua x.kids.length uc) x.kids) (hok : x.ok) (hS : ∀ b, S b → b < n₀) (hn : n₀ ≤ W.heap.size) (h0 : J [] W) (hN : x.walk.length ≤ N) :
    CallsIn Fence.wide 0 Tryz.prog 75 #[.func (.yield l) #[] #[], .pointer (some ⟨Bn, 0, none⟩)] W fun e W' => (∃ v, e = .returned v) ∧ (J x.walk W' ∨ ∃ q, q <+: x.walk ∧ Jx q W') := by
  obtain ⟨k0, k1, k2, k3, _, _, _, _, hbl⟩ := nd_cells hb
  have HG := Lib.hid (goes_in l n₀ N J Jx hJ hY x S _ [] W (.mk hs) hok hS hn h0 (by simpa using hN))
  clear hb hs hS hY hJ h0 hok
  refine callsIn_of_wp Tryz.func75 rfl trivial ?_ rfl
  simp only [Tryz.ntmps75, List.size_toArray, List.length_cons, List.length_nil, Nat.reduceAdd, Nat.reduceSub, Array.replicate_succ, Array.replicate_zero, List.push_toArray, List.append_toArray, List.nil_append, List.cons_append]
  gi_wp2_with fail
  refine ⟨trivial, rfl, ?_⟩
  refine HG.out.mono ?_
  rintro e W1 (⟨rfl, hj, _⟩ | ⟨rfl, q, hq, hx⟩)
  · have HJ1 := Lib.hid hj; clear hj
    gi_wp2_with fail
    go_end0
    exact ⟨⟨_, rfl⟩, .inl (by simpa using HJ1.out)⟩
  · have HQ := Lib.hid hq; have HX := Lib.hid hx; clear hq hx
    gi_wp2_with fail
    go_end0
    exact ⟨⟨_, rfl⟩, .inr ⟨q, HQ.out, by simpa using HX.out⟩⟩
theorem treewalk_any (w : World) (k : Int) (t v : ByteArray) (ua : Option Addr) (n uc : Nat) :
    Calls Tryz.prog 49 #[.agg #[.int .i64 k, .string t, .string v, .slice ua n uc]] w fun e w' => e = .returned (.func (.func 75) #[] #[.pointer (some ⟨w.heap.size, 0, none⟩)]) ∧ w' = w.alloc (.cells #[.int .i64 k, .string t, .string v, .slice ua n uc] 24) := by
  go_enter Tryz.func49, Tryz.ntmps49
  go_wp2
  go_ret
  exact ⟨rfl, rfl⟩
end Go.Proofs.YtmniblcooficgaaGreatDoor

namespace Go.Proofs.YtmniblcooficgaaGreatDoor
open Go.RowKit Go.Shelf Ev5
set_option linter.unusedSimpArgs false
set_option linter.unusedVariables false

noncomputable def recOf (fn : FuncId) (tmps : Array Value) (ps : Array Tmp) (assign body : Code) (d : Nat) (st : LoopState) (pe : Option Code) : Loop :=
  { state := st, pending := pe, fn, tmps, params := ps, assign, body, defers := d }
theorem range_law {F : Fence} {n : Nat} {P : Program} {g : Operand} {ps : Array Tmp} {assign body : Code} {Q : Exit → Act → World → Prop} {a : Act} {w : World} {gf : Nat} {lb : Array Value} (hro : F.round = none) (hd : F.depth = none) (hF : ∀ f, F.fn f)
    (hg : a.eval g = .func (.func gf) #[] lb) (eg : ∀ args w, (callFunc gf args).run P w = .ok (.enter gf args) w)
    (h : ∀ (fn : FuncId) (ld : LoopState → Option Code → Loop), Hid (∀ st pe, ld st pe = recOf fn a.tmps ps assign body w.heap.size st pe) → CallsIn F (n - 1) P gf (#[.func (.yield (w.heap.size + 1)) #[] #[]] ++ lb) ((w.alloc (.deferred (some []))).alloc (.loop (ld .ready none)))
      (rangePost F n P (w.heap.size + 1) Q { a with defers := [{ target := .collected w.heap.size, args := #[] }] ++ a.defers })) :
    (Code.rangeFunc g ps assign body).wpIn F n P Q a w := by
  refine wpIn_rangeFunc ?_
  intro fn _
  have hc := h fn (recOf fn a.tmps ps assign body w.heap.size) (Lib.hid fun _ _ => rfl)
  have he := run_enterLoop_outer (P := P) (w := w) fn a.tmps ps assign body
  obtain ⟨W1, hW1⟩ : ∃ W1, (w.alloc (.deferred (some []))).alloc (.loop (recOf fn a.tmps ps assign body w.heap.size .ready none)) = W1 := ⟨_, rfl⟩
  have he1 : (Instr.enterLoop fn a.tmps ps assign body F.round).run P w = .ok (w.heap.size + 1, [{ target := .collected w.heap.size, args := #[] }]) W1 := by rw [← hW1, hro]; exact he
  rw [hW1] at hc
  clear he hW1 h
  refine ⟨w.heap.size + 1, [{ target := .collected w.heap.size, args := #[] }], W1, { target := .fn (.func gf) lb, args := #[.func (.yield (w.heap.size + 1)) #[] #[]] }, W1, gf, #[.func (.yield (w.heap.size + 1)) #[] #[]] ++ lb, W1, ?_, ?_, ?_, ?_, ?_, ?_⟩
  · exact he1
  · simp only [resolve, hg]
    simp [go_sem]
  · exact fun f' _ => hF f'
  · simp [invoke, go_sem, eg]
  · intro h; rw [hd] at h; cases h
  · exact hc
def endPost (l : Nat) (rec : LoopState → Option Code → Loop) (R : Ending → World → Prop) : Exit → Act → World → Prop
  | .normal, _, W => W.heap[l]? = some (.loop (rec .busy none)) ∧ R (.returned (.bool true)) (W.putObj l (.loop (rec .ready none)))
  | .ret, _, W => W.heap[l]? = some (.loop (rec .busy none)) ∧ R (.returned (.bool false)) (W.putObj l (.loop (rec .done (some .ret))))
  | _, _, _ => False
theorem round_law {F : Fence} {n : Nat} {P : Program} {fn : FuncId} {tmps : Array Value} {ps : Array Tmp} {assign body : Code} {d l : Nat} {args : Array Value} {W : World} {R : Ending → World → Prop} {ld : LoopState → Option Code → Loop} (hF : ∀ f, F.fn f)
    (hld : ∀ st pe, ld st pe = recOf fn tmps ps assign body d st pe) (hl : W.heap[l]? = some (.loop (ld .ready none))) (hs : args.size = ps.size)
    (h : assign.wpIn (F.inRound l) n P (Exit.then (fun a₁ W₁ => W₁.heap[l]? = some (.loop (ld .ready none)) ∧
      body.wpIn (F.inRound l) n P (endPost l ld R) a₁ (W₁.putObj l (.loop (ld .busy none)))) (fun _ _ _ => False))
      { tmps := (ps.zip args).foldl (fun t (p, v) => t.setIfInBounds p v) tmps, defers := [] } W) : YieldAt F n P l args W R := by
  obtain rfl : ld = recOf fn tmps ps assign body d := funext fun st => funext fun pe => hld st pe
  refine ⟨fn, _, assign, body, run_yield hl hs, roundIn_of_wpIn (hF fn) (wpIn_mono h ?_)⟩
  rintro e a W1 hq
  cases e with
  | normal =>
    obtain ⟨hl1, hb⟩ := hq
    refine ⟨_, run_beginRound hl1 rfl, wpIn_mono hb ?_⟩
    rintro e2 a2 W2 hq2
    cases e2 with
    | normal => exact ⟨_, _, run_endRound none hq2.1, hq2.2⟩
    | ret => exact ⟨_, _, run_endRound (some .ret) hq2.1, hq2.2⟩
    | exit id => exact hq2.elim
    | goto t => exact hq2.elim
    | panic c => exact hq2.elim
    | outgrown => exact hq2.elim
  | exit id => exact hq.elim
  | goto t => exact hq.elim
  | ret => exact hq.elim
  | panic c => exact hq.elim
  | outgrown => exact hq.elim

structure WkS (w0 W : World) (A bp : Nat) (ld : Loop) (rv : Value) (re : Int) (pre : List GoEv) (vo v : Value) (ps : List (Nat × Nat)) (s : St) : Prop where
  r1 : W.heap[A + 1]? = some (.cells #[rv] 44 (0, 0))
  r2 : W.heap[A + 2]? = some (.cells #[.int .i64 re] 28 (0, 0))
  pb : W.heap[bp]? = some (.cells #[.pointer (some ⟨A + 3, 0, none⟩)] 79 (0, 0))
  ob : W.heap[bp + 1]? = some (.cells #[vo] 44 (0, 0))
  dd : W.heap[bp + 3]? = some (.deferred (some []))
  ll : W.heap[bp + 4]? = some (.loop ld)
  own : EvOwn W (A + 3) vo pre
  chk : Chk W (A + 3) (A + 3) v ps s
  bel : Below A w0 W
  low : A + 3 ≤ bp
theorem WkS.below {w0 W W' : World} {A bp : Nat} {ld : Loop} {rv : Value} {re : Int} {pre : List GoEv} {vo v : Value} {ps : List (Nat × Nat)} {s : St} (h : WkS w0 W A bp ld rv re pre vo v ps s) (hb : Below W.heap.size W W') : WkS w0 W' A bp ld rv re pre vo v ps s := by
  have b : ∀ {k : Nat} {o : Obj}, W.heap[k]? = some o → W'.heap[k]? = some o := fun hk => (hb.block _ (lt_blk hk)).trans hk
  exact ⟨b h.r1, b h.r2, b h.pb, b h.ob, b h.dd, b h.ll, h.own.below hb, h.chk.below hb, h.bel.trans (hb.mono (by have := lt_blk h.r1; omega)), h.low⟩
theorem WkS.step {w0 W W' : World} {A bp : Nat} {ld : Loop} {rv : Value} {re : Int} {pre : List GoEv} {vo v v' : Value} {ps ps' : List (Nat × Nat)} {s s' : St} (h : WkS w0 W A bp ld rv re pre vo v ps s) (hm : Mv (A + 3) W W') (hc : Chk W' (A + 3) (A + 3) v' ps' s') : WkS w0 W' A bp ld rv re pre vo v' ps' s' := by
  exact ⟨hm.keep _ _ h.r1 (by simp [mine]), hm.keep _ _ h.r2 (by simp [mine]), hm.keep _ _ h.pb (by simp [mine]), hm.keep _ _ h.ob (by simp [mine]), hm.keep _ _ h.dd (by simp [mine]), hm.keep _ _ h.ll (by simp [mine]), h.own.keeps hm.keep, hc, h.bel.trans (hm.bel.mono (by omega)), h.low⟩
theorem EvOwn.aside {w w' : World} {base : Nat} {u : Value} {l : List GoEv} (ho : EvOwn w base u l) (hg : w.grownBy w' u.ownBlock) {k : Nat} {o : Obj} (hk : w.heap[k]? = some o) (hne : ∀ cs, o ≠ Obj.cells cs 85 (0, 0)) : w'.heap[k]? = some o := by
  rw [hg.block k (lt_blk hk) (fun e => ?_)]
  · exact hk
  · rcases ho.2 with ⟨rfl, _⟩ | ⟨g, cap, cur, rfl, _, hgg, _⟩
    · simp [Value.ownBlock] at e
    · simp [Value.ownBlock] at e; subst e; rw [hk] at hgg; injection hgg with hgg; exact hne _ hgg
theorem WkS.snoc {w0 W W3 : World} {A bp : Nat} {ld : Loop} {rv : Value} {re : Int} {pre : List GoEv} {vo v vo' : Value} {ps : List (Nat × Nat)} {s : St} (h : WkS w0 W A bp ld rv re pre vo v ps s) (x : GoEv)
    (hown : W3.ownsRow (A + 3) 85 3 vo' (pre.length + 1) (evRow pre ++ evL x)) (hg : (W.alloc (.cells #[.int .i64 x.k, .string x.t, .string x.v] 85)).grownBy W3 vo.ownBlock) :
    WkS w0 (W3.setCell ⟨bp + 1, 0, none⟩ vo') A bp ld rv re (pre ++ [x]) vo' v ps s := by
  have ha := h.below ((Below.refl W.heap.size W).alloc (Nat.le_refl _) (.cells #[.int .i64 x.k, .string x.t, .string x.v] 85))
  have b : ∀ {k : Nat} {o : Obj}, (W.alloc (.cells #[.int .i64 x.k, .string x.t, .string x.v] 85)).heap[k]? = some o → (∀ cs, o ≠ Obj.cells cs 85 (0, 0)) → W3.heap[k]? = some o := fun hk hne => ha.own.aside hg hk hne
  have hc3 := ha.chk.aside ha.own hg
  have hb3 := ha.bel.grown hg (by have := lt_blk ha.r1; omega) (fun q hq => by have := (ha.own.lt q hq).1; omega)
  have q1 := b ha.r1 (by simp)
  have q2 := b ha.r2 (by simp)
  have q3 := b ha.pb (by simp)
  have q4 := b ha.ob (by simp)
  have q5 := b ha.dd (by simp)
  have q6 := b ha.ll (by simp)
  have hlow := h.low
  have hs : W3.grownBy (W3.setCell ⟨bp + 1, 0, none⟩ vo') (some (bp + 1)) := grown_set W3 (bp + 1) 0 vo'
  have hne : vo'.ownBlock ≠ some (bp + 1) := by
    intro e
    rcases hown.2 with ⟨rfl, _⟩ | ⟨g, cap, cur, rfl, _, hgg, _⟩
    · simp [Value.ownBlock] at e
    · simp [Value.ownBlock] at e; subst e; rw [q4] at hgg; simp at hgg
  refine ⟨(set_other (by omega)).trans q1, (set_other (by omega)).trans q2, (set_other (by omega)).trans q3, heap_set1 q4, (set_other (by omega)).trans q5, (set_other (by omega)).trans q6, ?_, ?_, hb3.setCell (p := ⟨bp + 1, 0, none⟩) (by show A ≤ bp + 1; omega) _, hlow⟩
  · show World.ownsRow _ _ _ _ _ _ _
    rw [evRow_snoc, List.length_append]
    exact hown.kept hs (.inr hne)
  · refine ⟨hc3.low, ?_, ?_, ?_⟩
    · rw [set_other (fun e => by have := hc3.blk; rw [e, q4] at this; simp at this)]; exact hc3.blk
    · refine hc3.row.kept hs ?_
      rcases hc3.row.2 with ⟨rfl, _⟩ | ⟨g, cap, cur, rfl, _, hgg, _⟩
      · exact .inl rfl
      · exact .inr (by simp [Value.ownBlock]; rintro rfl; rw [q4] at hgg; simp at hgg)
    · refine hc3.opens.same fun k hk => set_other fun e => ?_
      subst e
      rcases List.mem_append.1 hk with hk | hk
      · obtain ⟨cs, hc⟩ := hc3.opens.fst _ hk; rw [q4] at hc; simp at hc
      · obtain ⟨es, cl, hc⟩ := hc3.opens.snd _ hk; rw [q4] at hc; cases hc
theorem WkS.turn {w0 W : World} {A bp : Nat} {ld ld' : Loop} {rv : Value} {re : Int} {pre : List GoEv} {vo v : Value} {ps : List (Nat × Nat)} {s : St} (h : WkS w0 W A bp ld rv re pre vo v ps s) : WkS w0 (W.putObj (bp + 4) (.loop ld')) A bp ld' rv re pre vo v ps s := by
  have b : ∀ {k : Nat} {o : Obj}, W.heap[k]? = some o → k ≠ bp + 4 → (W.putObj (bp + 4) (.loop ld')).heap[k]? = some o := fun hk hne => (World.putObj_heap_other hne).trans hk
  have hlow := h.low
  have hg := grownBy_putObj' W (bp + 4) (.loop ld')
  have hl := h.ll
  refine ⟨b h.r1 (by omega), b h.r2 (by omega), b h.pb (by omega), b h.ob (by omega), b h.dd (by omega), World.putObj_heap_same (lt_blk hl), ?_, ?_, h.bel.grown hg (by have := lt_blk h.r1; omega) (fun q hq => by injection hq; omega), hlow⟩
  · refine h.own.kept hg ?_
    rcases h.own.2 with ⟨rfl, _⟩ | ⟨g, cap, cur, rfl, _, hgg, _⟩
    · exact .inl rfl
    · exact .inr (by simp [Value.ownBlock]; rintro rfl; rw [hl] at hgg; cases hgg)
  · refine ⟨h.chk.low, b h.chk.blk (fun e => by have := h.chk.blk; rw [e, hl] at this; cases this), ?_, ?_⟩
    · refine h.chk.row.kept hg ?_
      rcases h.chk.row.2 with ⟨rfl, _⟩ | ⟨g, cap, cur, rfl, _, hgg, _⟩
      · exact .inl rfl
      · exact .inr (by simp [Value.ownBlock]; rintro rfl; rw [hl] at hgg; cases hgg)
    · refine h.chk.opens.same fun k hk => World.putObj_heap_other fun e => ?_
      subst e
      rcases List.mem_append.1 hk with hk | hk
      · obtain ⟨cs, hc⟩ := h.chk.opens.fst _ hk; rw [hl] at hc; cases hc
      · obtain ⟨es, cl, hc⟩ := h.chk.opens.snd _ hk; rw [hl] at hc; cases hc
structure WkX (w0 W : World) (A bp : Nat) (ld : Loop) (re : Int) : Prop where
  r1 : W.heap[A + 1]? = some (.cells #[.slice none 0 0] 44 (0, 0))
  r2 : W.heap[A + 2]? = some (.cells #[.int .i64 re] 28 (0, 0))
  dd : W.heap[bp + 3]? = some (.deferred (some []))
  ll : W.heap[bp + 4]? = some (.loop ld)
  bel : Below A w0 W
end Go.Proofs.YtmniblcooficgaaGreatDoor

namespace Go.Proofs.YtmniblcooficgaaGreatDoor
open Go.RowKit Go.Shelf Ev5
attribute [local go_sem] Oper.semAt_some
set_option linter.unusedSimpArgs false
set_option linter.unusedVariables false

def WalkPost (x : Nd) (w : World) (e : Ending) (w' : World) : Prop := ∃ lv : Value, e = .returned (.tuple #[lv, .int .i64 (wholeP RP (x.walk.map GoEv.ev)).2]) ∧ Below w.heap.size w w' ∧
  ((wholeP RP (x.walk.map GoEv.ev)).2 ≠ 0 → lv = .slice none 0 0) ∧ ((wholeP RP (x.walk.map GoEv.ev)).2 = 0 → EvOwn w' w.heap.size lv x.walk)

theorem five_allocs (w : World) (o1 o2 o3 o4 o5 : Obj) : ((((w.alloc o1).alloc o2).alloc o3).alloc o4).alloc o5 |>.heap[w.heap.size]? = some o1 ∧ (((((w.alloc o1).alloc o2).alloc o3).alloc o4).alloc o5).heap[w.heap.size + 1]? = some o2 ∧ (((((w.alloc o1).alloc o2).alloc o3).alloc o4).alloc o5).heap[w.heap.size + 2]? = some o3 ∧
    (((((w.alloc o1).alloc o2).alloc o3).alloc o4).alloc o5).heap[w.heap.size + 3]? = some o4 ∧ (((((w.alloc o1).alloc o2).alloc o3).alloc o4).alloc o5).heap[w.heap.size + 4]? = some o5 ∧ Below w.heap.size w (((((w.alloc o1).alloc o2).alloc o3).alloc o4).alloc o5) := by
  refine ⟨?_, ?_, ?_, ?_, ?_, ((((((Below.refl _ w).alloc (Nat.le_refl _) _).alloc (by simp) _).alloc (by simp; omega) _).alloc (by simp; omega) _).alloc (by simp; omega) _)⟩
  · rw [Below.heap_alloc _ o5 _ (by simp only [World.size_alloc]; omega), Below.heap_alloc _ o4 _ (by simp only [World.size_alloc]; omega), Below.heap_alloc _ o3 _ (by simp only [World.size_alloc]; omega), Below.heap_alloc _ o2 _ (by simp only [World.size_alloc]; omega)]; exact heap_alloc_new w o1
  · rw [Below.heap_alloc _ o5 _ (by simp only [World.size_alloc]; omega), Below.heap_alloc _ o4 _ (by simp only [World.size_alloc]; omega), Below.heap_alloc _ o3 _ (by simp only [World.size_alloc]; omega)]
    have := heap_alloc_new (w.alloc o1) o2
    simpa using this
  · rw [Below.heap_alloc _ o5 _ (by simp only [World.size_alloc]; omega), Below.heap_alloc _ o4 _ (by simp only [World.size_alloc]; omega)]
    have := heap_alloc_new ((w.alloc o1).alloc o2) o3
    simpa using this
  · rw [Below.heap_alloc _ o5 _ (by simp)]
    have := heap_alloc_new (((w.alloc o1).alloc o2).alloc o3) o4
    simpa using this
  · have := heap_alloc_new ((((w.alloc o1).alloc o2).alloc o3).alloc o4) o5
    simpa using this
def WkJ (w : World) (A bp : Nat) (ld : LoopState → Option Code → Loop) (pre : List GoEv) (W : World) : Prop := ∃ vo v' ps, WkS w W A bp (ld .ready none) (.slice none 0 0) 0 pre vo v' ps (runP RP St.new (pre.map GoEv.ev)).1 ∧ (runP RP St.new (pre.map GoEv.ev)).2.2 = 0
def WkJx (w : World) (A bp : Nat) (ld : LoopState → Option Code → Loop) (q : List GoEv) (W : World) : Prop := ∃ re, re ≠ 0 ∧ (∃ q' y, q = q' ++ [y] ∧ (runP RP St.new (q'.map GoEv.ev)).2.2 = 0 ∧ (stepP RP (runP RP St.new (q'.map GoEv.ev)).1 y.ev).2 = re) ∧ WkX w W A bp (ld .done (some .ret)) re
theorem chk_runP {l : List GoEv} : (runP RP St.new (l.map GoEv.ev)).1.opn.length ≤ 6 := runP_deep RP _ _ (by simp [St.new])

set_option maxRecDepth 1000000 in
set_option maxHeartbeats 8000000 in
theorem treeWalk_any (x : Nd) (w : World) (S : Nat → Prop) (val : Value) (hE : EnvU w) (hv : NdV w S val x) (hS : ∀ b, S b → b < w.heap.size) (hok : x.ok) (hN : x.walk.length ≤ 100000) :
    Calls Tryz.prog 26 #[val] w (WalkPost x w) := by
  obtain ⟨k, t, v, ks⟩ := x
  obtain ⟨u, rfl, hs⟩ := hv
  simp only [ndV, Nd.k, Nd.t, Nd.v, Nd.kids] at hs ⊢
  obtain ⟨ao, cap, rfl, hcap, hcm⟩ := hs.shape
  have HS := Lib.hid hs; have HE := Lib.hid hE; have HSS := Lib.hid hS; have HOK := Lib.hid hok; have HN := Lib.hid hN
  clear hs hE hS hok hN
  refine (callsIn_wide (n := 0)).1 ?_
  refine callsIn_of_wp_marks Tryz.func26 rfl trivial ?_ rfl
  simp only [Tryz.ntmps26, List.size_toArray, List.length_cons, List.length_nil, Nat.reduceAdd, Nat.reduceSub, Array.replicate_succ, Array.replicate_zero, List.push_toArray, List.append_toArray, List.nil_append, List.cons_append]
  gi_wp2_with fail
  refine ⟨trivial, rfl, ?_⟩
  refine (callsIn_wide.2 (new_any _)).mono ?_
  rintro e w1 ⟨rfl, hb, hc⟩
  have e3 : (((w.alloc (.cells #[.int .i64 k, .string t, .string v, .slice ao ks.length cap] 24)).alloc (.cells #[.slice none 0 0] 44)).alloc (.cells #[.int .i64 0] 28)).heap.size = w.heap.size + 3 := by simp
  rw [e3] at hb hc ⊢
  have hp : Below w.heap.size w (((w.alloc (.cells #[.int .i64 k, .string t, .string v, .slice ao ks.length cap] 24)).alloc (.cells #[.slice none 0 0] 44)).alloc (.cells #[.int .i64 0] 28)) := (((Below.refl _ _).alloc (Nat.le_refl _) _).alloc (by simp) _).alloc (by simp; omega) _
  have f0 : (((w.alloc (.cells #[.int .i64 k, .string t, .string v, .slice ao ks.length cap] 24)).alloc (.cells #[.slice none 0 0] 44)).alloc (.cells #[.int .i64 0] 28)).heap[w.heap.size]? = some (.cells #[.int .i64 k, .string t, .string v, .slice ao ks.length cap] 24 (0, 0)) := by
    rw [Below.heap_alloc _ _ _ (by simp; omega)]; exact two_first _ _ _
  have f1 : (((w.alloc (.cells #[.int .i64 k, .string t, .string v, .slice ao ks.length cap] 24)).alloc (.cells #[.slice none 0 0] 44)).alloc (.cells #[.int .i64 0] 28)).heap[w.heap.size + 1]? = some (.cells #[.slice none 0 0] 44 (0, 0)) := by
    rw [Below.heap_alloc _ _ _ (by simp)]; exact two_last _ _ _
  have f2 : (((w.alloc (.cells #[.int .i64 k, .string t, .string v, .slice ao ks.length cap] 24)).alloc (.cells #[.slice none 0 0] 44)).alloc (.cells #[.int .i64 0] 28)).heap[w.heap.size + 2]? = some (.cells #[.int .i64 0] 28 (0, 0)) := by
    have := heap_alloc_new ((w.alloc (.cells #[.int .i64 k, .string t, .string v, .slice ao ks.length cap] 24)).alloc (.cells #[.slice none 0 0] 44)) (.cells #[.int .i64 0] 28)
    simpa using this
  have hb1 : Below w.heap.size w w1 := hp.trans (hb.mono (by omega))
  have g0 := (hb.block _ (by omega)).trans f0
  have g1 := (hb.block _ (by omega)).trans f1
  have g2 := (hb.block _ (by omega)).trans f2
  have HB1 := Lib.hid hb1; have HC1 := Lib.hid hc; have HG1 := Lib.hid (And.intro g1 g2)
  obtain ⟨k0, k1, k2, k3, _, _, _, _, hbl⟩ := nd_cells g0
  clear e3 hp f0 f1 f2 hb hb1 hc g0 g1 g2
  gi_wp2_with fail
  refine ⟨trivial, rfl, ?_⟩
  refine (callsIn_wide.2 (treewalk_any _ k t v ao _ cap)).mono ?_
  rintro e w2 ⟨rfl, hw⟩
  subst hw
  gi_wp2_with fail
  refine range_law rfl rfl (fun _ => trivial) rfl (enters_of Tryz.func75 (by kernel_rfl) rfl) ?_
  intro fn ld HLD
  have e3 : (((w1.alloc (.cells #[.pointer (some ⟨w.heap.size + 3, 0, none⟩)] 79)).alloc (.cells #[.slice none 0 0] 44)).alloc (.cells #[.int .i64 k, .string t, .string v, .slice ao ks.length cap] 24)).heap.size = w1.heap.size + 3 := by simp
  rw [e3] at HLD ⊢
  have HF := Lib.hid (five_allocs w1 (.cells #[.pointer (some ⟨w.heap.size + 3, 0, none⟩)] 79) (.cells #[.slice none 0 0] 44) (.cells #[.int .i64 k, .string t, .string v, .slice ao ks.length cap] 24) (.deferred (some [])) (.loop (ld .ready none)))
  obtain ⟨W5, hW5⟩ : ∃ W5, (((((w1.alloc (.cells #[.pointer (some ⟨w.heap.size + 3, 0, none⟩)] 79)).alloc (.cells #[.slice none 0 0] 44)).alloc (.cells #[.int .i64 k, .string t, .string v, .slice ao ks.length cap] 24)).alloc (.deferred (some []))).alloc (.loop (ld .ready none))) = W5 := ⟨_, rfl⟩
  rw [hW5] at HF
  rw [hW5]
  obtain ⟨bp, hbp⟩ : ∃ bp, w1.heap.size = bp := ⟨_, rfl⟩
  rw [hbp] at HF HLD ⊢
  have HLOW := Lib.hid (show w.heap.size + 3 ≤ bp by have := lt_blk HG1.out.2; omega)
  have hB5 : Below w1.heap.size w1 W5 := by rw [hbp]; exact HF.out.2.2.2.2.2
  have HW5 := Lib.hid (show WkS w W5 w.heap.size bp (ld .ready none) (.slice none 0 0) 0 [] (.slice none 0 0) (.slice none 0 0) [] St.new from
    ⟨(hB5.block _ (lt_blk HG1.out.1)).trans HG1.out.1, (hB5.block _ (lt_blk HG1.out.2)).trans HG1.out.2, HF.out.1, HF.out.2.1, HF.out.2.2.2.1, HF.out.2.2.2.2.1, World.ownsRow_nil _ _ _ _, HC1.out.below hB5, bthen HB1.out hB5, HLOW.out⟩)
  have HS5 := Lib.hid (HS.out.below (bthen HB1.out hB5))
  have HN5 := Lib.hid (bthen HB1.out hB5).size
  clear e3 hW5 hbp hB5 k0 k1 k2 k3 hbl HC1 HG1
  refine CallsIn.mono (R := fun e W' => (∃ v, e = .returned v) ∧ (WkJ w w.heap.size bp ld (Nd.mk k t v ks).walk W' ∨ ∃ q, q <+: (Nd.mk k t v ks).walk ∧ WkJx w w.heap.size bp ld q W'))
    (callsIn_wide.2 (callsIn_wide.1 (walk1_in (bp + 4) w.heap.size 100000 (bp + 2) (WkJ w w.heap.size bp ld) (WkJx w w.heap.size bp ld)
      (fun pre W W' ⟨vo, v', ps, h, hr⟩ hb => ⟨vo, v', ps, h.below hb, hr⟩) ?hY (.mk k t v ks) W5 S ao cap HF.out.2.2.1 HS5.out HOK.out HSS.out HN5.out ⟨_, _, _, HW5.out, rfl⟩ HN.out))) ?_
  case hY =>
    rintro pre y W hoky ⟨vo, v', ps, hW, hrun⟩ hlen
    have HW := Lib.hid hW; have HRUN := Lib.hid hrun; have HOY := Lib.hid hoky
    clear hW hrun hoky HF HW5 HS5 HN5
    refine round_law (fun _ => trivial) HLD.out HW.out.ll rfl ?_
    unfold evV
    obtain ⟨i0, hi, hz0, hz1, hz2⟩ := info_parts infoE
    have HI := Lib.hid hi; clear hi
    gi_wp2_with fail
    have hBa : Below W.heap.size W (W.alloc (.cells #[.int .i64 y.k, .string y.t, .string y.v] 85)) := (Below.refl _ _).alloc (Nat.le_refl _) _
    have hWa := HW.out.below hBa
    refine ⟨hWa.ll, ?_⟩
    have hea := heap_alloc_new W (.cells #[.int .i64 y.k, .string y.t, .string y.v] 85)
    have hWl := lt_blk HW.out.ll
    have hWb := hWa.turn (ld' := ld .busy none)
    have heb : ((W.alloc (.cells #[.int .i64 y.k, .string y.t, .string y.v] 85)).putObj (bp + 4) (.loop (ld .busy none))).heap[W.heap.size]? = some (.cells (evC y) 85 (0, 0)) := (World.putObj_heap_other (by omega)).trans hea
    have hKb : NdKp w.heap.size W ((W.alloc (.cells #[.int .i64 y.k, .string y.t, .string y.v] 85)).putObj (bp + 4) (.loop (ld .busy none))) := by
      have hA := HW.out.bel.size
      refine ⟨(hBa.mono hA).trans ((Below.refl _ _).grown (grownBy_putObj' _ _ _) (by simp; omega) (fun q hq => by injection hq; have := HLOW.out; omega)), fun b cs hb => ?_⟩
      have h1 := (hBa.block b (lt_blk hb)).trans hb
      refine (World.putObj_heap_other fun e => ?_).trans h1
      subst e; rw [hWa.ll] at h1; cases h1
    obtain ⟨Wb, hWbe⟩ : ∃ Wb, ((W.alloc (.cells #[.int .i64 y.k, .string y.t, .string y.v] 85)).putObj (bp + 4) (.loop (ld .busy none))) = Wb := ⟨_, rfl⟩
    rw [hWbe] at hWb heb hKb
    rw [hWbe]
    have HWB := Lib.hid hWb; have HKB := Lib.hid hKb; have HEB := Lib.hid heb
    have hp0 := (blk_cell hWb.pb 0 (by simp)).1
    simp only [List.getElem_toArray, List.getElem_cons_zero] at hp0
    have hpl := lt_blk hWb.pb
    obtain ⟨y0, y1, y2, y3⟩ := ev_cells heb
    obtain ⟨bx, hbx⟩ : ∃ bx, W.heap.size = bx := ⟨_, rfl⟩
    rw [hbx] at y0 y1 y2 y3 HEB
    rw [hbx]
    have HXL := Lib.hid (show bp + 4 < bx by omega)
    clear hBa hWa hea hWb heb hKb hWbe hWl hbx
    gi_wp2_with fail
    refine ⟨trivial, rfl, ?_⟩
    refine (CallsIn.inRound _ (callsIn_wide.2 (go_step Wb (HE.out.below HWB.out.bel) HWB.out.chk chk_runP y HOY.out))).mono ?_
    rintro e W2 ⟨rfl, ⟨v2, ps2, hc2⟩, hm⟩
    have HW2 := Lib.hid (HWB.out.step hm hc2)
    have HE2 := Lib.hid (hm.keep _ _ HEB.out (by simp [mine]))
    have HK2 := Lib.hid (show NdKp w.heap.size W W2 from HKB.out.trans ⟨hm.bel.mono (by omega), fun b cs hb => hm.keep _ _ hb (by simp [mine])⟩)
    clear hm hc2 y0 y1 y2 y3 hp0 hpl
    obtain ⟨y0, y1, y2, y3⟩ := ev_cells HE2.out
    by_cases hz : (stepP RP (runP RP St.new (pre.map GoEv.ev)).1 y.ev).2 = 0
    · have HZ := Lib.hid hz
      rw [hz]
      clear hz
      obtain ⟨ho0, ho1⟩ := blk_cell HW2.out.ob 0 (by simp)
      simp only [List.getElem_toArray, List.getElem_cons_zero] at ho0
      have hol := lt_blk HW2.out.ob
      have HO := Lib.hid HW2.out.own
      obtain ⟨va, vc, hvs⟩ : ∃ a c, vo = .slice a pre.length c := by
        rcases HW2.out.own.2 with ⟨e3, h0⟩ | ⟨g, cap', cur, e3, _⟩
        · exact ⟨none, 0, by rw [e3, h0]⟩
        · exact ⟨_, _, e3⟩
      subst hvs
      have n1 : pre.length + 1 ≤ maxLen := by unfold maxLen; omega
      have n2 : (pre.length + 1) * 40 ≤ 140737488355328 := by omega
      have HRN := Lib.hid (runP_snoc RP (pre.map GoEv.ev) y.ev HRUN.out)
      gi_wp2_with (first
        | (gi_at_builtin; refine wpListIn_append_own _ (by rfl) _ _ _ (by rfl) (w.heap.size + 3) 85 i0 _ 3 40 Tryz.underlying44 HI.out hz0 hz1 hz2 rfl (by omega) _ pre.length _ (by rfl) (HO.out.alloc _) ⟨W2.heap.size, 0, none⟩ 1 1 (evL y) (by rfl) (by rfl) ev_news ev_one n1 n2 (by have := HLOW.out; simp; omega) ?_
           intro vo' W3 hown3 hgrow3 _
           obtain ⟨g', cap', rfl⟩ := ownsRow_succ hown3
           obtain ⟨ho0, ho1⟩ := blk_cell (EvOwn.aside (EvOwn.below HO.out ((Below.refl W2.heap.size W2).alloc (Nat.le_refl _) (.cells #[.int .i64 y.k, .string y.t, .string y.v] 85))) hgrow3 ((((Below.refl W2.heap.size W2).alloc (Nat.le_refl _) (.cells #[.int .i64 y.k, .string y.t, .string y.v] 85)).block _ (lt_blk HW2.out.ob)).trans HW2.out.ob) (by simp)) 0 (by simp))
        | fail)
      have hN2 := HW2.out.snoc y hown3 hgrow3
      have hA := HW2.out.bel.size
      have hEa := EvOwn.below HO.out ((Below.refl W2.heap.size W2).alloc (Nat.le_refl _) (.cells #[.int .i64 y.k, .string y.t, .string y.v] 85))
      have hB3 : Below w.heap.size W2 W3 := (((Below.refl W2.heap.size W2).alloc (Nat.le_refl _) (.cells #[.int .i64 y.k, .string y.t, .string y.v] 85)).mono hA).trans
        ((Below.refl _ _).grown hgrow3 (by simp; omega) (fun q hq => by have := (hEa.lies q hq).1; omega))
      have hq4 := hEa.aside hgrow3 ((((Below.refl W2.heap.size W2).alloc (Nat.le_refl _) (.cells #[.int .i64 y.k, .string y.t, .string y.v] 85)).block _ (lt_blk HW2.out.ob)).trans HW2.out.ob) (by simp)
      have hKN : NdKp w.heap.size W2 (W3.setCell ⟨bp + 1, 0, none⟩ (.slice (some ⟨g', 0, none⟩) (pre.length + 1) cap')) := by
        refine ⟨hB3.setCell (p := ⟨bp + 1, 0, none⟩) (by show w.heap.size ≤ bp + 1; have := HLOW.out; omega) _, fun b cs hb => ?_⟩
        have h1 := (((Below.refl W2.heap.size W2).alloc (Nat.le_refl _) (.cells #[.int .i64 y.k, .string y.t, .string y.v] 85)).block _ (lt_blk hb)).trans hb
        have h2 := hEa.aside hgrow3 h1 (by simp)
        exact (set_other (fun e => by subst e; rw [hq4] at h2; simp at h2)).trans h2
      have hrun2 : runP RP St.new ((pre ++ [y]).map GoEv.ev) = ((stepP RP (runP RP St.new (pre.map GoEv.ev)).1 y.ev).1, (pre.map GoEv.ev).length + 1, 0) := by
        rw [List.map_append]; exact HRN.out.trans (if_pos HZ.out)
      refine ⟨hN2.ll, .inl ⟨rfl, ⟨.slice (some ⟨g', 0, none⟩) (pre.length + 1) cap', v2, ps2, ?_, by rw [hrun2]⟩, (HK2.out.trans hKN).trans ⟨(Below.refl _ _).grown (grownBy_putObj' _ _ _) hN2.bel.size (fun q hq => by injection hq; have := HLOW.out; omega), fun b cs hb => (World.putObj_heap_other fun e => by subst e; rw [hN2.ll] at hb; cases hb).trans hb⟩⟩⟩
      rw [hrun2]
      exact hN2.turn
    · obtain ⟨E, hE⟩ : ∃ E, (stepP RP (runP RP St.new (pre.map GoEv.ev)).1 y.ev).2 = E := ⟨_, rfl⟩
      have HEQ := Lib.hid hE
      have hz' : E ≠ 0 := by rw [← hE]; exact hz
      have hzb : (E != 0) = true := by simp [hz']
      have HZ := Lib.hid hz'
      rw [hE]
      clear hz hE hz'
      obtain ⟨r0, r1⟩ := blk_cell HW2.out.r1 0 (by simp)
      obtain ⟨s0, s1⟩ := blk_cell HW2.out.r2 0 (by simp)
      have hrl := lt_blk HW2.out.r1
      have hsl := lt_blk HW2.out.r2
      gi_wp2_with fail
      have hlo := HLOW.out
      have hA := HW2.out.bel.size
      have x1 : ((W2.setCell ⟨w.heap.size + 1, 0, none⟩ (.slice none 0 0)).setCell ⟨w.heap.size + 1 + 1, 0, none⟩ (.int .i64 E)).heap[w.heap.size + 1]? = some (.cells #[.slice none 0 0] 44 (0, 0)) := by
        rw [set_other (by omega)]; exact heap_set1 HW2.out.r1
      have x2 : ((W2.setCell ⟨w.heap.size + 1, 0, none⟩ (.slice none 0 0)).setCell ⟨w.heap.size + 1 + 1, 0, none⟩ (.int .i64 E)).heap[w.heap.size + 2]? = some (.cells #[.int .i64 E] 28 (0, 0)) :=
        heap_set1 (by rw [set_other (by omega)]; exact HW2.out.r2)
      have x3 : ∀ b, bp ≤ b → ((W2.setCell ⟨w.heap.size + 1, 0, none⟩ (.slice none 0 0)).setCell ⟨w.heap.size + 1 + 1, 0, none⟩ (.int .i64 E)).heap[b]? = W2.heap[b]? := fun b hb => by
        rw [set_other (by omega), set_other (by omega)]
      have x4 : Below w.heap.size w ((W2.setCell ⟨w.heap.size + 1, 0, none⟩ (.slice none 0 0)).setCell ⟨w.heap.size + 1 + 1, 0, none⟩ (.int .i64 E)) :=
        (HW2.out.bel.setCell (p := ⟨w.heap.size + 1, 0, none⟩) (by show w.heap.size ≤ w.heap.size + 1; omega) _).setCell (p := ⟨w.heap.size + 1 + 1, 0, none⟩) (by show w.heap.size ≤ w.heap.size + 1 + 1; omega) _
      obtain ⟨W4, hW4⟩ : ∃ W4, ((W2.setCell ⟨w.heap.size + 1, 0, none⟩ (.slice none 0 0)).setCell ⟨w.heap.size + 1 + 1, 0, none⟩ (.int .i64 E)) = W4 := ⟨_, rfl⟩
      rw [hW4] at x1 x2 x3 x4
      rw [hW4]
      have xl := (x3 (bp + 4) (by omega)).trans HW2.out.ll
      refine ⟨xl, .inr ⟨rfl, E, HZ.out, ⟨pre, y, rfl, HRUN.out, HEQ.out⟩, ⟨(World.putObj_heap_other (by omega)).trans x1, (World.putObj_heap_other (by omega)).trans x2, (World.putObj_heap_other (by omega)).trans ((x3 (bp + 3) (by omega)).trans HW2.out.dd), World.putObj_heap_same (lt_blk xl), x4.grown (grownBy_putObj' _ _ _) x4.size (fun q hq => by injection hq; omega)⟩⟩⟩
  rintro e W' ⟨⟨rv, rfl⟩, (⟨vo, v', ps, hW, hrun⟩ | ⟨q, hq, re, hre, ⟨q', y, rfl, hq1, hq2⟩, hX⟩)⟩
  · have hst : (ld .ready none).state ≠ .busy := by rw [HLD.out]; show LoopState.ready ≠ .busy; simp
    have hpe : (ld .ready none).pending = none := by rw [HLD.out]; rfl
    have hend := run_endLoop (P := Tryz.prog) hW.ll hst
    have hWt := hW.turn (ld' := { ld .ready none with state := .exhausted })
    obtain ⟨W6, hW6⟩ : ∃ W6, (W'.putObj (bp + 4) (.loop { ld .ready none with state := .exhausted })) = W6 := ⟨_, rfl⟩
    rw [hW6] at hend hWt
    rw [hpe] at hend
    generalize { ld .ready none with state := .exhausted } = ldx at hWt
    have HW := Lib.hid hWt
    have HRUN := Lib.hid hrun
    refine ⟨none, W6, hend, ?_⟩
    clear hW hrun hst hpe hend hW6 HF HW5 HS5 HN5 hWt
    dsimp only
    obtain ⟨p0, _⟩ := blk_cell HW.out.pb 0 (by simp)
    obtain ⟨o0, _⟩ := blk_cell HW.out.ob 0 (by simp)
    obtain ⟨r0, r1⟩ := blk_cell HW.out.r1 0 (by simp)
    obtain ⟨s0, s1⟩ := blk_cell HW.out.r2 0 (by simp)
    simp only [List.getElem_toArray, List.getElem_cons_zero] at p0 o0
    have hrl := lt_blk HW.out.r1
    have hsl := lt_blk HW.out.r2
    have hpl := lt_blk HW.out.pb
    have hol := lt_blk HW.out.ob
    obtain ⟨va, vc, hvs⟩ : ∃ a c, vo = .slice a (Nd.mk k t v ks).walk.length c := by
      rcases HW.out.own.2 with ⟨e3, h0⟩ | ⟨g, cap', cur, e3, _⟩
      · exact ⟨none, 0, by rw [e3, h0]⟩
      · exact ⟨_, _, e3⟩
    subst hvs
    gi_wp2_with fail
    refine ⟨trivial, rfl, ?_⟩
    refine (callsIn_wide.2 (done_any _ HW.out.chk)).mono ?_
    rintro e W7 ⟨rfl, hw⟩
    subst hw
    have HWH := Lib.hid (show wholeP RP ((Nd.mk k t v ks).walk.map GoEv.ev) = _ from runP_end RP _ HRUN.out)
    cases hd : (runP RP St.new ((Nd.mk k t v ks).walk.map GoEv.ev)).1.done
    · rw [hd] at HWH
      clear hd
      gi_wp2_with fail
      have hlo := HW.out.low
      obtain ⟨W8, hW8⟩ : ∃ W8, ((W7.setCell ⟨w.heap.size + 1, 0, none⟩ (.slice none 0 0)).setCell ⟨w.heap.size + 1 + 1, 0, none⟩ (.int .i64 19)) = W8 := ⟨_, rfl⟩
      have y1 : W8.heap[w.heap.size + 1]? = some (.cells #[.slice none 0 0] 44 (0, 0)) := by
        rw [← hW8, set_other (by omega)]; exact heap_set1 HW.out.r1
      have y2 : W8.heap[w.heap.size + 2]? = some (.cells #[.int .i64 19] 28 (0, 0)) := by
        rw [← hW8]; exact heap_set1 (by rw [set_other (by omega)]; exact HW.out.r2)
      have y3 : ∀ b, w.heap.size + 3 ≤ b → W8.heap[b]? = W7.heap[b]? := fun b hb => by
        rw [← hW8, set_other (by omega), set_other (by omega)]
      have y4 : Below w.heap.size w W8 := by
        rw [← hW8]
        exact (HW.out.bel.setCell (p := ⟨w.heap.size + 1, 0, none⟩) (by show w.heap.size ≤ w.heap.size + 1; omega) _).setCell (p := ⟨w.heap.size + 1 + 1, 0, none⟩) (by show w.heap.size ≤ w.heap.size + 1 + 1; omega) _
      rw [hW8]
      have yk := (y3 (bp + 3) (by omega)).trans HW.out.dd
      have z1 := (blk_cell ((World.putObj_heap_other (o := .deferred none) (show w.heap.size + 1 ≠ bp + 3 by omega)).trans y1) 0 (by simp)).1
      have z2 := (blk_cell ((World.putObj_heap_other (o := .deferred none) (show w.heap.size + 2 ≠ bp + 3 by omega)).trans y2) 0 (by simp)).1
      simp only [List.getElem_toArray, List.getElem_cons_zero] at z1 z2
      have y5 : Below w.heap.size w (W8.putObj (bp + 3) (.deferred none)) := y4.grown (grownBy_putObj' _ _ _) y4.size (fun q hq => by injection hq; omega)
      refine ⟨by simp, .inl ⟨_, _, rfl, run_takeDeferred yk, ?_⟩⟩
      refine ⟨.tuple #[.slice none 0 0, .int .i64 19], by simp [results, Tryz.f26, go_sem, z1, z2], .slice none 0 0, ?_⟩
      exact ⟨by rw [HWH.out]; simp, y5, fun _ => rfl, fun h => by rw [HWH.out] at h; simp at h⟩
    · rw [hd] at HWH
      clear hd
      gi_wp2_with fail
      have hlo := HW.out.low
      obtain ⟨W8, hW8⟩ : ∃ W8, ((W7.setCell ⟨w.heap.size + 1, 0, none⟩ (.slice va (Nd.mk k t v ks).walk.length vc)).setCell ⟨w.heap.size + 1 + 1, 0, none⟩ (.int .i64 0)) = W8 := ⟨_, rfl⟩
      have y1 : W8.heap[w.heap.size + 1]? = some (.cells #[.slice va (Nd.mk k t v ks).walk.length vc] 44 (0, 0)) := by
        rw [← hW8, set_other (by omega)]; exact heap_set1 HW.out.r1
      have y2 : W8.heap[w.heap.size + 2]? = some (.cells #[.int .i64 0] 28 (0, 0)) := by
        rw [← hW8]; exact heap_set1 (by rw [set_other (by omega)]; exact HW.out.r2)
      have y3 : ∀ b, w.heap.size + 3 ≤ b → W8.heap[b]? = W7.heap[b]? := fun b hb => by
        rw [← hW8, set_other (by omega), set_other (by omega)]
      have y4 : Below w.heap.size w W8 := by
        rw [← hW8]
        exact (HW.out.bel.setCell (p := ⟨w.heap.size + 1, 0, none⟩) (by show w.heap.size ≤ w.heap.size + 1; omega) _).setCell (p := ⟨w.heap.size + 1 + 1, 0, none⟩) (by show w.heap.size ≤ w.heap.size + 1 + 1; omega) _
      rw [hW8]
      have yk := (y3 (bp + 3) (by omega)).trans HW.out.dd
      have z1 := (blk_cell ((World.putObj_heap_other (o := .deferred none) (show w.heap.size + 1 ≠ bp + 3 by omega)).trans y1) 0 (by simp)).1
      have z2 := (blk_cell ((World.putObj_heap_other (o := .deferred none) (show w.heap.size + 2 ≠ bp + 3 by omega)).trans y2) 0 (by simp)).1
      simp only [List.getElem_toArray, List.getElem_cons_zero] at z1 z2
      have y5 : Below w.heap.size w (W8.putObj (bp + 3) (.deferred none)) := y4.grown (grownBy_putObj' _ _ _) y4.size (fun q hq => by injection hq; omega)
      refine ⟨by simp, .inl ⟨_, _, rfl, run_takeDeferred yk, ?_⟩⟩
      refine ⟨.tuple #[.slice va (Nd.mk k t v ks).walk.length vc, .int .i64 0], by simp [results, Tryz.f26, go_sem, z1, z2], .slice va (Nd.mk k t v ks).walk.length vc, ?_⟩
      refine ⟨by rw [HWH.out]; simp, y5, fun h => (h (by rw [HWH.out]; simp)).elim, fun _ => ?_⟩
      have hown := HW.out.own
      have hs : ∀ b, w.heap.size + 3 ≤ b → b ≠ bp + 3 → (W8.putObj (bp + 3) (.deferred none)).heap[b]? = W7.heap[b]? := fun b hb hne => (World.putObj_heap_other hne).trans (y3 b hb)
      refine ⟨hown.1, ?_⟩
      rcases hown.2 with h0 | ⟨g, cap', cur, he, hb, hg, rest⟩
      · exact .inl h0
      · exact .inr ⟨g, cap', cur, he, by omega, (hs g hb (fun e => by subst e; rw [HW.out.dd] at hg; cases hg)).trans hg, rest⟩
  · have hst : (ld .done (some .ret)).state ≠ .busy := by rw [HLD.out]; show LoopState.done ≠ .busy; simp
    have hpe : (ld .done (some .ret)).pending = some .ret := by rw [HLD.out]; rfl
    have hend := run_endLoop (P := Tryz.prog) hX.ll hst
    have ho : ∀ b, b ≠ bp + 4 → (W'.putObj (bp + 4) (.loop { ld .done (some .ret) with state := .exhausted })).heap[b]? = W'.heap[b]? := fun b hb => World.putObj_heap_other hb
    have hbl : Below w.heap.size w (W'.putObj (bp + 4) (.loop { ld .done (some .ret) with state := .exhausted })) := hX.bel.grown (grownBy_putObj' _ _ _) hX.bel.size (fun q hq => by injection hq; have := HLOW.out; omega)
    obtain ⟨W6, hW6⟩ : ∃ W6, (W'.putObj (bp + 4) (.loop { ld .done (some .ret) with state := .exhausted })) = W6 := ⟨_, rfl⟩
    rw [hW6] at hend ho hbl
    rw [hpe] at hend
    refine ⟨some .ret, W6, hend, ?_⟩
    have hlo := HLOW.out
    have x1 := (ho (w.heap.size + 1) (by omega)).trans hX.r1
    have x2 := (ho (w.heap.size + 2) (by omega)).trans hX.r2
    have x3 := (ho (bp + 3) (by omega)).trans hX.dd
    have HX1 := Lib.hid x1; have HX2 := Lib.hid x2; have HX3 := Lib.hid x3; have HBL := Lib.hid hbl
    have HWH := Lib.hid (show (wholeP RP ((Nd.mk k t v ks).walk.map GoEv.ev)).2 = re by
      obtain ⟨r, hr⟩ := hq
      have h1 := runP_stop RP (q'.map GoEv.ev) (r.map GoEv.ev) y.ev hq1 (by rw [hq2]; exact hre)
      rw [← hr, List.map_append, List.map_append, List.append_assoc]
      show (wholeP RP (q'.map GoEv.ev ++ (y.ev :: r.map GoEv.ev))).2 = re
      rw [h1, hq2])
    have HRE := Lib.hid hre
    clear hst hpe hend ho hW6 hX HF HW5 HS5 HN5 x1 x2 x3 hbl hq hq1 hq2 hre
    gi_wp2_with fail
    have y1 := HX1.out
    have y2 := HX2.out
    have yk := HX3.out
    have z1 := (blk_cell ((World.putObj_heap_other (o := .deferred none) (show w.heap.size + 1 ≠ bp + 3 by omega)).trans y1) 0 (by simp)).1
    have z2 := (blk_cell ((World.putObj_heap_other (o := .deferred none) (show w.heap.size + 2 ≠ bp + 3 by omega)).trans y2) 0 (by simp)).1
    simp only [List.getElem_toArray, List.getElem_cons_zero] at z1 z2
    have y5 : Below w.heap.size w (W6.putObj (bp + 3) (.deferred none)) := HBL.out.grown (grownBy_putObj' _ _ _) HBL.out.size (fun q hq => by injection hq; omega)
    refine ⟨by simp, .inl ⟨_, _, rfl, run_takeDeferred yk, ?_⟩⟩
    refine ⟨.tuple #[.slice none 0 0, .int .i64 re], by simp [results, Tryz.f26, go_sem, z1, z2], .slice none 0 0, ?_⟩
    exact ⟨by rw [HWH.out], y5, fun _ => rfl, fun h => by rw [HWH.out] at h; exact absurd h HRE.out⟩
end Go.Proofs.YtmniblcooficgaaGreatDoor

namespace Go.Proofs.YtmniblcooficgaaGreatDoor
open Go.RowKit Ev5
set_option linter.unusedSimpArgs false
set_option linter.unusedVariables false

set_option maxRecDepth 1000000 in
set_option maxHeartbeats 8000000 in
theorem treeMay_any (x : Nd) (w : World) (S : Nat → Prop) (val : Value) (hE : EnvU w) (hv : NdV w S val x) (hS : ∀ b, S b → b < w.heap.size) (hok : x.ok) (hN : x.walk.length ≤ 100000) :
    Calls Tryz.prog 13 #[val] w fun e w' => e = .returned (.int .i64 (wholeP RP (x.walk.map GoEv.ev)).2) ∧ Below w.heap.size w w' := by
  obtain ⟨k, t, v, ks⟩ := x
  obtain ⟨u, rfl, hs⟩ := hv
  simp only [ndV, Nd.k, Nd.t, Nd.v, Nd.kids] at hs ⊢
  obtain ⟨ao, cap, rfl, hcap, hcm⟩ := hs.shape
  have HS := Lib.hid hs; have HE := Lib.hid hE; have HSS := Lib.hid hS; have HOK := Lib.hid hok; have HN := Lib.hid hN
  have HB := Lib.hid (show Below w.heap.size w (w.alloc (.cells #[.int .i64 k, .string t, .string v, .slice ao ks.length cap] 24)) from (Below.refl _ _).alloc (Nat.le_refl _) _)
  clear hs hE hS hok hN
  go_enter Tryz.func13, Tryz.ntmps13
  go_wp2_with fail
  refine (treeWalk_any (.mk k t v ks) _ S _ (HE.out.below HB.out) ⟨_, rfl, HS.out.below HB.out⟩ (fun b hb => Nat.lt_of_lt_of_le (HSS.out b hb) HB.out.size) HOK.out HN.out).mono ?_
  rintro e w2 ⟨lv, rfl, hb, _⟩
  have HB2 := Lib.hid (bthen HB.out hb)
  clear hb
  obtain ⟨E, hE⟩ : ∃ E, (wholeP RP ((Nd.mk k t v ks).walk.map GoEv.ev)).2 = E := ⟨_, rfl⟩
  have HEQ := Lib.hid hE
  rw [hE]
  clear hE
  go_wp2_with fail
  go_ret
  exact ⟨by rw [HEQ.out]; rfl, HB2.out⟩

set_option maxRecDepth 1000000 in
set_option maxHeartbeats 8000000 in
theorem refTreeWalk_any (x : Nd) (w : World) (S : Nat → Prop) (val : Value) (hv : NdV w S val x) (hS : ∀ b, S b → b < w.heap.size) (hok : x.ok) (hN : x.walk.length ≤ 450000) :
    Calls Tryz.prog 20 #[val] w (WalkPost x w) := by
  obtain ⟨k, t, v, ks⟩ := x
  obtain ⟨u, rfl, hs⟩ := hv
  simp only [ndV, Nd.k, Nd.t, Nd.v, Nd.kids] at hs ⊢
  obtain ⟨ao, cap, rfl, hcap, hcm⟩ := hs.shape
  have HS := Lib.hid hs; have HSS := Lib.hid hS; have HOK := Lib.hid hok; have HN := Lib.hid hN
  have HB := Lib.hid (show Below w.heap.size w (w.alloc (.cells #[.int .i64 k, .string t, .string v, .slice ao ks.length cap] 24)) from (Below.refl _ _).alloc (Nat.le_refl _) _)
  clear hs hS hok hN
  go_enter Tryz.func20, Tryz.ntmps20
  go_wp2_with fail
  refine (refGoes_any (.mk k t v ks) w _ w.heap.size S _ (.slice none 0 0) [] St.new ⟨_, rfl, HS.out.below HB.out⟩ HSS.out HOK.out
    ⟨World.ownsRow_nil _ _ _ _, by simp, tk_new _, HB.out⟩ (Nat.le_refl _) HB.out.size (by have := HN.out; simp; omega)).mono ?_
  rintro e w2 ⟨lv, E, rfl, hE, hG, hH⟩
  have HB2 := Lib.hid (hG.below HB.out.size (by simp [Value.ownBlock]))
  have HB3 := Lib.hid (bthen HB.out (hG.below (Nat.le_refl _) (by simp [Value.ownBlock])))
  have HH := Lib.hid hH
  have HEQ := Lib.hid hE
  clear hE hG hH
  by_cases hz : E = 0
  · subst hz
    have hh := HH.out rfl
    rw [List.nil_append] at hh
    have HHH := Lib.hid hh
    have hin := hh.own.evIn hh.ok (by have := HN.out; omega)
    have HIN := Lib.hid hin
    obtain ⟨a, c, hlv⟩ := hh.shape
    subst hlv
    clear hh hin HH
    go_wp2_with fail
    refine (refWhole_any _ _ _ HIN.out).mono ?_
    rintro e w3 ⟨rfl, hb⟩
    rw [ref_whole]
    have HB4 := Lib.hid (bthen HB3.out hb)
    have HOW := Lib.hid (HHH.out.own.below hb)
    clear hb
    obtain ⟨R, hR⟩ : ∃ R, (wholeP RP ((Nd.mk k t v ks).walk.map GoEv.ev)).2 = R := ⟨_, rfl⟩
    have HR := Lib.hid hR
    rw [hR]
    generalize (wholeP RP ((Nd.mk k t v ks).walk.map GoEv.ev)).1 = n0
    generalize (Nd.mk k t v ks).walk.length = len at *
    by_cases hz : R = 0
    · subst hz
      clear hR
      go_wp2_with fail
      refine bodyPost_ret (v := .tuple #[.slice a len c, .int .i64 0]) (by simp [results, Tryz.results20, go_sem]) rfl ?_
      exact ⟨_, by rw [HR.out], HB4.out, fun h => absurd HR.out h, fun _ => HOW.out⟩
    · have hzb : (R != 0) = true := by simp [hz]
      have HZ := Lib.hid hz
      clear hz hR
      go_wp2_with fail
      refine bodyPost_ret (v := .tuple #[.slice none 0 0, .int .i64 R]) (by simp [results, Tryz.results20, go_sem]) rfl ?_
      exact ⟨_, by rw [HR.out], HB4.out, fun _ => rfl, fun h => absurd (HR.out.symm.trans h) HZ.out⟩
  · have hzb : (E != 0) = true := by simp [hz]
    have HZ := Lib.hid hz
    have HW := Lib.hid (show (wholeP RP ((Nd.mk k t v ks).walk.map GoEv.ev)).2 = E by
      unfold wholeP
      rw [if_pos (by rw [← HEQ.out]; exact hz)]
      exact HEQ.out.symm)
    clear hz
    go_wp2_with fail
    refine bodyPost_ret (v := .tuple #[.slice none 0 0, .int .i64 E]) (by simp [results, Tryz.results20, go_sem]) rfl ?_
    exact ⟨_, by rw [HW.out], HB3.out, fun _ => rfl, fun h => absurd (HW.out.symm.trans h) HZ.out⟩
end Go.Proofs.YtmniblcooficgaaGreatDoor

namespace Go.Proofs.YtmniblcooficgaaGreatDoor
open Go.RowKit Ev5
set_option linter.unusedSimpArgs false
set_option linter.unusedVariables false

theorem NdV.lt {w : World} {S : Nat → Prop} {val : Value} {n : Nd} (h : NdV w S val n) : NdV w (fun b => b < w.heap.size) val n :=
  h.alike ⟨Nat.le_refl _, fun _ _ _ => rfl⟩ fun _ _ hl => hl
end Go.Proofs.YtmniblcooficgaaGreatDoor
