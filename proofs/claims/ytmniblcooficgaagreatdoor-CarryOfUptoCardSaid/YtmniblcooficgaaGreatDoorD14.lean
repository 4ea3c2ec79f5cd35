import Derived.StillTailTactics
import Derived.Deep.RegionLaw
import Derived.IntWalk
import Derived.Deep.RegionHeld3
import Derived.Deep.AppendLies
import Derived.OwnWalk
import Derived.Laws.AppendOwn
import Derived.Test.YtmniblcooficgaaGreatDoorD13
import Derived.Test.YtmniblcooficgaaGreatDoorD04
import Derived.Test.YtmniblcooficgaaGreatDoorD01
import Derived.Lib.ItoaLen
import Derived.Lib.ItoaMem
import Derived.Test.YtmniblcooficgaaGreatDoorD05
namespace Go.Proofs.YtmniblcooficgaaGreatDoor
open Go.RowKit Num2
set_option linter.unusedSimpArgs false
set_option linter.unusedVariables false

theorem infoI : (Tryz.prog.info? 3).map (fun i => (i.zero, i.size, i.bytes)) = some (some (.int .i64 0), 1, 8) := by kernel_rfl
def dg1 (c : UInt8) : Int := (c.toNat : Int) - 48
def dgs (l : List UInt8) : List Value := l.map fun c => .int .i64 (dg1 c)

def dgI (l : List UInt8) : List Int := l.map dg1
def Cells (w : World) (lo : Nat) (sv : Value) (ds : List Int) : Prop :=
  ∃ (A : Option Addr) (c : Nat), sv = .slice A ds.length c ∧ ds.length ≤ c ∧ c ≤ maxLen ∧
    (ds ≠ [] → ∃ b off, A = some ⟨b, off, none⟩ ∧ lo ≤ b ∧ b < w.heap.size ∧ ∀ i (h : i < ds.length), w.cell? ⟨b, off + i, none⟩ = some (.int .i64 ds[i]))
theorem Cells.of_own {w : World} {lo : Nat} {e : TypeId} {sv : Value} {n : Nat} {ds : List Int} (h : w.ownsRow lo e 1 sv n (ds.map (Value.int .i64))) (hm : n ≤ maxLen) : Cells w lo sv ds := by
  have hlt := h.lt
  have hc := fun g => h.cells (g := g)
  obtain ⟨hl, h | ⟨g, cap, cur, rfl, h1, h2, h3, h4, h5, h6⟩⟩ := h
  · obtain ⟨rfl, rfl⟩ := h
    simp at hl
    subst hl
    exact ⟨none, 0, rfl, Nat.le_refl _, Nat.zero_le _, fun h => absurd rfl h⟩
  · have hn : ds.length = n := by simpa using hl
    refine ⟨some ⟨g, 0, none⟩, cap, by rw [hn], by omega, h4, fun _ => ⟨g, 0, rfl, h1, (hlt g rfl).2, fun i hi => ?_⟩⟩
    have := hc g rfl i (.int .i64 ds[i]) (by simp [hi])
    by_cases h0 : i = 0
    · subst h0; simpa [Addr.add] using this
    · simpa [Addr.add, h0] using this
theorem Cells.keep {w w' : World} {lo : Nat} {sv : Value} {ds : List Int} (h : Cells w lo sv ds) (hs : w.heap.size ≤ w'.heap.size) (hc : ∀ b o, lo ≤ b → b < w.heap.size → w'.cell? ⟨b, o, none⟩ = w.cell? ⟨b, o, none⟩) : Cells w' lo sv ds := by
  obtain ⟨A, c, e, h1, h2, h3⟩ := h
  refine ⟨A, c, e, h1, h2, fun hne => ?_⟩
  obtain ⟨b, off, eA, hb, hlt, hcell⟩ := h3 hne
  exact ⟨b, off, eA, hb, Nat.lt_of_lt_of_le hlt hs, fun i hi => by rw [hc b _ hb hlt]; exact hcell i hi⟩
theorem Cells.below {w w' : World} {lo : Nat} {sv : Value} {ds : List Int} (h : Cells w lo sv ds) (hb : Below w.heap.size w w') : Cells w' lo sv ds :=
  h.keep hb.size (fun b o _ hlt => hb.cell (p := ⟨b, o, none⟩) hlt)
theorem Cells.setCell {w : World} {lo : Nat} {sv : Value} {ds : List Int} (h : Cells w lo sv ds) (a : Addr) (ha : a.block < lo) (v : Value) : Cells (w.setCell a v) lo sv ds :=
  h.keep (by simp) (fun b o hb hlt => World.cell?_of_block (w := w) (Below.heap_setCell w a v b (by omega)))

def scan (st : Bool × Int) (c : UInt8) : Bool × Int := (st.1 || decide (c.toNat = 45), if dig c = true ∧ st.2 < 1099511627776 then 10 * st.2 + ((c.toNat : Int) - 48) else st.2)

def Rel2 (w wr : World) (b : Nat) (sg : Bool) (sv : Value) (p : Int) (ds : List Int) : Prop :=
  Three wr w.heap.size (.bool false) (.slice none 0 0) (.int .i64 0) ∧ Three wr b (.bool sg) sv (.int .i64 p) ∧ Cells wr (w.heap.size + 2) sv ds ∧ Below w.heap.size w wr ∧ w.heap.size + 2 ≤ wr.heap.size

def stripR (ds : List Int) : List Int := (ds.reverse.dropWhile (· == 0)).reverse
theorem stripR_zero (l : List Int) : stripR (l ++ [0]) = stripR l := by simp [stripR]
theorem stripR_ne (l : List Int) {z : Int} (h : z ≠ 0) : stripR (l ++ [z]) = l ++ [z] := by simp [stripR, h]
theorem stripR_len (l : List Int) : (stripR l).length ≤ l.length := by
  unfold stripR
  rw [List.length_reverse]
  refine Nat.le_trans (List.dropWhile_sublist _).length_le ?_
  rw [List.length_reverse]; exact Nat.le_refl _
def signed (st : Bool × Int) : Int := if st.1 = true then -st.2 else st.2
theorem scan_bd (l : List UInt8) : ∀ st : Bool × Int, 0 ≤ st.2 → st.2 ≤ 10995116277769 → 0 ≤ (l.foldl scan st).2 ∧ (l.foldl scan st).2 ≤ 10995116277769 := by
  induction l with
  | nil => intro st h0 h1; exact ⟨h0, h1⟩
  | cons c r ih =>
    intro st h0 h1
    rw [List.foldl_cons]
    apply ih
    · unfold scan; simp only []; split
      · rename_i h; have := h.1; simp [dig] at this; omega
      · exact h0
    · unfold scan; simp only []; split
      · rename_i h; have := h.1; simp [dig] at this; omega
      · exact h1

def Rel1 (w wr : World) (b : Nat) (sg : Bool) (sv p : Value) (n : Nat) (ds : List Value) : Prop :=
  Three wr w.heap.size (.bool false) (.slice none 0 0) (.int .i64 0) ∧ Three wr b (.bool sg) sv p ∧ wr.ownsRow (w.heap.size + 2) 3 1 sv n ds ∧ Below w.heap.size w wr ∧ w.heap.size + 2 ≤ wr.heap.size

end Go.Proofs.YtmniblcooficgaaGreatDoor
namespace Go.Proofs.YtmniblcooficgaaGreatDoor
open Go.RowKit Num2
set_option linter.unusedSimpArgs false
set_option linter.unusedVariables false

def headD (m : Nat) : List UInt8 := if m = 0 then [] else Lib.decDigits m
theorem dec_step (m : Nat) : Lib.decDigits m = headD (m / 10) ++ [UInt8.ofNat (48 + m % 10)] := by
  unfold headD
  by_cases h : m < 10
  · rw [if_pos (by omega), Lib.decDigits, dif_pos h, Nat.mod_eq_of_lt h]; rfl
  · rw [if_neg (by omega), Lib.decDigits, dif_neg h]
theorem head_step {m : Nat} (h : 0 < m) : headD m = headD (m / 10) ++ [UInt8.ofNat (48 + m % 10)] := by
  rw [← dec_step, headD, if_neg (by omega)]

def DigI (n m : Nat) (D : ByteArray) : Prop := if D.size = 0 then m = n else Lib.decDigits n = headD m ++ D.data.toList
theorem DigI.step {n m : Nat} {D : ByteArray} (h : DigI n m D) (hc : 0 < m ∨ D.size = 0) {c : UInt8} (hcc : c = UInt8.ofNat (48 + m % 10)) : DigI n (m / 10) (⟨#[c]⟩ ++ D) := by
  subst hcc
  unfold DigI at h ⊢
  have e : (⟨#[UInt8.ofNat (48 + m % 10)]⟩ ++ D : ByteArray).data.toList = UInt8.ofNat (48 + m % 10) :: D.data.toList := by rw [ByteArray.data_append, Array.toList_append]; rfl
  rw [if_neg (by rw [ByteArray.size_append, show (⟨#[UInt8.ofNat (48 + m % 10)]⟩ : ByteArray).size = 1 from rfl]; omega), e]
  by_cases h0 : D.size = 0
  · rw [if_pos h0] at h
    subst h
    have : D.data.toList = [] := List.eq_nil_of_length_eq_zero (by rw [Array.length_toList]; exact h0)
    rw [this]; exact dec_step m
  · rw [if_neg h0] at h
    rw [h, head_step (by omega)]; simp
theorem DigI.le {n m : Nat} {D : ByteArray} (h : DigI n m D) (hn : n ≤ 99999) : D.size ≤ 21 := by
  unfold DigI at h
  by_cases h0 : D.size = 0
  · omega
  · rw [if_neg h0] at h
    have h1 := congrArg List.length h
    have h2 := Lib.itoa_length_le n (by omega) (by omega)
    rw [Lib.itoa_nonneg] at h2
    rw [List.length_append] at h1
    have : D.data.toList.length = D.size := Array.length_toList
    omega

theorem conv_one (w : World) (x : Int) (t : TypeId) : (convert 66 9 (.slice (some ⟨w.heap.size, 0, none⟩) 1 1)).run Tryz.prog (w.alloc (.cells #[.int .u8 x] t)) = .ok (.string (strOfNums [x])) (w.alloc (.cells #[.int .u8 x] t)) := by
  refine run_convert_bytes_arg _ 66 5 Tryz.underlying66 Tryz.underlying5 w.heap.size 0 1 1 [x] rfl ?_ 9 Tryz.underlying9
  intro i hi
  obtain rfl : i = 0 := by omega
  simp

set_option maxHeartbeats 1000000 in
set_option maxRecDepth 100000 in
theorem refDigits_any (n : Nat) (w : World) (hn : n ≤ 99999) :
    Calls Tryz.prog 148 #[.int .i64 n] w fun e w' => e = .returned (.string ⟨(Lib.itoa n).toArray⟩) ∧ Below w.heap.size w w' := by
  go_enter Tryz.func148, Tryz.ntmps148
  go_wp2_with fail
  go_loopg [0, 3] (n + 1) (fun g v0 v3 wq => ∃ (m : Nat) (D : ByteArray), v0 = .int .i64 m ∧ v3 = .string D ∧ m ≤ 99999 ∧ Hid (m + (if D.size = 0 then 1 else 0) = g) ∧ Hid (DigI n m D) ∧ Hid (Below w.heap.size w wq))
  case atStart => exact ⟨n, ⟨#[]⟩, rfl, rfl, hn, rfl, rfl, Below.refl _ _⟩
  case round =>
    obtain ⟨m, D, rfl, rfl, hm, hg, hD, hB⟩ := hrel
    have hDl := hD.out.le hn
    have q1 : Int.tmod (m : Int) 10 = ((m % 10 : Nat) : Int) := by rw [Int.tmod_eq_emod_of_nonneg (by omega)]; rfl
    have q2 : Int.tdiv (m : Int) 10 = ((m / 10 : Nat) : Int) := by rw [Int.tdiv_eq_ediv_of_nonneg (by omega)]; rfl
    have q3 : ((m % 10 : Nat) : Int) < 10 := by omega
    have q4 : 0 ≤ ((m % 10 : Nat) : Int) := by omega
    have q5 : ((m / 10 : Nat) : Int) ≤ 99999 := by omega
    have q6 : 0 ≤ ((m / 10 : Nat) : Int) := by omega
    by_cases h0 : 0 < m
    · have h0' : (0 : Int) < (m : Int) := by omega
      have hcv := conv_one wr (48 + (m : Int) % 10)
      obtain ⟨C, hC⟩ : ∃ C, C = strOfNums [48 + (m : Int) % 10] := ⟨_, rfl⟩
      have hCs : C.size = 1 := by rw [hC]; rfl
      rw [← hC] at hcv
      have hc1 : C = ⟨#[UInt8.ofNat (48 + m % 10)]⟩ := by rw [hC, show (48 + (m : Int) % 10) = ((48 + m % 10 : Nat) : Int) by omega]; rfl
      have HST := Lib.hid (hD.out.step (.inl h0) (c := UInt8.ofNat (48 + m % 10)) rfl)
      rw [← hc1] at HST
      have hne : ¬ (C ++ D).size = 0 := by rw [ByteArray.size_append]; omega
      have HNE := Lib.hid hne
      clear hne hC hc1
      go_wp2_with fail
      go_roundg (m / 10)
      case measure => have := hg.out; split at this <;> omega
      case rel => exact ⟨m / 10, C ++ D, rfl, rfl, by omega, by rw [if_neg HNE.out]; rfl, HST, hB.out.alloc hB.out.size _⟩
    · obtain rfl : m = 0 := by omega
      by_cases h1 : D.size = 0
      · have h1' : D.toList.isEmpty = true := by rw [ByteArray.toList_eq, List.isEmpty_iff_length_eq_zero, Array.length_toList]; exact h1
        have hcv := conv_one wr 48
        rw [show strOfNums [48] = ⟨#[48]⟩ from rfl] at hcv
        obtain ⟨C, hC⟩ : ∃ C : ByteArray, C = ⟨#[48]⟩ := ⟨_, rfl⟩
        have hCs : C.size = 1 := by rw [hC]; rfl
        rw [← hC] at hcv
        have HST := Lib.hid (hD.out.step (.inr h1) (c := 48) rfl)
        rw [← hC] at HST
        have hne : ¬ (C ++ D).size = 0 := by rw [ByteArray.size_append]; omega
        have HNE := Lib.hid hne
        clear hne hC
        go_wp2_with fail
        go_roundg 0
        case measure => have := hg.out; split at this <;> omega
        case rel => exact ⟨0, C ++ D, rfl, rfl, by omega, by rw [if_neg HNE.out]; rfl, HST, hB.out.alloc hB.out.size _⟩
      · have h1' : D.toList.isEmpty = false := by
          rw [ByteArray.toList_eq, Bool.eq_false_iff]; intro h2; rw [List.isEmpty_iff_length_eq_zero, Array.length_toList] at h2; exact h1 h2
        have hres : D = ⟨(Lib.itoa n).toArray⟩ := by
          have h2 := hD.out
          unfold DigI at h2
          rw [if_neg h1, headD, if_pos rfl, List.nil_append] at h2
          rw [Lib.itoa_nonneg, h2]
        have HRES := Lib.hid hres; clear hres
        go_wp2_with fail
        go_ret
        exact ⟨by rw [← HRES.out]; rfl, hB.out⟩

theorem itoa_dig {c : UInt8} (h : dig c = true) : Lib.itoa ((c.toNat : Int) - 48) = [c] := by
  simp [dig] at h
  rw [show ((c.toNat : Int) - 48) = ((c.toNat - 48 : Nat) : Int) by omega, Lib.itoa_nonneg, Lib.decDigits_one (by omega)]
  congr 1
  apply UInt8.toNat_inj.1
  rw [show 48 + (c.toNat - 48) = c.toNat by omega]
  simp
def sgnR (sg : Bool) : List UInt8 := if sg = true then [45] else []
theorem bytes_eq {B : ByteArray} {l : List UInt8} (h : B.data.toList = l) : B = ⟨l.toArray⟩ := by subst h; rfl
theorem formR (sg : Bool) (l : List UInt8) (p : Int) (h : ¬ l = []) : formP (sg, l, p) = sgnR sg ++ l ++ (if p = 0 then [] else 101 :: Lib.itoa p) := by
  unfold formP
  rw [if_neg h]; rfl
theorem dgI_len (l : List UInt8) : (dgI l).length = l.length := by simp [dgI]

set_option maxHeartbeats 4000000 in
set_option maxRecDepth 100000 in
theorem refForm_any (sg : Bool) (sv : Value) (l : List UInt8) (p : Int) (w : World) (hl : l.length ≤ 200) (hd : digs l) (hcel : Cells w 0 sv (dgI l)) (h0 : -999 ≤ p) (h1 : p ≤ 999) :
    Calls Tryz.prog 139 #[.agg #[.bool sg, sv, .int .i64 p]] w fun e w' => e = .returned (.string ⟨(formP (sg, l, p)).toArray⟩) ∧ Below w.heap.size w w' := by
  have hB := (Below.refl w.heap.size w).alloc (Nat.le_refl _) (.cells #[.bool sg, sv, .int .i64 p] 143)
  have HC := Lib.hid (hcel.below ((Below.refl w.heap.size w).alloc (Nat.le_refl _) (.cells #[.bool sg, sv, .int .i64 p] 143)))
  have HV := Lib.hid (three_new w (.bool sg) sv (.int .i64 p) 143)
  obtain ⟨A, c, rfl, hc1, hc2, _⟩ := hcel
  rw [dgI_len] at hc1
  have HB := Lib.hid hB; clear hB
  have HD := Lib.hid hd; clear hd
  go_enter Tryz.func139, Tryz.ntmps139
  go_upto_region 1 with (fail)
  generalize w.alloc (.cells #[.bool sg, .slice A (dgI l).length c, .int .i64 p] 143) = w1 at *
  rw [dgI_len] at HC HV
  obtain ⟨rc0, rc1, rc2, rf0, rf1, rf2, rlt⟩ := HV.out
  by_cases hne : l = []
  · subst hne
    go_wp2_with fail
    go_ret
    exact ⟨rfl, HB.out⟩
  · have hl0 : 0 < l.length := List.length_pos_iff.2 hne
    have hz : ((l.length : Int) == 0) = false := beq_eq_false_iff_ne.2 (by omega)
    go_upto_if 10 with (fail)
    go_cut [3] (fun v3 wc => v3 = .string ⟨(sgnR sg).toArray⟩ ∧ w1 = wc)
    case first =>
      cases sg
      · go_wp2
        go_meet
        case rel => exact ⟨rfl, rfl⟩
      · go_wp2
        go_meet
        case rel => exact ⟨rfl, rfl⟩
    case rest =>
    obtain ⟨rfl, rfl⟩ := hcut
    clear rc0 rc1 rc2 rf0 rf1 rf2
    go_wp2_with fail
    go_loopw [3, 4] (fun v3 v4 wq => ∃ (k : Nat) (O : ByteArray), v4 = .int .i64 k ∧ v3 = .string O ∧ k ≤ l.length ∧ Hid (O.data.toList = sgnR sg ++ l.take k) ∧ Hid (Below w1.heap.size w1 wq)) (fun _ v4 _ => l.length - (intOf v4).toNat)
    case atStart => exact ⟨0, _, rfl, rfl, Nat.zero_le _, by show _ = _; simp, Below.refl _ _⟩
    case round =>
      obtain ⟨k, O, rfl, rfl, hk, hO, hBq⟩ := hrel
      have hOs : O.size ≤ 201 := by
        have h2 := congrArg List.length hO.out
        have h3 : O.data.toList.length = O.size := Array.length_toList
        have h4 : (sgnR sg).length ≤ 1 := by unfold sgnR; split <;> simp
        rw [List.length_append, List.length_take] at h2
        omega
      have HVq := HV.out.below hBq.out
      have HCq := HC.out.below hBq.out
      obtain ⟨rc0, rc1, rc2, rf0, rf1, rf2, rlt'⟩ := HVq
      by_cases hlt : k < l.length
      · obtain ⟨A', c', heq, _, _, hcells⟩ := HCq
        have hxk : l[k]? = some l[k] := List.getElem?_eq_getElem hlt
        have hne2 : dgI l ≠ [] := fun e => by have := congrArg List.length e; rw [dgI_len] at this; simp at this; exact hne this
        obtain ⟨b, off, eA, hb0, hb1, hcell⟩ := hcells hne2
        subst eA
        injection heq with heq1 heq2 heq3
        subst heq1 heq3
        have hz1 := hcell k (by rw [dgI_len]; exact hlt)
        clear hcells hcell
        have hdg : (dgI l)[k]'(by rw [dgI_len]; exact hlt) = (l[k].toNat : Int) - 48 := by simp [dgI, dg1]
        rw [hdg] at hz1
        have hdk : dig l[k] = true := HD.out _ (List.getElem_mem hlt)
        have hx0 : 48 ≤ l[k].toNat := by simp [dig] at hdk; omega
        have hx1 : l[k].toNat ≤ 57 := by simp [dig] at hdk; omega
        have hn : ((l[k].toNat : Int) - 48) = ((l[k].toNat - 48 : Nat) : Int) := by omega
        have HI := Lib.hid (hn ▸ itoa_dig hdk)
        have HT := Lib.hid (show l.take (k + 1) = l.take k ++ [l[k]] by rw [List.take_add_one, hxk]; rfl)
        clear hdg hdk hxk
        go_wp2_with fail
        refine (refDigits_any _ _ (by omega)).mono ?_
        rintro e w2 ⟨rfl, hb2⟩
        rw [HI.out]
        have HB2 := Lib.hid (below_then hBq.out hb2); clear hb2
        clear rc0 rc1 rc2 rf0 rf1 rf2
        obtain ⟨C, hC⟩ : ∃ C : ByteArray, C = ⟨[l[k]].toArray⟩ := ⟨_, rfl⟩
        rw [← hC]
        have hCs : C.size = 1 := by rw [hC]; rfl
        have HO := Lib.hid (show (O ++ C).data.toList = sgnR sg ++ l.take (k + 1) by rw [HT.out, ByteArray.data_append, Array.toList_append, hO.out, hC]; simp)
        clear hC
        go_wp2_with fail
        go_roundw
        case rel => exact ⟨k + 1, O ++ C, by go_num, rfl, by omega, HO, HB2⟩
        case measure => simp [intOf]; omega
      · obtain rfl : k = l.length := by omega
        have HF := Lib.hid (show O.data.toList = sgnR sg ++ l by rw [hO.out, List.take_length])
        clear hO
        have HE := HF.out
        by_cases hp0 : 0 < p
        · obtain ⟨pn, rfl⟩ : ∃ n : Nat, p = n := ⟨p.toNat, by omega⟩
          have hR := formR sg l pn hne
          rw [if_neg (by omega), ← HE] at hR
          have HR := Lib.hid hR
          have hIl := Lib.itoa_length_le pn (by omega) (by omega)
          clear hR HE
          go_wp2_with fail
          refine (refDigits_any _ _ (by omega)).mono ?_
          rintro e w2 ⟨rfl, hb2⟩
          have HB2 := Lib.hid (below_then hBq.out hb2)
          have HV2 := (HV.out.below HB2.out)
          obtain ⟨C, hC⟩ : ∃ C : ByteArray, C = ⟨(Lib.itoa pn).toArray⟩ := ⟨_, rfl⟩
          have hCs : C.size ≤ 21 := by rw [hC]; simpa [ByteArray.size] using hIl
          rw [← hC]
          have HC2 := Lib.hid hC
          clear hC hIl hb2
          clear rc0 rc1 rc2 rf0 rf1 rf2
          obtain ⟨rc0, rc1, rc2, rf0, rf1, rf2, rlt'⟩ := HV2
          go_wp2_with fail
          go_ret
          refine ⟨?_, below_then HB.out HB2.out⟩
          rw [HR.out]
          show Ending.returned (Value.string (O ++ ⟨#[101]⟩ ++ C)) = _
          rw [bytes_eq (B := O ++ ⟨#[101]⟩ ++ C) (l := O.data.toList ++ 101 :: Lib.itoa pn) (by rw [HC2.out, ByteArray.data_append, ByteArray.data_append, Array.toList_append, Array.toList_append]; simp)]
        · by_cases hp1 : p < 0
          · obtain ⟨pn, rfl⟩ : ∃ n : Nat, p = -(n : Int) := ⟨p.natAbs, by omega⟩
            have hR := formR sg l (-(pn : Int)) hne
            rw [if_neg (by omega), ← HE, Lib.itoa_neg _ (by omega)] at hR
            have HR := Lib.hid hR
            have hIl := Lib.itoa_length_le pn (by omega) (by omega)
            clear hR HE
            go_wp2_with fail
            refine (refDigits_any _ _ (by omega)).mono ?_
            rintro e w2 ⟨rfl, hb2⟩
            have HB2 := Lib.hid (below_then hBq.out hb2)
            obtain ⟨C, hC⟩ : ∃ C : ByteArray, C = ⟨(Lib.itoa pn).toArray⟩ := ⟨_, rfl⟩
            have hCs : C.size ≤ 21 := by rw [hC]; simpa [ByteArray.size] using hIl
            rw [← hC]
            have HC2 := Lib.hid hC
            clear hC hIl hb2
            clear rc0 rc1 rc2 rf0 rf1 rf2
            go_wp2_with fail
            go_ret
            refine ⟨?_, below_then HB.out HB2.out⟩
            rw [HR.out]
            show Ending.returned (Value.string (O ++ ⟨#[101, 45]⟩ ++ C)) = _
            rw [bytes_eq (B := O ++ ⟨#[101, 45]⟩ ++ C) (l := O.data.toList ++ 101 :: 45 :: Lib.decDigits pn) (by rw [HC2.out, Lib.itoa_nonneg, ByteArray.data_append, ByteArray.data_append, Array.toList_append, Array.toList_append]; simp)]
          · obtain rfl : p = 0 := by omega
            have hR := formR sg l 0 hne
            rw [if_pos rfl, List.append_nil, ← HE] at hR
            have HR := Lib.hid hR
            clear hR HE
            go_wp2_with fail
            go_ret
            refine ⟨?_, below_then HB.out hBq.out⟩
            rw [HR.out]
            rfl
end Go.Proofs.YtmniblcooficgaaGreatDoor
namespace Go.Proofs.YtmniblcooficgaaGreatDoor.Num2
open Go.RowKit
set_option linter.unusedSimpArgs false
set_option linter.unusedVariables false

theorem dropWhile_head48 (l : List UInt8) : (l.dropWhile (· == 48)).head? ≠ some 48 := by
  induction l with
  | nil => simp
  | cons c r ih =>
    by_cases h : c = 48
    · subst h; simpa using ih
    · have : (c == 48) = false := by simp [h]
      rw [List.dropWhile_cons_of_neg (by simp [h])]; simp [h]
theorem trimR_last (l : List UInt8) : (Lib.trimRightB l 48).getLast? ≠ some 48 := by
  unfold Lib.trimRightB
  rw [List.getLast?_reverse]
  exact dropWhile_head48 _
theorem trimR_pre (l : List UInt8) : Lib.trimRightB l 48 <+: l := by
  unfold Lib.trimRightB
  have : l.reverse.dropWhile (· == 48) <:+ l.reverse := List.dropWhile_suffix _
  have h2 := List.reverse_prefix.2 this
  rwa [List.reverse_reverse] at h2
def chk (p : Int) : Bool := decide (Lib.atoiAll (Lib.itoa p) = .ok p) && (unsgn2 (Lib.itoa p)).all dig && !(unsgn2 (Lib.itoa p)).isEmpty
end Go.Proofs.YtmniblcooficgaaGreatDoor.Num2
namespace Go.Proofs.YtmniblcooficgaaGreatDoor
open Go.RowKit Num2
set_option linter.unusedSimpArgs false
set_option linter.unusedVariables false

theorem scan_big (l : List UInt8) (s : Bool) (n : Int) (hd : digs l) (hn : 1099511627776 ≤ n) : l.foldl scan (s, n) = (s, n) := by
  induction l with
  | nil => rfl
  | cons c r ih =>
    have hc := hd c (by simp)
    have h45 : ¬ c.toNat = 45 := by simp [dig] at hc; omega
    have : scan (s, n) c = (s, n) := by
      simp only [scan]; rw [if_neg (by omega)]; simp [h45]
    rw [List.foldl_cons, this]
    exact ih (fun b hb => hd b (by simp [hb]))

def Jn (n u : Nat) : Prop := (n = u) ∨ (1099511627776 ≤ n ∧ 1099511627776 ≤ u)

theorem scan_parse : ∀ (l : List UInt8) (acc n : Nat) (s : Bool), digs l → Jn n acc →
    (∃ u n' : Nat, Lib.parseUint10 acc l = .ok u ∧ l.foldl scan (s, (n : Int)) = (s, (n' : Int)) ∧ Jn n' u) ∨
    (Lib.parseUint10 acc l = .range ∧ ∃ n' : Nat, l.foldl scan (s, (n : Int)) = (s, (n' : Int)) ∧ 1099511627776 ≤ n')
  | [], acc, n, s, _, h => .inl ⟨acc, n, rfl, rfl, h⟩
  | c :: r, acc, n, s, hd, h => by
    have hc := hd c (by simp)
    have hr : digs r := fun b hb => hd b (by simp [hb])
    simp [dig] at hc
    have h45 : ¬ c.toNat = 45 := by omega
    have hdg : dig c = true := by simp [dig]; omega
    rw [List.foldl_cons]
    simp only [Lib.parseUint10]
    rw [if_pos hc]
    by_cases hb : (n : Int) < 1099511627776
    · have hs : scan (s, (n : Int)) c = (s, ((n * 10 + (c.toNat - 48) : Nat) : Int)) := by
        simp only [scan]; rw [if_pos ⟨hdg, hb⟩]
        simp [h45]; omega
      have hna : n = acc := by
        unfold Jn at h; omega
      subst hna
      rw [hs, if_neg (by omega), if_neg (by omega)]
      exact scan_parse r _ _ s hr (.inl rfl)
    · have hs : scan (s, (n : Int)) c = (s, (n : Int)) := by
        simp only [scan]; rw [if_neg (by omega)]
        simp [h45]
      have ha : 1099511627776 ≤ acc := by unfold Jn at h; omega
      rw [hs]
      split
      · exact .inr ⟨rfl, n, scan_big r s n hr (by omega), by omega⟩
      · split
        · exact .inr ⟨rfl, n, scan_big r s n hr (by omega), by omega⟩
        · exact scan_parse r _ _ s hr (.inr ⟨by omega, by omega⟩)

def expS (t : List UInt8) : Int := signed (t.foldl scan (false, 0))
def ExpJ (a b : Int) : Prop :=
  (a = b ∧ -10995116277769 ≤ a ∧ a ≤ 10995116277769) ∨ (1099511627776 ≤ a ∧ a ≤ 9223372036854775807 ∧ 1099511627776 ≤ b) ∨ (-9223372036854775808 ≤ a ∧ a ≤ -1099511627776 ∧ b ≤ -1099511627776)

theorem exp_body (neg : Bool) (t l : List UInt8) (hl : l ≠ []) (hd : digs l) (ht : t ≠ []) (h45 : t.head? = some 45 ↔ neg = true)
    (hs : t.foldl scan (false, 0) = l.foldl scan (neg, 0))
    (ha : Lib.atoiAll t = (match Lib.parseMag l with
      | .ok u => if ¬ (neg = true) ∧ 9223372036854775808 ≤ u then .range else if neg = true ∧ 9223372036854775808 < u then .range else .ok (if neg = true then -(u : Int) else u)
      | .range => .range
      | e => Lib.atoiAll t)) : ExpJ (expOf t) (expS t) := by
  unfold expS
  rw [hs]
  unfold expOf
  rw [if_neg ht]
  have hb := scan_bd l (neg, 0) (by simp) (by simp)
  unfold Lib.parseMag at ha
  rw [if_neg hl] at ha
  rcases scan_parse l 0 0 neg hd (.inl rfl) with ⟨u, n', h1, h2, h3⟩ | ⟨h1, n', h2, h3⟩
  · rw [h1] at ha
    simp only [] at ha
    have h2' : l.foldl scan (neg, 0) = (neg, (n' : Int)) := h2
    rw [h2'] at hb ⊢
    simp only [] at hb
    unfold signed
    cases neg with
    | true =>
      simp only [not_true_eq_false, false_and, if_false, true_and, if_true] at ha ⊢
      have e45 := h45.2 rfl
      by_cases hu : 9223372036854775808 < u
      · rw [if_pos hu] at ha
        rw [ha]
        simp only []
        rw [if_pos e45]
        unfold Jn at h3; unfold ExpJ; omega
      · rw [if_neg hu] at ha
        rw [ha]
        simp only []
        unfold Jn at h3; unfold ExpJ; omega
    | false =>
      simp only [Bool.false_eq_true, not_false_eq_true, false_and, if_false, true_and] at ha ⊢
      have e45 : ¬ t.head? = some 45 := fun h => by have := h45.1 h; simp at this
      by_cases hu : 9223372036854775808 ≤ u
      · rw [if_pos hu] at ha
        rw [ha]
        simp only []
        rw [if_neg e45]
        unfold Jn at h3; unfold ExpJ; omega
      · rw [if_neg hu] at ha
        rw [ha]
        simp only []
        unfold Jn at h3; unfold ExpJ; omega
  · rw [h1] at ha
    simp only [] at ha
    have h2' : l.foldl scan (neg, 0) = (neg, (n' : Int)) := h2
    rw [h2'] at hb ⊢
    rw [ha]
    simp only [] at hb ⊢
    unfold signed
    cases neg with
    | true => rw [if_pos (h45.2 rfl)]; simp only [if_true]; unfold ExpJ; omega
    | false =>
      rw [if_neg (fun h => by have := h45.1 h; simp at this)]
      simp only [Bool.false_eq_true, if_false]
      unfold ExpJ; omega

theorem exp_cmp (t : List UInt8) (ht : t = [] ∨ (digs (unsgn2 t) ∧ unsgn2 t ≠ [])) : ExpJ (expOf t) (expS t) := by
  rcases ht with rfl | ⟨hd, hn⟩
  · exact .inl ⟨rfl, by decide, by decide⟩
  · cases t with
    | nil => exact absurd rfl hn
    | cons c r =>
      by_cases hc : isSign c = true
      · have hu : unsgn2 (c :: r) = r := by simp [unsgn2, hc]
        rw [hu] at hd hn
        have hnd := sign_not_dig hc
        have hs' : c.toNat = 43 ∨ c.toNat = 45 := by simp [isSign] at hc; exact hc
        refine exp_body (decide (c.toNat = 45)) (c :: r) r hn hd (by simp) ?_ ?_ ?_
        · simp only [List.head?_cons, Option.some.injEq, decide_eq_true_eq]
          exact ⟨fun h => by rw [h]; rfl, fun h => UInt8.toNat_inj.1 (by simpa using h)⟩
        · rw [List.foldl_cons]
          congr 1
          simp [scan, hnd]
        · simp only [Lib.atoiAll, decide_eq_true_eq]
          rw [if_pos hs']
          split <;> rename_i h <;> simp [h]
      · have hu : unsgn2 (c :: r) = c :: r := by simp [unsgn2, hc]
        rw [hu] at hd hn
        have hcd := hd c (by simp)
        have h45 : ¬ c.toNat = 45 := by simp [dig] at hcd; omega
        have hs' : ¬ (c.toNat = 43 ∨ c.toNat = 45) := by simp [dig] at hcd; omega
        refine exp_body false (c :: r) (c :: r) hn hd (by simp) ?_ rfl ?_
        · simp only [List.head?_cons, Option.some.injEq, Bool.false_eq_true, iff_false]
          intro h; rw [h] at h45; exact h45 rfl
        · simp only [Lib.atoiAll]
          rw [if_neg hs']
          split <;> rename_i h <;> simp [h, h45]

theorem drop_all {p : UInt8 → Bool} : ∀ {l : List UInt8}, (∀ x ∈ l, p x = true) → l.dropWhile p = []
  | [], _ => rfl
  | c :: r, h => by rw [List.dropWhile_cons, h c (by simp)]; exact drop_all (fun x hx => h x (by simp [hx]))
theorem all_drop {p : UInt8 → Bool} : ∀ {l : List UInt8}, l.dropWhile p = [] → ∀ x ∈ l, p x = true
  | [], _, x, hx => by cases hx
  | c :: r, h, x, hx => by
    rw [List.dropWhile_cons] at h
    by_cases hc : p c = true
    · rw [if_pos hc] at h
      rcases List.mem_cons.1 hx with rfl | hx
      · exact hc
      · exact all_drop h x hx
    · rw [if_neg hc] at h; cases h
theorem take_all {p : UInt8 → Bool} {x : UInt8} : ∀ {l : List UInt8}, x ∈ l.takeWhile p → p x = true
  | c :: r, h => by
    rw [List.takeWhile_cons] at h
    by_cases hc : p c = true
    · rw [if_pos hc] at h
      rcases List.mem_cons.1 h with rfl | h
      · exact hc
      · exact take_all h
    · rw [if_neg hc] at h; cases h
theorem trims (L : List UInt8) :
    Lib.trimRightB (Lib.trimLeftB L 48) 48 = Lib.trimLeftB (Lib.trimRightB L 48) 48 ∧
    (Lib.trimLeftB (Lib.trimRightB L 48) 48 ≠ [] → (Lib.trimLeftB L 48).length + (Lib.trimRightB L 48).length = L.length + (Lib.trimRightB (Lib.trimLeftB L 48) 48).length) := by
  have hlast := trimR_last L
  obtain ⟨b, hb⟩ := trimR_pre L
  have hb48 : b.reverse.dropWhile (· == 48) = [] := by
    have h1 : L.reverse = b.reverse ++ (Lib.trimRightB L 48).reverse := by rw [← List.reverse_append, hb]
    have h2 : (Lib.trimRightB L 48).reverse = L.reverse.dropWhile (· == 48) := by unfold Lib.trimRightB; rw [List.reverse_reverse]
    have h3 := congrArg List.length hb
    rw [List.length_append] at h3
    have h4 := List.takeWhile_append_dropWhile (p := (· == 48)) (l := L.reverse)
    rw [← h2] at h4
    have h5 : b.reverse = L.reverse.takeWhile (· == 48) := List.append_cancel_right (h1.symm.trans h4.symm)
    rw [h5]
    apply drop_all
    intro x hx
    exact take_all (p := (· == 48)) hx
  generalize hr : Lib.trimRightB L 48 = r at *
  subst hb
  have hball : b.dropWhile (· == 48) = [] := by
    exact drop_all (fun x hx => all_drop hb48 x (by simpa using hx))
  have hL : Lib.trimLeftB (r ++ b) 48 = if (Lib.trimLeftB r 48).isEmpty then [] else Lib.trimLeftB r 48 ++ b := by
    unfold Lib.trimLeftB
    rw [List.dropWhile_append, hball]
  rw [hL]
  by_cases he : Lib.trimLeftB r 48 = []
  · rw [he]; simp [Lib.trimRightB]
  · have hne : (Lib.trimLeftB r 48).isEmpty = false := by cases h : Lib.trimLeftB r 48 with | nil => exact absurd h he | cons x y => rfl
    rw [hne]
    simp only [Bool.false_eq_true, if_false]
    have hlast2 : (Lib.trimLeftB r 48).getLast? = r.getLast? := by
      obtain ⟨a, ha⟩ := List.dropWhile_suffix (l := r) (· == 48)
      have ha' : a ++ Lib.trimLeftB r 48 = r := ha
      conv => rhs; rw [← ha']
      rw [List.getLast?_append]
      have : (Lib.trimLeftB r 48).getLast?.isSome = true := by rw [List.getLast?_isSome]; exact he
      cases h : (Lib.trimLeftB r 48).getLast? with
      | none => rw [h] at this; simp at this
      | some x => rfl
    have hR : Lib.trimRightB (Lib.trimLeftB r 48 ++ b) 48 = Lib.trimLeftB r 48 := by
      unfold Lib.trimRightB
      rw [List.reverse_append, List.dropWhile_append, hb48]
      simp only [List.isEmpty_nil, if_true]
      have : (Lib.trimLeftB r 48).reverse.dropWhile (· == 48) = (Lib.trimLeftB r 48).reverse := by
        cases h : (Lib.trimLeftB r 48).reverse with
        | nil => rfl
        | cons x y =>
          have h2 : (Lib.trimLeftB r 48).getLast? = some x := by rw [List.getLast?_eq_head?_reverse, h]; rfl
          rw [hlast2] at h2
          have : (x == 48) = false := by
            rw [Bool.eq_false_iff]; intro e
            rw [h2] at hlast; exact hlast (by rw [beq_iff_eq] at e; rw [e])
          rw [List.dropWhile_cons, this]; rfl
      rw [this, List.reverse_reverse]
    rw [hR]
    refine ⟨rfl, fun _ => ?_⟩
    rw [List.length_append, List.length_append]; omega

def refPow (l : List UInt8) : Int :=
  -((parts l).2.1.length : Int) + expS (parts l).2.2.1 + ((((parts l).1 ++ (parts l).2.1).length : Int) - (Lib.trimRightB ((parts l).1 ++ (parts l).2.1) 48).length)
def refDig (l : List UInt8) : List UInt8 := Lib.trimLeftB (Lib.trimRightB ((parts l).1 ++ (parts l).2.1) 48) 48

theorem ref_may (l : List UInt8) (hm : (may l).2 = true) (h30 : l.length ≤ 30) :
    mayP l = if refDig l = [] then (zeroV, 0)
      else if 999 < refPow l ∨ refPow l < -999 ∨ 30 < (formP (decide (l.head? = some 45), refDig l, refPow l)).length then (zeroV, 8)
      else ((decide (l.head? = some 45), refDig l, refPow l), 0) := by
  have hlen := wp_len l hm
  have hmade := parts_made l hm
  have hex := exp_cmp _ hmade.ht
  obtain ⟨t1, t2⟩ := trims ((parts l).1 ++ (parts l).2.1)
  have hRP : readP l = if refDig l = [] then (zeroV, true) else ((decide (l.head? = some 45), refDig l, wrap64 (expOf (parts l).2.2.1 + ((Lib.trimLeftB ((parts l).1 ++ (parts l).2.1) 48).length - (Lib.trimRightB (Lib.trimLeftB ((parts l).1 ++ (parts l).2.1) 48) 48).length - (parts l).2.1.length))), true) := by
    unfold readP refDig
    rw [if_pos ⟨hm, h30⟩, t1]
  by_cases hd : refDig l = []
  · rw [if_pos hd] at hRP ⊢
    unfold mayP
    rw [hRP]
    rfl
  · rw [if_neg hd] at hRP ⊢
    have h2 := t2 hd
    have hrl : (Lib.trimRightB ((parts l).1 ++ (parts l).2.1) 48).length ≤ ((parts l).1 ++ (parts l).2.1).length := (trimR_pre _).length_le
    have hpq : (wrap64 (expOf (parts l).2.2.1 + ((Lib.trimLeftB ((parts l).1 ++ (parts l).2.1) 48).length - (Lib.trimRightB (Lib.trimLeftB ((parts l).1 ++ (parts l).2.1) 48) 48).length - (parts l).2.1.length)) = refPow l) ∨
        (¬ (wrap64 (expOf (parts l).2.2.1 + ((Lib.trimLeftB ((parts l).1 ++ (parts l).2.1) 48).length - (Lib.trimRightB (Lib.trimLeftB ((parts l).1 ++ (parts l).2.1) 48) 48).length - (parts l).2.1.length)) ≤ 999 ∧ -999 ≤ wrap64 (expOf (parts l).2.2.1 + ((Lib.trimLeftB ((parts l).1 ++ (parts l).2.1) 48).length - (Lib.trimRightB (Lib.trimLeftB ((parts l).1 ++ (parts l).2.1) 48) 48).length - (parts l).2.1.length))) ∧ (999 < refPow l ∨ refPow l < -999)) := by
      rw [List.length_append] at h2 hrl
      unfold refPow
      rw [List.length_append]
      generalize (Lib.trimLeftB ((parts l).1 ++ (parts l).2.1) 48).length = A at *
      generalize (Lib.trimRightB ((parts l).1 ++ (parts l).2.1) 48).length = B at *
      generalize (Lib.trimRightB (Lib.trimLeftB ((parts l).1 ++ (parts l).2.1) 48) 48).length = C at *
      generalize expOf (parts l).2.2.1 = X at *
      generalize expS (parts l).2.2.1 = Y at *
      unfold ExpJ at hex
      unfold wrap64
      omega
    unfold mayP
    rw [hRP]
    simp only [true_and]
    rcases hpq with hpq | ⟨hn, ho⟩
    · rw [hpq]
      by_cases hc : 999 < refPow l ∨ refPow l < -999 ∨ 30 < (formP (decide (l.head? = some 45), refDig l, refPow l)).length
      · rw [if_pos hc, if_neg (by omega)]
      · rw [if_neg hc, if_pos (by omega)]
    · rw [if_neg (fun h => hn ⟨h.1, h.2.1⟩), if_pos (ho.elim .inl (fun h => .inr (.inl h)))]
end Go.Proofs.YtmniblcooficgaaGreatDoor
