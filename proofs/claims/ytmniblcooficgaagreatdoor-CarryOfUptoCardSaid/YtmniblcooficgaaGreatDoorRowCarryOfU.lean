/- The law CarryOf: true for every input. Its row, and its tied card; of arguments of bulk at most 1048576. -/
import Derived.Test.YtmniblcooficgaaGreatDoorRows
import Derived.Test.YtmniblcooficgaaGreatDoorCards
import Derived.Test.YtmniblcooficgaaGreatDoorTie
import Derived.Test.YtmniblcooficgaaGreatDoorD42
import Derived.Test.YtmniblcooficgaaGreatDoorD21
import Derived.Lib.LaidU8T
import Derived.Carry
import Derived.Deep.DeepHandedRow
import Derived.Deep.DeepWitnessRowRef
import Derived.Lib.LaidIn
import Derived.Lib.LaidSlice
import Derived.Lib.LaidU8
import Derived.Stop.LaidErr
import Derived.ProofKit
import Derived.SizedLaws
import Derived.SevenTiedAt
import Derived.PinnedBridge
import Derived.Great.CaseRows
import Derived.OpenShut
import Derived.ShutString
import Derived.JoinedOf
import Derived.LaidLaws
namespace Go.Proofs.YtmniblcooficgaaGreatDoor.RowCarryOfU
open Go.ChangeShapes Go.WideShapes Go.ChangeAt Go.RowKit Go.Lib Go.Great Go.Proofs
open Go.ChangeMaps (open_string shut_string)
set_option linter.unusedVariables false
set_option linter.unusedSimpArgs false
theorem own : ownKnob Tryz.prog.godebug = none := by kernel_rfl
theorem star : "*" ++ "errors.errorString" = "*errors.errorString" := by decide
theorem rowE (u : TypeId) (h : Tryz.prog.typeName? 3 u = some "*errors.errorString") : u = 204 :=
  typeName_ptr_named (nm := "errors.errorString") (by rw [star]; kernel_rfl) (by kernel_rfl) (by decide) u (by rw [star]; exact h)
/-- The cells of a datum of whole numbers. -/
def flatL : DataW Unit → List Value
  | .lit (.int k n) => [.int k n]
  | _ => []
def flatM : DataW Unit → List Value
  | .agg l => l.flatMap flatL
  | d => flatL d
def flatD : DataW Unit → List Value
  | .agg l => l.flatMap flatM
  | d => flatL d
/-- A world that fits: the settled one, the listed variables laid. -/
noncomputable def laidWorld (os : Os) : World :=
  let N := (World.settled Tryz.prog os).heap.size
  let w0 := World.holding Tryz.prog os ⟨#[.cells #[.string ⟨([118, 97, 108, 117, 101, 32, 111, 117, 116, 32, 111, 102, 32, 114, 97, 110, 103, 101] : List UInt8).toArray⟩] 206, .cells #[.string ⟨([105, 110, 118, 97, 108, 105, 100, 32, 115, 121, 110, 116, 97, 120] : List UInt8).toArray⟩] 206, .cells (caseT.flatMap cells5).toArray 211], #[], []⟩
  let put (h : Array Obj) (g : Nat) (cs : Array Value) : Array Obj := h.modify g fun
    | .cells _ t frozen => .cells cs t frozen
    | o => o
  let h0 := put w0.heap 7 (flatD Rows.laid_math_bits_deBruijn32tab).toArray
  let h1 := put h0 8 (flatD Rows.laid_math_bits_deBruijn64tab).toArray
  let h2 := put h1 6 (flatD Rows.laid_internal_strconv_uint64pow10).toArray
  let h3 := put h2 2 (flatD Rows.laid_unicode_utf8_acceptRanges).toArray
  let h4 := put h3 5 #[.iface 204 (.pointer (some ⟨N + 0, 0, none⟩))]
  let h5 := put h4 4 #[.iface 204 (.pointer (some ⟨N + 1, 0, none⟩))]
  let h6 := put h5 3 #[.slice (some ⟨N + 2, 0, none⟩) caseT.length caseT.length]
  let h7 := put h6 1 (flatD Rows.laid_unicode_utf8_first).toArray
  { w0 with heap := h7 }
noncomputable abbrev N0 : Nat := (World.settled Tryz.prog default).heap.size
set_option maxRecDepth 1000000 in
theorem piece0 (os : Os) (args : Array Value) : LaidIn Tryz.prog ((laidWorld os).forCall (fun _ _ => 0) ⟨#[], args, []⟩).memory [("math/bits.deBruijn32tab", Rows.laid_math_bits_deBruijn32tab), ("math/bits.deBruijn64tab", Rows.laid_math_bits_deBruijn64tab), ("internal/strconv.uint64pow10", Rows.laid_internal_strconv_uint64pow10), ("unicode/utf8.acceptRanges", Rows.laid_unicode_utf8_acceptRanges), ("strconv.ErrRange", Rows.laid_strconv_ErrRange), ("strconv.ErrSyntax", Rows.laid_strconv_ErrSyntax)] [7, 8, 6, 2, 5, N0 + 0, 4, N0 + 1] :=
  LaidIn.of_run [7, 8, 6, 2, 5, N0 + 0, 4, N0 + 1] 8 (by kernel_rfl) (by kernel_rfl) (by kernel_rfl) (by kernel_rfl)
theorem cty : CTypes Tryz.prog 189 211 209 130 21 := ⟨by kernel_rfl, by kernel_rfl, by kernel_rfl, by kernel_rfl, by kernel_rfl, by kernel_rfl, by kernel_rfl, by kernel_rfl, by kernel_rfl⟩
set_option maxRecDepth 1000000 in
theorem piece1 (os : Os) (args : Array Value) : LaidIn Tryz.prog ((laidWorld os).forCall (fun _ _ => 0) ⟨#[], args, []⟩).memory [("unicode.CaseRanges", Rows.laid_unicode_CaseRanges)] [3, N0 + 2] := by
  rw [show (Rows.laid_unicode_CaseRanges : DataW Unit) = .slice (caseT.map rowData) [] from Pinned.caseRanges_eq]
  exact laidIn_case cty (tg := 189) (tb := 211) caseT (by kernel_rfl) (by kernel_rfl) (Nat.le_of_ble_eq_true (by kernel_rfl)) (by kernel_rfl) (by kernel_rfl) (by kernel_rfl) (by decide +kernel)
set_option maxRecDepth 1000000 in
theorem piece2 (os : Os) (args : Array Value) : LaidIn Tryz.prog ((laidWorld os).forCall (fun _ _ => 0) ⟨#[], args, []⟩).memory [("unicode/utf8.first", Rows.laid_unicode_utf8_first)] [1] :=
  LaidIn.of_run [1] 8 (by kernel_rfl) (by kernel_rfl) (by kernel_rfl) (by kernel_rfl)
theorem laid_met (os : Os) (args : Array Value) : laidMet Tryz.prog Rows.carryOfUptoRow.laid ((laidWorld os).forCall (fun _ _ => 0) ⟨#[], args, []⟩).memory :=
  LaidIn.met (LaidIn.append (LaidIn.append (piece0 os args) (piece1 os args) (by kernel_rfl)) (piece2 os args) (by kernel_rfl))
theorem witness_row (os : Os) {H : Type} (enc : TypeId × Value → H) :
    OpenSpec.preRow enc Tryz.prog Tryz.f3 (Rows.OpenSpec.upto Rows.carryOfSpec) Rows.carryOfUptoRow.domain false Rows.carryOfUptoRow.laid ((laidWorld os).forCall (fun _ _ => 0) ⟨#[], #[.int .i64 0, .agg #[.int .i64 0, .string ⟨#[]⟩, .string ⟨#[]⟩, .slice none 0 0]], []⟩).memory #[.int .i64 0, .agg #[.int .i64 0, .string ⟨#[]⟩, .string ⟨#[]⟩, .slice none 0 0]] := by
  have hw : (DataW.whole enc Tryz.prog ((laidWorld os).forCall (fun _ _ => 0) ⟨#[], #[.int .i64 0, .agg #[.int .i64 0, .string ⟨#[]⟩, .string ⟨#[]⟩, .slice none 0 0]], []⟩).memory Tryz.f3.params.toList (OpenSpec.vars (Rows.OpenSpec.upto Rows.carryOfSpec)) false (#[.int .i64 0, .agg #[.int .i64 0, .string ⟨#[]⟩, .string ⟨#[]⟩, .slice none 0 0]] : Array Value).toList 8).map (fun x => (x.1, x.2.1)) =
      some ([.lit (.int .i64 0), .agg [.lit (.int .i64 0), .lit (.string []), .lit (.string []), .nil]], []) := by kernel_rfl
  obtain ⟨⟨x1, x2, x3⟩, hx, hx1⟩ := Option.map_eq_some_iff.1 hw
  simp only [Prod.mk.injEq] at hx1
  obtain ⟨rfl, rfl⟩ := hx1
  exact OpenSpec.preRow_of_cond 8 hx (by kernel_rfl) (fun k hk => by cases hk; kernel_rfl) (by kernel_rfl) (laid_met os _)
set_option maxRecDepth 100000 in
set_option maxHeartbeats 2000000 in
theorem lifted (os : Os) (started : os.Started) (H : Type) (enc : TypeId × Value → H) (F : Stop.Interp) :
    ReturnsInHanded {} Tryz.checked os 3 .any (OpenSpec.preRow enc Tryz.prog Tryz.f3 (Rows.OpenSpec.upto Rows.carryOfSpec) Rows.carryOfUptoRow.domain false Rows.carryOfUptoRow.laid) ((OpenSpec.at (Rows.OpenSpec.upto Rows.carryOfSpec) F).post enc Tryz.prog Tryz.f3 false true false false) := by
  refine returnsInHanded_of_row (C := Tryz.checked) (s := (Rows.OpenSpec.upto Rows.carryOfSpec)) own started (by kernel_rfl) Tryz.func3
    (witness_row_atRef (enc := enc) (C := Tryz.checked) false (laidWorld os) #[.int .i64 0, .agg #[.int .i64 0, .string ⟨#[]⟩, .string ⟨#[]⟩, .slice none 0 0]] rfl (by kernel_rfl) (by kernel_rfl) (by kernel_rfl) (witness_row os enc)) ?_
  intro W base args ds gs before hval0 hW hcnd0 hcond hsz0 hL hsh _
  have hsz : (DataW.weightsEach Tryz.prog (Tryz.f3.params.toList ++ Rows.carryOfSpec.plain.varTypes Tryz.prog) (ds ++ gs)).all (· ≤ reachBytes) = true := hsz0
  have hval : ∀ (j : Nat) t v, Tryz.f3.params[j]? = some t → args[j]? = some v → Value.okWide Tryz.prog W .any base t v := hval0
  have hW' := hW
  obtain ⟨p, q, hA0, hV, rfl, hfz, hnd⟩ := hW
  have hA : DataW.TrodAll enc Tryz.prog W 0 (fun _ => true) true Tryz.f3.params.toList args.toList ds p := hA0
  rw [Tryz.params3] at hA hval hsz
  obtain ⟨v0, vs0, d0, ds0, p0, q0, hargs, rfl, rfl, h0, r0⟩ := trodAll_cons hA
  obtain ⟨v1, vs1, d1, ds1, p1, q1, rfl, rfl, rfl, h1, r1⟩ := trodAll_cons r0
  obtain ⟨rfl, rfl, rfl⟩ := trodAll_nil r1
  obtain rfl : args = #[v0, v1] := by cases args; simp_all
  obtain ⟨rfl, rfl⟩ := trodVars_none hV
  have hbk := bulk_bound (hcond _ rfl)
  obtain ⟨a0, rfl, rfl, rfl, w0⟩ := open_int Tryz.underlying3 (hval 0 3 v0 rfl rfl) h0
  have h1k := h1
  have bk1 : Rows.uptoBulk d1 ≤ 1048576 := Nat.le_trans (bulk_part (by simp)) hbk
  obtain ⟨l1, w1⟩ := nd_open (okWide_struct Tryz.underlying24 (hval 1 24 v1 rfl rfl)) h1 bk1
  have hlt1 : ∀ x ∈ p1, x.block < W.heap.size := fun x hx => hW'.lt x (by simp [hx])
  have hL' : laidMet Tryz.prog Rows.carryOfUptoRow.laid W := hL
  clear hA0 hval0 hsz0 hsz hcnd0 hL
  have hE : Env W := by
    refine ⟨?_, Go.Proofs.cell_of_shapedOpen_int (zero := #[.int .i64 0]) (t := 3) hsh (of_decide_eq_true (by kernel_rfl)) (by kernel_rfl) rfl (by kernel_rfl) (by kernel_rfl) (by kernel_rfl), ?_⟩
    · exact tabIs_of_head (k := .u64) (zs := pow10Tab) (g := 6) (t := 197) (e := 133) (n := 20) (by kernel_rfl) (by kernel_rfl) (by kernel_rfl) (by kernel_rfl) (by kernel_rfl) (by kernel_rfl) hL'.tail.tail
    · obtain ⟨a, s, hv, _⟩ := laid_sentinel (g := 5) hL'.tail.tail.tail.tail (by kernel_rfl) (by kernel_rfl) Tryz.underlying73 rowE Tryz.underlying204 Tryz.underlying206 rfl rfl Tryz.underlying9 (by kernel_rfl) (by kernel_rfl)
      exact ⟨_, by simpa using World.var?_cell (show Tryz.prog.globalNamed "strconv.ErrRange" = some 5 by kernel_rfl) hv 0, Or.inr ⟨_, _, rfl⟩⟩
  have hU : EnvU W := by
    refine ⟨hE, utf8Tabs_of_readsT (U8Types.of196 Tryz.laysValid) ⟨by kernel_rfl, by kernel_rfl, by kernel_rfl, by kernel_rfl, by kernel_rfl, by kernel_rfl, by kernel_rfl⟩ ?_ ?_⟩
    · have h := Lib.laidMet.reads hL' (n := "unicode/utf8.first") (d := Rows.laid_unicode_utf8_first) (.tail _ (.tail _ (.tail _ (.tail _ (.tail _ (.tail _ (.tail _ (.head _))))))))
      rwa [show (Rows.laid_unicode_utf8_first : DataW Unit) = Lib.firstData from Pinned.utf8First_eq] at h
    · have h := Lib.laidMet.reads hL' (n := "unicode/utf8.acceptRanges") (d := Rows.laid_unicode_utf8_acceptRanges) (.tail _ (.tail _ (.tail _ (.head _))))
      rwa [show (Rows.laid_unicode_utf8_acceptRanges : DataW Unit) = Lib.acceptData by kernel_rfl] at h
  refine (carryOf_law a0 v1 l1 W hU w0 w1).mono fun e W' ⟨he, bel⟩ => ?_
  subst he
  exact ⟨_, rfl, _, _, _, [], _, [], hW', trodAll_mk1 (shut_bool Tryz.underlying4 _), (trodAll_cons_mk (shut_int Tryz.underlying3 w0) (trodAll_cons_mk (Below.trod (by kernel_rfl) (by kernel_rfl) (of_decide_eq_true (by kernel_rfl)) h1k bel hlt1) trodAll_mk0)), rfl, bel.frame _, fun h => by cases h⟩
theorem over : Rows.CarryOfUptoSaid :=
  OpenClaim.holds_of_cond 3 Tryz.f3 rfl rfl rfl rfl rfl rfl rfl ⟨rfl, rfl, rfl, rfl, rfl⟩ rfl rfl rfl rfl rfl (by kernel_rfl) Tryz.func3 (by kernel_rfl)
    (of_decide_eq_true (by kernel_rfl)) (by unfold Func.isWrapper; rw [if_neg (of_decide_eq_false (by kernel_rfl))]; exact ⟨rfl, rfl⟩)
    (fun os started H enc _ F => by rw [OpenClaim.pre_eq_preRow]; exact lifted os started H enc F)
theorem card : Rows.CarryOfUptoCardSaid :=
  Claim7.holds_tied_plain_at .later [] [.data, .data, .data, .data, .sentinel, .sentinel, .pinned, .pinned] true (true, "c379c6195d99797c4a18433e0e9c5402e7535ba24bd3d39c5671807c39e55fdd") true
    over (fun _ h => by cases h) (by kernel_rfl) (fun _ h => by cases h) carryOfUpto_row_tie rfl ⟨rfl, rfl⟩ (by kernel_rfl) rfl
    (fun f fn hf hfn => by
      obtain rfl : f = 3 := Option.some.inj ((show Tryz.prog.funcNamed "hexapla/hexaplalaw15.CarryOf" = some 3 by kernel_rfl).symm.trans hf) |>.symm
      obtain rfl : fn = Tryz.f3 := (Option.some.inj (Tryz.func3.symm.trans hfn)).symm
      exact ⟨by kernel_rfl, fun j t ht => by
        rw [Tryz.params3] at ht
        have h3 : t = 3 ∨ t = 24 := by
          rcases j with _ | j
          · have h4 := ht.symm; simp at h4; simp [h4]
          rcases j with _ | j
          · have h4 := ht.symm; simp at h4; simp [h4]
          simp at ht
        rcases h3 with rfl | rfl
        · exact (show Tryz.prog.wantsStandIn 3 = false by kernel_rfl)
        · exact (show Tryz.prog.wantsStandIn 24 = false by kernel_rfl)⟩)
    (by kernel_rfl)
end Go.Proofs.YtmniblcooficgaaGreatDoor.RowCarryOfU
namespace Go.Proofs.YtmniblcooficgaaGreatDoor
/-- The card, under a short name, for the claim. -/
theorem carryOfUptoCard_holds : Rows.CarryOfUptoCardSaid := RowCarryOfU.card
#print axioms carryOfUptoCard_holds
end Go.Proofs.YtmniblcooficgaaGreatDoor
