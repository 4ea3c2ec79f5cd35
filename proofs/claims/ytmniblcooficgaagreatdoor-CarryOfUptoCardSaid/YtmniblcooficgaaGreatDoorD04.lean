import Derived.Test.YtmniblcooficgaaGreatDoorProg
import Derived.WalkKit
import Derived.Lib.Hide
import Derived.WalkSpells
import Derived.BigQuiet
import Derived.Deep.QuietTactic
import Derived.Deep.DeepCutAuto
import Derived.Deep.CutBlock
import Derived.Lib.ConvBytes
import Derived.Test.YtmniblcooficgaaGreatDoorD01
import Derived.Lib.Strings
import Derived.Lib.IndexMore
import Derived.Lib.Case
import Derived.Lib.TrimByte
import Derived.Lib.AtoiAll
import Derived.Lib.ItoaNum
import Derived.Lib.Bytealg
namespace Go.Proofs.YtmniblcooficgaaGreatDoor.Num2
set_option linter.unusedSimpArgs false
set_option linter.unusedVariables false

def dig (b : UInt8) : Bool := decide (48 ≤ b.toNat ∧ b.toNat ≤ 57)
def isE (b : UInt8) : Bool := decide (b.toNat = 101 ∨ b.toNat = 69)
def isSign (b : UInt8) : Bool := decide (b.toNat = 43 ∨ b.toNat = 45)

def step (s : Nat) (b : UInt8) : Nat :=
  if s = 0 then (if b.toNat = 45 then 1 else if b.toNat = 48 then 2 else if dig b then 3 else 9)
  else if s = 1 then (if b.toNat = 48 then 2 else if dig b then 3 else 9)
  else if s = 2 then (if b.toNat = 46 then 4 else if isE b then 6 else 9)
  else if s = 3 then (if dig b then 3 else if b.toNat = 46 then 4 else if isE b then 6 else 9)
  else if s = 4 then (if dig b then 5 else 9)
  else if s = 5 then (if dig b then 5 else if isE b then 6 else 9)
  else if s = 6 then (if isSign b then 7 else if dig b then 8 else 9)
  else if s = 7 then (if dig b then 8 else 9)
  else if s = 8 then (if dig b then 8 else 9)
  else 9

def ends (s : Nat) : Bool × Bool :=
  if s = 9 then (false, false) else if s = 2 ∨ s = 3 ∨ s = 5 ∨ s = 8 then (true, true) else (true, false)

def may (l : List UInt8) : Bool × Bool := ends (l.foldl step 0)

abbrev R := List UInt8 × List UInt8 × List UInt8 × Bool × Bool
def no : R := ([], [], [], false, false)
def expo (w p : List UInt8) : List UInt8 → R
  | [] => no
  | c :: r =>
    if isE c then
      let d := match r with | [] => [] | x :: y => if isSign x then y else x :: y
      if d.dropWhile dig = [] then (w, p, r, true, !(d.takeWhile dig).isEmpty) else no
    else no
def body (l : List UInt8) : R :=
  let w := l.takeWhile dig
  let r := l.dropWhile dig
  if w = [] ∧ r ≠ [] then no
  else if 1 < w.length ∧ w.head? = some 48 then no
  else match r with
    | [] => (w, [], [], true, !w.isEmpty)
    | c :: q =>
      if c.toNat = 46 then
        if q.dropWhile dig = [] then (w, q.takeWhile dig, [], true, !(q.takeWhile dig).isEmpty)
        else if q.takeWhile dig = [] then no
        else expo w (q.takeWhile dig) (q.dropWhile dig)
      else expo w [] (c :: q)
def unsign : List UInt8 → List UInt8
  | [] => []
  | c :: r => if c.toNat = 45 then r else c :: r
def parts (l : List UInt8) : R := body (unsign l)

theorem step4 (b : UInt8) : step 4 b = if dig b then 5 else 9 := rfl
theorem step5 (b : UInt8) : step 5 b = if dig b then 5 else if isE b then 6 else 9 := rfl
theorem step6 (b : UInt8) : step 6 b = if isSign b then 7 else if dig b then 8 else 9 := rfl

theorem fold9 (l : List UInt8) : l.foldl step 9 = 9 := by
  induction l with
  | nil => rfl
  | cons c r ih => simpa [step] using ih

theorem fold_digs (s : Nat) (hs : s = 3 ∨ s = 5 ∨ s = 8) (l : List UInt8) (h : ∀ b ∈ l, dig b = true) : l.foldl step s = s := by
  induction l with
  | nil => rfl
  | cons c r ih =>
    have hc : dig c = true := h c (by simp)
    have : step s c = s := by rcases hs with rfl | rfl | rfl <;> simp [step, hc]
    rw [List.foldl_cons, this]
    exact ih (fun b hb => h b (by simp [hb]))

theorem takeWhile_dig (l : List UInt8) : ∀ b ∈ l.takeWhile dig, dig b = true := by
  intro b hb
  induction l with
  | nil => simp at hb
  | cons c r ih =>
    by_cases hc : dig c = true
    · rw [List.takeWhile_cons_of_pos hc] at hb
      rcases List.mem_cons.1 hb with rfl | hb
      · exact hc
      · exact ih hb
    · rw [List.takeWhile_cons_of_neg hc] at hb; simp at hb

theorem dropWhile_head {l r : List UInt8} {c : UInt8} (h : l.dropWhile dig = c :: r) : dig c = false := by
  induction l with
  | nil => simp at h
  | cons x y ih =>
    by_cases hx : dig x = true
    · rw [List.dropWhile_cons_of_pos hx] at h; exact ih h
    · rw [List.dropWhile_cons_of_neg hx] at h
      obtain ⟨rfl, _⟩ := List.cons.inj h
      simpa using hx

theorem fold_split (s : Nat) (l : List UInt8) : l.foldl step s = (l.dropWhile dig).foldl step ((l.takeWhile dig).foldl step s) := by
  rw [← List.foldl_append, List.takeWhile_append_dropWhile]

theorem fold8 (d : List UInt8) : d.foldl step 8 = if d.dropWhile dig = [] then 8 else 9 := by
  rw [fold_split, fold_digs 8 (by simp) _ (takeWhile_dig d)]
  cases h : d.dropWhile dig with
  | nil => simp
  | cons c r => simp [step, dropWhile_head h, fold9]

theorem fold7 (d : List UInt8) : d.foldl step 7 = if d = [] then 7 else if d.dropWhile dig = [] then 8 else 9 := by
  cases d with
  | nil => simp
  | cons c r =>
    by_cases hc : dig c = true
    · simp [step, hc, fold8, List.dropWhile_cons]
    · simp at hc
      simp [step, hc, fold9, List.dropWhile_cons]

theorem sign_not_dig {c : UInt8} (h : isSign c = true) : dig c = false := by
  simp [isSign] at h
  simp [dig]; omega

theorem fold6 (r : List UInt8) : ends (r.foldl step 6) = ((expo [] [] (101 :: r)).2.2.2.1, (expo [] [] (101 :: r)).2.2.2.2) := by
  have e101 : isE 101 = true := by decide
  simp only [expo, e101, if_true]
  cases r with
  | nil => rfl
  | cons c r =>
    by_cases hs : isSign c = true
    · have hd := sign_not_dig hs
      simp only [List.foldl_cons, step6, hs, if_true]
      rw [fold7]
      cases r with
      | nil => simp [ends]
      | cons x y =>
        simp only [reduceCtorEq, if_false]
        by_cases hx : dig x = true
        · by_cases hz : y.dropWhile dig = [] <;> simp [List.dropWhile_cons, List.takeWhile_cons, hx, hz, ends, no]
        · simp at hx; simp [List.dropWhile_cons, hx, ends, no]
    · simp at hs
      by_cases hd : dig c = true
      · simp only [List.foldl_cons, step6, hs, hd, if_true]
        simp only [Bool.false_eq_true, if_false]
        rw [fold8]
        by_cases hz : r.dropWhile dig = [] <;> simp [List.dropWhile_cons, List.takeWhile_cons, hd, hz, ends, no]
      · simp at hd
        simp [step, hs, hd, fold9, List.dropWhile_cons, ends, no]

theorem expo_flags (w p w' p' r : List UInt8) : ((expo w p r).2.2.2.1, (expo w p r).2.2.2.2) = ((expo w' p' r).2.2.2.1, (expo w' p' r).2.2.2.2) := by
  cases r with
  | nil => rfl
  | cons c r =>
    simp only [expo]
    generalize (match r with | [] => [] | x :: y => if isSign x = true then y else x :: y) = d
    cases isE c
    · rfl
    · by_cases h : d.dropWhile dig = [] <;> simp [h, no]
theorem expo_e (c : UInt8) (hc : isE c = true) (r : List UInt8) : expo [] [] (c :: r) = expo [] [] (101 :: r) := by
  have e101 : isE 101 = true := by decide
  simp only [expo, hc, e101, if_true]

theorem dot_not_dig {c : UInt8} (h : c.toNat = 46) : dig c = false := by simp [dig]; omega
theorem e_not_dig {c : UInt8} (h : isE c = true) : dig c = false := by simp [isE] at h; simp [dig]; omega
theorem fold4 (w q : List UInt8) : ends (q.foldl step 4) =
    (let x := (if q.dropWhile dig = [] then (w, q.takeWhile dig, [], true, !(q.takeWhile dig).isEmpty) else if q.takeWhile dig = [] then no else expo w (q.takeWhile dig) (q.dropWhile dig) : R); (x.2.2.2.1, x.2.2.2.2)) := by
  cases q with
  | nil => simp [ends]
  | cons c r =>
    by_cases hc : dig c = true
    · simp only [List.foldl_cons, step4, hc, if_true, List.dropWhile_cons, List.takeWhile_cons]
      rw [fold_split, fold_digs 5 (by simp) _ (takeWhile_dig r)]
      cases h : r.dropWhile dig with
      | nil => simp [ends]
      | cons x y =>
        have hx := dropWhile_head h
        by_cases he : isE x = true
        · simp only [List.foldl_cons, step5, hx, he]
          simp only [if_false, if_true, Bool.false_eq_true, reduceCtorEq]
          rw [fold6, ← expo_e x he, expo_flags [] [] w]
        · simp at he; simp [step, hx, he, fold9, ends, expo, no]
    · simp at hc
      simp [step, hc, fold9, List.dropWhile_cons, List.takeWhile_cons, ends, no]

theorem fold_mid (s : Nat) (hs : s = 2 ∨ s = 3) (w : List UInt8) (c : UInt8) (q : List UInt8) (hc : dig c = false) : ends ((c :: q).foldl step s) =
    (let x := (if c.toNat = 46 then (if q.dropWhile dig = [] then (w, q.takeWhile dig, [], true, !(q.takeWhile dig).isEmpty) else if q.takeWhile dig = [] then no else expo w (q.takeWhile dig) (q.dropWhile dig)) else expo w [] (c :: q) : R); (x.2.2.2.1, x.2.2.2.2)) := by
  by_cases hp : c.toNat = 46
  · rw [if_pos hp]
    have : step s c = 4 := by rcases hs with rfl | rfl <;> simp [step, hp, hc]
    rw [List.foldl_cons, this]
    exact fold4 w q
  · rw [if_neg hp]
    by_cases he : isE c = true
    · have : step s c = 6 := by rcases hs with rfl | rfl <;> simp [step, hp, hc, he]
      rw [List.foldl_cons, this, fold6, ← expo_e c he, expo_flags [] [] w []]
    · simp at he
      have : step s c = 9 := by rcases hs with rfl | rfl <;> simp [step, hp, hc, he]
      rw [List.foldl_cons, this, fold9]
      simp [expo, he, ends, no]

theorem fold_body (s : Nat) (hs : s = 0 ∨ s = 1) (l : List UInt8) (hl : s = 0 → ∀ c r, l = c :: r → ¬ c.toNat = 45) : ends (l.foldl step s) = ((body l).2.2.2.1, (body l).2.2.2.2) := by
  cases l with
  | nil => rcases hs with rfl | rfl <;> rfl
  | cons c r =>
    by_cases hc : dig c = true
    · by_cases h0 : c.toNat = 48
      · have hst : step s c = 2 := by
          rcases hs with rfl | rfl
          · simp [step, h0]
          · simp [step, h0]
        have h48 : c = 48 := UInt8.toNat_inj.1 (by simpa using h0)
        rw [List.foldl_cons, hst]
        simp only [body, List.takeWhile_cons, List.dropWhile_cons, hc, if_true]
        cases r with
        | nil => simp [ends]
        | cons x y =>
          by_cases hx : dig x = true
          · simp only [List.takeWhile_cons, hx, if_true]
            have hnp : ¬ x.toNat = 46 := fun h => by rw [dot_not_dig h] at hx; cases hx
            have hne : isE x = false := by cases he : isE x with | false => rfl | true => rw [e_not_dig he] at hx; cases hx
            simp [step, hnp, hne, fold9, ends, no, h48]
          · simp at hx
            rw [List.takeWhile_cons_of_neg (by simp [hx]), List.dropWhile_cons_of_neg (by simp [hx])]
            rw [fold_mid 2 (by simp) [c] x y hx]
            simp
      · have hst : step s c = 3 := by
          rcases hs with rfl | rfl
          · simp [step, hl rfl c r rfl, h0, hc]
          · simp [step, h0, hc]
        have h48 : ¬ c = 48 := fun h => h0 (by rw [h]; rfl)
        rw [List.foldl_cons, hst]
        simp only [body, List.takeWhile_cons, List.dropWhile_cons, hc, if_true]
        rw [fold_split, fold_digs 3 (by simp) _ (takeWhile_dig r)]
        cases h : r.dropWhile dig with
        | nil => simp [ends, h48]
        | cons x y =>
          rw [fold_mid 3 (by simp) (c :: r.takeWhile dig) x y (dropWhile_head h)]
          simp [h48]
    · simp at hc
      have hst : step s c = 9 := by
        have h48 : ¬ c.toNat = 48 := fun h => by simp [dig, h] at hc
        rcases hs with rfl | rfl
        · simp [step, hl rfl c r rfl, h48, hc]
        · simp [step, h48, hc]
      rw [List.foldl_cons, hst, fold9]
      simp [body, List.takeWhile_cons, List.dropWhile_cons, hc, ends, no]

theorem may_parts (l : List UInt8) : may l = ((parts l).2.2.2.1, (parts l).2.2.2.2) := by
  unfold may parts
  cases l with
  | nil => rfl
  | cons c r =>
    by_cases hc : c.toNat = 45
    · have : step 0 c = 1 := by simp [step, hc]
      rw [List.foldl_cons, this]
      simp only [unsign, hc, if_true]
      exact fold_body 1 (by simp) r (fun h => by omega)
    · simp only [unsign, hc, if_false]
      exact fold_body 0 (by simp) (c :: r) (fun _ x y h => by obtain ⟨rfl, _⟩ := List.cons.inj h; exact hc)

theorem step_le (s : Nat) (b : UInt8) : step s b ≤ 9 := by 
  unfold step
  repeat' split
  all_goals omega
end Go.Proofs.YtmniblcooficgaaGreatDoor.Num2
namespace Go.Proofs.YtmniblcooficgaaGreatDoor
open Go.RowKit Num2
set_option linter.unusedSimpArgs false
set_option linter.unusedVariables false

theorem ret_i {a b : Int} (h : a = b) : Ending.returned (.int .i64 a) = .returned (.int .i64 b) := by rw [h]

set_option maxHeartbeats 1000000 in
theorem step_any0 (b : UInt8) (w : World) :
    Calls Tryz.prog 149 #[.int .i64 0, .int .u8 b.toNat] w fun e w' => e = .returned (.int .i64 (Num2.step 0 b : Nat)) ∧ w' = w := by
  go_enter Tryz.func149, Tryz.ntmps149
  go_wp2
  all_goals (go_ret; refine ⟨ret_i ?_, rfl⟩; (try simp only [beq_iff_eq, beq_eq_false_iff_ne, ne_eq] at *); simp only [Num2.step, dig, isE, isSign, decide_eq_true_eq]; first | (simp; done) | (simp; (repeat' split) <;> omega))
set_option maxHeartbeats 1000000 in
theorem step_any1 (b : UInt8) (w : World) :
    Calls Tryz.prog 149 #[.int .i64 1, .int .u8 b.toNat] w fun e w' => e = .returned (.int .i64 (Num2.step 1 b : Nat)) ∧ w' = w := by
  go_enter Tryz.func149, Tryz.ntmps149
  go_wp2
  all_goals (go_ret; refine ⟨ret_i ?_, rfl⟩; (try simp only [beq_iff_eq, beq_eq_false_iff_ne, ne_eq] at *); simp only [Num2.step, dig, isE, isSign, decide_eq_true_eq]; first | (simp; done) | (simp; (repeat' split) <;> omega))
set_option maxHeartbeats 1000000 in
theorem step_any2 (b : UInt8) (w : World) :
    Calls Tryz.prog 149 #[.int .i64 2, .int .u8 b.toNat] w fun e w' => e = .returned (.int .i64 (Num2.step 2 b : Nat)) ∧ w' = w := by
  go_enter Tryz.func149, Tryz.ntmps149
  go_wp2
  all_goals (go_ret; refine ⟨ret_i ?_, rfl⟩; (try simp only [beq_iff_eq, beq_eq_false_iff_ne, ne_eq] at *); simp only [Num2.step, dig, isE, isSign, decide_eq_true_eq]; first | (simp; done) | (simp; (repeat' split) <;> omega))
set_option maxHeartbeats 1000000 in
theorem step_any3 (b : UInt8) (w : World) :
    Calls Tryz.prog 149 #[.int .i64 3, .int .u8 b.toNat] w fun e w' => e = .returned (.int .i64 (Num2.step 3 b : Nat)) ∧ w' = w := by
  go_enter Tryz.func149, Tryz.ntmps149
  go_wp2
  all_goals (go_ret; refine ⟨ret_i ?_, rfl⟩; (try simp only [beq_iff_eq, beq_eq_false_iff_ne, ne_eq] at *); simp only [Num2.step, dig, isE, isSign, decide_eq_true_eq]; first | (simp; done) | (simp; (repeat' split) <;> omega))
set_option maxHeartbeats 1000000 in
theorem step_any4 (b : UInt8) (w : World) :
    Calls Tryz.prog 149 #[.int .i64 4, .int .u8 b.toNat] w fun e w' => e = .returned (.int .i64 (Num2.step 4 b : Nat)) ∧ w' = w := by
  go_enter Tryz.func149, Tryz.ntmps149
  go_wp2
  all_goals (go_ret; refine ⟨ret_i ?_, rfl⟩; (try simp only [beq_iff_eq, beq_eq_false_iff_ne, ne_eq] at *); simp only [Num2.step, dig, isE, isSign, decide_eq_true_eq]; first | (simp; done) | (simp; (repeat' split) <;> omega))
set_option maxHeartbeats 1000000 in
theorem step_any5 (b : UInt8) (w : World) :
    Calls Tryz.prog 149 #[.int .i64 5, .int .u8 b.toNat] w fun e w' => e = .returned (.int .i64 (Num2.step 5 b : Nat)) ∧ w' = w := by
  go_enter Tryz.func149, Tryz.ntmps149
  go_wp2
  all_goals (go_ret; refine ⟨ret_i ?_, rfl⟩; (try simp only [beq_iff_eq, beq_eq_false_iff_ne, ne_eq] at *); simp only [Num2.step, dig, isE, isSign, decide_eq_true_eq]; first | (simp; done) | (simp; (repeat' split) <;> omega))
set_option maxHeartbeats 1000000 in
theorem step_any6 (b : UInt8) (w : World) :
    Calls Tryz.prog 149 #[.int .i64 6, .int .u8 b.toNat] w fun e w' => e = .returned (.int .i64 (Num2.step 6 b : Nat)) ∧ w' = w := by
  go_enter Tryz.func149, Tryz.ntmps149
  go_wp2
  all_goals (go_ret; refine ⟨ret_i ?_, rfl⟩; (try simp only [beq_iff_eq, beq_eq_false_iff_ne, ne_eq] at *); simp only [Num2.step, dig, isE, isSign, decide_eq_true_eq]; first | (simp; done) | (simp; (repeat' split) <;> omega))
set_option maxHeartbeats 1000000 in
theorem step_any7 (b : UInt8) (w : World) :
    Calls Tryz.prog 149 #[.int .i64 7, .int .u8 b.toNat] w fun e w' => e = .returned (.int .i64 (Num2.step 7 b : Nat)) ∧ w' = w := by
  go_enter Tryz.func149, Tryz.ntmps149
  go_wp2
  all_goals (go_ret; refine ⟨ret_i ?_, rfl⟩; (try simp only [beq_iff_eq, beq_eq_false_iff_ne, ne_eq] at *); simp only [Num2.step, dig, isE, isSign, decide_eq_true_eq]; first | (simp; done) | (simp; (repeat' split) <;> omega))
set_option maxHeartbeats 1000000 in
theorem step_any8 (b : UInt8) (w : World) :
    Calls Tryz.prog 149 #[.int .i64 8, .int .u8 b.toNat] w fun e w' => e = .returned (.int .i64 (Num2.step 8 b : Nat)) ∧ w' = w := by
  go_enter Tryz.func149, Tryz.ntmps149
  go_wp2
  all_goals (go_ret; refine ⟨ret_i ?_, rfl⟩; (try simp only [beq_iff_eq, beq_eq_false_iff_ne, ne_eq] at *); simp only [Num2.step, dig, isE, isSign, decide_eq_true_eq]; first | (simp; done) | (simp; (repeat' split) <;> omega))
set_option maxHeartbeats 1000000 in
theorem step_any9 (b : UInt8) (w : World) :
    Calls Tryz.prog 149 #[.int .i64 9, .int .u8 b.toNat] w fun e w' => e = .returned (.int .i64 (Num2.step 9 b : Nat)) ∧ w' = w := by
  go_enter Tryz.func149, Tryz.ntmps149
  go_wp2
  all_goals (go_ret; refine ⟨ret_i ?_, rfl⟩; (try simp only [beq_iff_eq, beq_eq_false_iff_ne, ne_eq] at *); simp only [Num2.step, dig, isE, isSign, decide_eq_true_eq]; first | (simp; done) | (simp; (repeat' split) <;> omega))
theorem step_any (s : Nat) (hs : s ≤ 9) (b : UInt8) (w : World) :
    Calls Tryz.prog 149 #[.int .i64 s, .int .u8 b.toNat] w fun e w' => e = .returned (.int .i64 (Num2.step s b : Nat)) ∧ w' = w := by
  have h : s = 0 ∨ s = 1 ∨ s = 2 ∨ s = 3 ∨ s = 4 ∨ s = 5 ∨ s = 6 ∨ s = 7 ∨ s = 8 ∨ s = 9 := by omega
  rcases h with rfl | rfl | rfl | rfl | rfl | rfl | rfl | rfl | rfl | rfl
  · exact step_any0 b w
  · exact step_any1 b w
  · exact step_any2 b w
  · exact step_any3 b w
  · exact step_any4 b w
  · exact step_any5 b w
  · exact step_any6 b w
  · exact step_any7 b w
  · exact step_any8 b w
  · exact step_any9 b w

set_option maxHeartbeats 1000000 in
theorem may_any (s : ByteArray) (w : World) (hs : s.size ≤ 140737488351232) :
    Calls Tryz.prog 140 #[.string s] w fun e w' => e = .returned (.tuple #[.bool (may s.data.toList).1, .bool (may s.data.toList).2]) ∧ Below w.heap.size w w' := by
  have hcv := Lib.run_convert_string_bytes (P := Tryz.prog) w 9 66 5 s (u := .string) Tryz.underlying9 Tryz.underlying66 Tryz.underlying5
  have hB : ∀ j, j < s.size → (Lib.bytesWorld w 5 s).cell? ⟨w.heap.size, j, none⟩ = some (.int .u8 (s.data.toList.getD j 0).toNat) := fun j hj => Lib.bytesWorld_cell w 5 s j hj
  have hbel := below_bytesWorld w 5 s
  obtain ⟨W1, hW1⟩ : ∃ W1, W1 = Lib.bytesWorld w 5 s := ⟨_, rfl⟩
  rw [← hW1] at hcv hB hbel
  have HB := Lib.hid hB
  have HW := Lib.hid hbel
  clear hW1 hB hbel
  go_enter Tryz.func140, Tryz.ntmps140
  go_wp2
  go_loop [4, 10] (fun vs vi => ∃ (k st : Nat), k ≤ s.size ∧ st ≤ 9 ∧ vi = .int .i64 k ∧ vs = .int .i64 st ∧ Hid ((s.data.toList.take k).foldl Num2.step 0 = st)) (fun _ vi => s.size - (intOf vi).toNat)
  case atStart => exact ⟨0, 0, Nat.zero_le _, by omega, rfl, rfl, rfl⟩
  case round =>
    obtain ⟨k, st, hk, hst, rfl, rfl, hf⟩ := hrel
    by_cases hkn : k < s.size
    · obtain ⟨x, hx⟩ : ∃ x, x = s.data.toList.getD k 0 := ⟨_, rfl⟩
      have hxk : s.data.toList[k]? = some x := by
        rw [hx, List.getD, List.getElem?_eq_getElem (by rw [Array.length_toList]; exact hkn)]
        rfl
      have hc1 : W1.cell? ⟨w.heap.size, k, none⟩ = some (.int .u8 x.toNat) := by rw [hx]; exact HB.out k hkn
      have hnext : (s.data.toList.take (k + 1)).foldl Num2.step 0 = Num2.step st x := by
        rw [List.take_add_one, hxk, List.foldl_append, hf.out]; rfl
      have HN := Lib.hid hnext
      have hst2 := step_le st x
      clear hx hxk hnext hf
      go_wp2_with fail
      refine (step_any st hst x _).mono ?_; rintro e w' ⟨rfl, rfl⟩
      go_wp2
      go_round
      case rel => exact ⟨k + 1, Num2.step st x, by omega, hst2, by go_num, rfl, HN⟩
      case measure => simp [intOf]; omega
    · have hm : may s.data.toList = ends st := by
        unfold may; rw [← hf.out, List.take_of_length_le (by rw [Array.length_toList]; show s.size ≤ k; omega)]
      have HM := Lib.hid hm
      clear hm hf
      have h : st = 0 ∨ st = 1 ∨ st = 2 ∨ st = 3 ∨ st = 4 ∨ st = 5 ∨ st = 6 ∨ st = 7 ∨ st = 8 ∨ st = 9 := by omega
      rcases h with rfl | rfl | rfl | rfl | rfl | rfl | rfl | rfl | rfl | rfl
      all_goals
        go_wp2
        go_ret2
        exact ⟨by rw [HM.out]; rfl, HW.out⟩
end Go.Proofs.YtmniblcooficgaaGreatDoor
namespace Go.Proofs.YtmniblcooficgaaGreatDoor.Num2
open Go.RowKit
set_option linter.unusedSimpArgs false
set_option linter.unusedVariables false

theorem index_not {c : UInt8} : ∀ {a : List UInt8}, c ∉ a → Lib.index a [c] = -1
  | [], _ => rfl
  | x :: a, h => by
    have hx : ¬ c = x := fun e => h (by simp [e])
    have ha : c ∉ a := fun e => h (by simp [e])
    simp [Lib.index, List.isPrefixOf, hx, index_not ha]
theorem index_at {c : UInt8} {b : List UInt8} : ∀ {a : List UInt8}, c ∉ a → Lib.index (a ++ c :: b) [c] = a.length
  | [], _ => by simp [Lib.index, List.isPrefixOf]
  | x :: a, h => by
    have hx : ¬ c = x := fun e => h (by simp [e])
    have ha : c ∉ a := fun e => h (by simp [e])
    have ih := index_at (b := b) ha
    rw [List.cons_append]
    simp only [Lib.index]
    rw [ih]
    have : ([c] : List UInt8).isPrefixOf (x :: (a ++ c :: b)) = false := by simp [List.isPrefixOf, hx]
    rw [this]
    have h2 : ((a.length : Int) == -1) = false := beq_eq_false_iff_ne.2 (by omega)
    rw [h2]
    simp
theorem cut_not {c : UInt8} {a : List UInt8} (h : c ∉ a) : Lib.cut a [c] = (a, [], false) := by
  simp [Lib.cut, index_not h]
theorem cut_at {c : UInt8} {a b : List UInt8} (h : c ∉ a) : Lib.cut (a ++ c :: b) [c] = (a, b, true) := by
  simp only [Lib.cut, index_at h]
  rw [if_pos (by omega)]
  simp

def digs (l : List UInt8) : Prop := ∀ b ∈ l, dig b = true
def unsgn2 (r : List UInt8) : List UInt8 := match r with | [] => [] | x :: y => if isSign x = true then y else x :: y
structure Made (l w p t : List UInt8) : Prop where
  hw : digs w
  hp : digs p
  ht : t = [] ∨ (digs (unsgn2 t) ∧ unsgn2 t ≠ [])
  all : ∃ D E, l = w ++ D ++ E ∧ ((D = [] ∧ p = []) ∨ D = 46 :: p) ∧ ((E = [] ∧ t = []) ∨ ∃ e, isE e = true ∧ E = e :: t)

theorem digs_take (l : List UInt8) : digs (l.takeWhile dig) := takeWhile_dig l
theorem digs_all {l : List UInt8} (h : l.dropWhile dig = []) : digs l := by
  have e := List.takeWhile_append_dropWhile (p := dig) (l := l)
  rw [h, List.append_nil] at e
  rw [← e]; exact digs_take l

theorem expo_made (w p r : List UInt8) (h : (expo w p r).2.2.2.2 = true) : (expo w p r).1 = w ∧ (expo w p r).2.1 = p ∧ (digs (unsgn2 (expo w p r).2.2.1) ∧ unsgn2 (expo w p r).2.2.1 ≠ []) ∧ ∃ e, isE e = true ∧ r = e :: (expo w p r).2.2.1 := by
  cases r with
  | nil => simp [expo, no] at h
  | cons c r =>
    simp only [expo] at h ⊢
    by_cases hc : isE c = true
    · rw [if_pos hc] at h ⊢
      change ((if (unsgn2 r).dropWhile dig = [] then (w, p, r, true, !((unsgn2 r).takeWhile dig).isEmpty) else no : R)).2.2.2.2 = true at h
      change _ ∧ _ ∧ _ ∧ _
      by_cases hd : (unsgn2 r).dropWhile dig = []
      · rw [if_pos hd] at h
        have e : (if (unsgn2 r).dropWhile dig = [] then (w, p, r, true, !((unsgn2 r).takeWhile dig).isEmpty) else no : R) = (w, p, r, true, !((unsgn2 r).takeWhile dig).isEmpty) := if_pos hd
        change (if (unsgn2 r).dropWhile dig = [] then (w, p, r, true, !((unsgn2 r).takeWhile dig).isEmpty) else no : R).1 = w ∧ (if (unsgn2 r).dropWhile dig = [] then (w, p, r, true, !((unsgn2 r).takeWhile dig).isEmpty) else no : R).2.1 = p ∧ (digs (unsgn2 (if (unsgn2 r).dropWhile dig = [] then (w, p, r, true, !((unsgn2 r).takeWhile dig).isEmpty) else no : R).2.2.1) ∧ unsgn2 (if (unsgn2 r).dropWhile dig = [] then (w, p, r, true, !((unsgn2 r).takeWhile dig).isEmpty) else no : R).2.2.1 ≠ []) ∧ ∃ e, isE e = true ∧ c :: r = e :: (if (unsgn2 r).dropWhile dig = [] then (w, p, r, true, !((unsgn2 r).takeWhile dig).isEmpty) else no : R).2.2.1
        rw [e]
        refine ⟨rfl, rfl, ⟨digs_all hd, ?_⟩, c, hc, rfl⟩
        intro hn
        rw [hn] at h; simp at h
      · rw [if_neg hd] at h; simp [no] at h
    · rw [if_neg hc] at h; simp [no] at h

theorem body_made (l : List UInt8) (h : (body l).2.2.2.2 = true) : Made l (body l).1 (body l).2.1 (body l).2.2.1 := by
  have split := List.takeWhile_append_dropWhile (p := dig) (l := l)
  unfold body at h ⊢
  simp only [] at h ⊢
  by_cases h1 : l.takeWhile dig = [] ∧ l.dropWhile dig ≠ []
  · rw [if_pos h1] at h; simp [no] at h
  rw [if_neg h1] at h ⊢
  by_cases h2 : 1 < (l.takeWhile dig).length ∧ (l.takeWhile dig).head? = some 48
  · rw [if_pos h2] at h; simp [no] at h
  rw [if_neg h2] at h ⊢
  cases hr : l.dropWhile dig with
  | nil =>
    rw [hr] at split
    exact ⟨digs_take l, by intro b hb; simp at hb, .inl rfl, [], [], by simpa using split.symm, .inl ⟨rfl, rfl⟩, .inl ⟨rfl, rfl⟩⟩
  | cons c q =>
    rw [hr] at h split
    have hqs := List.takeWhile_append_dropWhile (p := dig) (l := q)
    simp only [] at h ⊢
    by_cases hc : c.toNat = 46
    · have hc' : c = 46 := UInt8.toNat_inj.1 (by simpa using hc)
      rw [if_pos hc] at h ⊢
      by_cases h3 : q.dropWhile dig = []
      · rw [if_pos h3] at h ⊢
        rw [h3, List.append_nil] at hqs
        exact ⟨digs_take l, digs_take q, .inl rfl, 46 :: q.takeWhile dig, [], by rw [hqs, ← hc', List.append_nil]; exact split.symm, .inr rfl, .inl ⟨rfl, rfl⟩⟩
      · rw [if_neg h3] at h ⊢
        by_cases h4 : q.takeWhile dig = []
        · rw [if_pos h4] at h; simp [no] at h
        · rw [if_neg h4] at h ⊢
          obtain ⟨a1, a2, a3, e, he, a4⟩ := expo_made _ _ _ h
          refine ⟨by rw [a1]; exact digs_take l, by rw [a2]; exact digs_take q, .inr a3, 46 :: q.takeWhile dig, q.dropWhile dig, ?_, .inr (by rw [a2]), .inr ⟨e, he, a4⟩⟩
          rw [a1, List.append_assoc, List.cons_append, hqs, ← hc']; exact split.symm
    · rw [if_neg hc] at h ⊢
      obtain ⟨a1, a2, a3, e, he, a4⟩ := expo_made _ _ _ h
      refine ⟨by rw [a1]; exact digs_take l, by rw [a2]; intro b hb; simp at hb, .inr a3, [], c :: q, ?_, .inl ⟨rfl, a2⟩, .inr ⟨e, he, a4⟩⟩
      rw [a1, List.append_nil]; exact split.symm

theorem parts_made (l : List UInt8) (h : (may l).2 = true) : Made (unsign l) (parts l).1 (parts l).2.1 (parts l).2.2.1 := by
  rw [may_parts] at h
  exact body_made _ h

theorem lower_dig {b : UInt8} (h : dig b = true) : Lib.lowerB b = b := by
  simp [dig] at h
  have : Lib.isUpperB b = false := by
    unfold Lib.isUpperB
    simp [UInt8.le_iff_toNat_le]; omega
  simp [Lib.lowerB, this]
theorem lower_digs {l : List UInt8} (h : digs l) : Lib.toLowerA l = l := by
  unfold Lib.toLowerA
  induction l with
  | nil => rfl
  | cons c r ih => rw [List.map_cons, lower_dig (h c (by simp)), ih (fun b hb => h b (by simp [hb]))]
theorem lower_app (a b : List UInt8) : Lib.toLowerA (a ++ b) = Lib.toLowerA a ++ Lib.toLowerA b := List.map_append
theorem lower_sign {b : UInt8} (h : isSign b = true) : Lib.lowerB b = b := by
  simp [isSign] at h
  rcases h with h | h
  · have : b = 43 := UInt8.toNat_inj.1 (by simpa using h)
    subst this; rfl
  · have : b = 45 := UInt8.toNat_inj.1 (by simpa using h)
    subst this; rfl
theorem lower_e {b : UInt8} (h : isE b = true) : Lib.lowerB b = 101 := by
  simp [isE] at h
  rcases h with h | h
  · have : b = 101 := UInt8.toNat_inj.1 (by simpa using h)
    subst this; rfl
  · have : b = 69 := UInt8.toNat_inj.1 (by simpa using h)
    subst this; rfl
theorem lower_tail {t : List UInt8} (h : digs (unsgn2 t)) : Lib.toLowerA t = t := by
  cases t with
  | nil => rfl
  | cons x y =>
    by_cases hx : isSign x = true
    · have : unsgn2 (x :: y) = y := by simp [unsgn2, hx]
      rw [this] at h
      show Lib.lowerB x :: Lib.toLowerA y = _
      rw [lower_sign hx, lower_digs h]
    · have : unsgn2 (x :: y) = x :: y := by simp [unsgn2, hx]
      rw [this] at h
      exact lower_digs h

theorem not_e_digs {l : List UInt8} (h : digs l) : (101 : UInt8) ∉ l := fun hm => by have := h _ hm; revert this; decide
theorem not_dot_digs {l : List UInt8} (h : digs l) : (46 : UInt8) ∉ l := fun hm => by have := h _ hm; revert this; decide

theorem made_cut {l w p t : List UInt8} (h : Made l w p t) :
    (Lib.cut (Lib.toLowerA l) [101]).2.1 = t ∧ (Lib.cut (Lib.cut (Lib.toLowerA l) [101]).1 [46]).1 = w ∧ (Lib.cut (Lib.cut (Lib.toLowerA l) [101]).1 [46]).2.1 = p := by
  obtain ⟨hw, hp, ht, D, E, rfl, hD, hE⟩ := h
  have hDl : Lib.toLowerA D = D := by
    rcases hD with ⟨rfl, _⟩ | rfl
    · rfl
    · show Lib.lowerB 46 :: Lib.toLowerA p = _
      rw [lower_digs hp]; rfl
  have hnD : (101 : UInt8) ∉ w ++ D := by
    intro hm
    rcases List.mem_append.1 hm with hm | hm
    · exact not_e_digs hw hm
    · rcases hD with ⟨rfl, _⟩ | rfl
      · simp at hm
      · rcases List.mem_cons.1 hm with h | h
        · revert h; decide
        · exact not_e_digs hp h
  have h2 : (Lib.cut (w ++ D) [46]).1 = w ∧ (Lib.cut (w ++ D) [46]).2.1 = p := by
    rcases hD with ⟨rfl, rfl⟩ | rfl
    · rw [List.append_nil, cut_not (not_dot_digs hw)]; exact ⟨rfl, rfl⟩
    · rw [cut_at (not_dot_digs hw)]; exact ⟨rfl, rfl⟩
  rw [lower_app, lower_app, lower_digs hw, hDl]
  rcases hE with ⟨rfl, rfl⟩ | ⟨e, he, rfl⟩
  · have : Lib.toLowerA ([] : List UInt8) = [] := rfl
    rw [this, List.append_nil, cut_not hnD]
    exact ⟨rfl, h2⟩
  · have h3 : Lib.toLowerA (e :: t) = 101 :: t := by
      show Lib.lowerB e :: Lib.toLowerA t = _
      rw [lower_e he]
      rcases ht with rfl | ht
      · rfl
      · rw [lower_tail ht.1]
    rw [h3, cut_at hnD]
    exact ⟨rfl, h2⟩

def expOf (t : List UInt8) : Int :=
  if t = [] then 0 else match Lib.atoiAll t with
  | .ok v => v
  | _ => if t.head? = some 45 then -1099511627776 else 1099511627776

abbrev Val := Bool × List UInt8 × Int
def zeroV : Val := (false, [], 0)
def readP (l : List UInt8) : Val × Bool :=
  if (may l).2 = true ∧ l.length ≤ 30 then
    if Lib.trimRightB (Lib.trimLeftB ((parts l).1 ++ (parts l).2.1) 48) 48 = [] then (zeroV, true)
    else ((decide (l.head? = some 45), Lib.trimRightB (Lib.trimLeftB ((parts l).1 ++ (parts l).2.1) 48) 48,
      wrap64 (expOf (parts l).2.2.1 + ((Lib.trimLeftB ((parts l).1 ++ (parts l).2.1) 48).length - (Lib.trimRightB (Lib.trimLeftB ((parts l).1 ++ (parts l).2.1) 48) 48).length - (parts l).2.1.length))), true)
  else (zeroV, false)
def formP (v : Val) : List UInt8 :=
  if v.2.1 = [] then [48] else (if v.1 = true then [45] else []) ++ v.2.1 ++ (if v.2.2 = 0 then [] else 101 :: Lib.itoa v.2.2)
def mayP (l : List UInt8) : Val × Int :=
  if (readP l).2 = true ∧ (readP l).1.2.2 ≤ 999 ∧ -999 ≤ (readP l).1.2.2 ∧ (formP (readP l).1).length ≤ 30 then ((readP l).1, 0) else (zeroV, 8)
def normP (l : List UInt8) : List UInt8 × Int := if (mayP l).2 = 0 then (formP (mayP l).1, 0) else ([], 8)
end Go.Proofs.YtmniblcooficgaaGreatDoor.Num2
