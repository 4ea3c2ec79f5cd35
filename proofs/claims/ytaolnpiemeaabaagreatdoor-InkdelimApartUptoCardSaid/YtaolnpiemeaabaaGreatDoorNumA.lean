/- Plain Lean: which texts are numbers, told by an automaton and by a number's parts: both tell the same. -/
namespace Go.Proofs.YtaolnpiemeaabaaGreatDoor.Num2
set_option linter.unusedSimpArgs false
set_option linter.unusedVariables false

def dig (b : UInt8) : Bool := decide (48 ≤ b.toNat ∧ b.toNat ≤ 57)
def isE (b : UInt8) : Bool := decide (b.toNat = 101 ∨ b.toNat = 69)
def isSign (b : UInt8) : Bool := decide (b.toNat = 43 ∨ b.toNat = 45)

/-- The state behind a byte. -/
def step (s : Nat) (b : UInt8) : Nat :=
  if s = 0 then (if b.toNat = 45 then 1 else if b.toNat = 48 then 2 else if dig b then 3 else 9)
  else if s = 1 then (if b.toNat = 48 then 2 else if dig b then 3 else 9)
  else if s = 2 then (if b.toNat = 46 then 4 else if isE b then 6 else 9)
  else if s = 3 then (if dig b then 3 else if b.toNat = 46 then 4 else if isE b then 6 else 9)
  else if s = 4 then (if dig b then 5 else 9)
  else if s = 5 then (if dig b then 5 else if isE b then 6 else 9)
  else if s = 6 then (if isSign b then 7 else if dig b then 8 else 9)
  else if s = 7 then (if dig b then 8 else 9)
  else if s = 8 then (if dig b then 8 else 9)
  else 9

def ends (s : Nat) : Bool × Bool :=
  if s = 9 then (false, false) else if s = 2 ∨ s = 3 ∨ s = 5 ∨ s = 8 then (true, true) else (true, false)

/-- May a number begin so? Is it one? -/
def may (l : List UInt8) : Bool × Bool := ends (l.foldl step 0)

abbrev R := List UInt8 × List UInt8 × List UInt8 × Bool × Bool
def no : R := ([], [], [], false, false)
def expo (w p : List UInt8) : List UInt8 → R
  | [] => no
  | c :: r =>
    if isE c then
      let d := match r with | [] => [] | x :: y => if isSign x then y else x :: y
      if d.dropWhile dig = [] then (w, p, r, true, !(d.takeWhile dig).isEmpty) else no
    else no
def body (l : List UInt8) : R :=
  let w := l.takeWhile dig
  let r := l.dropWhile dig
  if w = [] ∧ r ≠ [] then no
  else if 1 < w.length ∧ w.head? = some 48 then no
  else match r with
    | [] => (w, [], [], true, !w.isEmpty)
    | c :: q =>
      if c.toNat = 46 then
        if q.dropWhile dig = [] then (w, q.takeWhile dig, [], true, !(q.takeWhile dig).isEmpty)
        else if q.takeWhile dig = [] then no
        else expo w (q.takeWhile dig) (q.dropWhile dig)
      else expo w [] (c :: q)
def unsign : List UInt8 → List UInt8
  | [] => []
  | c :: r => if c.toNat = 45 then r else c :: r
/-- A number's parts: before the point, behind it, behind the e; does a number begin so, is it one. -/
def parts (l : List UInt8) : R := body (unsign l)

theorem step4 (b : UInt8) : step 4 b = if dig b then 5 else 9 := rfl
theorem step5 (b : UInt8) : step 5 b = if dig b then 5 else if isE b then 6 else 9 := rfl
theorem step6 (b : UInt8) : step 6 b = if isSign b then 7 else if dig b then 8 else 9 := rfl

theorem fold9 (l : List UInt8) : l.foldl step 9 = 9 := by
  induction l with
  | nil => rfl
  | cons c r ih => simpa [step] using ih

theorem fold_digs (s : Nat) (hs : s = 3 ∨ s = 5 ∨ s = 8) (l : List UInt8) (h : ∀ b ∈ l, dig b = true) : l.foldl step s = s := by
  induction l with
  | nil => rfl
  | cons c r ih =>
    have hc : dig c = true := h c (by simp)
    have : step s c = s := by rcases hs with rfl | rfl | rfl <;> simp [step, hc]
    rw [List.foldl_cons, this]
    exact ih (fun b hb => h b (by simp [hb]))

theorem takeWhile_dig (l : List UInt8) : ∀ b ∈ l.takeWhile dig, dig b = true := by
  intro b hb
  induction l with
  | nil => simp at hb
  | cons c r ih =>
    by_cases hc : dig c = true
    · rw [List.takeWhile_cons_of_pos hc] at hb
      rcases List.mem_cons.1 hb with rfl | hb
      · exact hc
      · exact ih hb
    · rw [List.takeWhile_cons_of_neg hc] at hb; simp at hb

theorem dropWhile_head {l r : List UInt8} {c : UInt8} (h : l.dropWhile dig = c :: r) : dig c = false := by
  induction l with
  | nil => simp at h
  | cons x y ih =>
    by_cases hx : dig x = true
    · rw [List.dropWhile_cons_of_pos hx] at h; exact ih h
    · rw [List.dropWhile_cons_of_neg hx] at h
      obtain ⟨rfl, _⟩ := List.cons.inj h
      simpa using hx

theorem fold_split (s : Nat) (l : List UInt8) : l.foldl step s = (l.dropWhile dig).foldl step ((l.takeWhile dig).foldl step s) := by
  rw [← List.foldl_append, List.takeWhile_append_dropWhile]

theorem fold8 (d : List UInt8) : d.foldl step 8 = if d.dropWhile dig = [] then 8 else 9 := by
  rw [fold_split, fold_digs 8 (by simp) _ (takeWhile_dig d)]
  cases h : d.dropWhile dig with
  | nil => simp
  | cons c r => simp [step, dropWhile_head h, fold9]

theorem fold7 (d : List UInt8) : d.foldl step 7 = if d = [] then 7 else if d.dropWhile dig = [] then 8 else 9 := by
  cases d with
  | nil => simp
  | cons c r =>
    by_cases hc : dig c = true
    · simp [step, hc, fold8, List.dropWhile_cons]
    · simp at hc
      simp [step, hc, fold9, List.dropWhile_cons]

theorem sign_not_dig {c : UInt8} (h : isSign c = true) : dig c = false := by
  simp [isSign] at h
  simp [dig]; omega

theorem fold6 (r : List UInt8) : ends (r.foldl step 6) = ((expo [] [] (101 :: r)).2.2.2.1, (expo [] [] (101 :: r)).2.2.2.2) := by
  have e101 : isE 101 = true := by decide
  simp only [expo, e101, if_true]
  cases r with
  | nil => rfl
  | cons c r =>
    by_cases hs : isSign c = true
    · have hd := sign_not_dig hs
      simp only [List.foldl_cons, step6, hs, if_true]
      rw [fold7]
      cases r with
      | nil => simp [ends]
      | cons x y =>
        simp only [reduceCtorEq, if_false]
        by_cases hx : dig x = true
        · by_cases hz : y.dropWhile dig = [] <;> simp [List.dropWhile_cons, List.takeWhile_cons, hx, hz, ends, no]
        · simp at hx; simp [List.dropWhile_cons, hx, ends, no]
    · simp at hs
      by_cases hd : dig c = true
      · simp only [List.foldl_cons, step6, hs, hd, if_true]
        simp only [Bool.false_eq_true, if_false]
        rw [fold8]
        by_cases hz : r.dropWhile dig = [] <;> simp [List.dropWhile_cons, List.takeWhile_cons, hd, hz, ends, no]
      · simp at hd
        simp [step, hs, hd, fold9, List.dropWhile_cons, ends, no]

theorem expo_flags (w p w' p' r : List UInt8) : ((expo w p r).2.2.2.1, (expo w p r).2.2.2.2) = ((expo w' p' r).2.2.2.1, (expo w' p' r).2.2.2.2) := by
  cases r with
  | nil => rfl
  | cons c r =>
    simp only [expo]
    generalize (match r with | [] => [] | x :: y => if isSign x = true then y else x :: y) = d
    cases isE c
    · rfl
    · by_cases h : d.dropWhile dig = [] <;> simp [h, no]
theorem expo_e (c : UInt8) (hc : isE c = true) (r : List UInt8) : expo [] [] (c :: r) = expo [] [] (101 :: r) := by
  have e101 : isE 101 = true := by decide
  simp only [expo, hc, e101, if_true]

theorem dot_not_dig {c : UInt8} (h : c.toNat = 46) : dig c = false := by simp [dig]; omega
theorem e_not_dig {c : UInt8} (h : isE c = true) : dig c = false := by simp [isE] at h; simp [dig]; omega
theorem e_not_dot {c : UInt8} (h : isE c = true) : ¬ c.toNat = 46 := by simp [isE] at h; omega

/-- Behind the point. -/
theorem fold4 (w q : List UInt8) : ends (q.foldl step 4) =
    (let x := (if q.dropWhile dig = [] then (w, q.takeWhile dig, [], true, !(q.takeWhile dig).isEmpty) else if q.takeWhile dig = [] then no else expo w (q.takeWhile dig) (q.dropWhile dig) : R); (x.2.2.2.1, x.2.2.2.2)) := by
  cases q with
  | nil => simp [ends]
  | cons c r =>
    by_cases hc : dig c = true
    · simp only [List.foldl_cons, step4, hc, if_true, List.dropWhile_cons, List.takeWhile_cons]
      rw [fold_split, fold_digs 5 (by simp) _ (takeWhile_dig r)]
      cases h : r.dropWhile dig with
      | nil => simp [ends]
      | cons x y =>
        have hx := dropWhile_head h
        by_cases he : isE x = true
        · simp only [List.foldl_cons, step5, hx, he]
          simp only [if_false, if_true, Bool.false_eq_true, reduceCtorEq]
          rw [fold6, ← expo_e x he, expo_flags [] [] w]
        · simp at he; simp [step, hx, he, fold9, ends, expo, no]
    · simp at hc
      simp [step, hc, fold9, List.dropWhile_cons, List.takeWhile_cons, ends, no]

/-- Behind the whole part. -/
theorem fold_mid (s : Nat) (hs : s = 2 ∨ s = 3) (w : List UInt8) (c : UInt8) (q : List UInt8) (hc : dig c = false) : ends ((c :: q).foldl step s) =
    (let x := (if c.toNat = 46 then (if q.dropWhile dig = [] then (w, q.takeWhile dig, [], true, !(q.takeWhile dig).isEmpty) else if q.takeWhile dig = [] then no else expo w (q.takeWhile dig) (q.dropWhile dig)) else expo w [] (c :: q) : R); (x.2.2.2.1, x.2.2.2.2)) := by
  by_cases hp : c.toNat = 46
  · rw [if_pos hp]
    have : step s c = 4 := by rcases hs with rfl | rfl <;> simp [step, hp, hc]
    rw [List.foldl_cons, this]
    exact fold4 w q
  · rw [if_neg hp]
    by_cases he : isE c = true
    · have : step s c = 6 := by rcases hs with rfl | rfl <;> simp [step, hp, hc, he]
      rw [List.foldl_cons, this, fold6, ← expo_e c he, expo_flags [] [] w []]
    · simp at he
      have : step s c = 9 := by rcases hs with rfl | rfl <;> simp [step, hp, hc, he]
      rw [List.foldl_cons, this, fold9]
      simp [expo, he, ends, no]

/-- From the sign on, or without one. -/
theorem fold_body (s : Nat) (hs : s = 0 ∨ s = 1) (l : List UInt8) (hl : s = 0 → ∀ c r, l = c :: r → ¬ c.toNat = 45) : ends (l.foldl step s) = ((body l).2.2.2.1, (body l).2.2.2.2) := by
  cases l with
  | nil => rcases hs with rfl | rfl <;> rfl
  | cons c r =>
    by_cases hc : dig c = true
    · by_cases h0 : c.toNat = 48
      · have hst : step s c = 2 := by
          rcases hs with rfl | rfl
          · simp [step, h0]
          · simp [step, h0]
        have h48 : c = 48 := UInt8.toNat_inj.1 (by simpa using h0)
        rw [List.foldl_cons, hst]
        simp only [body, List.takeWhile_cons, List.dropWhile_cons, hc, if_true]
        cases r with
        | nil => simp [ends]
        | cons x y =>
          by_cases hx : dig x = true
          · simp only [List.takeWhile_cons, hx, if_true]
            have hnp : ¬ x.toNat = 46 := fun h => by rw [dot_not_dig h] at hx; cases hx
            have hne : isE x = false := by cases he : isE x with | false => rfl | true => rw [e_not_dig he] at hx; cases hx
            simp [step, hnp, hne, fold9, ends, no, h48]
          · simp at hx
            rw [List.takeWhile_cons_of_neg (by simp [hx]), List.dropWhile_cons_of_neg (by simp [hx])]
            rw [fold_mid 2 (by simp) [c] x y hx]
            simp
      · have hst : step s c = 3 := by
          rcases hs with rfl | rfl
          · simp [step, hl rfl c r rfl, h0, hc]
          · simp [step, h0, hc]
        have h48 : ¬ c = 48 := fun h => h0 (by rw [h]; rfl)
        rw [List.foldl_cons, hst]
        simp only [body, List.takeWhile_cons, List.dropWhile_cons, hc, if_true]
        rw [fold_split, fold_digs 3 (by simp) _ (takeWhile_dig r)]
        cases h : r.dropWhile dig with
        | nil => simp [ends, h48]
        | cons x y =>
          rw [fold_mid 3 (by simp) (c :: r.takeWhile dig) x y (dropWhile_head h)]
          simp [h48]
    · simp at hc
      have hst : step s c = 9 := by
        have h48 : ¬ c.toNat = 48 := fun h => by simp [dig, h] at hc
        rcases hs with rfl | rfl
        · simp [step, hl rfl c r rfl, h48, hc]
        · simp [step, h48, hc]
      rw [List.foldl_cons, hst, fold9]
      simp [body, List.takeWhile_cons, List.dropWhile_cons, hc, ends, no]

/-- The automaton tells what the parts tell. -/
theorem may_parts (l : List UInt8) : may l = ((parts l).2.2.2.1, (parts l).2.2.2.2) := by
  unfold may parts
  cases l with
  | nil => rfl
  | cons c r =>
    by_cases hc : c.toNat = 45
    · have : step 0 c = 1 := by simp [step, hc]
      rw [List.foldl_cons, this]
      simp only [unsign, hc, if_true]
      exact fold_body 1 (by simp) r (fun h => by omega)
    · simp only [unsign, hc, if_false]
      exact fold_body 0 (by simp) (c :: r) (fun _ x y h => by obtain ⟨rfl, _⟩ := List.cons.inj h; exact hc)

/-- States stay within 0..9. -/
theorem step_le (s : Nat) (b : UInt8) : step s b ≤ 9 := by 
  unfold step
  repeat' split
  all_goals omega
theorem fold_le (l : List UInt8) : ∀ s, s ≤ 9 → l.foldl step s ≤ 9 := by
  induction l with
  | nil => intro s h; exact h
  | cons c r ih => intro s h; exact ih _ (step_le s c)

/-- What begins a number begins one at every cut; what is one begins one. -/
theorem may_cut (l : List UInt8) (n : Nat) (h : (may l).1 = true) : (may (l.take n)).1 = true := by
  have e : l.foldl step 0 = (l.drop n).foldl step ((l.take n).foldl step 0) := by rw [← List.foldl_append, List.take_append_drop]
  have ne : ¬ (l.take n).foldl step 0 = 9 := by
    intro h9
    rw [h9, fold9] at e
    rw [may, e] at h
    simp [ends] at h
  unfold may ends
  rw [if_neg ne]
  split <;> rfl
theorem may_is (l : List UInt8) (h : (may l).2 = true) : (may l).1 = true := by
  unfold may ends at *
  by_cases h9 : l.foldl step 0 = 9
  · rw [if_pos h9] at h; simp at h
  · rw [if_neg h9]; split <;> rfl
end Go.Proofs.YtaolnpiemeaabaaGreatDoor.Num2
