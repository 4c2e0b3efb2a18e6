/- What a chain of vertices makes of a record. -/
import Derived.Test.YthkilejcddgodaaFlA
namespace Go.Proofs.Ythkilejcddgodaa.Ex
open Go Go.RowKit Go.Proofs.YthkilejcddgodaaW.PrintWords
set_option linter.unusedVariables false
set_option linter.unusedSimpArgs false
/-- What is gathered on the way: what came out, how many of each vertex, the place of an error, the error. -/
structure CS where
  out : List Rc
  many : List Int
  at_ : Int
  err : Int
def goL (f : Rc → CS → Bool × CS) : List Rc → CS → Bool × CS
  | [], s => (true, s)
  | x :: xs, s => if (f x s).1 = true then goL f xs (f x s).2 else (false, (f x s).2)
def cntOf (v : Vx) (i : Nat) (r : Rc) (s : CS) : Int := s.many.getD i 0 + (apOf v.f0 v.f2 r).1.length
def errOf (v : Vx) (i : Nat) (r : Rc) (s : CS) : Int := if (apOf v.f0 v.f2 r).2 = 0 ∧ 10000 < cntOf v i r s then 3 else (apOf v.f0 v.f2 r).2
def chGo : List Vx → Nat → Rc → CS → Bool × CS
  | [], _, r, s => (true, ⟨s.out ++ [r], s.many, s.at_, s.err⟩)
  | v :: vs, i, r, s => if errOf v i r s ≠ 0 then (false, ⟨s.out, s.many.set i (cntOf v i r s), i, errOf v i r s⟩) else goL (chGo vs (i + 1)) (apOf v.f0 v.f2 r).1 ⟨s.out, s.many.set i (cntOf v i r s), s.at_, s.err⟩
def chainOf (l : List Vx) (r : Rc) : List Rc × Int × Int :=
  if (chGo l 0 r ⟨[], List.replicate l.length 0, -1, 0⟩).1 = true then ((chGo l 0 r ⟨[], List.replicate l.length 0, -1, 0⟩).2.out, -1, 0)
  else ([], (chGo l 0 r ⟨[], List.replicate l.length 0, -1, 0⟩).2.at_, (chGo l 0 r ⟨[], List.replicate l.length 0, -1, 0⟩).2.err)
theorem goL_append (f : Rc → CS → Bool × CS) : ∀ (xs ys : List Rc) (s : CS), (goL f xs s).1 = true → goL f (xs ++ ys) s = goL f ys (goL f xs s).2 := by
  intro xs
  induction xs with
  | nil => intro ys s _; rfl
  | cons x xs ih =>
    intro ys s h
    rw [goL] at h
    rw [List.cons_append, goL, goL]
    by_cases h1 : (f x s).1 = true
    · rw [if_pos h1] at h; rw [if_pos h1, if_pos h1]; exact ih ys _ h
    · rw [if_neg h1] at h; cases h
theorem goL_append_bad (f : Rc → CS → Bool × CS) : ∀ (xs ys : List Rc) (s : CS), (goL f xs s).1 = false → goL f (xs ++ ys) s = goL f xs s := by
  intro xs
  induction xs with
  | nil => intro ys s h; cases h
  | cons x xs ih =>
    intro ys s h
    rw [goL] at h
    rw [List.cons_append, goL, goL]
    by_cases h1 : (f x s).1 = true
    · rw [if_pos h1] at h; rw [if_pos h1, if_pos h1]; exact ih ys _ h
    · rw [if_neg h1, if_neg h1]
/-- One more. -/
theorem goL_snoc (f : Rc → CS → Bool × CS) (xs : List Rc) (x : Rc) (s : CS) (h : (goL f xs s).1 = true) : goL f (xs ++ [x]) s = f x (goL f xs s).2 := by
  rw [goL_append f xs [x] s h, goL]
  by_cases h1 : (f x (goL f xs s).2).1 = true
  · rw [if_pos h1, goL]
    exact Prod.ext h1.symm rfl
  · rw [if_neg h1]
    have h2 : (f x (goL f xs s).2).1 = false := by simpa using h1
    exact Prod.ext h2.symm rfl
theorem goL_inv (f : Rc → CS → Bool × CS) (P : Nat → CS → Prop) (hf : ∀ n x s, P n s → P (n + 1) (f x s).2) : ∀ (xs : List Rc) (n : Nat) (s : CS), (∀ n s, P n s → P (n + 1) s) → P n s → P (n + xs.length) (goL f xs s).2 := by
  intro xs
  induction xs with
  | nil => intro n s _ h; exact h
  | cons x xs ih =>
    intro n s hm h
    rw [goL]
    by_cases h1 : (f x s).1 = true
    · rw [if_pos h1, List.length_cons, show n + (xs.length + 1) = (n + 1) + xs.length by omega]
      exact ih (n + 1) _ hm (hf n x s h)
    · rw [if_neg h1, List.length_cons]
      have : ∀ k, P (n + (k + 1)) (f x s).2 := by
        intro k
        induction k with
        | zero => exact hf n x s h
        | succ k ik => exact hm _ _ ik
      exact this xs.length
theorem pow4_pos (n : Nat) : 1 ≤ 4 ^ n := Nat.pow_pos (by omega)
/-- No more come out than four for each vertex's one. -/
theorem chGo_len : ∀ (vs : List Vx) (i : Nat) (r : Rc) (s : CS), (chGo vs i r s).2.out.length ≤ s.out.length + 4 ^ vs.length := by
  intro vs
  induction vs with
  | nil => intro i r s; simp [chGo]
  | cons v vs ih =>
    intro i r s
    rw [chGo]
    by_cases h : errOf v i r s ≠ 0
    · rw [if_pos h]
      have := pow4_pos (v :: vs).length
      simp only
      omega
    · rw [if_neg h]
      have hl := apOf_len v.f0 v.f2 r
      have := goL_inv (chGo vs (i + 1)) (fun n t => t.out.length ≤ s.out.length + n * 4 ^ vs.length) (fun n x t ht => by have := ih (i + 1) x t; rw [Nat.succ_mul]; generalize n * 4 ^ vs.length = q at ht ⊢; generalize 4 ^ vs.length = z at this ⊢; omega) (apOf v.f0 v.f2 r).1 0 ⟨s.out, s.many.set i (cntOf v i r s), s.at_, s.err⟩
        (fun n t ht => by rw [Nat.succ_mul]; exact Nat.le_trans ht (Nat.add_le_add_left (Nat.le_add_right _ _) _)) (by simp)
      refine Nat.le_trans this ?_
      rw [List.length_cons, Nat.pow_succ]
      have h4 : (0 + (apOf v.f0 v.f2 r).1.length) * 4 ^ vs.length ≤ 4 * 4 ^ vs.length := Nat.mul_le_mul_right _ (by omega)
      rw [Nat.mul_comm (4 ^ vs.length) 4]
      exact Nat.add_le_add_left h4 _
def MOk (m : List Int) : Prop := ∀ x ∈ m, 0 ≤ x ∧ x ≤ 10000
theorem MOk.get {m : List Int} (h : MOk m) (i : Nat) : 0 ≤ m.getD i 0 ∧ m.getD i 0 ≤ 10000 := by
  by_cases hi : i < m.length
  · have e : m.getD i 0 = m[i] := by simp [List.getD, hi]
    rw [e]; exact h _ (List.getElem_mem hi)
  · have e : m.getD i 0 = 0 := by simp [List.getD, hi]
    rw [e]; omega
theorem MOk.set {m : List Int} (h : MOk m) (i : Nat) {x : Int} (h0 : 0 ≤ x) (h1 : x ≤ 10000) : MOk (m.set i x) := by
  intro y hy
  rcases List.mem_or_eq_of_mem_set hy with hy | rfl
  · exact h y hy
  · exact ⟨h0, h1⟩
theorem cntOf_range (v : Vx) (i : Nat) (r : Rc) {s : CS} (h : MOk s.many) : 0 ≤ cntOf v i r s ∧ cntOf v i r s ≤ 10004 := by
  have := h.get i
  have := apOf_len v.f0 v.f2 r
  unfold cntOf
  omega
theorem cntOf_ok {v : Vx} {i : Nat} {r : Rc} {s : CS} (h : errOf v i r s = 0) : cntOf v i r s ≤ 10000 := by
  unfold errOf at h
  by_cases h1 : (apOf v.f0 v.f2 r).2 = 0 ∧ 10000 < cntOf v i r s
  · rw [if_pos h1] at h; omega
  · rw [if_neg h1] at h; omega
theorem goL_many (f : Rc → CS → Bool × CS) (n : Nat) (hf : ∀ x s, s.many.length = n → (f x s).2.many.length = n ∧ (MOk s.many → (f x s).1 = true → MOk (f x s).2.many)) : ∀ (xs : List Rc) (s : CS), s.many.length = n → (goL f xs s).2.many.length = n ∧ (MOk s.many → (goL f xs s).1 = true → MOk (goL f xs s).2.many) := by
  intro xs
  induction xs with
  | nil => intro s h; exact ⟨h, fun h _ => h⟩
  | cons x xs ih =>
    intro s h
    rw [goL]
    by_cases h1 : (f x s).1 = true
    · rw [if_pos h1]
      obtain ⟨a, b⟩ := ih _ (hf x s h).1
      exact ⟨a, fun hm ht => b ((hf x s h).2 hm h1) ht⟩
    · rw [if_neg h1]
      exact ⟨(hf x s h).1, fun _ ht => by cases ht⟩
theorem chGo_many : ∀ (vs : List Vx) (i : Nat) (r : Rc) (s : CS) (n : Nat), s.many.length = n → (chGo vs i r s).2.many.length = n ∧ (MOk s.many → (chGo vs i r s).1 = true → MOk (chGo vs i r s).2.many) := by
  intro vs
  induction vs with
  | nil => intro i r s n h; exact ⟨h, fun h _ => h⟩
  | cons v vs ih =>
    intro i r s n h
    rw [chGo]
    by_cases h1 : errOf v i r s ≠ 0
    · rw [if_pos h1]
      exact ⟨by simpa using h, fun _ ht => by cases ht⟩
    · rw [if_neg h1]
      obtain ⟨a, b⟩ := goL_many (chGo vs (i + 1)) n (fun x s hs => ih (i + 1) x s n hs) (apOf v.f0 v.f2 r).1 ⟨s.out, s.many.set i (cntOf v i r s), s.at_, s.err⟩ (by simpa using h)
      exact ⟨a, fun hm ht => b (hm.set i (cntOf_range v i r hm).1 (cntOf_ok (by simpa using h1))) ht⟩
theorem goL_stop {f : Rc → CS → Bool × CS} {xs : List Rc} {k : Nat} {s1 sk s6 : CS} (h : goL f (xs.take k) s1 = (true, sk)) (hk : k < xs.length) (h6 : f xs[k] sk = (false, s6)) : goL f xs s1 = (false, s6) := by
  have e : xs = xs.take k ++ (xs[k] :: xs.drop (k + 1)) := by rw [← List.drop_eq_getElem_cons hk, List.take_append_drop]
  rw [e, goL_append f _ _ _ (by rw [h]), h, goL]
  simp only [h6]
  rfl
theorem goL_next {f : Rc → CS → Bool × CS} {xs : List Rc} {k : Nat} {s1 sk s6 : CS} (h : goL f (xs.take k) s1 = (true, sk)) (hk : k < xs.length) (h6 : f xs[k] sk = (true, s6)) : goL f (xs.take (k + 1)) s1 = (true, s6) := by
  rw [List.take_succ_eq_append_getElem hk, goL_snoc f _ _ _ (by rw [h]), h]
  exact h6
end Go.Proofs.Ythkilejcddgodaa.Ex
