/- Plain laws of chains: what they come to, told without the order of the walk. -/
import Derived.Test.YthkilejcddgodaaFlChP
namespace Go.Proofs.Ythkilejcddgodaa.Ex
open Go Go.RowKit Go.Proofs.YthkilejcddgodaaW.PrintWords
set_option linter.unusedVariables false
set_option linter.unusedSimpArgs false
def runD : List Vx → Rc → List Rc
  | [], r => [r]
  | v :: vs, r => (apOf v.f0 v.f2 r).1.flatMap (runD vs)
def okD : List Vx → Rc → Bool
  | [], _ => true
  | v :: vs, r => decide ((apOf v.f0 v.f2 r).2 = 0) && (apOf v.f0 v.f2 r).1.all (okD vs)
/-- How many come out of the j-th vertex. -/
def cnV : List Vx → Nat → Rc → Nat
  | [], _, _ => 0
  | v :: _, 0, r => (apOf v.f0 v.f2 r).1.length
  | v :: vs, j + 1, r => ((apOf v.f0 v.f2 r).1.map (cnV vs j)).sum
def cnL (vs : List Vx) (j : Nat) (xs : List Rc) : Nat := (xs.map (cnV vs j)).sum
theorem cnL_nil (vs : List Vx) (j : Nat) : cnL vs j [] = 0 := rfl
theorem cnL_cons (vs : List Vx) (j : Nat) (x : Rc) (xs : List Rc) : cnL vs j (x :: xs) = cnV vs j x + cnL vs j xs := rfl
/-- What a walk that ends well leaves. -/
structure Well (vs : List Vx) (i : Nat) (xs : List Rc) (s t : CS) : Prop where
  ok : xs.all (okD vs) = true
  out : t.out = s.out ++ xs.flatMap (runD vs)
  len : t.many.length = s.many.length
  mok : MOk t.many
  cnV : ∀ j, j < vs.length → t.many.getD (i + j) 0 = s.many.getD (i + j) 0 + (cnL vs j xs : Nat)
  old : ∀ p, p < i → t.many.getD p 0 = s.many.getD p 0
theorem getD_set_eq {l : List Int} {i : Nat} (h : i < l.length) (x : Int) : (l.set i x).getD i 0 = x := by simp [List.getD, h]
theorem getD_set_far {l : List Int} {i j : Nat} (h : i ≠ j) (x : Int) : (l.set i x).getD j 0 = l.getD j 0 := by simp [List.getD, List.getElem?_set, h]
theorem errOf_zero {v : Vx} {i : Nat} {r : Rc} {s : CS} : errOf v i r s = 0 ↔ (apOf v.f0 v.f2 r).2 = 0 ∧ cntOf v i r s ≤ 10000 := by
  unfold errOf
  constructor
  · intro h
    by_cases h1 : (apOf v.f0 v.f2 r).2 = 0 ∧ 10000 < cntOf v i r s
    · rw [if_pos h1] at h; omega
    · rw [if_neg h1] at h; exact ⟨h, by omega⟩
  · rintro ⟨h0, h1⟩
    rw [if_neg (by omega)]
    exact h0
theorem goL_well (vs : List Vx) (i : Nat) (ih : ∀ (x : Rc) (s : CS), MOk s.many → i + vs.length ≤ s.many.length → (chGo vs i x s).1 = true → Well vs i [x] s (chGo vs i x s).2) : ∀ (xs : List Rc) (s : CS), MOk s.many → i + vs.length ≤ s.many.length → (goL (chGo vs i) xs s).1 = true → Well vs i xs s (goL (chGo vs i) xs s).2 := by
  intro xs
  induction xs with
  | nil => intro s hm hl _; exact ⟨rfl, by simp [goL], rfl, hm, fun j hj => by simp [goL, cnL], fun p hp => rfl⟩
  | cons x xs ihx =>
    intro s hm hl h
    rw [goL] at h ⊢
    by_cases h1 : (chGo vs i x s).1 = true
    · rw [if_pos h1] at h ⊢
      have w1 := ih x s hm hl h1
      have w2 := ihx (chGo vs i x s).2 w1.mok (by rw [w1.len]; exact hl) h
      refine ⟨?_, ?_, w2.len.trans w1.len, w2.mok, fun j hj => ?_, fun p hp => (w2.old p hp).trans (w1.old p hp)⟩
      · have := w1.ok; simp only [List.all_cons, List.all_nil, Bool.and_true] at this
        rw [List.all_cons, this, w2.ok]; rfl
      · rw [w2.out, w1.out]; simp [List.flatMap_cons]
      · rw [w2.cnV j hj, w1.cnV j hj, cnL_cons, cnL_cons, cnL_nil]; omega
    · rw [if_neg h1] at h; cases h
theorem chGo_well : ∀ (vs : List Vx) (i : Nat) (r : Rc) (s : CS), MOk s.many → i + vs.length ≤ s.many.length → (chGo vs i r s).1 = true → Well vs i [r] s (chGo vs i r s).2 := by
  intro vs
  induction vs with
  | nil => intro i r s hm hl _; exact ⟨rfl, by simp [chGo, runD], rfl, hm, fun j hj => by simp at hj, fun p hp => rfl⟩
  | cons v vs ih =>
    intro i r s hm hl h
    rw [List.length_cons] at hl
    rw [chGo] at h ⊢
    by_cases h1 : errOf v i r s ≠ 0
    · rw [if_pos h1] at h; cases h
    · rw [if_neg h1] at h ⊢
      have h1' : errOf v i r s = 0 := by simpa using h1
      obtain ⟨e0, e1⟩ := errOf_zero.1 h1'
      have hc := cntOf_range v i r hm
      have hm2 : MOk (s.many.set i (cntOf v i r s)) := hm.set i hc.1 e1
      have w := goL_well vs (i + 1) (fun x t ht hl => ih (i + 1) x t ht hl) (apOf v.f0 v.f2 r).1 ⟨s.out, s.many.set i (cntOf v i r s), s.at_, s.err⟩ hm2 (by simp only [List.length_set]; omega) h
      refine ⟨?_, ?_, by rw [w.len]; simp, w.mok, fun j hj => ?_, fun p hp => ?_⟩
      · have := w.ok
        rw [List.all_cons, List.all_nil, Bool.and_true, okD, this, decide_eq_true e0]; rfl
      · rw [w.out]; simp [runD]
      · cases j with
        | zero =>
          have h0 := w.old i (by omega)
          simp only at h0
          rw [getD_set_eq (by omega)] at h0
          simp only [Nat.add_zero]
          rw [h0, cnL_cons, cnL_nil]
          unfold cntOf
          rfl
        | succ j =>
          rw [show i + (j + 1) = i + 1 + j by omega, w.cnV j (by rw [List.length_cons] at hj; omega), cnL_cons, cnL_nil]
          simp only
          rw [getD_set_far (by omega)]
          rfl
      · rw [w.old p (by omega)]
        exact getD_set_far (by omega) _
theorem sum_le_of_mem {f : Rc → Nat} : ∀ {xs : List Rc} {x : Rc}, x ∈ xs → f x ≤ (xs.map f).sum := by
  intro xs
  induction xs with
  | nil => intro x h; cases h
  | cons y ys ih =>
    intro x h
    rw [List.map_cons, List.sum_cons]
    rcases List.mem_cons.1 h with rfl | h
    · omega
    · have := ih h; omega
/-- Where no vertex tells more than it may, nothing goes wrong. -/
theorem goL_ends (vs : List Vx) (i : Nat) (ih : ∀ (x : Rc) (s : CS), MOk s.many → i + vs.length ≤ s.many.length → okD vs x = true → (∀ j, j < vs.length → s.many.getD (i + j) 0 + (cnV vs j x : Nat) ≤ 10000) → (chGo vs i x s).1 = true) : ∀ (xs : List Rc) (s : CS), MOk s.many → i + vs.length ≤ s.many.length → xs.all (okD vs) = true → (∀ j, j < vs.length → s.many.getD (i + j) 0 + (cnL vs j xs : Nat) ≤ 10000) → (goL (chGo vs i) xs s).1 = true := by
  intro xs
  induction xs with
  | nil => intro s _ _ _ _; rfl
  | cons x xs ihx =>
    intro s hm hl ho hc
    rw [List.all_cons, Bool.and_eq_true] at ho
    have h1 := ih x s hm hl ho.1 (fun j hj => by have := hc j hj; rw [cnL_cons] at this; omega)
    rw [goL, if_pos h1]
    have w := chGo_well vs i x s hm hl h1
    refine ihx _ w.mok (by rw [w.len]; exact hl) ho.2 (fun j hj => ?_)
    have := hc j hj
    rw [cnL_cons] at this
    rw [w.cnV j hj, cnL_cons, cnL_nil]
    omega
theorem chGo_ends : ∀ (vs : List Vx) (i : Nat) (r : Rc) (s : CS), MOk s.many → i + vs.length ≤ s.many.length → okD vs r = true → (∀ j, j < vs.length → s.many.getD (i + j) 0 + (cnV vs j r : Nat) ≤ 10000) → (chGo vs i r s).1 = true := by
  intro vs
  induction vs with
  | nil => intro i r s _ _ _ _; rfl
  | cons v vs ih =>
    intro i r s hm hl ho hc
    rw [okD, Bool.and_eq_true, decide_eq_true_eq] at ho
    have c0 := hc 0 (by simp)
    have e0 : errOf v i r s = 0 := errOf_zero.2 ⟨ho.1, by unfold cntOf; rw [Nat.add_zero] at c0; exact c0⟩
    rw [chGo, if_neg (by simpa using e0)]
    rw [List.length_cons] at hl
    refine goL_ends vs (i + 1) (fun x s => ih (i + 1) x s) _ _ (hm.set i (cntOf_range v i r hm).1 (cntOf_ok e0)) (by simp only [List.length_set]; omega) ho.2 (fun j hj => ?_)
    have := hc (j + 1) (by rw [List.length_cons]; omega)
    simp only
    rw [getD_set_far (by omega), show i + 1 + j = i + (j + 1) by omega]
    exact this
/-- What a walk that goes wrong leaves. -/
def Bad (vs : List Vx) (i : Nat) (ok : Bool) (t : CS) : Prop := t.err ≠ 0 ∧ (i : Int) ≤ t.at_ ∧ t.at_ < ((i + vs.length : Nat) : Int) ∧ (t.err ≠ 3 → ok = false)
theorem goL_bad (vs : List Vx) (i : Nat) (ih : ∀ (x : Rc) (s : CS), (chGo vs i x s).1 = false → Bad vs i (okD vs x) (chGo vs i x s).2) : ∀ (xs : List Rc) (s : CS), (goL (chGo vs i) xs s).1 = false → Bad vs i (xs.all (okD vs)) (goL (chGo vs i) xs s).2 := by
  intro xs
  induction xs with
  | nil => intro s h; cases h
  | cons x xs ihx =>
    intro s h
    rw [goL] at h ⊢
    by_cases h1 : (chGo vs i x s).1 = true
    · rw [if_pos h1] at h ⊢
      obtain ⟨a, b, c, d⟩ := ihx _ h
      exact ⟨a, b, c, fun h3 => by rw [List.all_cons, d h3, Bool.and_false]⟩
    · rw [if_neg h1]
      obtain ⟨a, b, c, d⟩ := ih x s (by simpa using h1)
      exact ⟨a, b, c, fun h3 => by rw [List.all_cons, d h3, Bool.false_and]⟩
theorem chGo_bad : ∀ (vs : List Vx) (i : Nat) (r : Rc) (s : CS), (chGo vs i r s).1 = false → Bad vs i (okD vs r) (chGo vs i r s).2 := by
  intro vs
  induction vs with
  | nil => intro i r s h; cases h
  | cons v vs ih =>
    intro i r s h
    rw [chGo] at h ⊢
    by_cases h1 : errOf v i r s ≠ 0
    · rw [if_pos h1]
      refine ⟨h1, Int.le_refl _, by simp only [List.length_cons]; omega, fun h3 => ?_⟩
      simp only at h3
      have h4 : (apOf v.f0 v.f2 r).2 ≠ 0 := by
        intro h0
        unfold errOf at h1 h3
        by_cases hc : 10000 < cntOf v i r s
        · rw [if_pos ⟨h0, hc⟩] at h3; exact h3 rfl
        · rw [if_neg (fun h => hc h.2)] at h1; exact h1 h0
      rw [okD, decide_eq_false h4, Bool.false_and]
    · rw [if_neg h1] at h ⊢
      obtain ⟨a, b, c, d⟩ := goL_bad vs (i + 1) (fun x s => ih (i + 1) x s) _ _ h
      refine ⟨a, by omega, by rw [List.length_cons]; omega, fun h3 => ?_⟩
      rw [okD, d h3, Bool.and_false]
/-! ### two parts -/
theorem run_app (a b : List Vx) : ∀ r, runD (a ++ b) r = (runD a r).flatMap (runD b) := by
  induction a with
  | nil => intro r; simp [runD]
  | cons v a ih =>
    intro r
    rw [List.cons_append, runD, runD, List.flatMap_assoc]
    congr 1
    funext x
    exact ih x
theorem all_flatMap {f : Rc → List Rc} {p : Rc → Bool} : ∀ xs : List Rc, (xs.flatMap f).all p = xs.all (fun x => (f x).all p) := by
  intro xs
  induction xs with
  | nil => rfl
  | cons x xs ih => rw [List.flatMap_cons, List.all_append, ih, List.all_cons]
theorem all_and {p q : Rc → Bool} : ∀ xs : List Rc, xs.all (fun x => p x && q x) = (xs.all p && xs.all q) := by
  intro xs
  induction xs with
  | nil => rfl
  | cons x xs ih => simp only [List.all_cons, ih]; cases p x <;> cases q x <;> cases xs.all p <;> rfl
theorem ok_app (a b : List Vx) : ∀ r, okD (a ++ b) r = (okD a r && (runD a r).all (okD b)) := by
  induction a with
  | nil => intro r; simp [okD, runD]
  | cons v a ih =>
    intro r
    rw [List.cons_append, okD, okD, runD, all_flatMap, Bool.and_assoc, ← all_and]
    congr 1
    congr 1
    funext x
    exact ih x
theorem cnV_left (a b : List Vx) : ∀ (j : Nat) (r : Rc), j < a.length → cnV (a ++ b) j r = cnV a j r := by
  induction a with
  | nil => intro j r h; simp at h
  | cons v a ih =>
    intro j r h
    cases j with
    | zero => rfl
    | succ j =>
      rw [List.cons_append, cnV, cnV]
      congr 1
      refine List.map_congr_left (fun x _ => ih j x (by rw [List.length_cons] at h; omega))
theorem sum_flatMap {f : Rc → List Rc} {g : Rc → Nat} : ∀ xs : List Rc, ((xs.flatMap f).map g).sum = (xs.map (fun x => ((f x).map g).sum)).sum := by
  intro xs
  induction xs with
  | nil => rfl
  | cons x xs ih => rw [List.flatMap_cons, List.map_append, List.sum_append, ih, List.map_cons, List.sum_cons]
theorem cnV_right (a b : List Vx) : ∀ (j : Nat) (r : Rc), cnV (a ++ b) (a.length + j) r = cnL b j (runD a r) := by
  induction a with
  | nil => intro j r; simp [runD, cnL]
  | cons v a ih =>
    intro j r
    rw [List.cons_append, List.length_cons, show a.length + 1 + j = (a.length + j) + 1 by omega, cnV, runD]
    unfold cnL
    rw [sum_flatMap]
    congr 1
    refine List.map_congr_left (fun x _ => ih j x)
/-! ### a chain -/
def zeroS (n : Nat) : CS := ⟨[], List.replicate n 0, -1, 0⟩
theorem zero_at (n p : Nat) : (List.replicate n (0 : Int)).getD p 0 = 0 := by
  by_cases h : p < n
  · simp [List.getD, h]
  · simp [List.getD, h]
theorem mok_zero (n : Nat) : MOk (List.replicate n 0) := fun x hx => by rw [List.mem_replicate] at hx; omega
/-- Just when a chain ends well. -/
theorem chain_iff (l : List Vx) (r : Rc) : (chGo l 0 r (zeroS l.length)).1 = true ↔ okD l r = true ∧ ∀ j, j < l.length → cnV l j r ≤ 10000 := by
  have hm := mok_zero l.length
  constructor
  · intro h
    have w := chGo_well l 0 r (zeroS l.length) hm (by simp [zeroS]) h
    refine ⟨by have := w.ok; simpa using this, fun j hj => ?_⟩
    have h1 := w.cnV j hj
    have h2 := w.mok.get (0 + j)
    rw [h1, cnL_cons, cnL_nil, show (zeroS l.length).many.getD (0 + j) 0 = 0 from zero_at _ _] at h2
    omega
  · rintro ⟨h0, h1⟩
    refine chGo_ends l 0 r _ hm (by simp [zeroS]) h0 (fun j hj => ?_)
    rw [show (zeroS l.length).many.getD (0 + j) 0 = 0 from zero_at _ _]
    have := h1 j hj
    omega
theorem chain_def (l : List Vx) (r : Rc) : chainOf l r = if (chGo l 0 r (zeroS l.length)).1 = true then ((chGo l 0 r (zeroS l.length)).2.out, -1, 0) else ([], (chGo l 0 r (zeroS l.length)).2.at_, (chGo l 0 r (zeroS l.length)).2.err) := rfl
theorem chain_good {l : List Vx} {r : Rc} (h : okD l r = true) (hc : ∀ j, j < l.length → cnV l j r ≤ 10000) : chainOf l r = (runD l r, -1, 0) := by
  have h1 := (chain_iff l r).2 ⟨h, hc⟩
  have w := chGo_well l 0 r (zeroS l.length) (mok_zero _) (by simp [zeroS]) h1
  rw [chain_def, if_pos h1]
  have h2 : (chGo l 0 r (zeroS l.length)).2.out = runD l r := by rw [w.out]; simp [zeroS]
  rw [h2]
theorem chain_bad {l : List Vx} {r : Rc} (h : ¬ (okD l r = true ∧ ∀ j, j < l.length → cnV l j r ≤ 10000)) : ∃ a e, chainOf l r = ([], a, e) ∧ e ≠ 0 ∧ 0 ≤ a ∧ a < (l.length : Int) ∧ (e ≠ 3 → okD l r = false) := by
  have h1 : (chGo l 0 r (zeroS l.length)).1 = false := by
    cases hb : (chGo l 0 r (zeroS l.length)).1 with
    | false => rfl
    | true => exact absurd ((chain_iff l r).1 hb) h
  obtain ⟨a, b, c, d⟩ := chGo_bad l 0 r _ h1
  refine ⟨_, _, ?_, a, by simpa using b, by simpa using c, d⟩
  rw [chain_def, if_neg (by rw [h1]; simp)]
end Go.Proofs.Ythkilejcddgodaa.Ex
