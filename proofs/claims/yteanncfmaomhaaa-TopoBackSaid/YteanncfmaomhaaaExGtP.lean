/- (c04) Plain: an expression that is read; one that is laid down. -/
import Derived.Test.YteanncfmaomhaaaPkPure
import Derived.Test.YteanncfmaomhaaaExMay
namespace Go.Proofs.Yteanncfmaomhaaa.Ex
open Go Go.RowKit Go.Proofs.Yteanncfmaomhaaa.Pk Go.Proofs.YteanncfmaomhaaaW.PrintWords
set_option linter.unusedVariables false
set_option linter.unusedSimpArgs false
/-- What was read, what is left, how many may still come; or an error. -/
abbrev GotE := Int ⊕ (E × List Int × Nat)
def kidsE (g : List Int → Nat → GotE) : Nat → List Int → Nat → Int ⊕ (List E × List Int × Nat)
  | 0, xs, lf => .inr ([], xs, lf)
  | m + 1, xs, lf => match g xs lf with
    | .inl e => .inl e
    | .inr (k, r, l1) => match kidsE g m r l1 with
      | .inl e => .inl e
      | .inr (ks, r2, l2) => .inr (k :: ks, r2, l2)
/-- The operation, its number, what is left. -/
def headE (xs : List Int) : Int ⊕ (Int × Int × List Int) :=
  if (rdU xs).2.1 ≠ 0 then .inl (rdU xs).2.1
  else if ¬ (1 ≤ (rdU xs).1 ∧ (rdU xs).1 ≤ 16) then .inl 5
  else if (rdU xs).1 = 1 then (if (rdU (rdU xs).2.2).2.1 ≠ 0 then .inl (rdU (rdU xs).2.2).2.1 else .inr (1, sgn (rdU (rdU xs).2.2).1, (rdU (rdU xs).2.2).2.2))
  else .inr ((rdU xs).1, 0, (rdU xs).2.2)
def getE : Nat → List Int → Nat → GotE
  | 0, _, _ => .inl 11
  | d + 1, xs, lf =>
    if lf = 0 then .inl 11 else
    match headE xs with
    | .inl e => .inl e
    | .inr (op, n, r) => match kidsE (getE d) (kidsOf op).toNat r (lf - 1) with
      | .inl e => .inl e
      | .inr (ks, r2, l2) => .inr (⟨op, n, ks⟩, r2, l2)
theorem get_zero (d : Nat) (xs : List Int) : getE (d + 1) xs 0 = .inl 11 := by rw [getE, if_pos rfl]
theorem get_head {d : Nat} {xs : List Int} {lf : Nat} {e : Int} (h0 : lf ≠ 0) (h : headE xs = .inl e) : getE (d + 1) xs lf = .inl e := by rw [getE, if_neg h0, h]
theorem get_kids {d : Nat} {xs r : List Int} {lf : Nat} {e op n : Int} (h0 : lf ≠ 0) (h : headE xs = .inr (op, n, r)) (hk : kidsE (getE d) (kidsOf op).toNat r (lf - 1) = .inl e) : getE (d + 1) xs lf = .inl e := by
  rw [getE, if_neg h0, h]
  simp only [hk]
theorem get_good {d : Nat} {xs r r2 : List Int} {lf l2 : Nat} {op n : Int} {ks : List E} (h0 : lf ≠ 0) (h : headE xs = .inr (op, n, r)) (hk : kidsE (getE d) (kidsOf op).toNat r (lf - 1) = .inr (ks, r2, l2)) : getE (d + 1) xs lf = .inr (⟨op, n, ks⟩, r2, l2) := by
  rw [getE, if_neg h0, h]
  simp only [hk]
theorem head_err {xs : List Int} (h : (rdU xs).2.1 ≠ 0) : headE xs = .inl (rdU xs).2.1 := by unfold headE; rw [if_pos h]
theorem head_out {xs : List Int} (h : (rdU xs).2.1 = 0) (h1 : ¬ (1 ≤ (rdU xs).1 ∧ (rdU xs).1 ≤ 16)) : headE xs = .inl 5 := by unfold headE; rw [if_neg (by simp [h]), if_pos h1]
theorem head_con {xs : List Int} (h : (rdU xs).2.1 = 0) (h1 : (rdU xs).1 = 1) (h2 : (rdU (rdU xs).2.2).2.1 = 0) : headE xs = .inr (1, sgn (rdU (rdU xs).2.2).1, (rdU (rdU xs).2.2).2.2) := by
  unfold headE; rw [if_neg (by simp [h]), if_neg (by omega), if_pos h1, if_neg (by simp [h2])]
theorem head_con_err {xs : List Int} (h : (rdU xs).2.1 = 0) (h1 : (rdU xs).1 = 1) (h2 : (rdU (rdU xs).2.2).2.1 ≠ 0) : headE xs = .inl (rdU (rdU xs).2.2).2.1 := by
  unfold headE; rw [if_neg (by simp [h]), if_neg (by omega), if_pos h1, if_pos h2]
theorem head_op {xs : List Int} (h : (rdU xs).2.1 = 0) (h1 : 1 ≤ (rdU xs).1 ∧ (rdU xs).1 ≤ 16) (h2 : (rdU xs).1 ≠ 1) : headE xs = .inr ((rdU xs).1, 0, (rdU xs).2.2) := by
  unfold headE; rw [if_neg (by simp [h]), if_neg (by omega), if_neg h2]
/-- Ahead of what comes. -/
def ahead (acc : List E) : Int ⊕ (List E × List Int × Nat) → Int ⊕ (List E × List Int × Nat)
  | .inl e => .inl e
  | .inr (ks, r, l) => .inr (acc ++ ks, r, l)
theorem ahead_nil (x : Int ⊕ (List E × List Int × Nat)) : ahead [] x = x := by
  rcases x with e | ⟨ks, r, l⟩ <;> rfl
theorem kids_bad {g : List Int → Nat → GotE} {m : Nat} {xs : List Int} {lf : Nat} {e : Int} {acc : List E} (h : g xs lf = .inl e) : ahead acc (kidsE g (m + 1) xs lf) = .inl e := by
  rw [kidsE, h]
  rfl
theorem kids_good {g : List Int → Nat → GotE} {m : Nat} {xs r : List Int} {lf l1 : Nat} {k : E} {acc : List E} (h : g xs lf = .inr (k, r, l1)) : ahead acc (kidsE g (m + 1) xs lf) = ahead (acc ++ [k]) (kidsE g m r l1) := by
  rw [kidsE, h]
  simp only
  rcases kidsE g m r l1 with e | ⟨ks, r2, l2⟩
  · rfl
  · simp [ahead]
end Go.Proofs.Yteanncfmaomhaaa.Ex
