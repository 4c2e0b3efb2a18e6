/- (c16) Plain laws: the parts' numbers. -/
import Derived.Test.YtlandgbhbfdekaaCtPure
namespace Go.Proofs.Ytlandgbhbfdekaa.Ex
open Go Go.RowKit
set_option linter.unusedVariables false
theorem numGo_snoc : ∀ (xs : List Int) (L : List (Int × Int)) (x : Int), numGo L (xs ++ [x]) = if (Mk.lk (numGo L xs) x).isSome = true then numGo L xs else numGo L xs ++ [(x, ((numGo L xs).length : Int))] := by
  intro xs
  induction xs with
  | nil => intro L x; rfl
  | cons y xs ih => intro L x; rw [List.cons_append, numGo, numGo, ih]
/-- What is in the map stays in it. -/
theorem numGo_keeps {x n : Int} : ∀ (xs : List Int) (L : List (Int × Int)), Mk.lk L x = some n → Mk.lk (numGo L xs) x = some n := by
  intro xs
  induction xs with
  | nil => intro L h; exact h
  | cons y xs ih =>
    intro L h
    rw [numGo]
    refine ih _ ?_
    split
    · exact h
    · rw [Mk.lk_snoc, h]
      rfl
theorem numGo_has {x : Int} : ∀ (xs : List Int) (L : List (Int × Int)), x ∈ xs → ∃ n, Mk.lk (numGo L xs) x = some n := by
  intro xs
  induction xs with
  | nil => intro L h; cases h
  | cons y xs ih =>
    intro L h
    rw [numGo]
    rcases List.mem_cons.1 h with rfl | h
    · cases hl : Mk.lk L x with
      | some n =>
        rw [if_pos (show (some n).isSome = true from rfl)]
        exact ⟨n, numGo_keeps xs L hl⟩
      | none =>
        rw [if_neg (by simp)]
        exact ⟨_, numGo_keeps xs _ (by rw [Mk.lk_snoc, hl, if_pos rfl]; rfl)⟩
    · exact ih _ h
end Go.Proofs.Ytlandgbhbfdekaa.Ex
