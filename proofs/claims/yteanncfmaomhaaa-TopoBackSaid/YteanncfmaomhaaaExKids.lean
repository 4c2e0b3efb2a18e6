/- The contract of expr.kids. -/
import Derived.Test.YteanncfmaomhaaaExPure
namespace Go.Proofs.Yteanncfmaomhaaa.Ex
open Go Go.RowKit Go.Proofs.YteanncfmaomhaaaW.PrintWords Go.Proofs.YteanncfmaomhaaaW.PrintLast Go.Proofs.YteanncfmaomhaaaW.PrintMore
set_option linter.unusedVariables false
set_option linter.unusedSimpArgs false
def expr_kids.f (a0 : Int) : Option (Int × Bool) := if 1 ≤ a0 ∧ a0 ≤ 16 then some (kidsOf a0, true) else some (0, false)
set_option maxRecDepth 100000 in
set_option maxHeartbeats 1000000 in
theorem expr_kids.calls (a0 : Int) (r1 : Int) (r2 : Bool) (w : World) (h : expr_kids.f a0 = some (r1, r2)) :
    Calls Try.prog 53 #[.int .i64 a0] w fun e w' => e = .returned (.tuple #[.int .i64 r1, .bool r2]) ∧ Below w.heap.size w w' := by
  have hu := Try.underlying100
  by_cases h1 : a0 < 1
  · have h1a : decide (a0 < 1) = true := by simpa using h1
    unfold expr_kids.f at h
    rw [if_neg (by omega)] at h
    injection h with h
    injection h with e1 e2
    subst e1 e2
    go_enter Try.func53, Try.ntmps53
    go_wp2
    go_ret2
    exact ⟨rfl, by repeat (first | exact Below.refl _ _ | apply below_alloc | refine below_set ?_ (Nat.le_refl _))⟩
  have h1a : decide (a0 < 1) = false := by simpa using h1
  by_cases h2 : 17 ≤ a0
  · have h2a : decide (17 ≤ a0) = true := by simpa using h2
    unfold expr_kids.f at h
    rw [if_neg (by omega)] at h
    injection h with h
    injection h with e1 e2
    subst e1 e2
    go_enter Try.func53, Try.ntmps53
    go_wp2
    go_ret2
    exact ⟨rfl, by repeat (first | exact Below.refl _ _ | apply below_alloc | refine below_set ?_ (Nat.le_refl _))⟩
  have h2a : decide (17 ≤ a0) = false := by simpa using h2
  unfold expr_kids.f at h
  rw [if_pos (by omega)] at h
  injection h with h
  injection h with e1 e2
  subst e1 e2
  obtain rfl | rfl | rfl | rfl | rfl | rfl | rfl | rfl | rfl | rfl | rfl | rfl | rfl | rfl | rfl | rfl : a0 = 1 ∨ a0 = 2 ∨ a0 = 3 ∨ a0 = 4 ∨ a0 = 5 ∨ a0 = 6 ∨ a0 = 7 ∨ a0 = 8 ∨ a0 = 9 ∨ a0 = 10 ∨ a0 = 11 ∨ a0 = 12 ∨ a0 = 13 ∨ a0 = 14 ∨ a0 = 15 ∨ a0 = 16 := by omega
  all_goals
    clear h1 h1a h2 h2a
    go_enter Try.func53, Try.ntmps53
    go_wp2
    go_ret2
    exact ⟨rfl, by repeat (first | exact Below.refl _ _ | apply below_alloc | refine below_set ?_ (Nat.le_refl _))⟩
end Go.Proofs.Yteanncfmaomhaaa.Ex
