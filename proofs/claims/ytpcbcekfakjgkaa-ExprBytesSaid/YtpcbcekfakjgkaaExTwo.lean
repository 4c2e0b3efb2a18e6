/- The contract of expr.two. -/
import Derived.Test.YtpcbcekfakjgkaaExPure
import Derived.Test.YtpcbcekfakjgkaaEx2
import Derived.WalkLawsBesides
namespace Go.Proofs.Ytpcbcekfakjgkaa.Ex
open Go Go.RowKit Go.Proofs.YtpcbcekfakjgkaaW.PrintWords Go.Proofs.YtpcbcekfakjgkaaW.PrintLast Go.Proofs.YtpcbcekfakjgkaaW.PrintMore
attribute [local go_sem] max2_int min2_int max_two min_two
set_option linter.unusedVariables false
set_option linter.unusedSimpArgs false
def divBy0 : List PanicEntry := [{ v := .iface 29 (.int .i64 10), recovered := false }]
def ends : Option Int → Ending
  | some n => .returned (.int .i64 n)
  | none => .panicked divBy0
set_option maxRecDepth 100000 in
set_option maxHeartbeats 2000000 in
theorem two_any (op a b : Int) (w : World) :
    Calls Try.prog 37 #[.int .i64 op, .int .i64 a, .int .i64 b] w fun e w' => e = ends (twoOf op a b) ∧ Below w.heap.size w w' := by
  unfold twoOf
  by_cases e : op = 6
  · subst e
    go_enter Try.func37, Try.ntmps37
    go_wp2
    go_ret
    exact ⟨rfl, Below.refl _ _⟩
  by_cases e7 : op = 7
  · subst e7
    clear e
    go_enter Try.func37, Try.ntmps37
    go_wp2
    go_ret
    exact ⟨rfl, Below.refl _ _⟩
  by_cases e8 : op = 8
  · subst e8
    clear e e7
    go_enter Try.func37, Try.ntmps37
    go_wp2
    go_ret
    exact ⟨rfl, Below.refl _ _⟩
  by_cases e11 : op = 11
  · subst e11
    clear e e7 e8
    go_enter Try.func37, Try.ntmps37
    go_wp2_with fail
    refine (expr_one.calls (decide (a < b)) (oneOf (decide (a < b))) _ (by unfold expr_one.f oneOf; split <;> rfl)).mono ?_
    rintro e w2 ⟨rfl, hd⟩
    go_wp2
    go_ret
    exact ⟨rfl, hd.below⟩
  by_cases e12 : op = 12
  · subst e12
    clear e e7 e8 e11
    go_enter Try.func37, Try.ntmps37
    go_wp2_with fail
    refine (expr_one.calls (a == b) (oneOf (a == b)) _ (by unfold expr_one.f oneOf; split <;> rfl)).mono ?_
    rintro e w2 ⟨rfl, hd⟩
    go_wp2
    go_ret
    exact ⟨rfl, hd.below⟩
  by_cases e15 : op = 15
  · subst e15
    clear e e7 e8 e11 e12
    go_enter Try.func37, Try.ntmps37
    go_wp2
    all_goals go_ret
    all_goals refine ⟨?_, Below.refl _ _⟩
    all_goals unfold mn
    all_goals split
    all_goals first | rfl | (exfalso; omega)
  by_cases e16 : op = 16
  · subst e16
    clear e e7 e8 e11 e12 e15
    go_enter Try.func37, Try.ntmps37
    go_wp2
    all_goals go_ret
    all_goals refine ⟨?_, Below.refl _ _⟩
    all_goals unfold mx
    all_goals split
    all_goals first | rfl | (exfalso; omega)
  rw [if_neg e, if_neg e7, if_neg e8, if_neg e11, if_neg e12, if_neg e15, if_neg e16]
  have g1 : (op == 6) = false := beq_eq_false_iff_ne.2 e
  have g2 : (op == 7) = false := beq_eq_false_iff_ne.2 e7
  have g3 : (op == 8) = false := beq_eq_false_iff_ne.2 e8
  have g4 : (op == 11) = false := beq_eq_false_iff_ne.2 e11
  have g5 : (op == 12) = false := beq_eq_false_iff_ne.2 e12
  have g6 : (op == 15) = false := beq_eq_false_iff_ne.2 e15
  have g7 : (op == 16) = false := beq_eq_false_iff_ne.2 e16
  clear e e7 e8 e11 e12 e15 e16
  by_cases hb : b = 0
  · subst hb
    go_enter Try.func37, Try.ntmps37
    go_wp2
    exact ⟨rfl, rfl, Below.refl _ _⟩
  rw [if_neg hb]
  have hb0 : (b == 0) = false := beq_eq_false_iff_ne.2 hb
  by_cases e9 : op = 9
  · subst e9
    clear g1 g2 g3 g4 g5 g6 g7
    go_enter Try.func37, Try.ntmps37
    go_wp2
    go_ret
    exact ⟨rfl, Below.refl _ _⟩
  · rw [if_neg e9]
    have g8 : (op == 9) = false := beq_eq_false_iff_ne.2 e9
    clear e9
    go_enter Try.func37, Try.ntmps37
    go_wp2
    go_ret
    exact ⟨rfl, Below.refl _ _⟩
end Go.Proofs.Ytpcbcekfakjgkaa.Ex
