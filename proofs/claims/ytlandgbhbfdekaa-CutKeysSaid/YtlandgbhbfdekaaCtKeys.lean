/- (c16) The statement CutKeys. -/
import Derived.Test.YtlandgbhbfdekaaCtLw
import Derived.Test.YtlandgbhbfdekaaOpT
import Derived.Test.YtlandgbhbfdekaaEx6
namespace Go.Proofs.Ytlandgbhbfdekaa.Ex
open Go Go.RowKit Go.Proofs.YtlandgbhbfdekaaW.PrintWords Go.Proofs.YtlandgbhbfdekaaW.PrintLast Go.Proofs.YtlandgbhbfdekaaW.PrintMore
set_option linter.unusedVariables false
set_option linter.unusedSimpArgs false
theorem keys_ev (l : List Vx) (p a : Int) (hv : ∀ v ∈ l, vxOk v) (hl : l.length ≤ 1759218604441) (ha : -2147483648 ≤ a ∧ a ≤ 2147483647) : Ev (fun k => tidemilllaw16_CutKeys.f k l p a) true := by
  have hi : ∀ v ∈ l, I64 v.f3 := fun v h => (hv v h).2.2.2
  unfold tidemilllaw16_CutKeys.f
  refine Ev.bind ctShown ?_
  obtain ⟨b, hb⟩ := ctSmall l p (fun v h => (hv v h).2.2.1) hl
  refine Ev.bind hb ?_
  cases b with
  | false =>
    simp only [Bool.false_eq_true, if_false]
    exact Ev.now _
  | true =>
    simp only [if_true, ctCheck hi, ctPart hi, Option.bind_some]
    by_cases h0 : (checkOf l p).2 = 0
    · have hp := ctPos h0
      simp only [if_pos h0]
      have w1 : wrap64 a = a := by unfold wrap64; omega
      have w2 : wrap64 (a + p) = a + p := by unfold wrap64; omega
      have w3 : wrap64 (a + 1) = a + 1 := by unfold wrap64; omega
      rw [w1, w2, w3]
      have g0 := Int.emod_nonneg a (show p ≠ 0 by omega)
      have g1 := Int.emod_lt_of_pos a (show 0 < p by omega)
      rw [if_pos g0, if_pos g1, if_pos (Int.add_emod_right a p), if_neg (show ¬ p = 0 by omega)]
      have w4 : wrap64 (a % p + 1) = a % p + 1 := by unfold wrap64; omega
      rw [w4, Int.tmod_eq_emod_of_nonneg (by omega)]
      have e : ((a + 1) % p == (a % p + 1) % p) = true := by
        rw [beq_iff_eq, Int.emod_add_emod]
      rw [e]
      exact Ev.now _
    · simp only [if_neg h0]
      exact Ev.now _
theorem keys_ok (A0 : Option Addr) (c0 : Nat) (l : List Vx) (p a : Int) (w : World) (hC : Kd.C k37 w A0 l.length l) (hc : l.length ≤ c0) (hv : ∀ v ∈ l, vxOk v) (hl : l.length ≤ 1759218604441) (ha : -2147483648 ≤ a ∧ a ≤ 2147483647) :
    Calls Try.prog 3 #[.agg #[.slice A0 l.length c0, .int .i64 p], .int .i32 a] w fun e w' => e = .returned (.bool true) ∧ Below w.heap.size w w' := by
  obtain ⟨k, hk⟩ := Ev.rounds (keys_ev l p a hv hl ha)
  exact tidemilllaw16_CutKeys.calls k A0 c0 l p a true w hC hc hk
theorem open_T {w : World} {t : List Vx × Int} {cs : List Value} (h : (Kd.pair (Kd.slice 37 k37) (Kd.int .i64)).K w t cs) : ∃ A c, cs = [.slice A t.1.length c, .int .i64 t.2] ∧ t.1.length ≤ c ∧ Kd.C k37 w A t.1.length t.1 := by
  obtain ⟨_, _, rfl, ⟨A, c, rfl, l1, g1⟩, rfl⟩ := h
  exact ⟨A, c, rfl, l1, g1⟩
theorem wfq_i32 {n : Int} (h : (Lit.int .i32 n).wf = true) : -2147483648 ≤ n ∧ n ≤ 2147483647 := by
  simp [Lit.wf, IntKind.min, IntKind.max, IntKind.bits, IntKind.signed] at h
  omega
end Go.Proofs.Ytlandgbhbfdekaa.Ex
