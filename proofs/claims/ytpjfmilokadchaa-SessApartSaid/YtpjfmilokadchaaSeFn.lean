/- (c14) Contracts of sess's small functions. -/
import Derived.Test.YtpjfmilokadchaaSeBase
namespace Go.Proofs.Ytpjfmilokadchaa.Se
open Go Go.RowKit Go.Proofs.YtpjfmilokadchaaW.PrintWords Go.Proofs.YtpjfmilokadchaaW.PrintLast Go.Proofs.YtpjfmilokadchaaW.PrintMore Go.Proofs.Ytpjfmilokadchaa.Rw
set_option linter.unusedVariables false
set_option linter.unusedSimpArgs false
theorem dec_fl {a : Int} (h0 : 0 ≤ a) (h1 : a ≤ 1099511627776) : (FloatKind.decode .f64 (fl a)).toInt .zero = some a := by
  have hn : a = ((a.natAbs : Nat) : Int) := by omega
  have hneg : decide (a < 0) = false := by simp; omega
  unfold fl FloatKind.nearest FloatKind.encode FloatKind.decode
  rw [hneg]
  have := back a.natAbs (by have : a.natAbs ≤ 1099511627776 := by omega
                            have h2 : (2:Nat) ^ 53 = 9007199254740992 := by decide
                            omega)
  rw [← hn] at this
  exact this
theorem f2i {a : Int} (h0 : 0 ≤ a) (h1 : a ≤ 1099511627776) : Go.Conv.floatToInt .f64 (fl a) .i64 = pure (.int .i64 a) := by
  unfold Go.Conv.floatToInt
  rw [dec_fl h0 h1]
  simp only
  rw [if_pos (by simp [IntKind.min, IntKind.max, IntKind.bits, IntKind.signed]; omega)]
abbrev agg3 (x : Ses) : Value := .agg #[.int .i64 x.k, spanV x.a x.b, .int .i64 x.v]
theorem run_i2f (n : Int) (w : World) : (convert 2 67 (.int .i64 n)).run Try.prog w = .ok (.float .f64 (fl n)) w := by kernel_rfl
theorem run_real (a b : Int) (w : World) : (Builtin.real_ #[51] 67 #[spanV a b]).run Try.prog w = .ok (.float .f64 (fl a)) w := by kernel_rfl
theorem run_imag (a b : Int) (w : World) : (Builtin.imag_ #[51] 67 #[spanV a b]).run Try.prog w = .ok (.float .f64 (fl b)) w := by kernel_rfl
theorem run_cplx (a b : Int) (w : World) : (Builtin.complex_ #[67, 67] 51 #[.float .f64 (fl a), .float .f64 (fl b)]).run Try.prog w = .ok (spanV a b) w := by kernel_rfl
theorem run_f2i {a : Int} (h0 : 0 ≤ a) (h1 : a ≤ 1099511627776) (w : World) : (convert 67 2 (.float .f64 (fl a))).run Try.prog w = .ok (.int .i64 a) w := by
  have : (convert 67 2 (.float .f64 (fl a))).run Try.prog w = (Go.Conv.floatToInt .f64 (fl a) .i64).run Try.prog w := by kernel_rfl
  rw [this, f2i h0 h1]
  rfl
theorem times_ok (a b : Int) (w : World) : Calls Try.prog 22 #[.int .i64 a, .int .i64 b] w fun e w' => e = .returned (spanV a b) ∧ w = w' := by
  have r1 := run_i2f a
  have r2 := run_i2f b
  have r3 := run_cplx a b
  go_enter Try.func22, Try.ntmps22
  go_wp2
  go_ret
  exact ⟨rfl, rfl⟩
theorem from_ok (x : Ses) (hx : Span x) (w : World) : Calls Try.prog 19 #[agg3 x] w fun e w' => e = .returned (.int .i64 x.a) ∧ Below w.heap.size w w' := by
  obtain ⟨h0, h1, h2⟩ := hx
  have r1 := run_f2i (a := x.a) h0 (by omega)
  have r3 := run_real x.a x.b
  unfold agg3
  clear h0 h1 h2
  go_enter Try.func19, Try.ntmps19
  go_wp2
  go_ret
  exact ⟨rfl, below_alloc (Below.refl _ _) _⟩
theorem to_ok (x : Ses) (hx : Span x) (w : World) : Calls Try.prog 20 #[agg3 x] w fun e w' => e = .returned (.int .i64 x.b) ∧ Below w.heap.size w w' := by
  obtain ⟨h0, h1, h2⟩ := hx
  have r1 := run_f2i (a := x.b) (by omega) (by omega)
  have r3 := run_imag x.a x.b
  unfold agg3
  clear h0 h1 h2
  go_enter Try.func20, Try.ntmps20
  go_wp2
  go_ret
  exact ⟨rfl, below_alloc (Below.refl _ _) _⟩
def mayT (t : Int) : Bool := decide (0 ≤ t) && decide (t ≤ 1099511627776)
theorem may_ok (t : Int) (w : World) : Calls Try.prog 17 #[.int .i64 t] w fun e w' => e = .returned (.bool (mayT t)) ∧ w = w' := by
  unfold mayT
  go_enter Try.func17, Try.ntmps17
  go_wp2
  all_goals
    go_ret
    refine ⟨?_, rfl⟩
    first | (simp_all; done) | (simp_all; omega)
def cmpI (a b : Int) : Int := if a < b then -1 else if b < a then 1 else 0
theorem cmp_ok (a b : Int) (w : World) : Calls Try.prog 35 #[.int .i64 a, .int .i64 b] w fun e w' => e = .returned (.int .i64 (cmpI a b)) ∧ w = w' := by
  unfold cmpI
  rcases Int.lt_trichotomy a b with h | h | h
  · rw [if_pos h]
    go_enter Try.func35, Try.ntmps35
    go_wp2
    go_ret
    exact ⟨rfl, rfl⟩
  · have h1 : decide (a < b) = false := by simp; omega
    have h2 : decide (b < a) = false := by simp; omega
    rw [if_neg (by omega), if_neg (by omega)]
    clear h
    go_enter Try.func35, Try.ntmps35
    go_wp2
    go_ret
    exact ⟨rfl, rfl⟩
  · have h1 : decide (a < b) = false := by simp; omega
    rw [if_neg (by omega), if_pos h]
    go_enter Try.func35, Try.ntmps35
    go_wp2
    go_ret
    exact ⟨rfl, rfl⟩
end Go.Proofs.Ytpjfmilokadchaa.Se
