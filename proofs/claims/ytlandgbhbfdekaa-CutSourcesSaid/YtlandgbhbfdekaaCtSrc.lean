/- (c16) The statement CutSources: sixteen topologies. -/
import Derived.Test.YtlandgbhbfdekaaEx21
namespace Go.Proofs.Ytlandgbhbfdekaa.Ex
open Go Go.RowKit Go.Proofs.YtlandgbhbfdekaaW.PrintWords Go.Proofs.YtlandgbhbfdekaaW.PrintLast Go.Proofs.YtlandgbhbfdekaaW.PrintMore
set_option linter.unusedVariables false
set_option maxRecDepth 100000 in
theorem src_each : ∀ a1 : Bool, ∀ m ∈ List.range 8, tidemilllaw16_CutSources.f 60 (m : Int) a1 = some true := by decide +kernel
theorem src_same (k : Nat) (a0 : Int) (a1 : Bool) : tidemilllaw16_CutSources.f k a0 a1 = tidemilllaw16_CutSources.f k (Int.tmod a0 8) a1 := by
  unfold tidemilllaw16_CutSources.f
  rw [show Int.tmod (Int.tmod a0 8) 8 = Int.tmod a0 8 from Int.tmod_tmod_of_dvd a0 (Int.dvd_refl 8)]
theorem src_f (a0 : Int) (a1 : Bool) (h0 : 0 ≤ a0) : tidemilllaw16_CutSources.f 60 a0 a1 = some true := by
  rw [src_same]
  have e := Int.tmod_eq_emod_of_nonneg (b := 8) h0
  have g0 := Int.emod_nonneg a0 (show (8 : Int) ≠ 0 by decide)
  have g1 := Int.emod_lt_of_pos a0 (show (0 : Int) < 8 by decide)
  rw [e]
  have := src_each a1 (a0 % 8).toNat (List.mem_range.2 (by omega))
  rwa [show (((a0 % 8).toNat : Nat) : Int) = a0 % 8 by omega] at this
theorem sources_ok (a0 : Int) (a1 : Bool) (w : World) (h : (Lit.int .u8 a0).wf = true) :
    Calls Try.prog 4 #[.int .u8 a0, .bool a1] w fun e w' => e = .returned (.bool true) ∧ Below w.heap.size w w' := by
  have h0 : 0 ≤ a0 := by
    simp [Lit.wf, IntKind.min, IntKind.max, IntKind.bits, IntKind.signed] at h
    omega
  exact tidemilllaw16_CutSources.calls 60 a0 a1 true w (src_f a0 a1 h0)
end Go.Proofs.Ytlandgbhbfdekaa.Ex
