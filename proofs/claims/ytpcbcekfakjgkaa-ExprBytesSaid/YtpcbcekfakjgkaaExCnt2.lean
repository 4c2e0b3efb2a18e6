/- (c04) Small expressions, told without more than the count. -/
import Derived.Test.YtpcbcekfakjgkaaExRefB
import Derived.Test.YtpcbcekfakjgkaaEx4
namespace Go.Proofs.Ytpcbcekfakjgkaa.Ex
open Go Go.RowKit Go.Proofs.YtpcbcekfakjgkaaW.PrintWords Go.Proofs.YtpcbcekfakjgkaaW.PrintLast Go.Proofs.YtpcbcekfakjgkaaW.PrintMore
set_option linter.unusedVariables false
theorem small2_ev (e : E) (hw : wfE e) : ∃ b, Ev (fun k => tidemilllaw04_small.f k e.f0 e.f1 e.f2) b := by
  obtain ⟨c, hc⟩ := count_any e hw
  exact ⟨_, Ev.bind hc (Ev.now _)⟩
end Go.Proofs.Ytpcbcekfakjgkaa.Ex
