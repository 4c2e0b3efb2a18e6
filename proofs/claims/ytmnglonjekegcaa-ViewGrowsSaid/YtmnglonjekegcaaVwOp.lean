/- (c11) A parameter that is a row of entries; ViewGrows for its row. -/
import Derived.Test.YtmnglonjekegcaaVwGrW
import Derived.Test.YtmnglonjekegcaaRcOp
namespace Go.Proofs.Ytmnglonjekegcaa.Vw
open Go Go.RowKit Go.Proofs.YtmnglonjekegcaaW.PrintWords Go.Proofs.Ytmnglonjekegcaa.Opn Go.Proofs.Ytmnglonjekegcaa.Rp Go.Proofs.Ytmnglonjekegcaa.Rc
set_option linter.unusedVariables false
set_option linter.unusedSimpArgs false
theorem opens_Es {H : Type} {enc : TypeId × Value → H} : Opens enc Try.prog (Kd.slice 47 k47) 22 (GSlice fun v (_ : DataW H) => entOk v) :=
  opens_slice Try.underlying22 opens_Ent (by kernel_rfl)
end Go.Proofs.Ytmnglonjekegcaa.Vw
