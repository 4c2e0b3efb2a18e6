/- What parameters that are records hold. -/
import Derived.Test.YthkilejcddgodaaOpE
namespace Go.Proofs.Ythkilejcddgodaa.Ex
open Go Go.RowKit Go.Proofs.YthkilejcddgodaaW.PrintWords Go.Proofs.YthkilejcddgodaaW.PrintLast Go.Proofs.YthkilejcddgodaaW.PrintMore Go.Proofs.Ythkilejcddgodaa.Opn
set_option linter.unusedVariables false
set_option linter.unusedSimpArgs false
theorem Opens.mono {H : Type} {enc : TypeId × Value → H} {P : Program} {α : Type} {d : Kd α} {t : TypeId} {G G' : α → DataW H → Prop} (h : Opens enc P d t G) (hg : ∀ a x, G a x → G' a x) : Opens enc P d t G' := by
  intro w base sp held fuel cs x hx
  obtain ⟨a, h1, h2⟩ := h w base sp held fuel cs x hx
  exact ⟨a, h1, hg _ _ h2⟩
abbrev Rec := S29
def recOk (r : Rec) : Prop := I64 r.f0 ∧ I64 r.f1 ∧ I64 r.f2
theorem opens_R {H : Type} {enc : TypeId × Value → H} : Opens enc Try.prog k29 29 (fun r _ => recOk r) := by
  have h := opens_iso (enc := enc) (P := Try.prog) (fun x : Rec => (x.f0, x.f1, x.f2)) (fun a => (⟨a.1, a.2.1, a.2.2⟩ : Rec)) (fun _ => rfl)
    (opens_struct (enc := enc) Try.underlying29 rfl (by kernel_rfl) (opensF_cons (off' := 1) rfl (by kernel_rfl) rfl (opens_int Try.underlying2) (opensF_cons (off' := 2) rfl (by kernel_rfl) rfl (opens_int Try.underlying2) (opensF_one rfl (by kernel_rfl) (opens_int Try.underlying2)))))
  refine Opens.mono h (fun r x hx => ?_)
  obtain ⟨l, _, y, t, _, ⟨_, h1⟩, y2, t2, _, ⟨_, h2⟩, y3, _, ⟨_, h3⟩⟩ := hx
  exact ⟨wf_I64 h1, wf_I64 h2, wf_I64 h3⟩
end Go.Proofs.Ythkilejcddgodaa.Ex
