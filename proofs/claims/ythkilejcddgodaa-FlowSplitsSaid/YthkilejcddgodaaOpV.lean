/- What a parameter that is a vertex holds. -/
import Derived.Test.YthkilejcddgodaaExCom
namespace Go.Proofs.Ythkilejcddgodaa.Ex
open Go Go.RowKit Go.Proofs.YthkilejcddgodaaW.PrintWords Go.Proofs.Ythkilejcddgodaa.Opn
set_option linter.unusedVariables false
set_option linter.unusedSimpArgs false
def vxOk (v : S27) : Prop := I64 v.f0 ∧ (v.f1.length ≤ maxLen ∧ ∀ x ∈ v.f1, I64 x) ∧ wfE v.f2 ∧ I64 v.f3
theorem slice_ints {H : Type} {l : List Int} {x : DataW H} (h : GSlice (GInt .i64) l x) : l.length ≤ maxLen ∧ ∀ n ∈ l, I64 n := by
  obtain ⟨h0, h⟩ := h
  refine ⟨h0, fun n hn => ?_⟩
  rcases h with ⟨rfl, _⟩ | ⟨ds, rest, _, hl, h⟩
  · cases hn
  · obtain ⟨i, hi, rfl⟩ := List.getElem_of_mem hn
    exact wf_I64 (h i _ _ (List.getElem?_eq_getElem hi) (List.getElem?_eq_getElem (by omega))).2
theorem opens_V {H : Type} {enc : TypeId × Value → H} : Opens enc Try.prog k27 27 (fun v _ => vxOk v) := by
  have h := opens_iso (enc := enc) (P := Try.prog) (fun x : S27 => (x.f0, x.f1, x.f2, x.f3)) (fun a => (⟨a.1, a.2.1, a.2.2.1, a.2.2.2⟩ : S27)) (fun _ => rfl)
    (opens_struct (enc := enc) Try.underlying27 rfl (by kernel_rfl) (opensF_cons (off' := 1) rfl (by kernel_rfl) rfl (opens_int Try.underlying3)
      (opensF_cons (off' := 2) rfl (by kernel_rfl) rfl (opens_slice (e' := 3) Try.underlying22 (opens_int Try.underlying3) (by kernel_rfl))
      (opensF_cons (off' := 5) rfl (by kernel_rfl) rfl opens_E (opensF_one rfl (by kernel_rfl) (opens_int Try.underlying2))))))
  refine Opens.mono h (fun v x hx => ?_)
  obtain ⟨l, _, y, t, _, ⟨_, h1⟩, y2, t2, _, h2, y3, t3, _, h3, y4, _, ⟨_, h4⟩⟩ := hx
  exact ⟨wf_I64 h1, slice_ints h2, h3, wf_I64 h4⟩
end Go.Proofs.Ythkilejcddgodaa.Ex
