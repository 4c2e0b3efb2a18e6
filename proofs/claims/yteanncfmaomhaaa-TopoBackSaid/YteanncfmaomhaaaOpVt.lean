/- What a parameter that is a vertex holds. -/
import Derived.Test.YteanncfmaomhaaaOpE
namespace Go.Proofs.Yteanncfmaomhaaa.Ex
open Go Go.RowKit Go.Proofs.YteanncfmaomhaaaW.PrintWords Go.Proofs.Yteanncfmaomhaaa.Opn
set_option linter.unusedVariables false
set_option linter.unusedSimpArgs false
theorem Opens.mono {H : Type} {enc : TypeId × Value → H} {P : Program} {α : Type} {d : Kd α} {t : TypeId} {G G' : α → DataW H → Prop} (h : Opens enc P d t G) (hg : ∀ a x, G a x → G' a x) : Opens enc P d t G' := by
  intro w base sp held fuel cs x hx
  obtain ⟨a, h1, h2⟩ := h w base sp held fuel cs x hx
  exact ⟨a, h1, hg _ _ h2⟩
def vxOk (v : S40) : Prop := I64 v.f0 ∧ (v.f1.length ≤ maxLen ∧ ∀ x ∈ v.f1, I64 x) ∧ wfE v.f2 ∧ I64 v.f3
theorem slice_ints {H : Type} {l : List Int} {x : DataW H} (h : GSlice (GInt .i64) l x) : l.length ≤ maxLen ∧ ∀ n ∈ l, I64 n := by
  obtain ⟨h0, h⟩ := h
  refine ⟨h0, fun n hn => ?_⟩
  rcases h with ⟨rfl, _⟩ | ⟨ds, rest, _, hl, h⟩
  · cases hn
  · obtain ⟨i, hi, rfl⟩ := List.getElem_of_mem hn
    exact wf_I64 (h i _ _ (List.getElem?_eq_getElem hi) (List.getElem?_eq_getElem (by omega))).2
theorem opens_V {H : Type} {enc : TypeId × Value → H} : Opens enc Try.prog k40 40 (fun v _ => vxOk v) := by
  have h := opens_iso (enc := enc) (P := Try.prog) (fun x : S40 => (x.f0, x.f1, x.f2, x.f3)) (fun a => (⟨a.1, a.2.1, a.2.2.1, a.2.2.2⟩ : S40)) (fun _ => rfl)
    (opens_struct (enc := enc) Try.underlying40 rfl (by kernel_rfl) (opensF_cons (off' := 1) rfl (by kernel_rfl) rfl (opens_int Try.underlying3)
      (opensF_cons (off' := 2) rfl (by kernel_rfl) rfl (opens_slice (e' := 3) Try.underlying33 (opens_int Try.underlying3) (by kernel_rfl))
      (opensF_cons (off' := 5) rfl (by kernel_rfl) rfl opens_E (opensF_one rfl (by kernel_rfl) (opens_int Try.underlying2))))))
  refine Opens.mono h (fun v x hx => ?_)
  obtain ⟨l, _, y, t, _, ⟨_, h1⟩, y2, t2, _, h2, y3, t3, _, h3, y4, _, ⟨_, h4⟩⟩ := hx
  exact ⟨wf_I64 h1, slice_ints h2, h3, wf_I64 h4⟩
end Go.Proofs.Yteanncfmaomhaaa.Ex
