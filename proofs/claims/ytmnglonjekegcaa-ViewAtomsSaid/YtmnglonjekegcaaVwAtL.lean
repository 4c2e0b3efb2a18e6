/- (c11) ViewAtoms: the openers that its row names. -/
import Derived.Test.YtmnglonjekegcaaOpn
import Derived.Test.YtmnglonjekegcaaRp0
import Derived.Test.YtmnglonjekegcaaVwAtW
namespace Go.Proofs.Ytmnglonjekegcaa.Rc
open Go Go.RowKit Go.Proofs.YtmnglonjekegcaaW.PrintWords Go.Proofs.Ytmnglonjekegcaa.Opn Go.Proofs.Ytmnglonjekegcaa.Rp
set_option linter.unusedVariables false
set_option linter.unusedSimpArgs false
def I64 (n : Int) : Prop := -9223372036854775808 ≤ n ∧ n ≤ 9223372036854775807
theorem wf_I64 {n : Int} (h : (Lit.int .i64 n).wf = true) : I64 n := by
  simp [Lit.wf, IntKind.min, IntKind.max, IntKind.bits, IntKind.signed] at h
  unfold I64
  omega
theorem mono_op {H : Type} {enc : TypeId × Value → H} {P : Program} {α : Type} {d : Kd α} {e : TypeId} {G G' : α → DataW H → Prop} (h : Opens enc P d e G) (hg : ∀ a x, G a x → G' a x) : Opens enc P d e G' := by
  intro w base sp held fuel cs x h1
  obtain ⟨a, h1, h2⟩ := h w base sp held fuel cs x h1
  exact ⟨a, h1, hg _ _ h2⟩
def recOk (r : S45) : Prop := I64 r.f0 ∧ I64 r.f1 ∧ I64 r.f2
theorem opens_R {H : Type} {enc : TypeId × Value → H} : Opens enc Try.prog k45 45 (fun r _ => recOk r) := by
  have h := opens_iso (enc := enc) (P := Try.prog) (fun x : S45 => (x.f0, x.f1, x.f2)) (fun a => (⟨a.1, a.2.1, a.2.2⟩ : S45)) (fun _ => rfl)
    (opens_struct (enc := enc) Try.underlying45 rfl (by kernel_rfl) (opensF_cons (off' := 1) rfl (by kernel_rfl) rfl (opens_int Try.underlying2) (opensF_cons (off' := 2) rfl (by kernel_rfl) rfl (opens_int Try.underlying2) (opensF_one rfl (by kernel_rfl) (opens_int Try.underlying2)))))
  refine mono_op h (fun r x hx => ?_)
  obtain ⟨l, _, y, t, _, ⟨_, h1⟩, y2, t2, _, ⟨_, h2⟩, y3, _, ⟨_, h3⟩⟩ := hx
  exact ⟨wf_I64 h1, wf_I64 h2, wf_I64 h3⟩
theorem slice_ints {H : Type} {l : List Int} {x : DataW H} (h : GSlice (GInt .i64) l x) : l.length ≤ maxLen ∧ ∀ n ∈ l, I64 n := by
  obtain ⟨h0, h⟩ := h
  refine ⟨h0, fun n hn => ?_⟩
  rcases h with ⟨rfl, _⟩ | ⟨ds, rest, _, hl, h⟩
  · cases hn
  · obtain ⟨i, hi, rfl⟩ := List.getElem_of_mem hn
    exact wf_I64 (h i _ _ (List.getElem?_eq_getElem hi) (List.getElem?_eq_getElem (by omega))).2
def entOk (v : S47) : Prop := (I64 v.f0 ∧ I64 v.f1 ∧ I64 v.f2 ∧ I64 v.f3 ∧ I64 v.f4) ∧ recOk v.f5 ∧ (v.f7.length ≤ maxLen ∧ ∀ x ∈ v.f7, I64 x) ∧ (v.f8.length ≤ maxLen ∧ ∀ x ∈ v.f8, I64 x)
theorem opens_Ent {H : Type} {enc : TypeId × Value → H} : Opens enc Try.prog k47 47 (fun v _ => entOk v) := by
  have h := opens_iso (enc := enc) (P := Try.prog) (fun x : S47 => (x.f0, x.f1, x.f2, x.f3, x.f4, x.f5, x.f6, x.f7, x.f8)) (fun a => (⟨a.1, a.2.1, a.2.2.1, a.2.2.2.1, a.2.2.2.2.1, a.2.2.2.2.2.1, a.2.2.2.2.2.2.1, a.2.2.2.2.2.2.2.1, a.2.2.2.2.2.2.2.2⟩ : S47)) (fun _ => rfl)
    (opens_struct (enc := enc) Try.underlying47 rfl (by kernel_rfl) (opensF_cons (off' := 1) rfl (by kernel_rfl) rfl (opens_int Try.underlying3) (opensF_cons (off' := 2) rfl (by kernel_rfl) rfl (opens_int Try.underlying3) (opensF_cons (off' := 3) rfl (by kernel_rfl) rfl (opens_int Try.underlying3) (opensF_cons (off' := 4) rfl (by kernel_rfl) rfl (opens_int Try.underlying3) (opensF_cons (off' := 5) rfl (by kernel_rfl) rfl (opens_int Try.underlying3) (opensF_cons (off' := 8) rfl (by kernel_rfl) rfl opens_R (opensF_cons (off' := 9) rfl (by kernel_rfl) rfl (opens_bool Try.underlying4)
      (opensF_cons (off' := 10) rfl (by kernel_rfl) rfl (opens_slice (e' := 3) Try.underlying39 (opens_int Try.underlying3) (by kernel_rfl))
      (opensF_one rfl (by kernel_rfl) (opens_slice (e' := 3) Try.underlying39 (opens_int Try.underlying3) (by kernel_rfl))))))))))))
  refine mono_op h (fun v x hx => ?_)
  obtain ⟨l, _, y, t, _, ⟨_, h1⟩, y2, t2, _, ⟨_, h2⟩, y3, t3, _, ⟨_, h3⟩, y4, t4, _, ⟨_, h4⟩, y5, t5, _, ⟨_, h5⟩, y6, t6, _, h6, y7, t7, _, h7, y8, t8, _, h8, y9, _, h9⟩ := hx
  exact ⟨⟨wf_I64 h1, wf_I64 h2, wf_I64 h3, wf_I64 h4, wf_I64 h5⟩, h6, slice_ints h8, slice_ints h9⟩
end Go.Proofs.Ytmnglonjekegcaa.Rc
namespace Go.Proofs.Ytmnglonjekegcaa.Vw
open Go Go.RowKit Go.Proofs.YtmnglonjekegcaaW.PrintWords Go.Proofs.Ytmnglonjekegcaa.Opn Go.Proofs.Ytmnglonjekegcaa.Rp Go.Proofs.Ytmnglonjekegcaa.Rc
set_option linter.unusedVariables false
set_option linter.unusedSimpArgs false
theorem opens_Es {H : Type} {enc : TypeId × Value → H} : Opens enc Try.prog (Kd.slice 47 k47) 22 (GSlice fun v (_ : DataW H) => entOk v) :=
  opens_slice Try.underlying22 opens_Ent (by kernel_rfl)
end Go.Proofs.Ytmnglonjekegcaa.Vw
namespace Go.Proofs.Ytmnglonjekegcaa.Vw
open Go Go.RowKit Go.Proofs.YtmnglonjekegcaaW.PrintWords Go.Proofs.Ytmnglonjekegcaa.Opn Go.Proofs.Ytmnglonjekegcaa.Rp Go.Proofs.Ytmnglonjekegcaa.Rc
theorem opens_Rs {H : Type} {enc : TypeId × Value → H} : Opens enc Try.prog (Kd.slice 45 k45) 33 (GSlice fun v (_ : DataW H) => recOk v) :=
  opens_slice Try.underlying33 opens_R (by kernel_rfl)
theorem wfv_u8 {n : Int} (h : (Lit.int .u8 n).wf = true) : 0 ≤ n ∧ n ≤ 255 := by
  simp [Lit.wf, IntKind.min, IntKind.max, IntKind.bits, IntKind.signed] at h
  omega
end Go.Proofs.Ytmnglonjekegcaa.Vw
