/- Plain laws of expressions: each has a count. -/
import Derived.Test.YtpcbcekfakjgkaaExEval
import Derived.Test.YtpcbcekfakjgkaaEx4
namespace Go.Proofs.Ytpcbcekfakjgkaa.Ex
open Go Go.RowKit Go.Proofs.YtpcbcekfakjgkaaW.PrintWords Go.Proofs.YtpcbcekfakjgkaaW.PrintLast Go.Proofs.YtpcbcekfakjgkaaW.PrintMore
set_option linter.unusedVariables false
set_option linter.unusedSimpArgs false
/-! ### how many -/
theorem count_l0 (l : List E) (x0 x1 : Int) (hl : l.length ≤ 9223372036854775807) (g : E → Int) (hf : ∀ x ∈ l, Ev (fun k => tidemillref04_Count.f k x.f0 x.f1 x.f2) (g x)) :
    ∀ (r i : Nat) (n : Int), i + r = l.length → Ev (fun k => tidemillref04_Count.l0 k n (i : Int) x0 x1 l) ((l.drop i).foldl (fun n x => wrap64 (n + g x)) n) := by
  intro r
  induction r with
  | zero =>
    intro i n hi
    rw [List.drop_of_length_le (by omega)]
    refine Ev.step (f := fun _ => some n) (fun k => ?_) (Ev.now _)
    simp only [tidemillref04_Count.l0]
    rw [if_neg (by omega)]
  | succ r ih =>
    intro i n hi
    have hlt : i < l.length := by omega
    rw [drop_rd hlt]
    refine Ev.step (f := fun k => (tidemillref04_Count.f k (rd_T27 l (i : Int)).f0 (rd_T27 l (i : Int)).f1 (rd_T27 l (i : Int)).f2).bind fun t => tidemillref04_Count.l0 k (wrap64 (n + t)) ((i + 1 : Nat) : Int) x0 x1 l) (fun k => ?_) ?_
    · simp only [tidemillref04_Count.l0]
      rw [if_pos (by omega), if_pos (by omega), wsucc (by omega)]
    · exact Ev.bind (hf _ (rd_mem hlt)) (ih (i + 1) _ (by omega))
theorem count_ev (e : E) (hl : e.f2.length ≤ 9223372036854775807) (g : E → Int) (hf : ∀ x ∈ e.f2, Ev (fun k => tidemillref04_Count.f k x.f0 x.f1 x.f2) (g x)) : Ev (fun k => tidemillref04_Count.f k e.f0 e.f1 e.f2) (e.f2.foldl (fun n x => wrap64 (n + g x)) 1) := by
  refine Ev.step (f := fun k => tidemillref04_Count.l0 k 1 ((0 : Nat) : Int) e.f0 e.f1 e.f2) (fun k => by simp only [tidemillref04_Count.f]; rfl) ?_
  have := count_l0 e.f2 e.f0 e.f1 hl g hf e.f2.length 0 1 (by omega)
  rwa [List.drop_zero] at this
theorem count_any : ∀ e, wfE e → ∃ c, Ev (fun k => tidemillref04_Count.f k e.f0 e.f1 e.f2) c := by
  refine E_ind (fun e ih hw => ?_)
  have h := hw.out
  have hc : ∀ x, ∃ c : Int, x ∈ e.f2 → Ev (fun k => tidemillref04_Count.f k x.f0 x.f1 x.f2) c := fun x => by
    by_cases hx : x ∈ e.f2
    · obtain ⟨c, hc⟩ := ih x hx (h.2.2.2 x hx)
      exact ⟨c, fun _ => hc⟩
    · exact ⟨0, fun hx' => absurd hx' hx⟩
  exact ⟨_, count_ev e h.2.2.1 (fun x => Classical.choose (hc x)) (fun x hx => Classical.choose_spec (hc x) hx)⟩
end Go.Proofs.Ytpcbcekfakjgkaa.Ex
