/- The statement FlowChains. -/
import Derived.Test.YthkilejcddgodaaFlFew
import Derived.Test.YthkilejcddgodaaFlChR2
import Derived.Test.YthkilejcddgodaaEx15
namespace Go.Proofs.Ythkilejcddgodaa.Ex
open Go Go.RowKit Go.Proofs.YthkilejcddgodaaW.PrintWords Go.Proofs.YthkilejcddgodaaW.PrintLast Go.Proofs.YthkilejcddgodaaW.PrintMore Go.Proofs.Ythkilejcddgodaa.Opn
set_option linter.unusedVariables false
set_option linter.unusedSimpArgs false
theorem refChain_ev {l : List Vx} {r : Rc} (h8 : l.length ≤ 8) (hw : ∀ v ∈ l, wfE v.f2) (hr : recOk r) : Ev (fun k => tidemillref17_Chain.f k l r.f0 r.f1 r.f2) (chainOf l r) := by
  obtain ⟨K, hK⟩ := chainAsk_ev h8 hw hr
  refine ⟨K, fun k hk => ?_⟩
  show tidemillref17_Chain.f k l r.f0 r.f1 r.f2 = some (chainOf l r)
  unfold tidemillref17_Chain.f
  rw [if_pos (hK k hk)]
theorem chains_pure (l : List Vx) (r : Rc) (hw : ∀ v ∈ l, wfE v.f2) (hr : recOk r) : ∃ k, tidemilllaw17_FlowChains.f k l r.f0 r.f1 r.f2 = some true := by
  refine Ev.rounds ?_
  obtain ⟨b, hb⟩ := few_ev l hw
  have h8 : (l.take 8).length ≤ 8 := List.length_take_le _ _
  unfold tidemilllaw17_FlowChains.f
  refine Ev.bind shown_ev ?_
  refine Ev.bind hb ?_
  cases b with
  | false => simp only [Bool.false_eq_true, if_false]; exact Ev.now _
  | true =>
    simp only [if_true]
    refine Ev.bind (chain_ev h8 r.f0 r.f1 r.f2) ?_
    refine Ev.bind (refChain_ev h8 (fun v hv => hw v (List.mem_of_mem_take hv)) hr) ?_
    refine Ev.bind (recs_same _ (Nat.le_trans (chain_len h8 r) (by decide))) ?_
    simp only [if_true, beq_self_eq_true]
    exact Ev.now _
theorem chains_ok (l : List Vx) (r : Rc) (A0 : Option Addr) (c0 : Nat) (w : World) (hr0 : Kd.C k27 w A0 l.length l) (hc0 : l.length ≤ c0) (hw : ∀ v ∈ l, wfE v.f2) (hr : recOk r) :
    Calls Try.prog 5 #[.slice A0 l.length c0, .agg #[.int .i64 r.f0, .int .i64 r.f1, .int .i64 r.f2]] w fun e_ w' => e_ = .returned (.bool true) ∧ Below w.heap.size w w' := by
  obtain ⟨k, hk⟩ := chains_pure l r hw hr
  exact tidemilllaw17_FlowChains.calls k A0 c0 l _ _ _ true w hr0 hc0 hk
end Go.Proofs.Ythkilejcddgodaa.Ex
