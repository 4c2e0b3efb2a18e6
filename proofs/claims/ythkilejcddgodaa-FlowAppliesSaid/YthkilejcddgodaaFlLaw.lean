/- The statement FlowApplies. -/
import Derived.Test.YthkilejcddgodaaFlPure
import Derived.Test.YthkilejcddgodaaOpV
import Derived.Test.YthkilejcddgodaaEx10
namespace Go.Proofs.Ythkilejcddgodaa.Ex
open Go Go.RowKit Go.Proofs.YthkilejcddgodaaW.PrintWords Go.Proofs.YthkilejcddgodaaW.PrintLast Go.Proofs.YthkilejcddgodaaW.PrintMore Go.Proofs.Ythkilejcddgodaa.Opn
set_option linter.unusedVariables false
set_option linter.unusedSimpArgs false
theorem applies_pure (v : Vx) (r : Rc) (hw : wfE v.f2) (hr : recOk r) : ∃ k, tidemilllaw17_FlowApplies.f k v.f0 v.f1 v.f2.f0 v.f2.f1 v.f2.f2 v.f3 r.f0 r.f1 r.f2 = some true := by
  refine Ev.rounds ?_
  obtain ⟨c, hc⟩ := count_any v.f2 hw
  unfold tidemilllaw17_FlowApplies.f
  refine Ev.bind shown_ev ?_
  refine Ev.bind hc ?_
  by_cases h : c > 3000
  · simp only [if_pos h]; exact Ev.now _
  · simp only [if_neg h]
    refine Ev.bind (apply_ev v.f0 v.f1 v.f2 v.f3 r) ?_
    refine Ev.bind (refApply_ev v.f0 v.f1 v.f2 v.f3 r hw hr) ?_
    simp only [if_true]
    refine Ev.bind (recs_same _ (by have := apOf_len v.f0 v.f2 r; omega)) ?_
    simp only [if_true, beq_self_eq_true]
    exact Ev.now _
theorem applies_ok (v : Vx) (r : Rc) (A1 : Option Addr) (c1 : Nat) (A4 : Option Addr) (c4 : Nat) (w : World) (l1 : v.f1.length ≤ c1) (r1 : Kd.C (Kd.int .i64) w A1 v.f1.length v.f1) (l4 : v.f2.f2.length ≤ c4) (r4 : Kd.C k25 w A4 v.f2.f2.length v.f2.f2) (hw : vxOk v) (hr : recOk r) :
    Calls Try.prog 3 #[.agg #[.int .i64 v.f0, .slice A1 v.f1.length c1, .int .i64 v.f2.f0, .int .i64 v.f2.f1, .slice A4 v.f2.f2.length c4, .int .i64 v.f3], .agg #[.int .i64 r.f0, .int .i64 r.f1, .int .i64 r.f2]] w fun e_ w' => e_ = .returned (.bool true) ∧ Below w.heap.size w w' := by
  obtain ⟨k, hk⟩ := applies_pure v r hw.2.2.1 hr
  exact tidemilllaw17_FlowApplies.calls k _ A1 c1 _ _ _ A4 c4 _ _ _ _ _ true w r1 l1 r4 l4 hk
end Go.Proofs.Ythkilejcddgodaa.Ex
