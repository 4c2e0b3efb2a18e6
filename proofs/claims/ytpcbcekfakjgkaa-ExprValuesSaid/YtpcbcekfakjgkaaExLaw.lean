/- The statement ExprValues. -/
import Derived.Test.YtpcbcekfakjgkaaExCom
import Derived.Test.YtpcbcekfakjgkaaEx9
namespace Go.Proofs.Ytpcbcekfakjgkaa.Ex
open Go Go.RowKit Go.Proofs.YtpcbcekfakjgkaaW.PrintWords Go.Proofs.YtpcbcekfakjgkaaW.PrintLast Go.Proofs.YtpcbcekfakjgkaaW.PrintMore Go.Proofs.Ytpcbcekfakjgkaa.Opn
set_option linter.unusedVariables false
set_option linter.unusedSimpArgs false
theorem values_pure (e : E) (r : Rec) (ac op : Int) (hw : wfE e) (hr : recOk r) (ha : I64 ac) : ∃ k, tidemilllaw04_ExprValues.f k e.f0 e.f1 e.f2 r.f0 r.f1 r.f2 ac op = some true := by
  refine Ev.rounds ?_
  obtain ⟨b, hb⟩ := small_ev e hw
  obtain ⟨u, hu1, hu2⟩ := uses_any op e hw
  have h1 := refEval_ev hr.1 hr.2.1 hr.2.2 ha e hw
  have h2 := May_ev e
  have h3 := refMay_ev e
  obtain ⟨o, n, l⟩ := e
  unfold tidemilllaw04_ExprValues.f
  refine Ev.bind (g := fun _ => tidemilllaw04_shown.f) (a := true) (Ev.now _) ?_
  refine Ev.bind hb ?_
  cases b with
  | false => exact Ev.now _
  | true =>
    simp only [if_true]
    refine Ev.bind (g := fun _ => expr_Eval.f o n l r.f0 r.f1 r.f2 ac) (a := evalOf ⟨o, n, l⟩ r.f0 r.f1 r.f2 ac) (Ev.now _) ?_
    refine Ev.bind h1 ?_
    simp only [if_true]
    refine Ev.bind h2 ?_
    refine Ev.bind h3 ?_
    simp only [beq_self_eq_true, if_true]
    refine Ev.bind hu1 ?_
    refine Ev.bind hu2 ?_
    simp only [beq_self_eq_true]
    exact Ev.now _
theorem values_ok (e : E) (r : Rec) (ac op : Int) (A : Option Addr) (c : Nat) (w : World) (hC : Kd.C k27 w A e.f2.length e.f2) (hl : e.f2.length ≤ c) (hw : wfE e) (hr : recOk r) (ha : I64 ac) :
    Calls Try.prog 6 #[.agg #[.int .i64 e.f0, .int .i64 e.f1, .slice A e.f2.length c], .agg #[.int .i64 r.f0, .int .i64 r.f1, .int .i64 r.f2], .int .i64 ac, .int .i64 op] w fun e_ w' => e_ = .returned (.bool true) ∧ Below w.heap.size w w' := by
  obtain ⟨k, hk⟩ := values_pure e r ac op hw hr ha
  exact tidemilllaw04_ExprValues.calls k e.f0 e.f1 A c e.f2 r.f0 r.f1 r.f2 ac op true w hC hl hk
end Go.Proofs.Ytpcbcekfakjgkaa.Ex
