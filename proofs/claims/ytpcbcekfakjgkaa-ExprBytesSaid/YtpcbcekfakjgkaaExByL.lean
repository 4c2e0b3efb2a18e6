/- The statement ExprBytes. -/
import Derived.Test.YtpcbcekfakjgkaaExBy
import Derived.Test.YtpcbcekfakjgkaaExBkP
import Derived.Test.YtpcbcekfakjgkaaExRefB
import Derived.Test.YtpcbcekfakjgkaaExCnt2
import Derived.Test.YtpcbcekfakjgkaaExShown
import Derived.Test.YtpcbcekfakjgkaaOpE
import Derived.Test.YtpcbcekfakjgkaaEx4
import Derived.Test.YtpcbcekfakjgkaaEx8
namespace Go.Proofs.Ytpcbcekfakjgkaa.Ex
open Go Go.RowKit Go.Proofs.Ytpcbcekfakjgkaa.Pk Go.Proofs.YtpcbcekfakjgkaaW.PrintWords Go.Proofs.YtpcbcekfakjgkaaW.PrintLast Go.Proofs.YtpcbcekfakjgkaaW.PrintMore
set_option linter.unusedVariables false
set_option linter.unusedSimpArgs false
theorem refBytes_ev (e : E) (hw : wfE e) : Ev (fun k => tidemillref04_Bytes.f k e.f0 e.f1 e.f2) (if mayB e = true then (putD 16 e, 0) else ([], 1)) := by
  unfold tidemillref04_Bytes.f
  refine Ev.bind (refMay_ev e) ?_
  by_cases h : mayB e = true
  · rw [if_pos h, h]
    simp only [if_true]
    have h2 := mayB_iff e
    rw [h] at h2
    have h3 := Bool.and_eq_true_iff.1 h2.symm
    have := tidemillref04_put_ev 16 e h3.1 hw [] (by have := of_decide_eq_true h3.2; simp; omega)
    rw [List.nil_append] at this
    exact Ev.bind this (Ev.now _)
  · have h' : mayB e = false := by simpa using h
    rw [h']
    simp only [Bool.false_eq_true, if_false]
    exact Ev.now _
theorem zero_wf : wfE ⟨0, 0, []⟩ := wfE.mk 0 0 [] (by unfold I64; decide) (by unfold I64; decide) (by simp) (fun x hx => (List.not_mem_nil hx).elim)
/-- What was read reads as an expression, whatever it was. -/
theorem of_wf {xs : List Int} (hb : Byt xs) : wfE ⟨(ofE xs).1, (ofE xs).2.1, (ofE xs).2.2.1⟩ := by
  unfold ofE
  cases h : getE 16 xs 64 with
  | inl e => exact zero_wf
  | inr q =>
    obtain ⟨x, r, l1⟩ := q
    simp only
    split
    · exact zero_wf
    · have := (get_wf 16 xs 64 x r l1 hb h).1
      cases x
      exact this
theorem bytesLaw_ev (e : E) (b : List Int) (hw : wfE e) (hb : bytB b = true) : Ev (fun k => tidemilllaw04_ExprBytes.f k e.f0 e.f1 e.f2 b) true := by
  obtain ⟨s, hs⟩ := small2_ev e hw
  have h1 := bytes_ev e hw
  have h2 := refBytes_ev e hw
  have h3 := same_ev _ (of_wf (bytB_of hb).1)
  unfold tidemilllaw04_ExprBytes.f
  refine Ev.bind (g := fun _ => tidemilllaw04_shown.f) (a := true) (Ev.now _) ?_
  refine Ev.bind hs ?_
  cases s with
  | false => exact Ev.now _
  | true =>
    simp only [if_true]
    refine Ev.bind h1 (Ev.bind h2 ?_)
    refine Ev.bind (g := fun _ => expr_Of.f b) (a := ofE b) (by unfold expr_Of.f; rw [if_pos hb]; exact Ev.now _) ?_
    refine Ev.bind (g := fun _ => tidemillref04_Of.f b) (a := ofE b) (by unfold tidemillref04_Of.f; rw [if_pos hb]; exact Ev.now _) ?_
    refine Ev.bind h3 ?_
    simp only [if_true, beq_self_eq_true]
    exact Ev.now _
theorem bytesLaw_ok (e : E) (b : List Int) (A : Option Addr) (c : Nat) (A1 : Option Addr) (c1 : Nat) (w : World) (hC : Kd.C k27 w A e.f2.length e.f2) (hl : e.f2.length ≤ c) (hw : wfE e) (hr1 : Kd.C (Kd.int .u8) w A1 b.length b) (hc1 : b.length ≤ c1) (hb : b.length < 140737488355328) (hy : ∀ x ∈ b, 0 ≤ x ∧ x < 256) :
    Calls Try.prog 8 #[.agg #[.int .i64 e.f0, .int .i64 e.f1, .slice A e.f2.length c], .slice A1 b.length c1] w fun e w' => e = .returned (.bool true) ∧ Below w.heap.size w w' := by
  obtain ⟨k, hk⟩ := Ev.rounds (bytesLaw_ev e b hw (bytB_mk hy hb))
  exact tidemilllaw04_ExprBytes.calls k e.f0 e.f1 A c e.f2 A1 c1 b true w hC hl hr1 hc1 hk
theorem wfb_u8 {n : Int} (h : (Lit.int .u8 n).wf = true) : 0 ≤ n ∧ n < 256 := by
  simp [Lit.wf, IntKind.min, IntKind.max, IntKind.bits, IntKind.signed] at h
  omega
end Go.Proofs.Ytpcbcekfakjgkaa.Ex
