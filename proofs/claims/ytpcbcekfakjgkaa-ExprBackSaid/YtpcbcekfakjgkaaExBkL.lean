/- The statement ExprBack. -/
import Derived.Test.YtpcbcekfakjgkaaExBy
import Derived.Test.YtpcbcekfakjgkaaExBkP
import Derived.Test.YtpcbcekfakjgkaaExRefB
import Derived.Test.YtpcbcekfakjgkaaExCnt2
import Derived.Test.YtpcbcekfakjgkaaExShown
import Derived.Test.YtpcbcekfakjgkaaOpE
import Derived.Test.YtpcbcekfakjgkaaEx4
import Derived.Test.YtpcbcekfakjgkaaEx9
namespace Go.Proofs.Ytpcbcekfakjgkaa.Ex
open Go Go.RowKit Go.Proofs.Ytpcbcekfakjgkaa.Pk Go.Proofs.YtpcbcekfakjgkaaW.PrintWords Go.Proofs.YtpcbcekfakjgkaaW.PrintLast Go.Proofs.YtpcbcekfakjgkaaW.PrintMore
set_option linter.unusedVariables false
set_option linter.unusedSimpArgs false
theorem zero_wf2 : wfE ⟨0, 0, []⟩ := wfE.mk 0 0 [] (by unfold I64; decide) (by unfold I64; decide) (by simp) (fun x hx => (List.not_mem_nil hx).elim)
/-- What is read of bytes is none, with an error that is none's, or it is an expression that may be, whose bytes these are. -/
theorem of_cases {xs : List Int} (hb : Byt xs) : (∃ x : E, wfE x ∧ (ofE xs).1 = x.f0 ∧ (ofE xs).2.1 = x.f1 ∧ (ofE xs).2.2.1 = x.f2 ∧ (((ofE xs).2.2.2 ≠ 0) ∨ ((ofE xs).2.2.2 = 0 ∧ mayB x = true ∧ putD 16 x = xs))) := by
  unfold ofE
  cases h : getE 16 xs 64 with
  | inl e => exact ⟨⟨0, 0, []⟩, zero_wf2, rfl, rfl, rfl, .inl (get_nz 16 xs 64 e h)⟩
  | inr q =>
    obtain ⟨x, r, l1⟩ := q
    simp only
    have hw := (get_wf 16 xs 64 x r l1 hb h).1
    have hi := get_is 16 xs 64 x r l1 hb h
    split
    · refine ⟨⟨0, 0, []⟩, zero_wf2, rfl, rfl, rfl, .inl ?_⟩
      simp
    · rename_i hr
      have hr' : r = [] := by
        cases r with
        | nil => rfl
        | cons y t => exact absurd (by simp) hr
      subst hr'
      refine ⟨x, hw, rfl, rfl, rfl, .inr ⟨rfl, ?_, ?_⟩⟩
      · rw [mayB_iff, hi.1, Bool.true_and]
        exact decide_eq_true (by omega)
      · have := hi.2.1
        rw [List.append_nil] at this
        exact this.symm
theorem j0_ev (b : List Int) (hb : bytB b = true) : Ev (fun k => tidemilllaw04_ExprBack.j0 k b true false) true := by
  obtain ⟨x, hw, e1, e2, e3, hc⟩ := of_cases (bytB_of hb).1
  have h1 := bytes_ev x hw
  have h2 := May_ev x
  refine Ev.step (f := fun k => (expr_Of.f b).bind fun o => (expr_Bytes.f k o.1 o.2.1 o.2.2.1).bind fun q => (if o.2.2.2 = 0 then (if q.2 = 0 then ((expr_May.f k o.1 o.2.1 o.2.2.1).bind fun t => (if t = true then (some ((strOfNums q.1).toList == (strOfNums b).toList)) else (some false))) else (some false)) else (some true))) (fun k => by simp only [tidemilllaw04_ExprBack.j0, Bool.false_eq_true, if_false, if_true]) ?_
  refine Ev.bind (g := fun _ => expr_Of.f b) (a := ofE b) (by unfold expr_Of.f; rw [if_pos hb]; exact Ev.now _) ?_
  rw [e1, e2, e3]
  refine Ev.bind h1 ?_
  rcases hc with hc | ⟨hc, hm, hp⟩
  · simp only [if_neg hc]
    exact Ev.now _
  · rw [hm] at h2
    simp only [if_pos hc, if_pos hm, if_true]
    refine Ev.bind h2 ?_
    simp only [hp, beq_self_eq_true, if_true]
    exact Ev.now _
theorem back_ev (e : E) (b : List Int) (hw : wfE e) (hb : bytB b = true) : Ev (fun k => tidemilllaw04_ExprBack.f k e.f0 e.f1 e.f2 b) true := by
  obtain ⟨s, hs⟩ := small2_ev e hw
  have h1 := bytes_ev e hw
  have h2 := May_ev e
  have h3 := same_ev e hw
  have hj := j0_ev b hb
  unfold tidemilllaw04_ExprBack.f
  refine Ev.bind (g := fun _ => tidemilllaw04_shown.f) (a := true) (Ev.now _) ?_
  refine Ev.bind hs ?_
  cases s with
  | false => exact Ev.now _
  | true =>
    simp only [if_true]
    refine Ev.bind h1 ?_
    by_cases h : mayB e = true
    · simp only [if_pos h]
      have hm := mayB_iff e
      rw [h] at hm
      have hm2 := Bool.and_eq_true_iff.1 hm.symm
      have hc := of_decide_eq_true hm2.2
      have hop := (okB_succ hm2.1).1.1
      have hbb : bytB (putD 16 e) = true := bytB_mk (putD_byt 16 e) (by have := putD_len 16 e hw hop hm2.1; omega)
      have hg : ofE (putD 16 e) = (e.f0, e.f1, e.f2, 0) := by
        have := get_back 16 e hm2.1 hw [] 64 hc
        rw [List.append_nil] at this
        unfold ofE
        rw [this]
        simp
      refine Ev.bind (g := fun _ => expr_Of.f (putD 16 e)) (a := ofE (putD 16 e)) (by unfold expr_Of.f; rw [if_pos hbb]; exact Ev.now _) ?_
      rw [hg]
      simp only [if_true]
      refine Ev.bind h3 ?_
      simp only [if_true]
      exact hj
    · have h' : mayB e = false := by simpa using h
      rw [h'] at h2
      simp only [h', Bool.false_eq_true, if_false]
      have hb0 : bytB ([] : List Int) = true := by decide
      refine Ev.bind (g := fun _ => expr_Of.f []) (a := ofE []) (by unfold expr_Of.f; rw [if_pos hb0]; exact Ev.now _) ?_
      simp only [show ((1 : Int) = 0) = False by simp, if_false]
      exact Ev.bind h2 hj
theorem backLaw_ok (e : E) (b : List Int) (A : Option Addr) (c : Nat) (A1 : Option Addr) (c1 : Nat) (w : World) (hC : Kd.C k27 w A e.f2.length e.f2) (hl : e.f2.length ≤ c) (hw : wfE e) (hr1 : Kd.C (Kd.int .u8) w A1 b.length b) (hc1 : b.length ≤ c1) (hb : b.length < 140737488355328) (hy : ∀ x ∈ b, 0 ≤ x ∧ x < 256) :
    Calls Try.prog 9 #[.agg #[.int .i64 e.f0, .int .i64 e.f1, .slice A e.f2.length c], .slice A1 b.length c1] w fun e w' => e = .returned (.bool true) ∧ Below w.heap.size w w' := by
  obtain ⟨k, hk⟩ := Ev.rounds (back_ev e b hw (bytB_mk hy hb))
  exact tidemilllaw04_ExprBack.calls k e.f0 e.f1 A c e.f2 A1 c1 b true w hC hl hr1 hc1 hk
theorem wfb2_u8 {n : Int} (h : (Lit.int .u8 n).wf = true) : 0 ≤ n ∧ n < 256 := by
  simp [Lit.wf, IntKind.min, IntKind.max, IntKind.bits, IntKind.signed] at h
  omega
end Go.Proofs.Ytpcbcekfakjgkaa.Ex
