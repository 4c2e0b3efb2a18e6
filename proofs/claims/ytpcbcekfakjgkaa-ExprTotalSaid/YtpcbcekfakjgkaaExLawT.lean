/- The statement ExprTotal. -/
import Derived.Test.YtpcbcekfakjgkaaExCom
import Derived.Test.YtpcbcekfakjgkaaEx10
namespace Go.Proofs.Ytpcbcekfakjgkaa.Ex
open Go Go.RowKit Go.Proofs.YtpcbcekfakjgkaaW.PrintWords Go.Proofs.YtpcbcekfakjgkaaW.PrintLast Go.Proofs.YtpcbcekfakjgkaaW.PrintMore Go.Proofs.Ytpcbcekfakjgkaa.Opn
set_option linter.unusedVariables false
set_option linter.unusedSimpArgs false
def usesD : Nat → Int → E → Bool
  | 0, _, _ => false
  | d + 1, op, e => (e.f0 == op) || e.f2.any (usesD d op)
theorem uses_ok (op : Int) : ∀ d e, okB d e = true → Ev (fun k => expr_Uses.f k e.f0 e.f1 e.f2 op) (usesD d op e) := by
  intro d
  induction d with
  | zero => intro e h; simp [okB] at h
  | succ d ih =>
    intro e h
    have hs := okB_succ h
    have hk := kidsOf_le e.f0
    unfold usesD
    by_cases h1 : e.f0 = op
    · refine Ev.step (f := fun _ => some true) (fun k => by simp only [expr_Uses.f]; rw [if_pos h1]) ?_
      have : (e.f0 == op) = true := by simpa using h1
      rw [this, Bool.true_or]
      exact Ev.now _
    · refine Ev.step (f := fun k => expr_Uses.l0 k op e.f2 (e.f2.length : Int) ((0 : Nat) : Int)) (fun k => by simp only [expr_Uses.f]; rw [if_neg h1]; rfl) ?_
      have : (e.f0 == op) = false := by simpa using h1
      rw [this, Bool.false_or]
      have := uses_l0 op e.f2 (by omega) (usesD d op) (fun x hx => ih x (hs.2 x hx)) e.f2.length 0 (by omega)
      rwa [List.drop_zero] at this
theorem twoOf_none {op a b : Int} (h : twoOf op a b = none) (ho : 6 ≤ op ∧ op ≤ 16 ∧ op ≠ 13 ∧ op ≠ 14) : op = 9 ∨ op = 10 := by
  unfold twoOf at h
  repeat' split at h
  all_goals first | (cases h; done) | omega
theorem none_uses {ky vl tm ac : Int} : ∀ d e, fits d e → valOf d ky vl tm ac e = none → usesD d 9 e = true ∨ usesD d 10 e = true := by
  intro d
  induction d with
  | zero => intro e h; exact h.elim
  | succ d ih =>
    intro e hf h
    have hk := fun i hi => kid_fits hf (i := i) hi
    have up : ∀ i, i < e.f2.length → (usesD d 9 (kid e i) = true ∨ usesD d 10 (kid e i) = true) → (usesD (d + 1) 9 e = true ∨ usesD (d + 1) 10 e = true) := by
      intro i hi hx
      have hm : kid e i ∈ e.f2 := by
        unfold kid
        rw [List.getD_eq_getElem?_getD, List.getElem?_eq_getElem hi]
        exact List.getElem_mem _
      unfold usesD
      rcases hx with hx | hx
      · exact .inl (by rw [Bool.or_eq_true, List.any_eq_true]; exact .inr ⟨_, hm, hx⟩)
      · exact .inr (by rw [Bool.or_eq_true, List.any_eq_true]; exact .inr ⟨_, hm, hx⟩)
    unfold valOf at h
    by_cases e1 : e.f0 = 1
    · rw [if_pos e1] at h; cases h
    rw [if_neg e1] at h
    by_cases e2 : e.f0 = 2
    · rw [if_pos e2] at h; cases h
    rw [if_neg e2] at h
    by_cases e3 : e.f0 = 3
    · rw [if_pos e3] at h; cases h
    rw [if_neg e3] at h
    by_cases e4 : e.f0 = 4
    · rw [if_pos e4] at h; cases h
    rw [if_neg e4] at h
    by_cases e5 : e.f0 = 5
    · rw [if_pos e5] at h; cases h
    rw [if_neg e5] at h
    have hlen : 0 < e.f2.length := by
      have h6 : 1 ≤ kidsOf e.f0 := by
        unfold kidsOf
        rw [if_neg (by have := hf.1; omega)]
        split
        · omega
        split <;> omega
      have := hf.2.1
      omega
    by_cases e14 : e.f0 = 14
    · rw [if_pos e14] at h
      cases h0 : valOf d ky vl tm ac (kid e 0) with
      | none => exact up 0 hlen (ih _ (hk 0 hlen) h0)
      | some a => rw [h0] at h; cases h
    rw [if_neg e14] at h
    by_cases e13 : e.f0 = 13
    · rw [if_pos e13] at h
      have hl : (e.f2.length : Int) = 3 := by rw [hf.2.1, e13]; rfl
      cases h0 : valOf d ky vl tm ac (kid e 0) with
      | none => exact up 0 hlen (ih _ (hk 0 hlen) h0)
      | some a =>
        rw [h0] at h
        simp only [Option.bind_some] at h
        split at h
        · exact up 2 (by omega) (ih _ (hk 2 (by omega)) h)
        · exact up 1 (by omega) (ih _ (hk 1 (by omega)) h)
    rw [if_neg e13] at h
    have hl : (e.f2.length : Int) = 2 := by rw [hf.2.1]; unfold kidsOf; rw [if_neg (by have := hf.1; omega), if_neg e13, if_neg e14]
    cases h0 : valOf d ky vl tm ac (kid e 0) with
    | none => exact up 0 hlen (ih _ (hk 0 hlen) h0)
    | some a =>
      cases h1 : valOf d ky vl tm ac (kid e 1) with
      | none => exact up 1 (by omega) (ih _ (hk 1 (by omega)) h1)
      | some b =>
        rw [h0, h1] at h
        simp only [Option.bind_some] at h
        rcases twoOf_none h ⟨by have := hf.1; omega, by have := hf.1; omega, e13, e14⟩ with h9 | h9
        · exact .inl (by unfold usesD; simp [h9])
        · exact .inr (by unfold usesD; simp [h9])
theorem total_pure (e : E) (r : Rec) (ac : Int) (hw : wfE e) : ∃ k, tidemilllaw04_ExprTotal.f k e.f0 e.f1 e.f2 r.f0 r.f1 r.f2 ac = some true := by
  refine Ev.rounds ?_
  obtain ⟨b, hb⟩ := small_ev e hw
  have h2 := May_ev e
  have hu := fun op h => uses_ok op 16 e h
  have hn := fun h => none_uses (ky := r.f0) (vl := r.f1) (tm := r.f2) (ac := ac) 16 e h
  have hout : Ev (fun k => tidemilllaw04_ExprTotal.j0 k ac true true e.f0 e.f1 e.f2 r.f0 r.f1 r.f2) true := Ev.step (f := fun _ => some true) (fun k => by simp [tidemilllaw04_ExprTotal.j0]) (Ev.now _)
  obtain ⟨o, n, l⟩ := e
  unfold tidemilllaw04_ExprTotal.f
  refine Ev.bind (g := fun _ => tidemilllaw04_shown.f) (a := true) (Ev.now _) ?_
  refine Ev.bind hb ?_
  cases b with
  | false => simpa using hout
  | true =>
    simp only [if_true]
    refine Ev.bind h2 ?_
    cases hm : mayB ⟨o, n, l⟩ with
    | false => simpa using hout
    | true =>
      have hok := mayB_ok hm
      have hu9 := hu 9 hok
      have hu10 := hu 10 hok
      have hn := hn (okB_fits _ _ hok)
      simp only [Bool.not_true]
      refine Ev.step (f := fun k => (expr_Eval.f o n l r.f0 r.f1 r.f2 ac).bind fun bt339 => ((expr_Uses.f k o n l 9).bind fun t341 => (if t341 = true then (if bt339.2 = 0 then (some true) else (if bt339.2 = 10 then (some (bt339.1 == 0)) else (some false))) else ((expr_Uses.f k o n l 10).bind fun t342 => (if bt339.2 = 0 then (some true) else (if bt339.2 = 10 then (if t342 = true then (some (bt339.1 == 0)) else (some false)) else (some false))))))) (fun k => by simp [tidemilllaw04_ExprTotal.j0]) ?_
      refine Ev.bind (g := fun _ => expr_Eval.f o n l r.f0 r.f1 r.f2 ac) (a := evalOf ⟨o, n, l⟩ r.f0 r.f1 r.f2 ac) (Ev.now _) ?_
      have he : evalOf ⟨o, n, l⟩ r.f0 r.f1 r.f2 ac = res (valOf 16 r.f0 r.f1 r.f2 ac ⟨o, n, l⟩) := by
        unfold evalOf
        rw [if_pos hm]
        cases valOf 16 r.f0 r.f1 r.f2 ac ⟨o, n, l⟩ <;> rfl
      rw [he]
      refine Ev.bind hu9 ?_
      cases hv : valOf 16 r.f0 r.f1 r.f2 ac ⟨o, n, l⟩ with
      | some m =>
        simp only [res, if_true]
        cases usesD 16 9 ⟨o, n, l⟩ with
        | true => exact Ev.now _
        | false => 
          simp only [Bool.false_eq_true, if_false]
          refine Ev.bind hu10 ?_
          exact Ev.now _
      | none =>
        simp only [res]
        cases h9 : usesD 16 9 ⟨o, n, l⟩ with
        | true => exact Ev.now _
        | false =>
          simp only [Bool.false_eq_true, if_false]
          refine Ev.bind hu10 ?_
          rcases hn hv with h | h
          · rw [h] at h9; cases h9
          · rw [h]
            exact Ev.now _
theorem total_ok (e : E) (r : Rec) (ac : Int) (A : Option Addr) (c : Nat) (w : World) (hC : Kd.C k27 w A e.f2.length e.f2) (hl : e.f2.length ≤ c) (hw : wfE e) :
    Calls Try.prog 7 #[.agg #[.int .i64 e.f0, .int .i64 e.f1, .slice A e.f2.length c], .agg #[.int .i64 r.f0, .int .i64 r.f1, .int .i64 r.f2], .int .i64 ac] w fun e_ w' => e_ = .returned (.bool true) ∧ Below w.heap.size w w' := by
  obtain ⟨k, hk⟩ := total_pure e r ac hw
  exact tidemilllaw04_ExprTotal.calls k e.f0 e.f1 A c e.f2 r.f0 r.f1 r.f2 ac true w hC hl hk
end Go.Proofs.Ytpcbcekfakjgkaa.Ex
