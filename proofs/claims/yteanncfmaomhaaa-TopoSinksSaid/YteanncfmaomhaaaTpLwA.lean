/- Plain laws of topologies: what a vertex has, by the document. -/
import Derived.Test.YteanncfmaomhaaaExRefM
import Derived.Test.YteanncfmaomhaaaEx6
namespace Go.Proofs.Yteanncfmaomhaaa.Ex
open Go Go.RowKit Go.Proofs.YteanncfmaomhaaaW.PrintWords Go.Proofs.YteanncfmaomhaaaW.PrintLast Go.Proofs.YteanncfmaomhaaaW.PrintMore
set_option linter.unusedVariables false
set_option linter.unusedSimpArgs false
theorem ev_const {α : Type} {g : Option α} {r : α} (h : g = some r) : Ev (fun _ => g) r := ⟨0, fun _ _ => h⟩
theorem two_le (x : Int) : (decide (0 ≤ x) && decide (x ≤ 0)) = (x == 0) := by
  by_cases h : x = 0
  · subst h; rfl
  · have : (x == 0) = false := by simpa using h
    rw [this]
    by_cases h1 : 0 ≤ x
    · rw [decide_eq_false (by omega : ¬ x ≤ 0), Bool.and_false]
    · rw [decide_eq_false h1, Bool.false_and]
theorem fm_one {k : Int} (h : k = 2 ∨ k = 3 ∨ k = 4 ∨ k = 5) : fmOf k = ⟨1, true, false, 0, 0, false⟩ := by rcases h with rfl | rfl | rfl | rfl <;> rfl
theorem fm_span {k : Int} (h : k = 7 ∨ k = 8) : fmOf k = ⟨1, true, true, 1, 1048576, false⟩ := by rcases h with rfl | rfl <;> rfl
theorem has_src (f1 : List Int) (c : Int) (z : Bool) (f3 : Int) : (if (f1.length : Int) = c then (if z = true then (if f3 ≥ 0 then (some (decide (f3 ≤ 7))) else (some false)) else (some false)) else (some false)) = some (((f1.length : Int) == c) && (z && (decide (0 ≤ f3) && decide (f3 ≤ 7)))) := by
  by_cases h1 : (f1.length : Int) = c
  · rw [if_pos h1, show ((f1.length : Int) == c) = true by simpa using h1, Bool.true_and]
    cases z with
    | false => rfl
    | true =>
      rw [if_pos rfl, Bool.true_and]
      by_cases h2 : f3 ≥ 0
      · rw [if_pos h2, decide_eq_true (show 0 ≤ f3 from h2), Bool.true_and]
      · rw [if_neg h2, decide_eq_false (show ¬ 0 ≤ f3 from h2), Bool.false_and]
  · rw [if_neg h1, show ((f1.length : Int) == c) = false by simpa using h1, Bool.false_and]
theorem has_agg (n c : Int) (m : Bool) (f3 : Int) : (if n = c then (if m = true then (some (f3 == 0)) else (some false)) else (some false)) = some ((n == c) && (m && (decide (0 ≤ f3) && decide (f3 ≤ 0)))) := by
  rw [two_le]
  by_cases h1 : n = c
  · rw [if_pos h1, show (n == c) = true by simpa using h1, Bool.true_and]
    cases m <;> rfl
  · rw [if_neg h1, show (n == c) = false by simpa using h1, Bool.false_and]
theorem has_span (n : Int) (m : Bool) (f3 : Int) : (if n = 1 then (if m = true then (if f3 ≥ 1 then (some (decide (f3 ≤ 1048576))) else (some false)) else (some false)) else (some false)) = some ((n == 1) && (m && (decide (1 ≤ f3) && decide (f3 ≤ 1048576)))) := by
  by_cases h1 : n = 1
  · rw [if_pos h1, show (n == 1) = true by simpa using h1, Bool.true_and]
    cases m with
    | false => rfl
    | true =>
      rw [if_pos rfl, Bool.true_and]
      by_cases h2 : f3 ≥ 1
      · rw [if_pos h2, decide_eq_true (show 1 ≤ f3 from h2), Bool.true_and]
      · rw [if_neg h2, decide_eq_false (show ¬ 1 ≤ f3 from h2), Bool.false_and]
  · rw [if_neg h1, show (n == 1) = false by simpa using h1, Bool.false_and]
/-- Behind the five kinds that stand alone. -/
theorem has_j1 (v : Vx) (x30 : Int) (m : Bool) (hm : mayB v.f2 = m) (hk : v.f0 = 2 ∨ v.f0 = 3 ∨ v.f0 = 4 ∨ v.f0 = 5) : Ev (fun k => tidemillref05_Has.j1 k m (v.f1.length : Int) x30 true v.f0 v.f1 v.f2.f0 v.f2.f1 v.f2.f2 v.f3) (hasB (fmOf v.f0) v) := by
  rw [fm_one hk]
  unfold hasB formB
  simp only [if_true]
  rw [hm, two_le, Bool.false_or]
  refine Ev.step (f := fun k => if (v.f1.length : Int) = 1 then (if m = true then (if v.f3 = 0 then ((tidemillref04_Uses.f k v.f2.f0 v.f2.f1 v.f2.f2 5).bind fun t180 => (some (!t180))) else (some false)) else (some false)) else (some false)) (fun k => by simp only [tidemillref05_Has.j1, if_true]) ?_
  by_cases h1 : (v.f1.length : Int) = 1
  · simp only [if_pos h1]
    rw [show ((v.f1.length : Int) == 1) = true by simpa using h1, Bool.true_and]
    cases m with
    | false => exact Ev.now _
    | true =>
      simp only [if_true]
      by_cases h3 : v.f3 = 0
      · simp only [if_pos h3]
        rw [show (v.f3 == 0) = true by simpa using h3, Bool.and_true, Bool.true_and]
        exact Ev.bind (refUsesB_ev 16 v.f2 (mayB_ok hm)) (Ev.now _)
      · simp only [if_neg h3]
        rw [show (v.f3 == 0) = false by simpa using h3, Bool.and_false]
        exact Ev.now _
  · simp only [if_neg h1]
    rw [show ((v.f1.length : Int) == 1) = false by simpa using h1, Bool.false_and]
    exact Ev.now _
theorem has_j0 (v : Vx) (hk : 1 ≤ v.f0 ∧ v.f0 ≤ 10) (z : Bool) (hz : zeroB v.f2 = z) : Ev (fun k => tidemillref05_Has.j0 k z v.f0 v.f1 v.f2.f0 v.f2.f1 v.f2.f2 v.f3) (hasB (fmOf v.f0) v) := by
  refine Ev.step (fun k => by simp only [tidemillref05_Has.j0]; rfl) ?_
  refine Ev.bind (refMay_ev v.f2) ?_
  obtain ⟨m, hm⟩ : ∃ m, mayB v.f2 = m := ⟨_, rfl⟩
  rw [hm]
  by_cases h1 : v.f0 = 1
  · simp only [if_pos h1]
    refine ev_const ?_
    rw [has_src, h1, show fmOf 1 = ⟨0, false, false, 0, 7, true⟩ from rfl]
    unfold hasB formB
    rw [if_neg (by decide), hz]
  simp only [if_neg h1]
  by_cases h10 : v.f0 = 10
  · simp only [if_pos h10]
    refine ev_const ?_
    rw [has_src, h10, show fmOf 10 = ⟨1, false, false, 0, 7, true⟩ from rfl]
    unfold hasB formB
    rw [if_neg (by decide), hz]
  simp only [if_neg h10]
  by_cases h2 : v.f0 = 2
  · simp only [if_pos h2]
    rw [show (v.f0 == 2) = true by simpa using h2]
    exact has_j1 v _ m hm (.inl h2)
  simp only [if_neg h2]
  by_cases h3 : v.f0 = 3
  · simp only [if_pos h3]
    rw [show (v.f0 == 3) = true by simpa using h3]
    exact has_j1 v _ m hm (.inr (.inl h3))
  simp only [if_neg h3]
  by_cases h4 : v.f0 = 4
  · simp only [if_pos h4]
    rw [show (v.f0 == 4) = true by simpa using h4]
    exact has_j1 v _ m hm (.inr (.inr (.inl h4)))
  simp only [if_neg h4]
  by_cases h5 : v.f0 = 5
  · rw [show (v.f0 == 5) = true by simpa using h5]
    exact has_j1 v _ m hm (.inr (.inr (.inr h5)))
  rw [show (v.f0 == 5) = false by simpa using h5]
  refine Ev.step (fun k => by simp only [tidemillref05_Has.j1, Bool.false_eq_true, if_false]; rfl) ?_
  by_cases h6 : v.f0 = 6
  · simp only [if_pos h6]
    refine ev_const ?_
    rw [has_agg, h6, show fmOf 6 = ⟨1, true, true, 0, 0, false⟩ from rfl]
    unfold hasB formB
    rw [if_pos rfl, hm, Bool.true_or, Bool.and_true]
  simp only [if_neg h6]
  by_cases h9 : v.f0 = 9
  · simp only [if_pos h9]
    refine ev_const ?_
    rw [has_agg, h9, show fmOf 9 = ⟨2, true, true, 0, 0, false⟩ from rfl]
    unfold hasB formB
    rw [if_pos rfl, hm, Bool.true_or, Bool.and_true]
  simp only [if_neg h9]
  refine ev_const ?_
  rw [has_span, fm_span (by omega)]
  unfold hasB formB
  rw [if_pos rfl, hm, Bool.true_or, Bool.and_true]
theorem refHas_ev (v : Vx) (hk : 1 ≤ v.f0 ∧ v.f0 ≤ 10) : Ev (fun k => tidemillref05_Has.f k v.f0 v.f1 v.f2.f0 v.f2.f1 v.f2.f2 v.f3) (hasB (fmOf v.f0) v) := by
  unfold tidemillref05_Has.f
  by_cases h0 : v.f2.f0 = 0
  · by_cases h1 : v.f2.f1 = 0
    · simp only [if_pos h0, if_pos h1]
      exact has_j0 v hk _ (by unfold zeroB; rw [show (v.f2.f0 == 0) = true by simpa using h0, show (v.f2.f1 == 0) = true by simpa using h1]; rfl)
    · simp only [if_pos h0, if_neg h1]
      exact has_j0 v hk _ (by unfold zeroB; rw [show (v.f2.f1 == 0) = false by simpa using h1, Bool.false_and, Bool.and_false])
  · simp only [if_neg h0]
    exact has_j0 v hk _ (by unfold zeroB; rw [show (v.f2.f0 == 0) = false by simpa using h0, Bool.false_and])
end Go.Proofs.Yteanncfmaomhaaa.Ex
