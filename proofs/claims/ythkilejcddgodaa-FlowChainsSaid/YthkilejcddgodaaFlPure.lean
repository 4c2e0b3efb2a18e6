/- Plain laws of flow: the document's answer. -/
import Derived.Test.YthkilejcddgodaaFlA
import Derived.Test.YthkilejcddgodaaExRef
import Derived.Test.YthkilejcddgodaaEx9
namespace Go.Proofs.Ythkilejcddgodaa.Ex
open Go Go.RowKit Go.Proofs.YthkilejcddgodaaW.PrintWords Go.Proofs.YthkilejcddgodaaW.PrintLast Go.Proofs.YthkilejcddgodaaW.PrintMore
set_option linter.unusedVariables false
set_option linter.unusedSimpArgs false
/-! ### the document's answer -/
theorem ref_l0 (kind n : Int) (l : List Int) (e : E) (n3 : Int) (r : Rc) (h4 : kind = 4) : ∀ (m i : Nat) (acc : List Rc), (i : Int) + m = (if 0 ≤ mn n 4 then mn n 4 else 0) ∨ (m = 0 ∧ mn n 4 ≤ i) → acc.length + m ≤ 100 → Ev (fun k => tidemillref17_Apply.l0 k n acc (i : Int) kind l e.f0 e.f1 e.f2 n3 r.f0 r.f1 r.f2) (acc ++ (List.range m).map (fun j => (⟨r.f0, wrap64 (r.f1 + ((i + j : Nat) : Int)), r.f2⟩ : Rc)), 0) := by
  intro m
  induction m with
  | zero =>
    intro i acc h hl
    refine Ev.step (f := fun _ => some (acc, 0)) (fun k => ?_) (by simpa using Ev.now (acc, (0 : Int)))
    simp only [tidemillref17_Apply.l0]
    unfold mn at h
    by_cases h1 : (i : Int) < n
    · rw [if_pos h1, if_neg (by split at h <;> split at h <;> omega)]
    · rw [if_neg h1]
  | succ m ih =>
    intro i acc h hl
    have h1 : (i : Int) < n ∧ (i : Int) < 4 := by
      unfold mn at h
      rcases h with h | h
      · split at h <;> split at h <;> omega
      · omega
    refine Ev.step (f := fun k => tidemillref17_Apply.l0 k n (acc ++ [(⟨r.f0, wrap64 (r.f1 + (i : Int)), r.f2⟩ : Rc)]) ((i + 1 : Nat) : Int) kind l e.f0 e.f1 e.f2 n3 r.f0 r.f1 r.f2) (fun k => ?_) ?_
    · simp only [tidemillref17_Apply.l0]
      rw [if_pos h1.1, if_pos h1.2, if_pos h4, if_pos (by omega), show wrap64 ((i : Int) + 1) = ((i + 1 : Nat) : Int) by unfold wrap64; omega]
    · have := ih (i + 1) (acc ++ [(⟨r.f0, wrap64 (r.f1 + (i : Int)), r.f2⟩ : Rc)]) (hst h) (by simp; omega)
      rw [fl_succ]
      simp only [List.append_assoc, List.singleton_append] at this
      exact this
theorem ref_l0' (kind n : Int) (l : List Int) (e : E) (n3 : Int) (r : Rc) (h4 : kind ≠ 4) (acc : List Rc) : Ev (fun k => tidemillref17_Apply.l0 k n acc 0 kind l e.f0 e.f1 e.f2 n3 r.f0 r.f1 r.f2) (acc, 0) := by
  refine Ev.step (f := fun _ => some (acc, 0)) (fun k => ?_) (Ev.now _)
  simp only [tidemillref17_Apply.l0, if_neg h4]
  split
  · split <;> rfl
  · rfl
theorem ref_j5 (kind n : Int) (l : List Int) (e : E) (n3 : Int) (r : Rc) : Ev (fun k => tidemillref17_Apply.j2 k n (if kind = 2 then [(⟨r.f0, n, r.f2⟩ : Rc)] else []) kind l e.f0 e.f1 e.f2 n3 r.f0 r.f1 r.f2) (if 2 ≤ kind ∧ kind ≤ 5 then (outOf kind n r, 0) else (if kind = 2 then [(⟨r.f0, n, r.f2⟩ : Rc)] else [], 0)) := by
  by_cases h : 2 ≤ kind ∧ kind ≤ 5
  · rw [if_pos h]
    obtain rfl | rfl | rfl | rfl : kind = 2 ∨ kind = 3 ∨ kind = 4 ∨ kind = 5 := by omega
    · refine Ev.step (f := fun k => tidemillref17_Apply.j3 k n [(⟨r.f0, n, r.f2⟩ : Rc)] 2 l e.f0 e.f1 e.f2 n3 r.f0 r.f1 r.f2) (fun k => by simp [tidemillref17_Apply.j2]) ?_
      refine Ev.step (f := fun k => tidemillref17_Apply.j4 k n [(⟨r.f0, n, r.f2⟩ : Rc)] false 2 l e.f0 e.f1 e.f2 n3 r.f0 r.f1 r.f2) (fun k => by simp [tidemillref17_Apply.j3]) ?_
      refine Ev.step (f := fun k => tidemillref17_Apply.j5 k n [(⟨r.f0, n, r.f2⟩ : Rc)] 2 l e.f0 e.f1 e.f2 n3 r.f0 r.f1 r.f2) (fun k => by simp [tidemillref17_Apply.j4]) ?_
      exact Ev.step (fun k => rfl) (ref_l0' 2 n l e n3 r (by decide) _)
    · by_cases h0 : n = 0
      · subst h0
        refine Ev.step (f := fun k => tidemillref17_Apply.j3 k 0 ([] : List Rc) 3 l e.f0 e.f1 e.f2 n3 r.f0 r.f1 r.f2) (fun k => by simp [tidemillref17_Apply.j2]) ?_
        refine Ev.step (f := fun k => tidemillref17_Apply.j4 k 0 ([] : List Rc) false 3 l e.f0 e.f1 e.f2 n3 r.f0 r.f1 r.f2) (fun k => by simp [tidemillref17_Apply.j3]) ?_
        refine Ev.step (f := fun k => tidemillref17_Apply.j5 k 0 ([] : List Rc) 3 l e.f0 e.f1 e.f2 n3 r.f0 r.f1 r.f2) (fun k => by simp [tidemillref17_Apply.j4]) ?_
        exact Ev.step (fun k => rfl) (ref_l0' 3 0 l e n3 r (by decide) _)
      · have hb : (n != 0) = true := by simpa using h0
        refine Ev.step (f := fun k => tidemillref17_Apply.j3 k n ([] : List Rc) 3 l e.f0 e.f1 e.f2 n3 r.f0 r.f1 r.f2) (fun k => by simp [tidemillref17_Apply.j2]) ?_
        refine Ev.step (f := fun k => tidemillref17_Apply.j4 k n ([] : List Rc) true 3 l e.f0 e.f1 e.f2 n3 r.f0 r.f1 r.f2) (fun k => by simp [tidemillref17_Apply.j3, hb]) ?_
        refine Ev.step (f := fun k => tidemillref17_Apply.j5 k n [r] 3 l e.f0 e.f1 e.f2 n3 r.f0 r.f1 r.f2) (fun k => by simp [tidemillref17_Apply.j4]) ?_
        have := Ev.step (g := fun k => tidemillref17_Apply.j5 k n [r] 3 l e.f0 e.f1 e.f2 n3 r.f0 r.f1 r.f2) (fun k => rfl) (ref_l0' 3 n l e n3 r (by decide) [r])
        simpa [outOf, h0] using this
    · refine Ev.step (f := fun k => tidemillref17_Apply.j3 k n ([] : List Rc) 4 l e.f0 e.f1 e.f2 n3 r.f0 r.f1 r.f2) (fun k => by simp [tidemillref17_Apply.j2]) ?_
      refine Ev.step (f := fun k => tidemillref17_Apply.j4 k n ([] : List Rc) false 4 l e.f0 e.f1 e.f2 n3 r.f0 r.f1 r.f2) (fun k => by simp [tidemillref17_Apply.j3]) ?_
      refine Ev.step (f := fun k => tidemillref17_Apply.j5 k n ([] : List Rc) 4 l e.f0 e.f1 e.f2 n3 r.f0 r.f1 r.f2) (fun k => by simp [tidemillref17_Apply.j4]) ?_
      refine Ev.step (f := fun k => tidemillref17_Apply.l0 k n ([] : List Rc) ((0 : Nat) : Int) 4 l e.f0 e.f1 e.f2 n3 r.f0 r.f1 r.f2) (fun k => rfl) ?_
      have := ref_l0 4 n l e n3 r rfl (mn n 4).toNat 0 [] (mn_start n) (by have := mn_le n; simp; omega)
      simpa [outOf, flatOf] using this
    · refine Ev.step (f := fun k => tidemillref17_Apply.j3 k n [(⟨n, r.f1, r.f2⟩ : Rc)] 5 l e.f0 e.f1 e.f2 n3 r.f0 r.f1 r.f2) (fun k => by simp [tidemillref17_Apply.j2]) ?_
      refine Ev.step (f := fun k => tidemillref17_Apply.j4 k n [(⟨n, r.f1, r.f2⟩ : Rc)] false 5 l e.f0 e.f1 e.f2 n3 r.f0 r.f1 r.f2) (fun k => by simp [tidemillref17_Apply.j3]) ?_
      refine Ev.step (f := fun k => tidemillref17_Apply.j5 k n [(⟨n, r.f1, r.f2⟩ : Rc)] 5 l e.f0 e.f1 e.f2 n3 r.f0 r.f1 r.f2) (fun k => by simp [tidemillref17_Apply.j4]) ?_
      exact Ev.step (fun k => rfl) (ref_l0' 5 n l e n3 r (by decide) _)
  · rw [if_neg h, if_neg (show ¬ kind = 2 by omega)]
    refine Ev.step (f := fun k => tidemillref17_Apply.j3 k n ([] : List Rc) kind l e.f0 e.f1 e.f2 n3 r.f0 r.f1 r.f2) (fun k => by simp only [tidemillref17_Apply.j2]; rw [if_neg (by omega)]) ?_
    refine Ev.step (f := fun k => tidemillref17_Apply.j4 k n ([] : List Rc) false kind l e.f0 e.f1 e.f2 n3 r.f0 r.f1 r.f2) (fun k => by simp only [tidemillref17_Apply.j3]; rw [if_neg (by omega)]) ?_
    refine Ev.step (f := fun k => tidemillref17_Apply.j5 k n ([] : List Rc) kind l e.f0 e.f1 e.f2 n3 r.f0 r.f1 r.f2) (fun k => by simp [tidemillref17_Apply.j4]) ?_
    exact Ev.step (fun k => rfl) (ref_l0' kind n l e n3 r (by omega) _)
theorem refApply_ev (kind : Int) (l : List Int) (e : E) (n3 : Int) (r : Rc) (hw : wfE e) (hr : I64 r.f0 ∧ I64 r.f1 ∧ I64 r.f2) : Ev (fun k => tidemillref17_Apply.f k kind l e.f0 e.f1 e.f2 n3 r.f0 r.f1 r.f2) (apOf kind e r) := by
  have hE := refEval_ev hr.1 hr.2.1 hr.2.2 (show I64 0 by unfold I64; omega) e hw
  have hj := fun n => ref_j5 kind n l e n3 r
  unfold tidemillref17_Apply.f
  by_cases h1 : kind = 1 ∨ kind = 10
  · have : Ev (fun k => tidemillref17_Apply.j0 k true kind l e.f0 e.f1 e.f2 n3 r.f0 r.f1 r.f2) (apOf kind e r) := by
      refine Ev.step (f := fun _ => some ([r], 0)) (fun k => by simp [tidemillref17_Apply.j0]) ?_
      unfold apOf; rw [if_pos h1]; exact Ev.now _
    by_cases h : kind = 1
    · simp only [if_pos h]; exact this
    · simp only [if_neg h]
      have e1 : (kind == 10) = true := by simp; omega
      rw [e1]; exact this
  · simp only [if_neg (show ¬ kind = 1 by omega)]
    have e1 : (kind == 10) = false := by simp; omega
    rw [e1]
    by_cases h : 2 ≤ kind ∧ kind ≤ 5
    · refine Ev.step (f := fun k => tidemillref17_Apply.j1 k false kind l e.f0 e.f1 e.f2 n3 r.f0 r.f1 r.f2) (fun k => ?_) ?_
      · simp only [tidemillref17_Apply.j0]
        rw [if_neg (by simp), if_neg (by omega), show decide (kind > 5) = false by simp; omega]
      refine Ev.step (f := fun k => (tidemillref04_Eval.f k e.f0 e.f1 e.f2 r.f0 r.f1 r.f2 0).bind fun bt209 => if bt209.2 = 0 then tidemillref17_Apply.j2 k bt209.1 (if kind = 2 then [(⟨r.f0, bt209.1, r.f2⟩ : Rc)] else []) kind l e.f0 e.f1 e.f2 n3 r.f0 r.f1 r.f2 else some ([], bt209.2)) (fun k => ?_) ?_
      · simp only [tidemillref17_Apply.j1]
        rw [if_neg (by simp)]
        congr 1
        funext bt
        split
        · split <;> rfl
        · rfl
      refine Ev.bind hE ?_
      unfold apOf
      rw [if_neg h1, if_pos h]
      by_cases hq : (evalOf e r.f0 r.f1 r.f2 0).2 = 0
      · simp only [if_pos hq]
        have := hj (evalOf e r.f0 r.f1 r.f2 0).1
        rwa [if_pos h] at this
      · simp only [if_neg hq]
        exact Ev.now _
    · refine Ev.step (f := fun k => tidemillref17_Apply.j1 k true kind l e.f0 e.f1 e.f2 n3 r.f0 r.f1 r.f2) (fun k => ?_) ?_
      · simp only [tidemillref17_Apply.j0]
        rw [if_neg (by simp)]
        by_cases h2 : kind < 2
        · rw [if_pos h2]
        · rw [if_neg h2, show decide (kind > 5) = true by simp; omega]
      · refine Ev.step (f := fun _ => some ([], 1)) (fun k => by simp [tidemillref17_Apply.j1]) ?_
        unfold apOf; rw [if_neg h1, if_neg h]; exact Ev.now _
end Go.Proofs.Ythkilejcddgodaa.Ex
