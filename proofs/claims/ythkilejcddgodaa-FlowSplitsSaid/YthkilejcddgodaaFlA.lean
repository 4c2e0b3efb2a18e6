/- Plain laws of flow: what a vertex makes of a record. -/
import Derived.Test.YthkilejcddgodaaExEval
import Derived.Test.YthkilejcddgodaaEx3
import Derived.Test.YthkilejcddgodaaEx4
namespace Go.Proofs.Ythkilejcddgodaa.Ex
open Go Go.RowKit Go.Proofs.YthkilejcddgodaaW.PrintWords Go.Proofs.YthkilejcddgodaaW.PrintLast Go.Proofs.YthkilejcddgodaaW.PrintMore
set_option linter.unusedVariables false
set_option linter.unusedSimpArgs false
abbrev Rc := S29
abbrev Vx := S27
def flatOf (n : Int) (r : Rc) : List Rc := (List.range (mn n 4).toNat).map fun (j : Nat) => (⟨r.f0, wrap64 (r.f1 + (j : Int)), r.f2⟩ : Rc)
def outOf (kind n : Int) (r : Rc) : List Rc :=
  if kind = 2 then [⟨r.f0, n, r.f2⟩] else if kind = 5 then [⟨n, r.f1, r.f2⟩] else if kind = 3 then (if n = 0 then [] else [r]) else flatOf n r
/-- What a vertex makes of a record, or the error. -/
def apOf (kind : Int) (e : E) (r : Rc) : List Rc × Int :=
  if kind = 1 ∨ kind = 10 then ([r], 0)
  else if 2 ≤ kind ∧ kind ≤ 5 then (if (evalOf e r.f0 r.f1 r.f2 0).2 = 0 then (outOf kind (evalOf e r.f0 r.f1 r.f2 0).1 r, 0) else ([], (evalOf e r.f0 r.f1 r.f2 0).2))
  else ([], 1)
theorem mn_le (n : Int) : (mn n 4).toNat ≤ 4 := by unfold mn; split <;> omega
theorem flat_len (n : Int) (r : Rc) : (flatOf n r).length ≤ 4 := by
  unfold flatOf
  rw [List.length_map, List.length_range]
  exact mn_le n
theorem range_map_succ {α : Type} (f : Nat → α) (m : Nat) : (List.range (m + 1)).map f = f 0 :: (List.range m).map (fun j => f (j + 1)) := by
  rw [List.range_succ_eq_map, List.map_cons, List.map_map]
  rfl
theorem fl_succ (ky vl tm : Int) (i m : Nat) : (List.range (m + 1)).map (fun (j : Nat) => (⟨ky, wrap64 (vl + ((i + j : Nat) : Int)), tm⟩ : Rc)) = (⟨ky, wrap64 (vl + (i : Int)), tm⟩ : Rc) :: (List.range m).map (fun (j : Nat) => (⟨ky, wrap64 (vl + ((i + 1 + j : Nat) : Int)), tm⟩ : Rc)) := by
  rw [range_map_succ]
  congr 1
  refine List.map_congr_left (fun j _ => ?_)
  rw [show i + (j + 1) = i + 1 + j by omega]
theorem hst {c : Int} {i m : Nat} (h : (i : Int) + (m + 1 : Nat) = (if 0 ≤ c then c else 0) ∨ (m + 1 = 0 ∧ c ≤ i)) : ((i + 1 : Nat) : Int) + m = (if 0 ≤ c then c else 0) ∨ (m = 0 ∧ c ≤ ((i + 1 : Nat) : Int)) := by
  rcases h with h | h
  · left
    rw [← h]
    omega
  · omega
theorem mn_start (n : Int) : ((0 : Nat) : Int) + ((mn n 4).toNat : Nat) = (if 0 ≤ mn n 4 then mn n 4 else 0) ∨ ((mn n 4).toNat = 0 ∧ mn n 4 ≤ ((0 : Nat) : Int)) := by
  by_cases h : 0 ≤ mn n 4
  · left; rw [if_pos h]; omega
  · right; omega
theorem ap_l0 (ky vl tm c : Int) (hc : c ≤ 4) : ∀ (m i : Nat) (acc : List Rc), (i : Int) + m = (if 0 ≤ c then c else 0) ∨ (m = 0 ∧ c ≤ i) → acc.length + m ≤ 100 → Ev (fun k => flow_Apply.l0 k acc c (i : Int) ky vl tm) (acc ++ (List.range m).map (fun j => (⟨ky, wrap64 (vl + ((i + j : Nat) : Int)), tm⟩ : Rc)), 0) := by
  intro m
  induction m with
  | zero =>
    intro i acc h hl
    refine Ev.step (f := fun _ => some (acc, 0)) (fun k => ?_) (by simpa using Ev.now (acc, (0 : Int)))
    simp only [flow_Apply.l0]
    rw [if_neg (by split at h <;> omega)]
  | succ m ih =>
    intro i acc h hl
    have h1 : (i : Int) < c := by
      rcases h with h | h
      · split at h <;> omega
      · omega
    refine Ev.step (f := fun k => flow_Apply.l0 k (acc ++ [(⟨ky, wrap64 (vl + (i : Int)), tm⟩ : Rc)]) c ((i + 1 : Nat) : Int) ky vl tm) (fun k => ?_) ?_
    · simp only [flow_Apply.l0]
      rw [if_pos h1, if_pos (by omega), show wrap64 ((i : Int) + 1) = ((i + 1 : Nat) : Int) by unfold wrap64; omega]
    · have := ih (i + 1) (acc ++ [(⟨ky, wrap64 (vl + (i : Int)), tm⟩ : Rc)]) (hst h) (by simp; omega)
      rw [fl_succ]
      simp only [List.append_assoc, List.singleton_append] at this
      exact this
theorem flat_ev (n : Int) (r : Rc) : Ev (fun k => flow_Apply.l0 k ([] : List Rc) (mn n 4) 0 r.f0 r.f1 r.f2) (flatOf n r, 0) := by
  have h4 : mn n 4 ≤ 4 := by unfold mn; split <;> omega
  have := ap_l0 r.f0 r.f1 r.f2 (mn n 4) h4 (mn n 4).toNat 0 [] (mn_start n) (by have := mn_le n; simp; omega)
  simpa [flatOf] using this
theorem ap_j1 (kind : Int) (l : List Int) (e : E) (n3 : Int) (r : Rc) (h : 2 ≤ kind ∧ kind ≤ 5) : Ev (fun k => flow_Apply.j1 k kind l e.f0 e.f1 e.f2 n3 r.f0 r.f1 r.f2) (apOf kind e r) := by
  have h1 : ¬ (kind = 1 ∨ kind = 10) := by omega
  have hf := fun n => flat_ev n r
  obtain ⟨o, n, l4⟩ := e
  refine Ev.step (f := fun k => (expr_Eval.f o n l4 r.f0 r.f1 r.f2 0).bind fun bt130 => (if bt130.2 = 0 then (if kind = 2 then (some ((([(⟨r.f0, bt130.1, r.f2⟩ : Rc)] : List Rc), 0))) else (if kind = 5 then (some ((([(⟨bt130.1, r.f1, r.f2⟩ : Rc)] : List Rc), 0))) else (if kind = 3 then (if bt130.1 = 0 then (some (([] : List Rc), 0)) else (some ((([(⟨r.f0, r.f1, r.f2⟩ : Rc)] : List Rc), 0)))) else (flow_Apply.l0 k ([] : List Rc) (mn bt130.1 4) 0 r.f0 r.f1 r.f2)))) else (some (([] : List Rc), bt130.2)))) (fun k => by simp only [flow_Apply.j1]) ?_
  refine Ev.bind (g := fun _ => expr_Eval.f o n l4 r.f0 r.f1 r.f2 0) (a := evalOf ⟨o, n, l4⟩ r.f0 r.f1 r.f2 0) (Ev.now _) ?_
  unfold apOf
  rw [if_neg h1, if_pos h]
  generalize evalOf ⟨o, n, l4⟩ r.f0 r.f1 r.f2 0 = q
  by_cases hq : q.2 = 0
  · simp only [if_pos hq, outOf]
    by_cases h2 : kind = 2
    · simp only [if_pos h2]; exact Ev.now _
    simp only [if_neg h2]
    by_cases h5 : kind = 5
    · simp only [if_pos h5]; exact Ev.now _
    simp only [if_neg h5]
    by_cases h3 : kind = 3
    · simp only [if_pos h3]
      by_cases h0 : q.1 = 0
      · simp only [if_pos h0]; exact Ev.now _
      · simp only [if_neg h0]; exact Ev.now _
    · simp only [if_neg h3]
      exact hf q.1
  · simp only [if_neg hq]
    exact Ev.now _
theorem apply_ev (kind : Int) (l : List Int) (e : E) (n3 : Int) (r : Rc) : Ev (fun k => flow_Apply.f k kind l e.f0 e.f1 e.f2 n3 r.f0 r.f1 r.f2) (apOf kind e r) := by
  have hj := ap_j1 kind l e n3 r
  unfold flow_Apply.f
  by_cases h1 : kind = 1
  · simp only [if_pos h1]
    have e1 : (kind == 1) = true := by simpa using h1
    refine Ev.step (f := fun _ => some ([r], 0)) (fun k => ?_) ?_
    · simp only [flow_Apply.j0, e1, if_true]
    · unfold apOf; rw [if_pos (.inl h1)]; exact Ev.now _
  simp only [if_neg h1]
  by_cases h10 : kind = 10
  · have e1 : (kind == 10) = true := by simpa using h10
    refine Ev.step (f := fun _ => some ([r], 0)) (fun k => ?_) ?_
    · simp only [flow_Apply.j0, e1, if_true]
    · unfold apOf; rw [if_pos (.inr h10)]; exact Ev.now _
  have e1 : (kind == 10) = false := by simpa using h10
  by_cases h : 2 ≤ kind ∧ kind ≤ 5
  · refine Ev.step (f := fun k => flow_Apply.j1 k kind l e.f0 e.f1 e.f2 n3 r.f0 r.f1 r.f2) (fun k => ?_) (hj h)
    simp only [flow_Apply.j0, e1]
    obtain rfl | rfl | rfl | rfl : kind = 2 ∨ kind = 3 ∨ kind = 4 ∨ kind = 5 := by omega
    all_goals simp
  · refine Ev.step (f := fun _ => some (([] : List Rc), 1)) (fun k => ?_) ?_
    · simp only [flow_Apply.j0, e1]
      simp only [Bool.false_eq_true, if_false]
      rw [if_neg (by omega), if_neg (by omega), if_neg (by omega), if_neg (by omega)]
    · unfold apOf; rw [if_neg (by omega), if_neg h]; exact Ev.now _
/-! ### lists of records -/
theorem rcd_rd {l : List Rc} {i : Nat} (hi : i < l.length) : rd_T29 l (i : Int) = l[i] := by
  unfold rd_T29
  rw [Int.toNat_natCast, List.getD_eq_getElem?_getD, List.getElem?_eq_getElem hi]
  rfl
theorem recs_l0 (a : List Rc) (hl : a.length ≤ 9223372036854775806) : ∀ (r i : Nat), i + r = a.length → Ev (fun k => tidemillref11_Recs.l0 k a a (i : Int)) true := by
  intro r
  induction r with
  | zero =>
    intro i hi
    refine Ev.step (f := fun _ => some true) (fun k => ?_) (Ev.now _)
    simp only [tidemillref11_Recs.l0]
    rw [if_neg (by omega)]
  | succ r ih =>
    intro i hi
    refine Ev.step (f := fun k => tidemillref11_Recs.l0 k a a ((i + 1 : Nat) : Int)) (fun k => ?_) (ih (i + 1) (by omega))
    simp only [tidemillref11_Recs.l0]
    rw [if_pos (by omega), if_pos (by omega), if_pos (by omega), show wrap64 ((i : Int) + 1) = ((i + 1 : Nat) : Int) by unfold wrap64; omega]
    simp
theorem recs_same (a : List Rc) (hl : a.length ≤ 9223372036854775806) : Ev (fun k => tidemillref11_Recs.f k a a) true := by
  unfold tidemillref11_Recs.f
  simp only [if_true]
  exact recs_l0 a hl a.length 0 (by omega)
theorem apOf_len (kind : Int) (e : E) (r : Rc) : (apOf kind e r).1.length ≤ 4 := by
  unfold apOf outOf
  repeat' split
  all_goals first | exact flat_len _ _ | simp
theorem shown_ev : Ev (fun k => tidemilllaw17_shown.f k) true := by
  unfold tidemilllaw17_shown.f
  refine Ev.bind (g := fun _ => tidemilllaw17_con.f 2) (a := (1, 2, [])) (Ev.now _) ?_
  have h1 := apply_ev 4 [] ⟨1, 2, []⟩ 0 ⟨0, 5, 0⟩
  have h2 := apply_ev 2 [] ⟨9, 0, [⟨1, 1, []⟩, ⟨3, 0, []⟩]⟩ 0 ⟨0, 0, 0⟩
  have e1 : evalOf (⟨1, 2, []⟩ : E) 0 5 0 0 = (2, 0) := by decide +kernel
  have e2 : evalOf (⟨9, 0, [⟨1, 1, []⟩, ⟨3, 0, []⟩]⟩ : E) 0 0 0 0 = (0, 10) := by decide +kernel
  have a1 : apOf 4 (⟨1, 2, []⟩ : E) ⟨0, 5, 0⟩ = ([⟨0, 5, 0⟩, ⟨0, 6, 0⟩], 0) := by
    unfold apOf
    simp only [e1]
    rw [if_neg (by decide), if_pos (by decide)]
    first | rfl | (rw [if_pos trivial]; rfl) | (simp; done) | (simp [outOf, flatOf, mn, List.range, List.range.loop, wrap64])
  have a2 : apOf 2 (⟨9, 0, [⟨1, 1, []⟩, ⟨3, 0, []⟩]⟩ : E) ⟨0, 0, 0⟩ = ([], 10) := by
    unfold apOf
    simp only [e2]
    rw [if_neg (by decide), if_pos (by decide)]
    first | rfl | (rw [if_pos trivial]; rfl) | (simp; done) | (simp [outOf, flatOf, mn, List.range, List.range.loop, wrap64])
  rw [a1] at h1
  rw [a2] at h2
  refine Ev.bind h1 ?_
  refine Ev.bind (g := fun _ => tidemilllaw17_con.f 1) (a := (1, 1, [])) (Ev.now _) ?_
  refine Ev.bind h2 ?_
  simp only [if_true]
  refine Ev.bind (recs_same [⟨0, 5, 0⟩, ⟨0, 6, 0⟩] (by simp)) ?_
  exact Ev.now _
end Go.Proofs.Ythkilejcddgodaa.Ex
