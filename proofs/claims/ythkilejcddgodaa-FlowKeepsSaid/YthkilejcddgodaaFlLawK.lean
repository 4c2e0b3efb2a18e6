/- The statement FlowKeeps. -/
import Derived.Test.YthkilejcddgodaaFlA
import Derived.Test.YthkilejcddgodaaExCnt
import Derived.Test.YthkilejcddgodaaOpV
import Derived.Test.YthkilejcddgodaaEx11
namespace Go.Proofs.Ythkilejcddgodaa.Ex
open Go Go.RowKit Go.Proofs.YthkilejcddgodaaW.PrintWords Go.Proofs.YthkilejcddgodaaW.PrintLast Go.Proofs.YthkilejcddgodaaW.PrintMore Go.Proofs.Ythkilejcddgodaa.Opn
set_option linter.unusedVariables false
set_option linter.unusedSimpArgs false
/-- What is asked of the i-th one. -/
def KeepAt (kind : Int) (r x : Rc) (i : Nat) : Prop := x.f2 = r.f2 ∧ (kind ≠ 5 → x.f0 = r.f0) ∧ (kind ≠ 2 → kind ≠ 4 → x.f1 = r.f1) ∧ (kind = 4 → x.f1 = wrap64 (r.f1 + (i : Int)))
theorem keeps_all (kind : Int) (e : E) (r : Rc) (h0 : (apOf kind e r).2 = 0) (hr : I64 r.f1) : ∀ (i : Nat) (h : i < (apOf kind e r).1.length), KeepAt kind r ((apOf kind e r).1[i]) i := by
  have hwr : wrap64 (r.f1 + ((0 : Nat) : Int)) = r.f1 := by unfold I64 at hr; unfold wrap64; omega
  have one : ∀ (x : Rc), KeepAt kind r x 0 → ∀ (i : Nat) (h : i < [x].length), KeepAt kind r ([x][i]) i := by
    intro x hx i h
    have : i = 0 := by simp at h; omega
    subst this
    exact hx
  unfold apOf at h0 ⊢
  by_cases h1 : kind = 1 ∨ kind = 10
  · simp only [if_pos h1]
    exact one r ⟨rfl, fun _ => rfl, fun _ _ => rfl, fun h => by omega⟩
  · simp only [if_neg h1] at h0 ⊢
    by_cases h : 2 ≤ kind ∧ kind ≤ 5
    · simp only [if_pos h] at h0 ⊢
      by_cases hq : (evalOf e r.f0 r.f1 r.f2 0).2 = 0
      · simp only [if_pos hq, outOf] at h0 ⊢
        by_cases h2 : kind = 2
        · simp only [if_pos h2]
          exact one _ ⟨rfl, fun _ => rfl, fun h => absurd h2 h, fun h => by omega⟩
        simp only [if_neg h2]
        by_cases h5 : kind = 5
        · simp only [if_pos h5]
          exact one _ ⟨rfl, fun h => absurd h5 h, fun _ _ => rfl, fun h => by omega⟩
        simp only [if_neg h5]
        by_cases h3 : kind = 3
        · simp only [if_pos h3]
          by_cases hn : (evalOf e r.f0 r.f1 r.f2 0).1 = 0
          · simp only [if_pos hn]
            intro i h
            simp at h
          · simp only [if_neg hn]
            exact one r ⟨rfl, fun _ => rfl, fun _ _ => rfl, fun h => by omega⟩
        · simp only [if_neg h3]
          intro i hi
          simp only [flatOf, List.getElem_map, List.getElem_range]
          exact ⟨rfl, fun _ => rfl, fun _ h4 => absurd (by omega) h4, fun _ => rfl⟩
      · simp only [if_neg hq] at h0 ⊢
        intro i h
        simp at h
    · simp only [if_neg h] at h0 ⊢
      intro i h
      simp at h
theorem keeps_l0 (kind : Int) (l : List Int) (e : E) (n3 : Int) (r : Rc) (out : List Rc) (hl : out.length ≤ 4) (hk : ∀ (i : Nat) (h : i < out.length), KeepAt kind r out[i] i)
    (h1 : (kind = 1 ∨ kind = 2 ∨ kind = 5 ∨ kind = 10) → out.length = 1) (h3 : kind = 3 → out.length ≤ 1) :
    ∀ (m i : Nat), i + m = out.length → Ev (fun k => tidemilllaw17_FlowKeeps.l0 k true out (i : Int) kind l e.f0 e.f1 e.f2 n3 r.f0 r.f1 r.f2) true := by
  intro m
  induction m with
  | zero =>
    intro i hi
    refine Ev.step (f := fun _ => some true) (fun k => ?_) (Ev.now _)
    simp only [tidemilllaw17_FlowKeeps.l0]
    rw [if_neg (by omega)]
    have e4 : decide ((out.length : Int) ≤ 4) = true := by simp; omega
    simp only [e4, if_true]
    by_cases k2 : kind = 2
    · have := h1 (by omega)
      simp [k2, this]
    simp only [if_neg k2]
    by_cases k5 : kind = 5
    · have := h1 (by omega)
      simp [k5, this]
    simp only [if_neg k5]
    by_cases k1 : kind = 1
    · have := h1 (by omega)
      simp [k1, this]
    simp only [if_neg k1]
    by_cases k10 : kind = 10
    · have := h1 (by omega)
      simp [k10, this]
    simp only [if_neg k10]
    by_cases k3 : kind = 3
    · have := h3 k3
      rw [if_pos k3, if_pos (by omega)]
    · rw [if_neg k3]
  | succ m ih =>
    intro i hi
    have hlt : i < out.length := by omega
    have hx := hk i hlt
    rw [← rcd_rd hlt] at hx
    refine Ev.step (f := fun k => tidemilllaw17_FlowKeeps.l0 k true out ((i + 1 : Nat) : Int) kind l e.f0 e.f1 e.f2 n3 r.f0 r.f1 r.f2) (fun k => ?_) (ih (i + 1) (by omega))
    obtain ⟨x1, x2, x3, x4⟩ := hx
    have hw : wrap64 ((i : Int) + 1) = ((i + 1 : Nat) : Int) := by unfold wrap64; omega
    simp only [tidemilllaw17_FlowKeeps.l0]
    rw [if_pos (by omega), if_pos (by omega), if_pos x1, hw]
    by_cases k5 : kind = 5
    · rw [if_pos k5, if_neg (by omega), if_neg (by omega), if_pos (x3 (by omega) (by omega))]
    · rw [if_neg k5, if_pos (x2 k5)]
      by_cases k2 : kind = 2
      · rw [if_pos k2, if_neg (by omega)]
      · rw [if_neg k2]
        by_cases k4 : kind = 4
        · rw [if_pos k4, if_pos (x4 k4)]
        · rw [if_neg k4, if_pos (x3 k2 k4)]
theorem ap_one (kind : Int) (e : E) (r : Rc) (h0 : (apOf kind e r).2 = 0) (hk : kind = 1 ∨ kind = 2 ∨ kind = 5 ∨ kind = 10) : (apOf kind e r).1.length = 1 := by
  unfold apOf at h0 ⊢
  by_cases h1 : kind = 1 ∨ kind = 10
  · rw [if_pos h1]; rfl
  · rw [if_neg h1, if_pos (by omega)] at h0 ⊢
    by_cases hq : (evalOf e r.f0 r.f1 r.f2 0).2 = 0
    · rw [if_pos hq]
      unfold outOf
      by_cases h2 : kind = 2
      · rw [if_pos h2]; rfl
      · rw [if_neg h2, if_pos (by omega)]; rfl
    · rw [if_neg hq] at h0
      exact absurd h0 hq
theorem ap_filter (kind : Int) (e : E) (r : Rc) (hk : kind = 3) : (apOf kind e r).1.length ≤ 1 := by
  subst hk
  unfold apOf outOf
  rw [if_neg (by decide), if_pos (by decide)]
  simp only [show ¬ (3 : Int) = 2 by decide, show ¬ (3 : Int) = 5 by decide, if_false, if_true]
  split
  · split <;> simp
  · simp
theorem ap_bad (kind : Int) (e : E) (r : Rc) (h0 : (apOf kind e r).2 ≠ 0) : (apOf kind e r).1 = [] := by
  unfold apOf at h0 ⊢
  by_cases h1 : kind = 1 ∨ kind = 10
  · rw [if_pos h1] at h0; exact absurd rfl h0
  · rw [if_neg h1] at h0 ⊢
    by_cases h : 2 ≤ kind ∧ kind ≤ 5
    · rw [if_pos h] at h0 ⊢
      by_cases hq : (evalOf e r.f0 r.f1 r.f2 0).2 = 0
      · rw [if_pos hq] at h0; exact absurd rfl h0
      · rw [if_neg hq]
    · rw [if_neg h]
theorem keeps_pure (v : Vx) (r : Rc) (hw : wfE v.f2) (hr : recOk r) : ∃ k, tidemilllaw17_FlowKeeps.f k v.f0 v.f1 v.f2.f0 v.f2.f1 v.f2.f2 v.f3 r.f0 r.f1 r.f2 = some true := by
  refine Ev.rounds ?_
  obtain ⟨c, hc⟩ := count_any v.f2 hw
  unfold tidemilllaw17_FlowKeeps.f
  refine Ev.bind shown_ev ?_
  refine Ev.bind hc ?_
  by_cases h : c > 3000
  · simp only [if_pos h]; exact Ev.now _
  · simp only [if_neg h]
    refine Ev.bind (apply_ev v.f0 v.f1 v.f2 v.f3 r) ?_
    by_cases h0 : (apOf v.f0 v.f2 r).2 = 0
    · simp only [if_pos h0]
      exact keeps_l0 v.f0 v.f1 v.f2 v.f3 r _ (apOf_len v.f0 v.f2 r) (keeps_all v.f0 v.f2 r h0 hr.2.1) (ap_one v.f0 v.f2 r h0) (ap_filter v.f0 v.f2 r) (apOf v.f0 v.f2 r).1.length 0 (by simp)
    · simp only [if_neg h0, if_true]
      rw [ap_bad v.f0 v.f2 r h0]
      exact Ev.now _
theorem keeps_ok (v : Vx) (r : Rc) (A1 : Option Addr) (c1 : Nat) (A4 : Option Addr) (c4 : Nat) (w : World) (l1 : v.f1.length ≤ c1) (r1 : Kd.C (Kd.int .i64) w A1 v.f1.length v.f1) (l4 : v.f2.f2.length ≤ c4) (r4 : Kd.C k25 w A4 v.f2.f2.length v.f2.f2) (hw : vxOk v) (hr : recOk r) :
    Calls Try.prog 4 #[.agg #[.int .i64 v.f0, .slice A1 v.f1.length c1, .int .i64 v.f2.f0, .int .i64 v.f2.f1, .slice A4 v.f2.f2.length c4, .int .i64 v.f3], .agg #[.int .i64 r.f0, .int .i64 r.f1, .int .i64 r.f2]] w fun e_ w' => e_ = .returned (.bool true) ∧ Below w.heap.size w w' := by
  obtain ⟨k, hk⟩ := keeps_pure v r hw.2.2.1 hr
  exact tidemilllaw17_FlowKeeps.calls k _ A1 c1 _ _ _ A4 c4 _ _ _ _ _ true w r1 l1 r4 l4 hk
end Go.Proofs.Ythkilejcddgodaa.Ex
