/- (c04) Plain laws of expressions: whether one may be, by the document. -/
import Derived.Test.YtpcbcekfakjgkaaExMay
import Derived.Test.YtpcbcekfakjgkaaEx4
import Derived.Test.YtpcbcekfakjgkaaEx6
namespace Go.Proofs.Ytpcbcekfakjgkaa.Ex
open Go Go.RowKit Go.Proofs.YtpcbcekfakjgkaaW.PrintWords Go.Proofs.YtpcbcekfakjgkaaW.PrintLast Go.Proofs.YtpcbcekfakjgkaaW.PrintMore
set_option linter.unusedVariables false
set_option linter.unusedSimpArgs false
/-! ### how many -/
theorem count_l0 (l : List E) (x0 x1 : Int) (hl : l.length ≤ 9223372036854775807) (g : E → Int) (hf : ∀ x ∈ l, Ev (fun k => tidemillref04_Count.f k x.f0 x.f1 x.f2) (g x)) :
    ∀ (r i : Nat) (n : Int), i + r = l.length → Ev (fun k => tidemillref04_Count.l0 k n (i : Int) x0 x1 l) ((l.drop i).foldl (fun n x => wrap64 (n + g x)) n) := by
  intro r
  induction r with
  | zero =>
    intro i n hi
    rw [List.drop_of_length_le (by omega)]
    refine Ev.step (f := fun _ => some n) (fun k => ?_) (Ev.now _)
    simp only [tidemillref04_Count.l0]
    rw [if_neg (by omega)]
  | succ r ih =>
    intro i n hi
    have hlt : i < l.length := by omega
    rw [drop_rd hlt]
    refine Ev.step (f := fun k => (tidemillref04_Count.f k (rd_T27 l (i : Int)).f0 (rd_T27 l (i : Int)).f1 (rd_T27 l (i : Int)).f2).bind fun t => tidemillref04_Count.l0 k (wrap64 (n + t)) ((i + 1 : Nat) : Int) x0 x1 l) (fun k => ?_) ?_
    · simp only [tidemillref04_Count.l0]
      rw [if_pos (by omega), if_pos (by omega), wsucc (by omega)]
    · exact Ev.bind (hf _ (rd_mem hlt)) (ih (i + 1) _ (by omega))
theorem count_ev (e : E) (hl : e.f2.length ≤ 9223372036854775807) (g : E → Int) (hf : ∀ x ∈ e.f2, Ev (fun k => tidemillref04_Count.f k x.f0 x.f1 x.f2) (g x)) : Ev (fun k => tidemillref04_Count.f k e.f0 e.f1 e.f2) (e.f2.foldl (fun n x => wrap64 (n + g x)) 1) := by
  refine Ev.step (f := fun k => tidemillref04_Count.l0 k 1 ((0 : Nat) : Int) e.f0 e.f1 e.f2) (fun k => by simp only [tidemillref04_Count.f]; rfl) ?_
  have := count_l0 e.f2 e.f0 e.f1 hl g hf e.f2.length 0 1 (by omega)
  rwa [List.drop_zero] at this
theorem count_any : ∀ e, wfE e → ∃ c, Ev (fun k => tidemillref04_Count.f k e.f0 e.f1 e.f2) c := by
  refine E_ind (fun e ih hw => ?_)
  have h := hw.out
  have hc : ∀ x, ∃ c : Int, x ∈ e.f2 → Ev (fun k => tidemillref04_Count.f k x.f0 x.f1 x.f2) c := fun x => by
    by_cases hx : x ∈ e.f2
    · obtain ⟨c, hc⟩ := ih x hx (h.2.2.2 x hx)
      exact ⟨c, fun _ => hc⟩
    · exact ⟨0, fun hx' => absurd hx' hx⟩
  exact ⟨_, count_ev e h.2.2.1 (fun x => Classical.choose (hc x)) (fun x hx => Classical.choose_spec (hc x) hx)⟩
theorem fold_cnt (f : E → Nat) : ∀ (l : List E) (n : Nat), n + cntL f l ≤ 9223372036854775807 → l.foldl (fun (n : Int) x => wrap64 (n + (f x : Int))) (n : Int) = ((n + cntL f l : Nat) : Int) := by
  intro l
  induction l with
  | nil => intro n _; rfl
  | cons x xs ih =>
    intro n h
    unfold cntL at h ⊢
    rw [List.foldl_cons, show wrap64 ((n : Int) + (f x : Int)) = ((n + f x : Nat) : Int) by unfold wrap64; omega, ih (n + f x) (by omega)]
    congr 1
    omega
theorem count_ok : ∀ d : Nat, d ≤ 16 → ∀ e, okB d e = true → Ev (fun k => tidemillref04_Count.f k e.f0 e.f1 e.f2) (cnt d e : Int) := by
  intro d
  induction d with
  | zero => intro _ e h; simp [okB] at h
  | succ d ih =>
    intro hd e h
    have hs := okB_succ h
    have h1 := cnt_le _ _ h
    have h4 : 4 ^ (d + 1) ≤ 4 ^ 16 := Nat.pow_le_pow_right (by omega) hd
    have h5 : (4 : Nat) ^ 16 = 4294967296 := by decide
    have hk := kidsOf_le e.f0
    have := count_ev e (by omega) (fun x => (cnt d x : Int)) (fun x hx => ih (by omega) x (hs.2 x hx))
    have hn : cnt (d + 1) e = 1 + cntL (cnt d) e.f2 := rfl
    rw [show (1 : Int) = ((1 : Nat) : Int) from rfl, fold_cnt (cnt d) e.f2 1 (by omega)] at this
    exact this
/-! ### how deep -/
theorem deep_l0 (d : Nat) (hd : d ≤ 16) (l : List E) (x0 x1 : Int) (hl : l.length ≤ 9223372036854775807) (hf : ∀ x ∈ l, Ev (fun k => tidemillref04_deep.f k x.f0 x.f1 x.f2 (d : Int)) (okB d x)) :
    ∀ (r i : Nat), i + r = l.length → Ev (fun k => tidemillref04_deep.l0 k ((d + 1 : Nat) : Int) (i : Int) x0 x1 l) ((l.drop i).all (okB d)) := by
  intro r
  induction r with
  | zero =>
    intro i hi
    rw [List.drop_of_length_le (by omega)]
    refine Ev.step (f := fun _ => some true) (fun k => ?_) (Ev.now _)
    simp only [tidemillref04_deep.l0]
    rw [if_neg (by omega)]
  | succ r ih =>
    intro i hi
    have hlt : i < l.length := by omega
    rw [drop_rd hlt, List.all_cons]
    refine Ev.step (f := fun k => (tidemillref04_deep.f k (rd_T27 l (i : Int)).f0 (rd_T27 l (i : Int)).f1 (rd_T27 l (i : Int)).f2 (d : Int)).bind fun t => if t = true then tidemillref04_deep.l0 k ((d + 1 : Nat) : Int) ((i + 1 : Nat) : Int) x0 x1 l else some false) (fun k => ?_) ?_
    · simp only [tidemillref04_deep.l0]
      rw [if_pos (by omega), if_pos (by omega), wsucc (by omega), show wrap64 (((d + 1 : Nat) : Int) - 1) = (d : Int) by unfold wrap64; omega]
    · refine Ev.bind (hf _ (rd_mem hlt)) ?_
      cases okB d (rd_T27 l (i : Int)) with
      | false => exact Ev.now _
      | true => exact ih (i + 1) (by omega)
theorem kids_ref (a : Int) : tidemillref04_Kids.f a = some (kidsOf a) := by
  unfold tidemillref04_Kids.f kidsOf
  split
  · rfl
  · split
    · rename_i h1 h2
      rw [if_neg (by omega)]
    · split <;> rfl
theorem deep_ev : ∀ d : Nat, d ≤ 16 → ∀ e, Ev (fun k => tidemillref04_deep.f k e.f0 e.f1 e.f2 (d : Int)) (okB d e) := by
  intro d
  have hj : ∀ (x1 : Int) (a b : Int) (l : List E), Ev (fun k => tidemillref04_deep.j0 k x1 true a b l) false := fun x1 a b l =>
    Ev.step (f := fun _ => some false) (fun k => by simp [tidemillref04_deep.j0]) (Ev.now _)
  induction d with
  | zero =>
    intro _ e
    refine Ev.step (f := fun k => tidemillref04_deep.j0 k 0 true e.f0 e.f1 e.f2) (fun k => ?_) (hj ..)
    simp [tidemillref04_deep.f]
  | succ d ih =>
    intro hd e
    have hne : ¬ ((d + 1 : Nat) : Int) = 0 := by omega
    by_cases hc : (1 ≤ e.f0 ∧ e.f0 ≤ 16) ∧ kidsOf e.f0 = (e.f2.length : Int) ∧ (e.f1 = 0 ∨ e.f0 = 1)
    · have hb : okB (d + 1) e = e.f2.all (okB d) := by
        show (decide _ && e.f2.all (okB d)) = _
        rw [decide_eq_true hc, Bool.true_and]
      rw [hb]
      refine Ev.step (f := fun k => tidemillref04_deep.j0 k ((d + 1 : Nat) : Int) false e.f0 e.f1 e.f2) (fun k => ?_) ?_
      · simp only [tidemillref04_deep.f, kids_ref, Option.bind_some]
        rw [if_neg hne, if_neg (by omega), if_neg (by omega), if_pos hc.2.1.symm]
        by_cases hn : e.f1 = 0
        · rw [if_pos hn]
        · rw [if_neg hn]
          have : e.f0 = 1 := by rcases hc.2.2 with h | h; · exact absurd h hn
                                · exact h
          rw [this]
          rfl
      · refine Ev.step (f := fun k => tidemillref04_deep.l0 k ((d + 1 : Nat) : Int) ((0 : Nat) : Int) e.f0 e.f1 e.f2) (fun k => ?_) ?_
        · simp [tidemillref04_deep.j0]
        · have hk := kidsOf_le e.f0
          have := deep_l0 d (by omega) e.f2 e.f0 e.f1 (by omega) (fun x _ => ih (by omega) x) e.f2.length 0 (by omega)
          rwa [List.drop_zero] at this
    · have hb : okB (d + 1) e = false := by
        show (decide _ && e.f2.all (okB d)) = _
        rw [decide_eq_false hc, Bool.false_and]
      rw [hb]
      refine Ev.step (f := fun k => tidemillref04_deep.j0 k ((d + 1 : Nat) : Int) true e.f0 e.f1 e.f2) (fun k => ?_) (hj ..)
      simp only [tidemillref04_deep.f, kids_ref, Option.bind_some]
      rw [if_neg hne]
      by_cases h1 : e.f0 < 1
      · rw [if_pos h1]
      · rw [if_neg h1]
        by_cases h2 : e.f0 > 16
        · rw [if_pos h2]
        · rw [if_neg h2]
          by_cases h3 : (e.f2.length : Int) = kidsOf e.f0
          · rw [if_pos h3]
            have h4 : ¬ (e.f1 = 0 ∨ e.f0 = 1) := fun h => hc ⟨⟨by omega, by omega⟩, h3.symm, h⟩
            rw [if_neg (fun h => h4 (.inl h))]
            have : (e.f0 != 1) = true := by simp; exact fun h => h4 (.inr h)
            rw [this]
          · rw [if_neg h3]
theorem refMay_ev (e : E) : Ev (fun k => tidemillref04_May.f k e.f0 e.f1 e.f2) (mayB e) := by
  unfold tidemillref04_May.f
  refine Ev.bind (deep_ev 16 (by omega) e) ?_
  rw [mayB_iff]
  cases h : okB 16 e with
  | false => exact Ev.now _
  | true =>
    refine Ev.bind (count_ok 16 (by omega) e h) ?_
    have : decide ((cnt 16 e : Int) ≤ 64) = decide (cnt 16 e ≤ 64) := decide_eq_decide.2 (by omega)
    simp only [this, Bool.true_and]
    exact Ev.now _
end Go.Proofs.Ytpcbcekfakjgkaa.Ex
