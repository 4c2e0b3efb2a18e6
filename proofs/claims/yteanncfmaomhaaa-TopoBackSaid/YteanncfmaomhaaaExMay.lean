/- Plain laws of expressions: whether one may be, how many it has, what is in it. -/
import Derived.Test.YteanncfmaomhaaaExPure
import Derived.Test.YteanncfmaomhaaaEx2
namespace Go.Proofs.Yteanncfmaomhaaa.Ex
open Go Go.RowKit Go.Proofs.YteanncfmaomhaaaW.PrintWords Go.Proofs.YteanncfmaomhaaaW.PrintLast Go.Proofs.YteanncfmaomhaaaW.PrintMore
set_option linter.unusedVariables false
set_option linter.unusedSimpArgs false
theorem E_ind {P : E → Prop} (h : ∀ e : E, (∀ x ∈ e.f2, P x) → P e) : ∀ e, P e := by
  have key : ∀ n : Nat, ∀ e : E, SizeOf.sizeOf e < n → P e := by
    intro n
    induction n with
    | zero => intro e he; omega
    | succ n ih =>
      intro e he
      refine h e (fun x hx => ih x ?_)
      have h1 := List.sizeOf_lt_of_mem hx
      obtain ⟨a, b, l⟩ := e
      simp only [S38.mk.sizeOf_spec] at he
      simp only at h1
      omega
  exact fun e => key _ e (Nat.lt_succ_self _)
def I64 (a : Int) : Prop := -9223372036854775808 ≤ a ∧ a ≤ 9223372036854775807
/-- What memory says of an expression. -/
inductive wfE : E → Prop
  | mk (op n : Int) (l : List E) : I64 op → I64 n → l.length ≤ 9223372036854775807 → (∀ x ∈ l, wfE x) → wfE ⟨op, n, l⟩
theorem wfE.out {e : E} (h : wfE e) : I64 e.f0 ∧ I64 e.f1 ∧ e.f2.length ≤ 9223372036854775807 ∧ ∀ x ∈ e.f2, wfE x := by
  cases h with
  | mk op n l h1 h2 h3 h4 => exact ⟨h1, h2, h3, h4⟩
def mayL (f : Int → E → Int) : Int → List E → Int
  | left, [] => left
  | left, x :: xs => if f left x < 0 then -1 else mayL f (f left x) xs
def leftOf : Nat → Int → E → Int
  | 0, _, _ => -1
  | d + 1, left, e => if (1 ≤ e.f0 ∧ e.f0 ≤ 16) ∧ kidsOf e.f0 = (e.f2.length : Int) ∧ (e.f1 = 0 ∨ e.f0 = 1) ∧ left ≠ 0 then mayL (leftOf d) (left - 1) e.f2 else -1
def okB : Nat → E → Bool
  | 0, _ => false
  | d + 1, e => decide ((1 ≤ e.f0 ∧ e.f0 ≤ 16) ∧ kidsOf e.f0 = (e.f2.length : Int) ∧ (e.f1 = 0 ∨ e.f0 = 1)) && e.f2.all (okB d)
def cntL (f : E → Nat) : List E → Nat
  | [] => 0
  | x :: xs => f x + cntL f xs
def cnt : Nat → E → Nat
  | 0, _ => 1
  | d + 1, e => 1 + cntL (cnt d) e.f2
def mayB (e : E) : Bool := decide (0 ≤ leftOf 16 64 e)
theorem rd_get {l : List E} {i : Nat} (hi : i < l.length) : rd_T38 l (i : Int) = l[i] := by
  unfold rd_T38
  rw [Int.toNat_natCast, List.getD_eq_getElem?_getD, List.getElem?_eq_getElem hi]
  rfl
theorem rd_mem {l : List E} {i : Nat} (hi : i < l.length) : rd_T38 l (i : Int) ∈ l := by
  rw [rd_get hi]
  exact List.getElem_mem _
theorem drop_rd {l : List E} {i : Nat} (hi : i < l.length) : l.drop i = rd_T38 l (i : Int) :: l.drop (i + 1) := by
  rw [rd_get hi]
  exact List.drop_eq_getElem_cons hi
theorem wsucc {i : Nat} (h : (i : Int) + 1 ≤ 9223372036854775807) : wrap64 ((i : Int) + 1) = ((i + 1 : Nat) : Int) := by unfold wrap64; omega
theorem mayL_le {f : Int → E → Int} (hf : ∀ left x, 0 ≤ left → f left x ≤ left) : ∀ (l : List E) (left : Int), 0 ≤ left → mayL f left l ≤ left := by
  intro l
  induction l with
  | nil => intro left h; exact Int.le_refl _
  | cons x xs ih =>
    intro left h
    unfold mayL
    split
    · omega
    · have := ih (f left x) (by omega)
      have := hf left x h
      omega
theorem leftOf_le : ∀ d left e, 0 ≤ left → leftOf d left e ≤ left := by
  intro d
  induction d with
  | zero => intro left e h; unfold leftOf; omega
  | succ d ih =>
    intro left e h
    unfold leftOf
    split
    · rename_i hc
      have := mayL_le (fun l x hl => ih l x hl) e.f2 (left - 1) (by omega)
      omega
    · omega
theorem kidsOf_le (a : Int) : 0 ≤ kidsOf a ∧ kidsOf a ≤ 3 := by
  unfold kidsOf
  split
  · omega
  split
  · omega
  split <;> omega
theorem may_l0 (d : Nat) (hd : d ≤ 16) (l : List E) (hl : l.length ≤ 9223372036854775807) (hf : ∀ x ∈ l, ∀ left, 0 ≤ left → left ≤ 64 → Ev (fun k => expr_may.f k x.f0 x.f1 x.f2 (d : Int) left) (leftOf d left x)) :
    ∀ (r i : Nat) (left : Int), i + r = l.length → 0 ≤ left → left ≤ 64 → Ev (fun k => expr_may.l0 k ((d + 1 : Nat) : Int) left l (l.length : Int) (i : Int)) (mayL (leftOf d) left (l.drop i)) := by
  intro r
  induction r with
  | zero =>
    intro i left hi h0 h1
    rw [List.drop_of_length_le (by omega)]
    refine Ev.step (f := fun _ => some left) (fun k => ?_) (Ev.now _)
    simp only [expr_may.l0]
    rw [if_neg (by omega)]
  | succ r ih =>
    intro i left hi h0 h1
    have hlt : i < l.length := by omega
    rw [drop_rd hlt]
    refine Ev.step (f := fun k => (expr_may.f k (rd_T38 l (i : Int)).f0 (rd_T38 l (i : Int)).f1 (rd_T38 l (i : Int)).f2 (d : Int) left).bind fun t => if t < 0 then some (-1) else expr_may.l0 k ((d + 1 : Nat) : Int) t l (l.length : Int) ((i + 1 : Nat) : Int)) (fun k => ?_) ?_
    · simp only [expr_may.l0]
      rw [if_pos (by omega), if_pos (by omega), if_pos (by omega), wsucc (by omega), show wrap64 (((d + 1 : Nat) : Int) - 1) = (d : Int) by unfold wrap64; omega]
    · refine Ev.bind (hf _ (rd_mem hlt) left h0 h1) ?_
      unfold mayL
      by_cases hn : leftOf d left (rd_T38 l (i : Int)) < 0
      · simp only [if_pos hn]
        exact Ev.now _
      · simp only [if_neg hn]
        have := leftOf_le d left (rd_T38 l (i : Int)) h0
        exact ih (i + 1) _ (by omega) (by omega) (by omega)
theorem may_ev : ∀ d : Nat, d ≤ 16 → ∀ (e : E) (left : Int), 0 ≤ left → left ≤ 64 → Ev (fun k => expr_may.f k e.f0 e.f1 e.f2 (d : Int) left) (leftOf d left e) := by
  intro d
  have hj : ∀ (x1 x2 : Int) (a b : Int) (l : List E), Ev (fun k => expr_may.j0 k x1 x2 true a b l) (-1) := fun x1 x2 a b l =>
    Ev.step (f := fun _ => some (-1)) (fun k => by simp [expr_may.j0]) (Ev.now _)
  induction d with
  | zero =>
    intro _ e left h0 h1
    refine Ev.step (f := fun k => expr_may.j0 k 0 left true e.f0 e.f1 e.f2) (fun k => ?_) (hj ..)
    simp only [expr_may.f, expr_kids.f]
    split <;> simp
  | succ d ih =>
    intro hd e left h0 h1
    unfold leftOf
    by_cases hc : (1 ≤ e.f0 ∧ e.f0 ≤ 16) ∧ kidsOf e.f0 = (e.f2.length : Int) ∧ (e.f1 = 0 ∨ e.f0 = 1) ∧ left ≠ 0
    · rw [if_pos hc]
      have hz : (left == 0) = false := by simpa using hc.2.2.2
      refine Ev.step (f := fun k => expr_may.j0 k ((d + 1 : Nat) : Int) left false e.f0 e.f1 e.f2) (fun k => ?_) ?_
      · simp only [expr_may.f, expr_kids.f]
        rw [if_pos hc.1]
        simp only [Option.bind_some, if_true]
        rw [if_pos hc.2.1, if_neg (show ¬ ((d + 1 : Nat) : Int) = 0 by omega), hz]
        by_cases hn : e.f1 = 0
        · rw [if_pos hn]
        · rw [if_neg hn, if_pos (by rcases hc.2.2.1 with h | h; · exact absurd h hn
                                    · exact h)]
      · refine Ev.step (f := fun k => expr_may.l0 k ((d + 1 : Nat) : Int) (left - 1) e.f2 (e.f2.length : Int) ((0 : Nat) : Int)) (fun k => ?_) ?_
        · simp only [expr_may.j0]
          rw [if_neg (by simp), show wrap64 (left - 1) = left - 1 by unfold wrap64; omega]
          rfl
        · have hk := kidsOf_le e.f0
          have := may_l0 d (by omega) e.f2 (by omega) (fun x hx l h2 h3 => ih (by omega) x l h2 h3) e.f2.length 0 (left - 1) (by omega) (by omega) (by omega)
          rwa [List.drop_zero] at this
    · rw [if_neg hc]
      refine Ev.step (f := fun k => expr_may.j0 k ((d + 1 : Nat) : Int) left true e.f0 e.f1 e.f2) (fun k => ?_) (hj ..)
      simp only [expr_may.f, expr_kids.f]
      by_cases h2 : 1 ≤ e.f0 ∧ e.f0 ≤ 16
      · rw [if_pos h2]
        simp only [Option.bind_some, if_true]
        by_cases h3 : kidsOf e.f0 = (e.f2.length : Int)
        · rw [if_pos h3, if_neg (show ¬ ((d + 1 : Nat) : Int) = 0 by omega)]
          by_cases h4 : left = 0
          · subst h4
            simp
          · have h5 : ¬ (e.f1 = 0 ∨ e.f0 = 1) := fun h => hc ⟨h2, h3, h, h4⟩
            rw [if_neg (fun h => h5 (.inl h)), if_neg (fun h => h5 (.inr h))]
        · rw [if_neg h3]
      · rw [if_neg h2]
        simp
theorem May_ev (e : E) : Ev (fun k => expr_May.f k e.f0 e.f1 e.f2) (mayB e) := by
  unfold expr_May.f mayB
  exact Ev.bind (may_ev 16 (by omega) e 64 (by omega) (by omega)) (Ev.now _)
/-! ### how many -/
theorem cnt_pos (d : Nat) (e : E) : 1 ≤ cnt d e := by cases d <;> unfold cnt <;> omega
theorem cntL_le {f : E → Nat} {M : Nat} : ∀ l : List E, (∀ x ∈ l, f x ≤ M) → cntL f l ≤ l.length * M := by
  intro l
  induction l with
  | nil => intro _; simp [cntL]
  | cons x xs ih =>
    intro h
    unfold cntL
    have h1 := h x (List.mem_cons_self ..)
    have h2 := ih (fun y hy => h y (List.mem_cons_of_mem _ hy))
    rw [List.length_cons, Nat.succ_mul]
    omega
theorem okB_succ {d : Nat} {e : E} (h : okB (d + 1) e = true) : ((1 ≤ e.f0 ∧ e.f0 ≤ 16) ∧ kidsOf e.f0 = (e.f2.length : Int) ∧ (e.f1 = 0 ∨ e.f0 = 1)) ∧ ∀ x ∈ e.f2, okB d x = true := by
  unfold okB at h
  rw [Bool.and_eq_true, decide_eq_true_eq, List.all_eq_true] at h
  exact h
theorem cnt_le : ∀ d e, okB d e = true → cnt d e ≤ 4 ^ d := by
  intro d
  induction d with
  | zero => intro e h; simp [okB] at h
  | succ d ih =>
    intro e h
    have hs := okB_succ h
    have h1 := cntL_le e.f2 (fun x hx => ih x (hs.2 x hx))
    have h2 := kidsOf_le e.f0
    have h3 : e.f2.length ≤ 3 := by omega
    have h4 : e.f2.length * 4 ^ d ≤ 3 * 4 ^ d := Nat.mul_le_mul_right _ h3
    have h5 : 1 ≤ 4 ^ d := Nat.one_le_pow _ _ (by omega)
    unfold cnt
    rw [Nat.pow_succ]
    omega
theorem okB_fits : ∀ d e, okB d e = true → fits d e := by
  intro d
  induction d with
  | zero => intro e h; simp [okB] at h
  | succ d ih =>
    intro e h
    have hs := okB_succ h
    exact ⟨hs.1.1, hs.1.2.1.symm, fun x hx => ih x (hs.2 x hx)⟩
theorem mayL_cnt {f : Int → E → Int} {g : E → Nat} {ok : E → Bool} (h : ∀ left x, 0 ≤ left → f left x = if ok x = true ∧ (g x : Int) ≤ left then left - g x else -1) :
    ∀ (l : List E) (left : Int), 0 ≤ left → mayL f left l = if l.all ok = true ∧ (cntL g l : Int) ≤ left then left - cntL g l else -1 := by
  intro l
  induction l with
  | nil => intro left h0; simp [mayL, cntL, h0]
  | cons x xs ih =>
    intro left h0
    unfold mayL cntL
    rw [h left x h0, List.all_cons]
    by_cases h1 : ok x = true ∧ (g x : Int) ≤ left
    · rw [if_pos h1, if_neg (by omega), ih _ (by omega)]
      by_cases h2 : xs.all ok = true ∧ (cntL g xs : Int) ≤ left - g x
      · rw [if_pos h2, if_pos ⟨by rw [h1.1, h2.1]; rfl, by omega⟩]
        push_cast
        omega
      · rw [if_neg h2, if_neg (fun h3 => h2 ⟨by have := h3.1; rw [Bool.and_eq_true] at this; exact this.2, by have := h3.2; push_cast at this; omega⟩)]
    · rw [if_neg h1, if_pos (by omega), if_neg (fun h3 => h1 ⟨by have := h3.1; rw [Bool.and_eq_true] at this; exact this.1, by have := h3.2; push_cast at this; omega⟩)]
theorem leftOf_cnt : ∀ d left e, 0 ≤ left → leftOf d left e = if okB d e = true ∧ (cnt d e : Int) ≤ left then left - cnt d e else -1 := by
  intro d
  induction d with
  | zero => intro left e h0; simp [leftOf, okB]
  | succ d ih =>
    intro left e h0
    unfold leftOf
    by_cases hc : (1 ≤ e.f0 ∧ e.f0 ≤ 16) ∧ kidsOf e.f0 = (e.f2.length : Int) ∧ (e.f1 = 0 ∨ e.f0 = 1) ∧ left ≠ 0
    · rw [if_pos hc, mayL_cnt (fun l x hl => ih l x hl) e.f2 (left - 1) (by omega)]
      have hb : okB (d + 1) e = e.f2.all (okB d) := by
        show (decide _ && e.f2.all (okB d)) = _
        rw [decide_eq_true ⟨hc.1, hc.2.1, hc.2.2.1⟩, Bool.true_and]
      have hn : cnt (d + 1) e = 1 + cntL (cnt d) e.f2 := rfl
      rw [hb, hn]
      by_cases h2 : e.f2.all (okB d) = true ∧ (cntL (cnt d) e.f2 : Int) ≤ left - 1
      · rw [if_pos h2, if_pos ⟨h2.1, by push_cast; omega⟩]
        push_cast
        omega
      · rw [if_neg h2, if_neg (fun h3 => h2 ⟨h3.1, by have := h3.2; push_cast at this; omega⟩)]
    · rw [if_neg hc, if_neg]
      intro h3
      have h4 := okB_succ h3.1
      have := cnt_pos (d + 1) e
      exact hc ⟨h4.1.1, h4.1.2.1, h4.1.2.2, by omega⟩
theorem mayB_iff (e : E) : mayB e = (okB 16 e && decide (cnt 16 e ≤ 64)) := by
  unfold mayB
  rw [leftOf_cnt 16 64 e (by omega)]
  by_cases h1 : okB 16 e = true ∧ (cnt 16 e : Int) ≤ 64
  · rw [if_pos h1, h1.1, Bool.true_and]
    have := h1.2
    have h2 : cnt 16 e ≤ 64 := by omega
    simp [h2]
    omega
  · rw [if_neg h1]
    cases hb : okB 16 e with
    | false => simp
    | true =>
      have : ¬ cnt 16 e ≤ 64 := fun h => h1 ⟨hb, by omega⟩
      simp [this]
theorem mayB_ok {e : E} (h : mayB e = true) : okB 16 e = true := by
  rw [mayB_iff, Bool.and_eq_true] at h
  exact h.1
end Go.Proofs.Yteanncfmaomhaaa.Ex
