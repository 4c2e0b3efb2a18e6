/- The statement TopoChecks. -/
import Derived.Test.YteanncfmaomhaaaTpLwC
import Derived.Test.YteanncfmaomhaaaOpT
import Derived.Test.YteanncfmaomhaaaEx10
namespace Go.Proofs.Yteanncfmaomhaaa.Ex
open Go Go.RowKit Go.Proofs.YteanncfmaomhaaaW.PrintWords Go.Proofs.YteanncfmaomhaaaW.PrintLast Go.Proofs.YteanncfmaomhaaaW.PrintMore
set_option linter.unusedVariables false
set_option linter.unusedSimpArgs false
theorem refUsers_l1 (l : List Vx) (p x : Int) (i : Nat) (hi : i < l.length) (hl : l.length ≤ 1759218604441) (hm : (vAt l (i : Int)).f1.length ≤ 9223372036854775807) (acc : List Int) (ha : acc.length ≤ i) (R : List Int)
    (hR : Ev (fun k => if (vAt l (i : Int)).f1.any (fun y => y == x) = true then tidemillref05_Users.l0 k x (acc ++ [(i : Int)]) ((i + 1 : Nat) : Int) l p else tidemillref05_Users.l0 k x acc ((i + 1 : Nat) : Int) l p) R) :
    ∀ (d j : Nat) (b : Bool), j + d = (vAt l (i : Int)).f1.length → (b || ((vAt l (i : Int)).f1.drop j).any (fun y => y == x)) = (vAt l (i : Int)).f1.any (fun y => y == x) → Ev (fun k => tidemillref05_Users.l1 k x acc (i : Int) b (j : Int) l p) R := by
  intro d
  induction d with
  | zero =>
    intro j b hj hb
    rw [List.drop_of_length_le (by omega), List.any_nil, Bool.or_false] at hb
    rw [← hb] at hR
    refine Ev.step (fun k => ?_) hR
    simp only [tidemillref05_Users.l1]
    rw [if_pos (by omega), if_pos (by omega), vAt_rd, if_neg (by omega), if_pos (show acc.length < 17592186044416 by omega), wrapN (by omega)]
  | succ d ih =>
    intro j b hj hb
    have hlt : j < (vAt l (i : Int)).f1.length := by omega
    rw [rd_cons hlt, List.any_cons] at hb
    refine Ev.step (f := fun k => if b = true then tidemillref05_Users.l1 k x acc (i : Int) true ((j + 1 : Nat) : Int) l p else tidemillref05_Users.l1 k x acc (i : Int) (rd (vAt l (i : Int)).f1 (j : Int) == x) ((j + 1 : Nat) : Int) l p) (fun k => ?_) ?_
    · simp only [tidemillref05_Users.l1]
      rw [if_pos (by omega), if_pos (by omega), vAt_rd, if_pos (by omega), if_pos (show (0 : Int) ≤ (j : Int) by omega), wrapN (by omega)]
    · cases b with
      | true =>
        simp only [if_true]
        exact ih (j + 1) true (by omega) (by rw [Bool.true_or] at hb ⊢; exact hb)
      | false =>
        simp only [Bool.false_eq_true, if_false]
        exact ih (j + 1) _ (by omega) (by rw [Bool.false_or] at hb; exact hb)
theorem refUsers_l0 (l : List Vx) (p x : Int) (hl : l.length ≤ 1759218604441) (hm : ∀ v ∈ l, v.f1.length ≤ 9223372036854775807) : ∀ (d i : Nat) (acc : List Int), i + d = l.length → acc.length ≤ i → Ev (fun k => tidemillref05_Users.l0 k x acc (i : Int) l p) (acc ++ usersL x i (l.drop i)) := by
  intro d
  induction d with
  | zero =>
    intro i acc hi ha
    rw [List.drop_of_length_le (by omega), usersL, List.append_nil]
    refine Ev.step (f := fun _ => some acc) (fun k => ?_) (Ev.now _)
    simp only [tidemillref05_Users.l0]
    rw [if_neg (by omega)]
  | succ d ih =>
    intro i acc hi ha
    have hlt : i < l.length := by omega
    rw [drop_vAt hlt, usersL]
    refine Ev.step (f := fun k => tidemillref05_Users.l1 k x acc (i : Int) false ((0 : Nat) : Int) l p) (fun k => ?_) ?_
    · simp only [tidemillref05_Users.l0]
      rw [if_pos (by omega)]
      rfl
    · refine refUsers_l1 l p x i hlt hl (hm _ (vAt_mem hlt)) acc ha _ ?_ (vAt l (i : Int)).f1.length 0 false (by omega) (by rw [List.drop_zero, Bool.false_or])
      cases (vAt l (i : Int)).f1.any (fun y => y == x) with
      | true =>
        simp only [if_true]
        have := ih (i + 1) (acc ++ [(i : Int)]) (by omega) (by simp; omega)
        rwa [List.append_assoc, List.singleton_append] at this
      | false =>
        simp only [Bool.false_eq_true, if_false]
        exact ih (i + 1) acc (by omega) (by omega)
theorem refUsers_ev (l : List Vx) (p x : Int) (hl : l.length ≤ 1759218604441) (hm : ∀ v ∈ l, v.f1.length ≤ 9223372036854775807) : Ev (fun k => tidemillref05_Users.f k l p x) (usersL x 0 l) := by
  unfold tidemillref05_Users.f
  have := refUsers_l0 l p x hl hm l.length 0 [] (by omega) (by simp)
  rwa [List.drop_zero, List.nil_append] at this
theorem usersL_len (x : Int) : ∀ (vs : List Vx) (i : Nat), (usersL x i vs).length ≤ vs.length
  | [], _ => Nat.le_refl _
  | v :: vs, i => by
    rw [usersL]
    have := usersL_len x vs (i + 1)
    split
    · rw [List.length_cons, List.length_cons]; omega
    · rw [List.length_cons]; omega
theorem same_l0 (xs : List Int) (hm : xs.length ≤ 9223372036854775807) : ∀ (d j : Nat), j + d = xs.length → Ev (fun k => tidemillref01_Same.l0 k xs xs (j : Int)) true := by
  intro d
  induction d with
  | zero =>
    intro j hj
    refine Ev.step (f := fun _ => some true) (fun k => ?_) (Ev.now _)
    simp only [tidemillref01_Same.l0]
    rw [if_neg (by omega)]
  | succ d ih =>
    intro j hj
    refine Ev.step (fun k => ?_) (ih (j + 1) (by omega))
    simp only [tidemillref01_Same.l0]
    rw [if_pos (by omega), if_pos (by omega), if_pos (by omega), if_pos trivial, wrapN (by omega)]
theorem same_ev (xs : List Int) (hm : xs.length ≤ 9223372036854775807) : Ev (fun k => tidemillref01_Same.f k xs xs) true := by
  unfold tidemillref01_Same.f
  simp only [if_true]
  exact same_l0 xs hm xs.length 0 (by omega)
theorem topoChecks_ev (l : List Vx) (p x : Int) (hv : ∀ v ∈ l, vxOk v) (hl : l.length ≤ 1759218604441) : Ev (fun k => tidemilllaw05_TopoChecks.f k l p x) true := by
  have hmx : maxLen ≤ 9223372036854775807 := by decide
  have hm : ∀ v ∈ l, v.f1.length ≤ 9223372036854775807 := fun v h => Nat.le_trans (hv v h).2.1.1 hmx
  unfold tidemilllaw05_TopoChecks.f
  refine Ev.bind shown_ev ?_
  obtain ⟨b, hb⟩ := small_ev l p (fun v h => (hv v h).2.2.1) hl
  refine Ev.bind hb ?_
  cases b with
  | false =>
    simp only [Bool.false_eq_true, if_false]
    exact Ev.now _
  | true =>
    simp only [if_true, check_f (fun v h => (hv v h).2.2.2), Option.bind_some]
    refine Ev.bind (refCheck_ev l p hm) ?_
    simp only [if_true]
    refine Ev.bind (users_ev l p x hl hm) ?_
    refine Ev.bind (refUsers_ev l p x hl hm) ?_
    refine Ev.bind (same_ev _ (by have := usersL_len x l 0; omega)) ?_
    exact Ev.now _
theorem topoChecks_ok (A0 : Option Addr) (c0 : Nat) (l : List Vx) (p x : Int) (w : World) (hC : Kd.C k40 w A0 l.length l) (hc : l.length ≤ c0) (hv : ∀ v ∈ l, vxOk v) (hl : l.length ≤ 1759218604441) :
    Calls Try.prog 3 #[.agg #[.slice A0 l.length c0, .int .i64 p], .int .i64 x] w fun e w' => e = .returned (.bool true) ∧ Below w.heap.size w w' := by
  obtain ⟨k, hk⟩ := Ev.rounds (topoChecks_ev l p x hv hl)
  exact tidemilllaw05_TopoChecks.calls k A0 c0 l p x true w hC hc hk
theorem open_T {w : World} {t : List Vx × Int} {cs : List Value} (h : (Kd.pair (Kd.slice 40 k40) (Kd.int .i64)).K w t cs) : ∃ A c, cs = [.slice A t.1.length c, .int .i64 t.2] ∧ t.1.length ≤ c ∧ Kd.C k40 w A t.1.length t.1 := by
  obtain ⟨_, _, rfl, ⟨A, c, rfl, l1, g1⟩, rfl⟩ := h
  exact ⟨A, c, rfl, l1, g1⟩
end Go.Proofs.Yteanncfmaomhaaa.Ex
