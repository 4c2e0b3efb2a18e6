/- Plain laws of topologies: who stands behind whom; small topologies. -/
import Derived.Test.YteanncfmaomhaaaTpLwB
import Derived.Test.YteanncfmaomhaaaEx3
namespace Go.Proofs.Yteanncfmaomhaaa.Ex
open Go Go.RowKit Go.Proofs.YteanncfmaomhaaaW.PrintWords Go.Proofs.YteanncfmaomhaaaW.PrintLast Go.Proofs.YteanncfmaomhaaaW.PrintMore
set_option linter.unusedVariables false
set_option linter.unusedSimpArgs false
/-- Those behind a vertex. -/
def usersL (x : Int) : Nat → List Vx → List Int
  | _, [] => []
  | i, v :: vs => if v.f1.any (fun y => y == x) = true then (i : Int) :: usersL x (i + 1) vs else usersL x (i + 1) vs
theorem index_ev (xs : List Int) (x : Int) (hm : xs.length ≤ 9223372036854775807) : ∀ (d j : Nat), j + d = xs.length → ∃ r : Int, Ev (fun k => slices_Index_int_int.l0 k xs x (xs.length : Int) (j : Int)) r ∧ decide (r ≥ 0) = (xs.drop j).any (fun y => y == x) := by
  intro d
  induction d with
  | zero =>
    intro j hj
    rw [List.drop_of_length_le (by omega)]
    refine ⟨-1, Ev.step (f := fun _ => some (-1)) (fun k => ?_) (Ev.now _), rfl⟩
    simp only [slices_Index_int_int.l0]
    rw [if_neg (by omega)]
  | succ d ih =>
    intro j hj
    have hlt : j < xs.length := by omega
    rw [rd_cons hlt, List.any_cons]
    by_cases h : x = rd xs (j : Int)
    · refine ⟨(j : Int), Ev.step (f := fun _ => some (j : Int)) (fun k => ?_) (Ev.now _), ?_⟩
      · simp only [slices_Index_int_int.l0]
        rw [if_pos (by omega), if_pos (by omega), if_pos (by omega), if_pos h]
      · rw [show (rd xs (j : Int) == x) = true by simpa using h.symm, Bool.true_or]
        simp
    · obtain ⟨r, h1, h2⟩ := ih (j + 1) (by omega)
      refine ⟨r, Ev.step (fun k => ?_) h1, ?_⟩
      · simp only [slices_Index_int_int.l0]
        rw [if_pos (by omega), if_pos (by omega), if_pos (by omega), if_neg h, wrapN (by omega)]
      · rw [h2, show (rd xs (j : Int) == x) = false by simpa using fun e => h e.symm, Bool.false_or]
theorem contains_ev (xs : List Int) (x : Int) (hm : xs.length ≤ 9223372036854775807) : Ev (fun k => slices_Contains_int_int.f k xs x) (xs.any (fun y => y == x)) := by
  obtain ⟨r, h1, h2⟩ := index_ev xs x hm xs.length 0 (by omega)
  rw [List.drop_zero] at h2
  rw [← h2]
  unfold slices_Contains_int_int.f slices_Index_int_int.f
  exact Ev.bind h1 (Ev.now _)
theorem users_l0 (l : List Vx) (x : Int) (hl : l.length ≤ 1759218604441) (hm : ∀ v ∈ l, v.f1.length ≤ 9223372036854775807) : ∀ (d i : Nat) (acc : List Int), i + d = l.length → acc.length ≤ i → Ev (fun k => topo_Users.l0 k x acc l (l.length : Int) (i : Int)) (acc ++ usersL x i (l.drop i)) := by
  intro d
  induction d with
  | zero =>
    intro i acc hi ha
    rw [List.drop_of_length_le (by omega), usersL, List.append_nil]
    refine Ev.step (f := fun _ => some acc) (fun k => ?_) (Ev.now _)
    simp only [topo_Users.l0]
    rw [if_neg (by omega)]
  | succ d ih =>
    intro i acc hi ha
    have hlt : i < l.length := by omega
    rw [drop_vAt hlt, usersL]
    have hmm := hm _ (vAt_mem hlt)
    refine Ev.step (f := fun k => (slices_Contains_int_int.f k (vAt l (i : Int)).f1 x).bind fun t126 => if t126 = true then (if acc.length < 17592186044416 then topo_Users.l0 k x (acc ++ [(i : Int)]) l (l.length : Int) ((i + 1 : Nat) : Int) else none) else topo_Users.l0 k x acc l (l.length : Int) ((i + 1 : Nat) : Int)) (fun k => ?_) ?_
    · simp only [topo_Users.l0]
      rw [if_pos (by omega), if_pos (by omega), if_pos (by omega), vAt_rd, wrapN (by omega)]
    · refine Ev.bind (contains_ev _ x hmm) ?_
      cases (vAt l (i : Int)).f1.any (fun y => y == x) with
      | true =>
        simp only [if_true, if_pos (show acc.length < 17592186044416 by omega)]
        have := ih (i + 1) (acc ++ [(i : Int)]) (by omega) (by simp; omega)
        rwa [List.append_assoc, List.singleton_append] at this
      | false =>
        simp only [Bool.false_eq_true, if_false]
        exact ih (i + 1) acc (by omega) (by omega)
theorem users_ev (l : List Vx) (p x : Int) (hl : l.length ≤ 1759218604441) (hm : ∀ v ∈ l, v.f1.length ≤ 9223372036854775807) : Ev (fun k => topo_Users.f k l p x) (usersL x 0 l) := by
  unfold topo_Users.f
  have := users_l0 l x hl hm l.length 0 [] (by omega) (by simp)
  rwa [List.drop_zero, List.nil_append] at this
/-! ### small -/
theorem small_l0 (l : List Vx) (p : Int) (hw : ∀ v ∈ l, wfE v.f2) (hl : l.length ≤ 1759218604441) : ∀ (d i : Nat) (n : Int), i + d = l.length → ∃ b, Ev (fun k => tidemilllaw05_small.l0 k n (i : Int) l p) b := by
  intro d
  induction d with
  | zero =>
    intro i n hi
    refine ⟨decide (n ≤ 5000), Ev.step (f := fun _ => some (decide (n ≤ 5000))) (fun k => ?_) (Ev.now _)⟩
    simp only [tidemilllaw05_small.l0]
    rw [if_neg (by omega)]
  | succ d ih =>
    intro i n hi
    have hlt : i < l.length := by omega
    by_cases hn : n ≤ 5000
    · obtain ⟨c, hc⟩ := count_any (vAt l (i : Int)).f2 (hw _ (vAt_mem hlt))
      obtain ⟨b, hb⟩ := ih (i + 1) (wrap64 (n + c)) (by omega)
      refine ⟨b, Ev.step (f := fun k => (tidemillref04_Count.f k (vAt l (i : Int)).f2.f0 (vAt l (i : Int)).f2.f1 (vAt l (i : Int)).f2.f2).bind fun t167 => tidemilllaw05_small.l0 k (wrap64 (n + t167)) ((i + 1 : Nat) : Int) l p) (fun k => ?_) (Ev.bind hc hb)⟩
      simp only [tidemilllaw05_small.l0]
      rw [if_pos (by omega), if_pos hn, if_pos (by omega), vAt_rd, wrapN (by omega)]
    · refine ⟨decide (n ≤ 5000), Ev.step (f := fun _ => some (decide (n ≤ 5000))) (fun k => ?_) (Ev.now _)⟩
      simp only [tidemilllaw05_small.l0]
      rw [if_pos (by omega), if_neg hn]
theorem small_ev (l : List Vx) (p : Int) (hw : ∀ v ∈ l, wfE v.f2) (hl : l.length ≤ 1759218604441) : ∃ b, Ev (fun k => tidemilllaw05_small.f k l p) b := small_l0 l p hw hl l.length 0 0 (by omega)
theorem shown40 : tidemilllaw05_shown.f 40 = some true := by decide +kernel
theorem shown_ev : Ev (fun k => tidemilllaw05_shown.f k) true := Ev.of (fun k => tidemilllaw05_shown.mono k) shown40
theorem okV_of {l : List Vx} (h : ∀ v ∈ l, I64 v.f3) : okV l = true := by
  unfold okV
  rw [List.all_eq_true]
  intro v hv
  have := h v hv
  unfold I64 at this
  simpa using this
theorem check_f {l : List Vx} (h : ∀ v ∈ l, I64 v.f3) (p : Int) : topo_Check.f l p = some (checkOf l p) := by unfold topo_Check.f; rw [if_pos (okV_of h)]
end Go.Proofs.Yteanncfmaomhaaa.Ex
