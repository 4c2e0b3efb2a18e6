/- The statement TopoRings. -/
import Derived.Test.YteanncfmaomhaaaTpLwC
import Derived.Test.YteanncfmaomhaaaOpT
import Derived.Test.YteanncfmaomhaaaEx11
namespace Go.Proofs.Yteanncfmaomhaaa.Ex
open Go Go.RowKit Go.Proofs.YteanncfmaomhaaaW.PrintWords Go.Proofs.YteanncfmaomhaaaW.PrintLast Go.Proofs.YteanncfmaomhaaaW.PrintMore
set_option linter.unusedVariables false
set_option linter.unusedSimpArgs false
/-- What a vertex without an error is. -/
structure Fine (l : List Vx) (i : Nat) (v : Vx) : Prop where
  kind : 1 ≤ v.f0 ∧ v.f0 ≤ 10
  ahead : ∀ x ∈ v.f1, 0 ≤ x ∧ x < (i : Int)
  has : hasB (fmOf v.f0) v = true
  sink : ∀ x ∈ v.f1, (vAt l x).f0 ≠ 10
theorem fine_of {l : List Vx} {i : Nat} {v : Vx} {ks : List (Int × Int)} (h : vertOf l i v ks = 0) : Fine l i v := by
  have h1 : ¬ (v.f0 < 1 ∨ 10 < v.f0) := fun hh => by rw [vert1 hh] at h; cases h
  have h2 : v.f1.any (badB i) = false := by
    cases hb : v.f1.any (badB i) with
    | false => rfl
    | true => rw [vert2 h1 hb] at h; cases h
  have h3 : hasB (fmOf v.f0) v = true := by
    cases hb : hasB (fmOf v.f0) v with
    | true => rfl
    | false => rw [vert3 h1 h2 hb] at h; cases h
  have h4 : ((fmOf v.f0).own && decide ((v.f0, v.f3) ∈ ks)) = false := by
    cases hb : ((fmOf v.f0).own && decide ((v.f0, v.f3) ∈ ks)) with
    | false => rfl
    | true => rw [vert4 h1 h2 h3 hb] at h; cases h
  have h5 : v.f1.any (sinkB l) = false := by
    cases hb : v.f1.any (sinkB l) with
    | false => rfl
    | true => rw [vert5 h1 h2 h3 h4, if_pos hb] at h; cases h
  refine ⟨by omega, fun x hx => ?_, h3, fun x hx => ?_⟩
  · have := List.any_eq_false.1 h2 x hx
    unfold badB at this
    simp at this
    omega
  · have := List.any_eq_false.1 h5 x hx
    unfold sinkB at this
    simpa using this
theorem checkGo_all (l : List Vx) : ∀ (d i : Nat) (ks : List (Int × Int)), i + d = l.length → (checkGo l i (l.drop i) ks).2 = 0 → ∀ j, i ≤ j → j < l.length → Fine l j (vAt l (j : Int)) := by
  intro d
  induction d with
  | zero => intro i ks hi _ j h1 h2; omega
  | succ d ih =>
    intro i ks hi h j h1 h2
    have hlt : i < l.length := by omega
    rw [drop_vAt hlt] at h
    by_cases hv : vertOf l i (vAt l (i : Int)) ks = 0
    · rw [checkGo_ok hv] at h
      by_cases e : j = i
      · subst e
        exact fine_of hv
      · exact ih (i + 1) _ (by omega) h j (by omega) h2
    · rw [checkGo_bad rfl hv] at h
      exact absurd h hv
theorem check_all {l : List Vx} {p : Int} (h : (checkOf l p).2 = 0) : l.length ≤ 24 ∧ ∀ j, j < l.length → Fine l j (vAt l (j : Int)) := by
  unfold checkOf at h
  split at h
  · cases h
  · rename_i hb
    refine ⟨by omega, fun j hj => checkGo_all l l.length 0 [] (by omega) (by rw [List.drop_zero]; exact h) j (Nat.zero_le _) hj⟩
theorem has_len {v : Vx} (hk : 1 ≤ v.f0 ∧ v.f0 ≤ 10) (h : hasB (fmOf v.f0) v = true) : ((v.f0 == 1) != ((v.f1.length : Int) == 0)) = false := by
  unfold hasB at h
  simp only [Bool.and_eq_true, beq_iff_eq] at h
  have h1 := h.1
  by_cases e : v.f0 = 1
  · rw [e, show (fmOf 1).fr = 0 from rfl] at h1
    rw [e, h1]
    rfl
  · have hfr : (fmOf v.f0).fr ≠ 0 := by
      unfold fmOf
      rw [if_neg e]
      repeat' split
      all_goals first | decide | omega
    rw [show (v.f0 == 1) = false by simpa using e, show ((v.f1.length : Int) == 0) = false from beq_eq_false_iff_ne.2 (by rw [h1]; exact hfr)]
    rfl
theorem users_mem (x : Int) (l : List Vx) : ∀ (vs : List Vx) (i : Nat), l.drop i = vs → ∀ u ∈ usersL x i vs, ∃ j : Nat, j < l.length ∧ u = (j : Int) ∧ (vAt l (j : Int)).f1.any (fun y => y == x) = true := by
  intro vs
  induction vs with
  | nil => intro i _ u hu; cases hu
  | cons v vs ih =>
    intro i hd u hu
    have hlt : i < l.length := by
      by_cases h : i < l.length
      · exact h
      · rw [List.drop_eq_nil_of_le (by omega)] at hd; cases hd
    rw [drop_vAt hlt] at hd
    injection hd with hd1 hd2
    rw [usersL] at hu
    split at hu
    · rename_i hc
      rcases List.mem_cons.1 hu with rfl | hu
      · exact ⟨i, hlt, rfl, by rw [hd1]; exact hc⟩
      · exact ih (i + 1) hd2 u hu
    · exact ih (i + 1) hd2 u hu
theorem rings_l2 (l : List Vx) (p : Int) (i : Nat) (t : List Int) (m : Nat) (hm : m < t.length) (j : Nat) (hj : j < l.length) (hu : rd t (m : Int) = (j : Int)) (hij : i < j) (hlen : (vAt l (j : Int)).f1.length ≤ 9223372036854775807) (htl : t.length ≤ 1000)
    (hk : Ev (fun k => tidemilllaw05_TopoRings.l1 k true (i : Int) t ((m + 1 : Nat) : Int) l p) true) :
    ∀ (d q : Nat) (b : Bool), q + d = (vAt l (j : Int)).f1.length → (b || ((vAt l (j : Int)).f1.drop q).any (fun y => y == (i : Int))) = true → Ev (fun k => tidemilllaw05_TopoRings.l2 k true (i : Int) t (m : Int) b (q : Int) l p) true := by
  intro d
  induction d with
  | zero =>
    intro q b hq hb
    rw [List.drop_of_length_le (by omega), List.any_nil, Bool.or_false] at hb
    subst hb
    refine Ev.step (fun k => ?_) hk
    simp only [tidemilllaw05_TopoRings.l2]
    rw [if_pos (by omega), if_pos (by omega), hu, if_pos (by omega), if_pos (by omega), vAt_rd, if_neg (by omega), if_neg (by omega), if_pos trivial, wrapN (by omega)]
  | succ d ih =>
    intro q b hq hb
    have hlt : q < (vAt l (j : Int)).f1.length := by omega
    rw [rd_cons hlt, List.any_cons] at hb
    refine Ev.step (f := fun k => if b = true then tidemilllaw05_TopoRings.l2 k true (i : Int) t (m : Int) true ((q + 1 : Nat) : Int) l p else tidemilllaw05_TopoRings.l2 k true (i : Int) t (m : Int) (rd (vAt l (j : Int)).f1 (q : Int) == (i : Int)) ((q + 1 : Nat) : Int) l p) (fun k => ?_) ?_
    · simp only [tidemilllaw05_TopoRings.l2]
      rw [if_pos (by omega), if_pos (by omega), hu, if_pos (by omega), if_pos (by omega), vAt_rd, if_pos (by omega), if_pos (show (0 : Int) ≤ (q : Int) by omega), wrapN (by omega)]
    · cases b with
      | true =>
        simp only [if_true]
        exact ih (q + 1) true (by omega) (Bool.true_or _)
      | false =>
        simp only [Bool.false_eq_true, if_false]
        exact ih (q + 1) _ (by omega) (by rw [Bool.false_or] at hb; exact hb)
theorem rings_l1 (l : List Vx) (p : Int) (i : Nat) (t : List Int) (htl : t.length ≤ 1000) (hlen : ∀ v ∈ l, v.f1.length ≤ 9223372036854775807) (hi : i < 1000) (ht : ∀ u ∈ t, ∃ j : Nat, j < l.length ∧ u = (j : Int) ∧ i < j ∧ (vAt l (j : Int)).f1.any (fun y => y == (i : Int)) = true)
    (hk : Ev (fun k => tidemilllaw05_TopoRings.l0 k true ((i + 1 : Nat) : Int) l p) true) : ∀ (d m : Nat), m + d = t.length → Ev (fun k => tidemilllaw05_TopoRings.l1 k true (i : Int) t (m : Int) l p) true := by
  intro d
  induction d with
  | zero =>
    intro m hm
    refine Ev.step (fun k => ?_) hk
    simp only [tidemilllaw05_TopoRings.l1]
    rw [if_neg (by omega), wrapN (by omega)]
  | succ d ih =>
    intro m hm
    have hlt : m < t.length := by omega
    obtain ⟨j, hj, hu, hij, ha⟩ := ht _ (rd_memI t m hlt)
    refine Ev.step (f := fun k => tidemilllaw05_TopoRings.l2 k true (i : Int) t (m : Int) false ((0 : Nat) : Int) l p) (fun k => ?_) ?_
    · simp only [tidemilllaw05_TopoRings.l1]
      rw [if_pos (by omega)]
      rfl
    · exact rings_l2 l p i t m hlt j hj hu hij (hlen _ (vAt_mem hj)) htl (ih (m + 1) (by omega)) (vAt l (j : Int)).f1.length 0 false (by omega) (by rw [Bool.false_or, List.drop_zero]; exact ha)
theorem users_short (x : Int) : ∀ (vs : List Vx) (i : Nat), (usersL x i vs).length ≤ vs.length
  | [], _ => Nat.le_refl _
  | v :: vs, i => by
    rw [usersL]
    have := users_short x vs (i + 1)
    split
    · rw [List.length_cons, List.length_cons]; omega
    · rw [List.length_cons]; omega
theorem rings_l0 (l : List Vx) (p : Int) (hl : l.length ≤ 24) (hF : ∀ j, j < l.length → Fine l j (vAt l (j : Int))) (hlen : ∀ v ∈ l, v.f1.length ≤ 9223372036854775807) : ∀ (d i : Nat), i + d = l.length → Ev (fun k => tidemilllaw05_TopoRings.l0 k true (i : Int) l p) true := by
  intro d
  induction d with
  | zero =>
    intro i hi
    refine Ev.step (f := fun _ => some true) (fun k => ?_) (Ev.now _)
    simp only [tidemilllaw05_TopoRings.l0]
    rw [if_neg (by omega)]
  | succ d ih =>
    intro i hi
    have hlt : i < l.length := by omega
    have hf := hF i hlt
    have hus := users_mem (i : Int) l l 0 (by rw [List.drop_zero])
    have hut := users_short (i : Int) l 0
    have ht : ∀ u ∈ usersL (i : Int) 0 l, ∃ j : Nat, j < l.length ∧ u = (j : Int) ∧ i < j ∧ (vAt l (j : Int)).f1.any (fun y => y == (i : Int)) = true := fun u hu => by
      obtain ⟨j, hj, he, ha⟩ := hus u hu
      refine ⟨j, hj, he, ?_, ha⟩
      obtain ⟨y, hy, hyi⟩ := List.any_eq_true.1 ha
      have := ((hF j hj).ahead y hy).2
      rw [beq_iff_eq] at hyi
      omega
    have hsk : (vAt l (i : Int)).f0 = 10 → usersL (i : Int) 0 l = [] := fun h10 => by
      rcases hq : usersL (i : Int) 0 l with _ | ⟨u, us⟩
      · rfl
      · obtain ⟨j, hj, he, ha⟩ := hus u (by rw [hq]; exact List.mem_cons_self)
        obtain ⟨y, hy, hyi⟩ := List.any_eq_true.1 ha
        rw [beq_iff_eq] at hyi
        exact absurd (by rw [hyi]; exact h10) ((hF j hj).sink y hy)
    have hgo : Ev (fun k => tidemilllaw05_TopoRings.j1 k true (i : Int) (usersL (i : Int) 0 l) false l p) true := by
      refine Ev.step (f := fun k => tidemilllaw05_TopoRings.l1 k true (i : Int) (usersL (i : Int) 0 l) ((0 : Nat) : Int) l p) (fun k => by simp only [tidemilllaw05_TopoRings.j1, Bool.false_eq_true, if_false]; rfl) ?_
      exact rings_l1 l p i _ (by omega) hlen (by omega) ht (ih (i + 1) (by omega)) _ 0 (Nat.zero_add _)
    refine Ev.step (f := fun k => (topo_Users.f k l p (i : Int)).bind fun t229 => (if ((vAt l (i : Int)).f0) = 10 then (tidemilllaw05_TopoRings.j1 k true (i : Int) t229 ((t229.length : Int) != 0) l p) else (tidemilllaw05_TopoRings.j1 k true (i : Int) t229 false l p))) (fun k => ?_) ?_
    · simp only [tidemilllaw05_TopoRings.l0]
      rw [if_pos (by omega), if_pos (by omega), vAt_rd]
      simp only [has_len hf.kind hf.has, Bool.false_eq_true, if_false]
    · refine Ev.bind (users_ev l p (i : Int) (by omega) hlen) ?_
      by_cases h10 : (vAt l (i : Int)).f0 = 10
      · simp only [if_pos h10]
        rw [hsk h10] at hgo ⊢
        exact hgo
      · simp only [if_neg h10]
        exact hgo
theorem topoRings_ev (l : List Vx) (p : Int) (hv : ∀ v ∈ l, vxOk v) (hl : l.length ≤ 1759218604441) : Ev (fun k => tidemilllaw05_TopoRings.f k l p) true := by
  have hmx : maxLen ≤ 9223372036854775807 := by decide
  have hm : ∀ v ∈ l, v.f1.length ≤ 9223372036854775807 := fun v h => Nat.le_trans (hv v h).2.1.1 hmx
  unfold tidemilllaw05_TopoRings.f
  refine Ev.bind shown_ev ?_
  obtain ⟨b, hb⟩ := small_ev l p (fun v h => (hv v h).2.2.1) hl
  refine Ev.bind hb ?_
  cases b with
  | false =>
    simp only [Bool.false_eq_true, if_false]
    exact Ev.now _
  | true =>
    simp only [if_true, check_f (fun v h => (hv v h).2.2.2), Option.bind_some]
    by_cases h : (checkOf l p).2 = 0
    · simp only [if_pos h]
      have ha := check_all h
      exact rings_l0 l p ha.1 ha.2 hm l.length 0 (by omega)
    · simp only [if_neg h]
      exact Ev.now _
theorem topoRings_ok (A0 : Option Addr) (c0 : Nat) (l : List Vx) (p : Int) (w : World) (hC : Kd.C k40 w A0 l.length l) (hc : l.length ≤ c0) (hv : ∀ v ∈ l, vxOk v) (hl : l.length ≤ 1759218604441) :
    Calls Try.prog 4 #[.agg #[.slice A0 l.length c0, .int .i64 p]] w fun e w' => e = .returned (.bool true) ∧ Below w.heap.size w w' := by
  obtain ⟨k, hk⟩ := Ev.rounds (topoRings_ev l p hv hl)
  exact tidemilllaw05_TopoRings.calls k A0 c0 l p true w hC hc hk
theorem open_T {w : World} {t : List Vx × Int} {cs : List Value} (h : (Kd.pair (Kd.slice 40 k40) (Kd.int .i64)).K w t cs) : ∃ A c, cs = [.slice A t.1.length c, .int .i64 t.2] ∧ t.1.length ≤ c ∧ Kd.C k40 w A t.1.length t.1 := by
  obtain ⟨_, _, rfl, ⟨A, c, rfl, l1, g1⟩, rfl⟩ := h
  exact ⟨A, c, rfl, l1, g1⟩
end Go.Proofs.Yteanncfmaomhaaa.Ex
