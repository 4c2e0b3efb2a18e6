/- (c16) Plain laws of CutApart: parts' numbers, inputs, users. -/
import Derived.Test.YtlandgbhbfdekaaCtLw
import Derived.Test.YtlandgbhbfdekaaCtMap
import Derived.Test.YtlandgbhbfdekaaEx20
namespace Go.Proofs.Ytlandgbhbfdekaa.Ex
open Go Go.RowKit Go.Proofs.Ytlandgbhbfdekaa.Mk Go.Proofs.YtlandgbhbfdekaaW.PrintWords Go.Proofs.YtlandgbhbfdekaaW.PrintLast Go.Proofs.YtlandgbhbfdekaaW.PrintMore
set_option linter.unusedVariables false
set_option linter.unusedSimpArgs false
theorem run_end {l : List Vx} {fin ls : List Int} (h : PInv l fin ls) (hr : InR l) : (edges l).find? (hitB l fin) = none := by
  obtain ⟨k, h1, h2⟩ := h.run
  induction k generalizing ls with
  | zero => omega
  | succ k ih =>
    rw [runP] at h2
    cases hf : (edges l).find? (hitB l ls) with
    | none => rw [hf] at h2; rw [← h2]; exact hf
    | some p =>
      rw [hf] at h2
      have hlt := hit_lt h hr hf
      exact ih (h.step hr hf) (by omega) h2
theorem least_len {l : List Vx} {p : Int} (h : (checkOf l p).2 = 0) : (leastOf l).length = l.length := runP_len (PInv.start (check_inr h).2.2) (check_inr h).1
theorem least_edge {l : List Vx} {p : Int} (h : (checkOf l p).2 = 0) {i : Nat} (hi : i < l.length) {x : Int} (hx : x ∈ (vAt l (i : Int)).f1) : (vAt l x).f0 = 5 ∨ (leastOf l).getD i 0 = (leastOf l).getD x.toNat 0 := by
  have h1 := run_end (PInv.start (check_inr h).2.2) (check_inr h).1
  rw [List.find?_eq_none] at h1
  rw [vAt_get hi] at hx
  obtain ⟨k, hk, e⟩ := List.getElem_of_mem hx
  have hm : (i, x) ∈ edges l := edge_mem hi hk (by rw [List.getD_eq_getElem?_getD, List.getElem?_eq_getElem hk, e]; rfl)
  have h2 := h1 _ hm
  unfold hitB at h2
  simp only [Bool.and_eq_true, Bool.not_eq_true', beq_eq_false_iff_ne, ne_eq, not_and, Decidable.not_not] at h2
  by_cases h5 : (vAt l x).f0 = 5
  · exact .inl h5
  · have := h2 h5
    unfold rd at this
    rw [Int.toNat_natCast] at this
    exact .inr this
theorem numGo_app : ∀ (xs ys : List Int) (L : List (Int × Int)), numGo L (xs ++ ys) = numGo (numGo L xs) ys := by
  intro xs
  induction xs with
  | nil => intro ys L; rfl
  | cons x xs ih => intro ys L; rw [List.cons_append, numGo, numGo, ih]
theorem lk_snoc_some {L : List (Int × Int)} {k t k' m : Int} (h : lk (L ++ [(k, t)]) k' = some m) : lk L k' = some m ∨ (k = k' ∧ t = m) := by
  rw [lk_snoc] at h
  cases hl : lk L k' with
  | some y => rw [hl] at h; exact .inl h
  | none =>
    rw [hl] at h
    simp only [Option.none_or] at h
    split at h
    · exact .inr ⟨by assumption, by injection h⟩
    · cases h
theorem numGo_lt {x m : Int} : ∀ (xs : List Int) (L : List (Int × Int)), (∀ y q, lk L y = some q → 0 ≤ q ∧ q < (L.length : Int)) → lk (numGo L xs) x = some m → 0 ≤ m ∧ m < ((numGo L xs).length : Int) := by
  intro xs
  induction xs with
  | nil => intro L h hl; exact h _ _ hl
  | cons z xs ih =>
    intro L h hl
    rw [numGo] at hl ⊢
    refine ih _ ?_ hl
    split
    · exact h
    · intro y q hy
      rw [List.length_append, List.length_singleton]
      rcases lk_snoc_some hy with h1 | ⟨_, h1⟩
      · have := h _ _ h1; omega
      · omega
/-- How many parts the first i vertices have. -/
def manyTo (l : List Vx) (i : Nat) : Nat := (numGo [] ((leastOf l).take i)).length
theorem many_zero (l : List Vx) : manyTo l 0 = 0 := rfl
section
variable {l : List Vx} {p : Int}
theorem parts_get (h : (checkOf l p).2 = 0) {i : Nat} (hi : i < l.length) : (partsOf l).getD i 0 = (lk (numGo [] (leastOf l)) ((leastOf l).getD i 0)).getD 0 := by
  unfold partsOf
  have hl := least_len h
  rw [List.getD_eq_getElem?_getD, List.getElem?_map, List.getD_eq_getElem?_getD, List.getElem?_eq_getElem (by omega)]
  rfl
theorem take_drop_num (L : List Int) (i : Nat) : numGo [] L = numGo (numGo [] (L.take i)) (L.drop i) := by rw [← numGo_app, List.take_append_drop]
/-- A label that has come. -/
theorem part_old (h : (checkOf l p).2 = 0) {i : Nat} (hi : i < l.length) {m : Int} (hm : lk (numGo [] ((leastOf l).take i)) ((leastOf l).getD i 0) = some m) : (partsOf l).getD i 0 = m ∧ 0 ≤ m ∧ m < (manyTo l i : Int) ∧ manyTo l (i + 1) = manyTo l i := by
  have hl := least_len h
  have h1 := numGo_keeps ((leastOf l).drop i) _ hm
  rw [← take_drop_num] at h1
  have h2 := numGo_lt _ [] (fun y q hy => by cases hy) hm
  refine ⟨by rw [parts_get h hi, h1]; rfl, h2.1, h2.2, ?_⟩
  unfold manyTo
  rw [numGo_old rfl (by omega) rfl hm]
theorem part_new (h : (checkOf l p).2 = 0) {i : Nat} (hi : i < l.length) (hm : lk (numGo [] ((leastOf l).take i)) ((leastOf l).getD i 0) = none) : (partsOf l).getD i 0 = (manyTo l i : Int) ∧ manyTo l (i + 1) = manyTo l i + 1 := by
  have hl := least_len h
  have hn := numGo_new rfl (show i < (leastOf l).length by omega) rfl hm
  have h0 : lk (numGo [] ((leastOf l).take (i + 1))) ((leastOf l).getD i 0) = some (manyTo l i : Int) := by
    rw [hn, lk_snoc, hm, if_pos rfl]
    rfl
  have h1 := numGo_keeps ((leastOf l).drop (i + 1)) _ h0
  rw [← take_drop_num] at h1
  refine ⟨by rw [parts_get h hi, h1]; rfl, ?_⟩
  unfold manyTo
  rw [hn, List.length_append]
  rfl
theorem part_step (h : (checkOf l p).2 = 0) {i : Nat} (hi : i < l.length) : 0 ≤ (partsOf l).getD i 0 ∧ (partsOf l).getD i 0 ≤ (manyTo l i : Int) ∧ manyTo l (i + 1) = (if (partsOf l).getD i 0 = (manyTo l i : Int) then manyTo l i + 1 else manyTo l i) := by
  cases hm : lk (numGo [] ((leastOf l).take i)) ((leastOf l).getD i 0) with
  | some m =>
    obtain ⟨e, h0, h1, h2⟩ := part_old h hi hm
    rw [e, if_neg (by omega)]
    exact ⟨h0, by omega, h2⟩
  | none =>
    obtain ⟨e, h2⟩ := part_new h hi hm
    rw [e, if_pos rfl]
    exact ⟨by omega, by omega, h2⟩
theorem many_le (h : (checkOf l p).2 = 0) : ∀ i, i ≤ l.length → manyTo l i ≤ i := by
  intro i
  induction i with
  | zero => intro _; exact Nat.le_of_eq (many_zero l)
  | succ i ih =>
    intro hi
    have := (part_step h (show i < l.length by omega)).2.2
    have := ih (by omega)
    split at * <;> omega
theorem many_mono (h : (checkOf l p).2 = 0) {i : Nat} : ∀ d, i + d ≤ l.length → manyTo l i ≤ manyTo l (i + d) := by
  intro d
  induction d with
  | zero => intro _; exact Nat.le_refl _
  | succ d ih =>
    intro hd
    have h1 := (part_step h (show i + d < l.length by omega)).2.2
    have h2 := ih (by omega)
    rw [show i + (d + 1) = i + d + 1 by omega, h1]
    split <;> omega
theorem part_lt (h : (checkOf l p).2 = 0) {i : Nat} (hi : i < l.length) : (partsOf l).getD i 0 < (manyTo l l.length : Int) := by
  have h1 := part_step h hi
  have h2 := many_mono h (i := i + 1) (l.length - (i + 1)) (by omega)
  rw [show i + 1 + (l.length - (i + 1)) = l.length by omega] at h2
  have h3 := h1.2.2
  split at h3 <;> omega
/-- Each part has a first vertex. -/
theorem part_first (h : (checkOf l p).2 = 0) : ∀ (k : Nat), k ≤ l.length → ∀ m : Nat, m < manyTo l k → ∃ i, i < k ∧ (partsOf l).getD i 0 = (m : Int) ∧ lk (numGo [] ((leastOf l).take i)) ((leastOf l).getD i 0) = none := by
  intro k
  induction k with
  | zero => intro _ m hm; rw [many_zero] at hm; omega
  | succ k ih =>
    intro hk m hm
    by_cases hlt : m < manyTo l k
    · obtain ⟨i, h1, h2⟩ := ih (by omega) m hlt
      exact ⟨i, by omega, h2⟩
    · cases hn : lk (numGo [] ((leastOf l).take k)) ((leastOf l).getD k 0) with
      | some q =>
        have := (part_old h (show k < l.length by omega) hn).2.2.2
        omega
      | none =>
        have h1 := part_new h (show k < l.length by omega) hn
        have e : manyTo l k = m := by omega
        exact ⟨k, by omega, by rw [h1.1, e], hn⟩
theorem part_edge (h : (checkOf l p).2 = 0) {i : Nat} (hi : i < l.length) {x : Int} (hx : x ∈ (vAt l (i : Int)).f1) : (vAt l x).f0 = 5 ∨ (partsOf l).getD x.toNat 0 = (partsOf l).getD i 0 := by
  have hr := at_from h hi hx
  rcases least_edge h hi hx with h1 | h1
  · exact .inl h1
  · exact .inr (by rw [parts_get h hi, parts_get h (show x.toNat < l.length by omega), h1])
theorem go_vert (l : List Vx) : ∀ (vs : List Vx) (i : Nat) (ks : List (Int × Int)), (checkGo l i vs ks).2 = 0 → ∀ k, (hk : k < vs.length) → ∃ ks, vertOf l (i + k) vs[k] ks = 0 := by
  intro vs
  induction vs with
  | nil => intro i ks _ k hk; simp at hk
  | cons v vs ih =>
    intro i ks h k hk
    rw [checkGo] at h
    by_cases hv : vertOf l i v ks = 0
    · rw [if_pos hv] at h
      cases k with
      | zero => exact ⟨ks, hv⟩
      | succ k =>
        obtain ⟨ks', h'⟩ := ih (i + 1) _ h k (by simpa using hk)
        exact ⟨ks', by rw [show i + (k + 1) = i + 1 + k by omega]; exact h'⟩
    · rw [if_neg hv] at h
      exact absurd h hv
theorem at_vert (h : (checkOf l p).2 = 0) {i : Nat} (hi : i < l.length) : ∃ ks, vertOf l i (vAt l (i : Int)) ks = 0 := by
  unfold checkOf at h
  by_cases h1 : p < 1 ∨ 8 < p ∨ l.length = 0 ∨ 24 < l.length
  · rw [if_pos h1] at h; exact absurd h (by decide)
  rw [if_neg h1] at h
  obtain ⟨ks, h2⟩ := go_vert l l 0 [] h i hi
  rw [Nat.zero_add] at h2
  exact ⟨ks, by rw [vAt_get hi]; exact h2⟩
theorem vert_source {i : Nat} {v : Vx} {ks : List (Int × Int)} (h : vertOf l i v ks = 0) (h0 : v.f1 = []) : v.f0 = 1 := by
  unfold vertOf at h
  by_cases h1 : v.f0 < 1 ∨ 10 < v.f0
  · rw [if_pos h1] at h; exact absurd h (by decide)
  rw [if_neg h1] at h
  by_cases h2 : v.f1.any (badB i) = true
  · rw [if_pos h2] at h; exact absurd h (by decide)
  rw [if_neg h2] at h
  by_cases h3 : hasB (fmOf v.f0) v = false
  · rw [if_pos h3] at h; exact absurd h (by decide)
  have h4 : hasB (fmOf v.f0) v = true := by simpa using h3
  unfold hasB at h4
  simp only [Bool.and_eq_true, beq_iff_eq, h0] at h4
  have h5 := h4.1
  have e : v.f0 = 1 ∨ v.f0 = 2 ∨ v.f0 = 3 ∨ v.f0 = 4 ∨ v.f0 = 5 ∨ v.f0 = 6 ∨ v.f0 = 7 ∨ v.f0 = 8 ∨ v.f0 = 9 ∨ v.f0 = 10 := by omega
  rcases e with e | e | e | e | e | e | e | e | e | e
  · exact e
  all_goals (rw [e] at h5; exact absurd h5 (by decide))
theorem vert_ahead {i : Nat} {v : Vx} {ks : List (Int × Int)} (h : vertOf l i v ks = 0) : ∀ x ∈ v.f1, 0 ≤ x ∧ x < (i : Int) := vert_from h
theorem mem_gTo {ps : List Int} {m x : Int} {n : Nat} : x ∈ gTo l ps m n ↔ ∃ j, j < n ∧ ps.getD j 0 = m ∧ (((vAt l (j : Int)).f0 = 1 ∧ x = (j : Int)) ∨ (x ∈ (vAt l (j : Int)).f1 ∧ (vAt l x).f0 = 5)) := by
  unfold gTo
  rw [List.mem_flatMap]
  constructor
  · rintro ⟨j, hj, hx⟩
    refine ⟨j, List.mem_range.1 hj, ?_⟩
    unfold gOne at hx
    split at hx
    · rename_i e
      refine ⟨e, ?_⟩
      rcases List.mem_append.1 hx with hx | hx
      · split at hx
        · rename_i e1
          exact .inl ⟨e1, List.mem_singleton.1 hx⟩
        · cases hx
      · obtain ⟨h1, h2⟩ := List.mem_filter.1 hx
        unfold fiveB at h2
        exact .inr ⟨h1, by simpa using h2⟩
    · cases hx
  · rintro ⟨j, hj, e, hx⟩
    refine ⟨j, List.mem_range.2 hj, ?_⟩
    unfold gOne
    rw [if_pos e]
    rcases hx with ⟨e1, rfl⟩ | ⟨h1, h2⟩
    · rw [if_pos e1]
      exact List.mem_append.2 (.inl (List.mem_singleton.2 rfl))
    · exact List.mem_append.2 (.inr (List.mem_filter.2 ⟨h1, by unfold fiveB; simpa using h2⟩))
/-- Each part has an input. -/
theorem inputs_some (h : (checkOf l p).2 = 0) {m : Nat} (hm : m < manyTo l l.length) : 0 < (inputsOf l (partsOf l) (m : Int)).length := by
  obtain ⟨i, hi, e, hn⟩ := part_first h l.length (Nat.le_refl _) m hm
  have hpl := parts_len h
  suffices hs : ∃ x, x ∈ gTo l (partsOf l) (m : Int) (partsOf l).length by
    obtain ⟨x, hx⟩ := hs
    refine List.length_pos_iff.2 (fun h0 => ?_)
    have : x ∈ inputsOf l (partsOf l) (m : Int) := by
      unfold inputsOf
      rw [List.mem_filter, mem_iota]
      exact ⟨gTo_mem h (by omega) hx, by simpa using hx⟩
    rw [h0] at this
    cases this
  obtain ⟨ks, hv⟩ := at_vert h hi
  by_cases h0 : (vAt l (i : Int)).f1 = []
  · exact ⟨(i : Int), mem_gTo.2 ⟨i, by omega, e, .inl ⟨vert_source hv h0, rfl⟩⟩⟩
  · obtain ⟨x, hx⟩ := List.exists_mem_of_ne_nil _ h0
    rcases least_edge h hi hx with h5 | h5
    · exact ⟨x, mem_gTo.2 ⟨i, by omega, e, .inr ⟨hx, h5⟩⟩⟩
    · exfalso
      have ha := vert_ahead hv x hx
      have hl := least_len h
      have hmem : (leastOf l).getD i 0 ∈ (leastOf l).take i := by
        rw [h5, List.getD_eq_getElem?_getD, List.getElem?_eq_getElem (by omega)]
        exact List.mem_take_iff_getElem.2 ⟨x.toNat, by omega, rfl⟩
      obtain ⟨q, hq⟩ := numGo_has _ [] hmem
      rw [hn] at hq
      cases hq
def usersOf (x : Int) : Nat → List Vx → List Int
  | _, [] => []
  | i, v :: vs => if v.f1.any (fun y => y == x) = true then (i : Int) :: usersOf x (i + 1) vs else usersOf x (i + 1) vs
theorem mem_users {x : Int} : ∀ (vs : List Vx) (i j : Nat) (hj : j < vs.length), x ∈ (vs[j]).f1 → ((i + j : Nat) : Int) ∈ usersOf x i vs := by
  intro vs
  induction vs with
  | nil => intro i j hj; simp at hj
  | cons v vs ih =>
    intro i j hj hx
    rw [usersOf]
    cases j with
    | zero =>
      have : v.f1.any (fun y => y == x) = true := List.any_eq_true.2 ⟨x, hx, by simp⟩
      rw [if_pos this]
      exact List.mem_cons_self
    | succ j =>
      have := ih (i + 1) j (by simpa using hj) hx
      rw [show i + 1 + j = i + (j + 1) by omega] at this
      split
      · exact List.mem_cons_of_mem _ this
      · exact this
theorem users_range {x : Int} : ∀ (vs : List Vx) (i : Nat), ∀ u ∈ usersOf x i vs, (i : Int) ≤ u ∧ u < ((i + vs.length : Nat) : Int) := by
  intro vs
  induction vs with
  | nil => intro i u hu; cases hu
  | cons v vs ih =>
    intro i u hu
    rw [usersOf] at hu
    split at hu
    · rcases List.mem_cons.1 hu with rfl | hu
      · simp only [List.length_cons]; omega
      · have := ih (i + 1) u hu
        simp only [List.length_cons]; omega
    · have := ih (i + 1) u hu
      simp only [List.length_cons]; omega
/-- Does a part read a vertex's log? -/
def readsB (l : List Vx) (ps : List Int) (m x : Int) : Bool := ((vAt l x).f0 == 1 && ps.getD x.toNat 0 == m) || ((vAt l x).f0 == 5 && (usersOf x 0 l).any (fun u => ps.getD u.toNat 0 == m))
theorem inputs_read (h : (checkOf l p).2 = 0) {m x : Int} (hx : x ∈ inputsOf l (partsOf l) m) : 0 ≤ x ∧ x < (l.length : Int) ∧ readsB l (partsOf l) m x = true := by
  unfold inputsOf at hx
  rw [List.mem_filter, mem_iota, decide_eq_true_eq, mem_gTo] at hx
  obtain ⟨⟨x0, x1⟩, j, hj, e, hx⟩ := hx
  have hpl := parts_len h
  refine ⟨x0, x1, ?_⟩
  unfold readsB
  rw [Bool.or_eq_true, Bool.and_eq_true, Bool.and_eq_true]
  rcases hx with ⟨h1, rfl⟩ | ⟨h1, h5⟩
  · exact .inl ⟨by simpa using h1, by rw [Int.toNat_natCast]; simpa using e⟩
  · refine .inr ⟨by simpa using h5, List.any_eq_true.2 ⟨(j : Int), ?_, by rw [Int.toNat_natCast]; simpa using e⟩⟩
    rw [vAt_get (by omega)] at h1
    have := mem_users l 0 j (by omega) h1
    rwa [Nat.zero_add] at this
theorem inputs_beyond (h : (checkOf l p).2 = 0) : inputsOf l (partsOf l) (manyTo l l.length : Int) = [] := by
  refine List.eq_nil_iff_forall_not_mem.2 (fun x hx => ?_)
  unfold inputsOf at hx
  rw [List.mem_filter, decide_eq_true_eq, mem_gTo] at hx
  obtain ⟨_, j, hj, e, _⟩ := hx
  have := part_lt h (show j < l.length by rw [← parts_len h]; exact hj)
  omega
theorem max_many (h : (checkOf l p).2 = 0) : ∀ i, i < l.length → mx (partsOf l) (i + 1) = (manyTo l (i + 1) : Int) - 1 := by
  have hpl := parts_len h
  intro i
  induction i with
  | zero =>
    intro hi
    have h1 := part_step h hi
    rw [mx_one (by omega)]
    rw [many_zero] at h1
    have h2 : (partsOf l).getD 0 0 = 0 := by omega
    rw [h2] at h1 ⊢
    have h4 := h1.2.2
    rw [if_pos (by rfl)] at h4
    omega
  | succ i ih =>
    intro hi
    have h1 := part_step h hi
    rw [mx_succ (by omega), ih (by omega)]
    have h2 := h1.2.2
    split at h2 <;> omega
theorem tasks_many (h : (checkOf l p).2 = 0) (hi : ∀ v ∈ l, I64 v.f3) : cut_Tasks.f l p = some ((manyTo l l.length : Int) * p) := by
  have hpl := parts_len h
  have hp := ctPos h
  unfold cut_Tasks.f
  rw [ctParts hi, Option.bind_some]
  simp only [if_pos h]
  unfold slices_Max_int_int.f
  have h3 : partsOf l ≠ [] := fun e => by rw [e] at hpl; simp at hpl; omega
  rw [if_neg h3, Option.bind_some]
  have h4 := max_many h (l.length - 1) (by omega)
  rw [show l.length - 1 + 1 = l.length by omega] at h4
  rw [hpl, h4]
  have h5 := many_le h l.length (Nat.le_refl _)
  generalize manyTo l l.length = M at h5
  have e1 : wrap64 ((M : Int) - 1 + 1) = (M : Int) := by unfold wrap64; omega
  rw [e1]
  congr 1
  have hp1 := hp.1
  have hp2 := hp.2.1
  have : p = 1 ∨ p = 2 ∨ p = 3 ∨ p = 4 ∨ p = 5 ∨ p = 6 ∨ p = 7 ∨ p = 8 := by omega
  rcases this with rfl | rfl | rfl | rfl | rfl | rfl | rfl | rfl <;> (unfold wrap64; omega)
theorem tasks_bad (h : (checkOf l p).2 ≠ 0) (hi : ∀ v ∈ l, I64 v.f3) : cut_Tasks.f l p = some 0 := by
  unfold cut_Tasks.f
  rw [ctParts hi, Option.bind_some]
  simp only [if_neg h]
end
theorem inputs_f {l : List Vx} {p : Int} (h : (checkOf l p).2 = 0) (hi : ∀ v ∈ l, I64 v.f3) (m : Int) : cut_Inputs.f l p m = some (inputsOf l (partsOf l) m) := by
  unfold cut_Inputs.f
  rw [if_pos (ctOkV hi), if_pos h]
theorem apDrop {l : List Vx} {k : Nat} (h : k < l.length) : l.drop k = vAt l (k : Int) :: l.drop (k + 1) := by rw [List.drop_eq_getElem_cons h, vAt_get h]
theorem apRd {xs : List Int} {k : Nat} (h : k < xs.length) : xs.drop k = rd xs (k : Int) :: xs.drop (k + 1) := by
  rw [List.drop_eq_getElem_cons h]
  unfold rd
  rw [Int.toNat_natCast, List.getD_eq_getElem?_getD, List.getElem?_eq_getElem h]
  rfl
theorem apIndex (xs : List Int) (x : Int) (hm : xs.length ≤ 9223372036854775807) : ∀ (d j : Nat), j + d = xs.length → ∃ r : Int, Ev (fun k => slices_Index_int_int.l0 k xs x (xs.length : Int) (j : Int)) r ∧ decide (r ≥ 0) = (xs.drop j).any (fun y => y == x) := by
  intro d
  induction d with
  | zero =>
    intro j hj
    rw [List.drop_of_length_le (by omega)]
    refine ⟨-1, Ev.step (f := fun _ => some (-1)) (fun k => ?_) (Ev.now _), rfl⟩
    simp only [slices_Index_int_int.l0]
    rw [if_neg (by omega)]
  | succ d ih =>
    intro j hj
    have hlt : j < xs.length := by omega
    rw [apRd hlt, List.any_cons]
    by_cases h : x = rd xs (j : Int)
    · refine ⟨(j : Int), Ev.step (f := fun _ => some (j : Int)) (fun k => ?_) (Ev.now _), ?_⟩
      · simp only [slices_Index_int_int.l0]
        rw [if_pos (by omega), if_pos (by omega), if_pos (by omega), if_pos h]
      · rw [show (rd xs (j : Int) == x) = true by simpa using h.symm, Bool.true_or]
        simp
    · obtain ⟨r, h1, h2⟩ := ih (j + 1) (by omega)
      refine ⟨r, Ev.step (fun k => ?_) h1, ?_⟩
      · simp only [slices_Index_int_int.l0]
        rw [if_pos (by omega), if_pos (by omega), if_pos (by omega), if_neg h, ctWrap (by omega)]
      · rw [h2, show (rd xs (j : Int) == x) = false by simpa using fun e => h e.symm, Bool.false_or]
theorem apContains (xs : List Int) (x : Int) (hm : xs.length ≤ 9223372036854775807) : Ev (fun k => slices_Contains_int_int.f k xs x) (xs.any (fun y => y == x)) := by
  obtain ⟨r, h1, h2⟩ := apIndex xs x hm xs.length 0 (by omega)
  rw [List.drop_zero] at h2
  rw [← h2]
  unfold slices_Contains_int_int.f slices_Index_int_int.f
  exact Ev.bind h1 (Ev.now _)
theorem apUsers_l0 (l : List Vx) (x : Int) (hl : l.length ≤ 1759218604441) (hm : ∀ v ∈ l, v.f1.length ≤ 9223372036854775807) : ∀ (d i : Nat) (acc : List Int), i + d = l.length → acc.length ≤ i → Ev (fun k => topo_Users.l0 k x acc l (l.length : Int) (i : Int)) (acc ++ usersOf x i (l.drop i)) := by
  intro d
  induction d with
  | zero =>
    intro i acc hi ha
    rw [List.drop_of_length_le (by omega), usersOf, List.append_nil]
    refine Ev.step (f := fun _ => some acc) (fun k => ?_) (Ev.now _)
    simp only [topo_Users.l0]
    rw [if_neg (by omega)]
  | succ d ih =>
    intro i acc hi ha
    have hlt : i < l.length := by omega
    rw [apDrop hlt, usersOf]
    have hmm := hm _ (ctVmem hlt)
    refine Ev.step (f := fun k => (slices_Contains_int_int.f k (vAt l (i : Int)).f1 x).bind fun t126 => if t126 = true then (if acc.length < 17592186044416 then topo_Users.l0 k x (acc ++ [(i : Int)]) l (l.length : Int) ((i + 1 : Nat) : Int) else none) else topo_Users.l0 k x acc l (l.length : Int) ((i + 1 : Nat) : Int)) (fun k => ?_) ?_
    · simp only [topo_Users.l0]
      rw [if_pos (by omega), if_pos (by omega), if_pos (by omega), show ∀ y, rd_T37 l y = vAt l y from fun _ => rfl, ctWrap (by omega)]
    · refine Ev.bind (apContains _ x hmm) ?_
      cases (vAt l (i : Int)).f1.any (fun y => y == x) with
      | true =>
        simp only [if_true, if_pos (show acc.length < 17592186044416 by omega)]
        have := ih (i + 1) (acc ++ [(i : Int)]) (by omega) (by simp; omega)
        rwa [List.append_assoc, List.singleton_append] at this
      | false =>
        simp only [Bool.false_eq_true, if_false]
        exact ih (i + 1) acc (by omega) (by omega)
theorem apUsers (l : List Vx) (p x : Int) (hl : l.length ≤ 1759218604441) (hm : ∀ v ∈ l, v.f1.length ≤ 9223372036854775807) : ∃ k, topo_Users.f k l p x = some (usersOf x 0 l) := by
  have := apUsers_l0 l x hl hm l.length 0 [] (by omega) (by simp)
  rw [List.drop_zero, List.nil_append] at this
  exact Ev.rounds (g := fun k => topo_Users.f k l p x) this
end Go.Proofs.Ytlandgbhbfdekaa.Ex
