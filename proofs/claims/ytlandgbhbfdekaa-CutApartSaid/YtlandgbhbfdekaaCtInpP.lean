/- (c16) Plain laws of cut.Inputs: what is gathered; sorted, without doubles. -/
import Derived.Test.YtlandgbhbfdekaaCtNum
import Derived.Test.YtlandgbhbfdekaaCtEdge
import Derived.Lib.SlicesCompact
namespace Go.Proofs.Ytlandgbhbfdekaa.Ex
open Go Go.RowKit Go.Proofs.YtlandgbhbfdekaaW.PrintWords Go.Proofs.YtlandgbhbfdekaaW.PrintLast Go.Proofs.YtlandgbhbfdekaaW.PrintMore
set_option linter.unusedVariables false
set_option linter.unusedSimpArgs false
def fiveB (l : List Vx) (x : Int) : Bool := (vAt l x).f0 == 5
/-- What a vertex's part reads of it. -/
def gOne (l : List Vx) (part : Int) (i : Nat) (q : Int) : List Int :=
  if q = part then (if (vAt l (i : Int)).f0 = 1 then [(i : Int)] else []) ++ (vAt l (i : Int)).f1.filter (fiveB l) else []
def gTo (l : List Vx) (ps : List Int) (part : Int) (i : Nat) : List Int := (List.range i).flatMap fun j => gOne l part j (ps.getD j 0)
theorem gTo_zero (l : List Vx) (ps : List Int) (part : Int) : gTo l ps part 0 = [] := rfl
theorem gTo_succ (l : List Vx) (ps : List Int) (part : Int) (i : Nat) : gTo l ps part (i + 1) = gTo l ps part i ++ gOne l part i (ps.getD i 0) := by
  unfold gTo
  rw [List.range_succ, List.flatMap_append, List.flatMap_cons, List.flatMap_nil, List.append_nil]
theorem form_few (k : Int) : (fmOf k).fr ≤ 2 := by
  unfold fmOf
  split
  · decide
  · split
    · decide
    · split
      · decide
      · split
        · decide
        · split
          · decide
          · split <;> decide
theorem vert_few {l : List Vx} {i : Nat} {v : Vx} {ks : List (Int × Int)} (h : vertOf l i v ks = 0) : v.f1.length ≤ 2 := by
  unfold vertOf at h
  by_cases h1 : v.f0 < 1 ∨ 10 < v.f0
  · rw [if_pos h1] at h; exact absurd h (by decide)
  rw [if_neg h1] at h
  by_cases h2 : v.f1.any (badB i) = true
  · rw [if_pos h2] at h; exact absurd h (by decide)
  rw [if_neg h2] at h
  by_cases h3 : hasB (fmOf v.f0) v = false
  · rw [if_pos h3] at h; exact absurd h (by decide)
  have h4 : hasB (fmOf v.f0) v = true := by simpa using h3
  unfold hasB at h4
  simp only [Bool.and_eq_true, beq_iff_eq] at h4
  have := form_few v.f0
  omega
theorem go_few (l : List Vx) : ∀ (vs : List Vx) (i : Nat) (ks : List (Int × Int)), (checkGo l i vs ks).2 = 0 → ∀ v ∈ vs, v.f1.length ≤ 2 := by
  intro vs
  induction vs with
  | nil => intro i ks _ v hv; cases hv
  | cons v vs ih =>
    intro i ks h u hu
    rw [checkGo] at h
    by_cases hv : vertOf l i v ks = 0
    · rw [if_pos hv] at h
      rcases List.mem_cons.1 hu with rfl | hu
      · exact vert_few hv
      · exact ih (i + 1) _ h u hu
    · rw [if_neg hv] at h
      exact absurd h hv
theorem check_few {l : List Vx} {p : Int} (h : (checkOf l p).2 = 0) : ∀ v ∈ l, v.f1.length ≤ 2 := by
  unfold checkOf at h
  by_cases h1 : p < 1 ∨ 8 < p ∨ l.length = 0 ∨ 24 < l.length
  · rw [if_pos h1] at h; exact absurd h (by decide)
  rw [if_neg h1] at h
  exact go_few l l 0 [] h
theorem vAt_get {l : List Vx} {i : Nat} (h : i < l.length) : vAt l (i : Int) = l[i] := by
  unfold vAt rd_T37
  rw [Int.toNat_natCast, List.getD_eq_getElem?_getD, List.getElem?_eq_getElem h]
  rfl
theorem at_few {l : List Vx} {p : Int} (h : (checkOf l p).2 = 0) {i : Nat} (hi : i < l.length) : (vAt l (i : Int)).f1.length ≤ 2 := by
  rw [vAt_get hi]
  exact check_few h _ (List.getElem_mem _)
theorem at_from {l : List Vx} {p : Int} (h : (checkOf l p).2 = 0) {i : Nat} (hi : i < l.length) {x : Int} (hx : x ∈ (vAt l (i : Int)).f1) : 0 ≤ x ∧ x < (l.length : Int) := by
  rw [vAt_get hi] at hx
  obtain ⟨k, hk, e⟩ := List.getElem_of_mem hx
  have hm : (i, x) ∈ edges l := edge_mem hi hk (by rw [List.getD_eq_getElem?_getD, List.getElem?_eq_getElem hk, e]; rfl)
  have := (check_inr h).1 _ hm
  exact this.2
theorem gOne_len {l : List Vx} {p part : Int} (h : (checkOf l p).2 = 0) {i : Nat} (hi : i < l.length) (q : Int) : (gOne l part i q).length ≤ 3 := by
  have h1 := at_few h hi
  have h2 := List.length_filter_le (fiveB l) (vAt l (i : Int)).f1
  unfold gOne
  split
  · rw [List.length_append]
    split <;> simp <;> omega
  · simp
theorem gTo_len {l : List Vx} {p part : Int} {ps : List Int} (h : (checkOf l p).2 = 0) : ∀ i, i ≤ l.length → (gTo l ps part i).length ≤ 3 * i := by
  intro i
  induction i with
  | zero => intro _; simp [gTo_zero]
  | succ i ih =>
    intro hi
    rw [gTo_succ, List.length_append]
    have h1 := ih (by omega)
    have h2 := gOne_len (part := part) h (show i < l.length by omega) (ps.getD i 0)
    omega
theorem gOne_mem {l : List Vx} {p part : Int} (h : (checkOf l p).2 = 0) {i : Nat} (hi : i < l.length) {q x : Int} (hx : x ∈ gOne l part i q) : 0 ≤ x ∧ x < (l.length : Int) := by
  unfold gOne at hx
  split at hx
  · rcases List.mem_append.1 hx with hx | hx
    · split at hx
      · rw [List.mem_singleton] at hx; omega
      · cases hx
    · exact at_from h hi (List.mem_filter.1 hx).1
  · cases hx
theorem gTo_mem {l : List Vx} {p part : Int} {ps : List Int} (h : (checkOf l p).2 = 0) {i : Nat} (hi : i ≤ l.length) {x : Int} (hx : x ∈ gTo l ps part i) : 0 ≤ x ∧ x < (l.length : Int) := by
  unfold gTo at hx
  obtain ⟨j, hj, hx⟩ := List.mem_flatMap.1 hx
  have := List.mem_range.1 hj
  exact gOne_mem h (by omega) hx
/-- Compact of a sorted list rises, and has the same elements. -/
theorem compact_rises (d : Array Int) (hs : ∀ j, j + 1 < d.size → d[j]! ≤ d[j + 1]!) : ∀ m, m ≤ d.size →
    (Lib.compactUpTo d m).Pairwise (· < ·) ∧ (∀ x, x ∈ Lib.compactUpTo d m ↔ ∃ j, j < m ∧ d[j]! = x) ∧ (∀ x ∈ Lib.compactUpTo d m, ∀ k, k + 1 = m → x ≤ d[k]!) := by
  intro m
  induction m with
  | zero =>
    intro _
    refine ⟨List.Pairwise.nil, fun x => ⟨fun h => (List.not_mem_nil h).elim, fun h => ?_⟩, fun x h => (List.not_mem_nil h).elim⟩
    obtain ⟨j, hj, _⟩ := h
    omega
  | succ m ih =>
    intro hm
    obtain ⟨h1, h2, h3⟩ := ih (by omega)
    have hle : ∀ x ∈ Lib.compactUpTo d m, x ≤ d[m]! := by
      intro x hx
      rcases Nat.eq_zero_or_pos m with h0 | h0
      · obtain ⟨j, hj, _⟩ := (h2 x).1 hx
        omega
      · have h4 := h3 x hx (m - 1) (by omega)
        have h5 := hs (m - 1) (by omega)
        rw [show m - 1 + 1 = m by omega] at h5
        omega
    rw [Lib.compactUpTo_succ]
    by_cases hk : Lib.keeps d m = true
    · rw [if_pos hk]
      have hlt : ∀ x ∈ Lib.compactUpTo d m, x < d[m]! := by
        intro x hx
        rcases Nat.eq_zero_or_pos m with h0 | h0
        · obtain ⟨j, hj, _⟩ := (h2 x).1 hx
          omega
        · have h4 := h3 x hx (m - 1) (by omega)
          have h5 := hs (m - 1) (by omega)
          rw [show m - 1 + 1 = m by omega] at h5
          have h6 : d[m]! ≠ d[m - 1]! := by
            unfold Lib.keeps at hk
            simp only [decide_eq_true_eq] at hk
            rcases hk with hk | hk
            · omega
            · exact hk
          omega
      refine ⟨List.pairwise_append.2 ⟨h1, List.pairwise_singleton _ _, fun a ha b hb => ?_⟩, fun x => ?_, fun x hx k hk2 => ?_⟩
      · rw [List.mem_singleton] at hb
        rw [hb]
        exact hlt a ha
      · rw [List.mem_append, h2, List.mem_singleton]
        constructor
        · rintro (⟨j, hj, e⟩ | e)
          · exact ⟨j, by omega, e⟩
          · exact ⟨m, by omega, e.symm⟩
        · rintro ⟨j, hj, e⟩
          rcases Nat.lt_succ_iff_lt_or_eq.1 hj with h | rfl
          · exact .inl ⟨j, h, e⟩
          · exact .inr e.symm
      · obtain rfl : k = m := by omega
        rcases List.mem_append.1 hx with hx | hx
        · exact hle x hx
        · rw [List.mem_singleton] at hx
          omega
    · rw [if_neg hk, List.append_nil]
      have h6 : m ≠ 0 ∧ d[m]! = d[m - 1]! := by
        unfold Lib.keeps at hk
        simp only [decide_eq_true_eq, not_or, Decidable.not_not] at hk
        exact hk
      refine ⟨h1, fun x => ?_, fun x hx k hk2 => ?_⟩
      · rw [h2]
        constructor
        · rintro ⟨j, hj, e⟩
          exact ⟨j, by omega, e⟩
        · rintro ⟨j, hj, e⟩
          rcases Nat.lt_succ_iff_lt_or_eq.1 hj with h | rfl
          · exact ⟨j, h, e⟩
          · exact ⟨j - 1, by omega, by rw [← h6.2]; exact e⟩
      · obtain rfl : k = m := by omega
        exact hle x hx
theorem rises_eq {xs ys : List Int} (hx : xs.Pairwise (· < ·)) (hy : ys.Pairwise (· < ·)) (h : ∀ x, x ∈ xs ↔ x ∈ ys) : xs = ys := by
  have nx : xs.Nodup := hx.imp (fun h => by omega)
  have ny : ys.Nodup := hy.imp (fun h => by omega)
  refine List.Perm.eq_of_pairwise (le := fun a b : Int => decide (a ≤ b) = true) (fun a b _ _ h1 h2 => by simp only [decide_eq_true_eq] at h1 h2; omega) (hx.imp (fun h => by simp; omega)) (hy.imp (fun h => by simp; omega)) ?_
  exact (List.perm_ext_iff_of_nodup nx ny).2 h
theorem iota_rises (n : Nat) : (iota n).Pairwise (· < ·) := by
  unfold iota
  refine List.pairwise_map.2 (List.pairwise_lt_range.imp (fun h => by omega))
theorem mem_iota {n : Nat} {x : Int} : x ∈ iota n ↔ 0 ≤ x ∧ x < (n : Int) := by
  unfold iota
  rw [List.mem_map]
  constructor
  · rintro ⟨j, hj, rfl⟩
    have := List.mem_range.1 hj
    omega
  · rintro ⟨h0, h1⟩
    exact ⟨x.toNat, List.mem_range.2 (by omega), by omega⟩
/-- The inputs of a part. -/
def inputsOf (l : List Vx) (ps : List Int) (part : Int) : List Int := (iota l.length).filter fun v => decide (v ∈ gTo l ps part ps.length)
theorem sorted_inputs {l : List Vx} {p part : Int} {ps : List Int} (h : (checkOf l p).2 = 0) (hl : ps.length = l.length) : Lib.compact ((gTo l ps part ps.length).mergeSort fun x y => decide (x ≤ y)) = inputsOf l ps part := by
  generalize hz : gTo l ps part ps.length = zs
  have hm := List.mergeSort_perm zs (fun x y => decide (x ≤ y))
  have hp := List.pairwise_mergeSort (le := fun x y : Int => decide (x ≤ y)) (fun a b c h1 h2 => by simp only [decide_eq_true_eq] at *; omega) (fun a b => by simp; omega) zs
  generalize zs.mergeSort (fun x y => decide (x ≤ y)) = ss at hm hp
  have hs : ∀ j, j + 1 < ss.toArray.size → ss.toArray[j]! ≤ ss.toArray[j + 1]! := by
    intro j hj
    have hj2 : j + 1 < ss.length := by simpa using hj
    have := List.pairwise_iff_getElem.1 hp j (j + 1) (by omega) hj2 (by omega)
    simp only [decide_eq_true_eq] at this
    rw [getElem!_pos ss.toArray j (by omega), getElem!_pos ss.toArray (j + 1) hj]
    simpa using this
  obtain ⟨h1, h2, _⟩ := compact_rises ss.toArray hs ss.toArray.size (Nat.le_refl _)
  have e : Lib.compact ss = Lib.compactUpTo ss.toArray ss.toArray.size := by simp [Lib.compact]
  rw [e]
  refine rises_eq h1 ((iota_rises _).filter _) (fun x => ?_)
  rw [h2]
  unfold inputsOf
  rw [List.mem_filter, mem_iota, decide_eq_true_eq, hz]
  constructor
  · rintro ⟨j, hj, rfl⟩
    have hj2 : j < ss.length := by simpa using hj
    rw [getElem!_pos ss.toArray j hj]
    have hmem : ss.toArray[j] ∈ zs := hm.mem_iff.1 (by simp)
    refine ⟨?_, hmem⟩
    rw [← hz] at hmem
    exact gTo_mem h (by omega) hmem
  · rintro ⟨_, hx⟩
    obtain ⟨j, hj, e⟩ := List.getElem_of_mem (hm.mem_iff.2 hx)
    refine ⟨j, by simpa using hj, ?_⟩
    rw [getElem!_pos ss.toArray j (by simpa using hj)]
    simpa using e
theorem inputs_none (l : List Vx) (part : Int) : inputsOf l [] part = [] := by
  unfold inputsOf
  rw [show gTo l [] part ([] : List Int).length = [] from rfl]
  simp
def cut_Inputs.f (l0 : List Vx) (a1 a2 : Int) : Option (List Int) := if okV l0 = true then some (inputsOf l0 (if (checkOf l0 a1).2 = 0 then partsOf l0 else []) a2) else none
end Go.Proofs.Ytlandgbhbfdekaa.Ex
