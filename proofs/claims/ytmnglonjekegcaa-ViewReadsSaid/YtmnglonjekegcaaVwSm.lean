/- (c11) The document's Same at equal views; few offsets. -/
import Derived.Test.YtmnglonjekegcaaVwEn
import Derived.Test.YtmnglonjekegcaaVwGr
import Derived.Test.YtmnglonjekegcaaRp7
namespace Go.Proofs.Ytmnglonjekegcaa.Vw
open Go Go.RowKit Go.Proofs.Ytmnglonjekegcaa.Rp Go.Proofs.YtmnglonjekegcaaW.PrintWords Go.Proofs.YtmnglonjekegcaaW.PrintLast Go.Proofs.YtmnglonjekegcaaW.PrintMore
set_option linter.unusedVariables false
set_option linter.unusedSimpArgs false
theorem wrap_next {j n : Nat} (h : j < n) (hn : n ≤ 1000000) : wrap64 ((j : Int) + 1) = ((j + 1 : Nat) : Int) := by unfold wrap64; omega
theorem ints_l0 (l : List Int) : ∀ (k j : Nat), j ≤ l.length → l.length - j < k → l.length ≤ 1000000 → tidemillref01_Same.l0 k l l (j : Int) = some true := by
  intro k
  induction k with
  | zero => intro j _ h; omega
  | succ k ih =>
    intro j hj hk hl
    unfold tidemillref01_Same.l0
    by_cases h : (j : Int) < (l.length : Int)
    · rw [if_pos h, if_pos (Int.natCast_nonneg _), if_pos h, if_pos rfl, wrap_next (n := l.length) (by omega) hl]
      exact ih (j + 1) (by omega) (by omega) hl
    · rw [if_neg h]
theorem ints_same (l : List Int) (k : Nat) (hk : l.length < k) (hl : l.length ≤ 1000000) : tidemillref01_Same.f k l l = some true := by
  unfold tidemillref01_Same.f
  rw [if_pos rfl]
  exact ints_l0 l k 0 (Nat.zero_le _) (by omega) hl
theorem tasks_same (x : S41) (k : Nat) (h3 : x.f3.length < k ∧ x.f3.length ≤ 1000000) (h4 : x.f4.length < k ∧ x.f4.length ≤ 1000000) : tidemillref11_TaskSame.f k x.f0 x.f1 x.f2 x.f3 x.f4 x.f5 x.f0 x.f1 x.f2 x.f3 x.f4 x.f5 = some true := by
  unfold tidemillref11_TaskSame.f
  rw [if_pos rfl, if_pos rfl, if_pos rfl, if_pos rfl, ints_same _ _ h3.1 h3.2]
  rw [Option.bind_some, if_pos rfl, ints_same _ _ h4.1 h4.2]
  rfl
theorem logs_l0 (a : Int) (r : List S45) (l : List Bool) : ∀ (k j : Nat), j ≤ l.length → l.length - j < k → l.length ≤ 1000000 → tidemillref11_LogSame.l0 k (j : Int) a r l a r l = some true := by
  intro k
  induction k with
  | zero => intro j _ h; omega
  | succ k ih =>
    intro j hj hk hl
    unfold tidemillref11_LogSame.l0
    by_cases h : (j : Int) < (l.length : Int)
    · rw [if_pos h, if_pos (Int.natCast_nonneg _), if_pos h, if_neg (by simp), wrap_next (n := l.length) (by omega) hl]
      exact ih (j + 1) (by omega) (by omega) hl
    · rw [if_neg h]
theorem logs_same (x : S36) (k : Nat) (h1 : x.f1.length < k ∧ x.f1.length ≤ 100000) (h2 : x.f2.length + 1 < k ∧ x.f2.length ≤ 1000000) : tidemillref11_LogSame.f k x.f0 x.f1 x.f2 x.f0 x.f1 x.f2 = some true := by
  unfold tidemillref11_LogSame.f
  have hr : tidemillref11_Recs.f k x.f1 x.f1 = some true := by
    unfold tidemillref11_Recs.f
    rw [if_pos rfl]
    exact recs_l0 x.f1 k 0 (Nat.zero_le _) (by omega) h1.2
  rw [if_pos rfl, hr]
  rw [Option.bind_some, if_pos rfl]
  obtain ⟨k, rfl⟩ : ∃ m, k = m + 1 := ⟨k - 1, by omega⟩
  rw [tidemillref11_LogSame.j0, if_neg (by simp)]
  exact logs_l0 _ _ _ k 0 (Nat.zero_le _) (by omega) h2.2
theorem rd_getD36 (L : List S36) (j : Nat) (h : j < L.length) : rd_T36 L (j : Int) ∈ L := by
  unfold rd_T36
  rw [Int.toNat_natCast, List.getD_eq_getElem?_getD, List.getElem?_eq_getElem h]
  exact List.getElem_mem h
theorem rd_getD41 (L : List S41) (j : Nat) (h : j < L.length) : rd_T41 L (j : Int) ∈ L := by
  unfold rd_T41
  rw [Int.toNat_natCast, List.getD_eq_getElem?_getD, List.getElem?_eq_getElem h]
  exact List.getElem_mem h
section
variable (L : List S36) (T : List S41) (z : Int) (S : Nat)
theorem same_l1 (hT : ∀ x ∈ T, x.f3.length ≤ S ∧ x.f4.length ≤ S) (hS : S ≤ 1000000) (hl : T.length ≤ 1000000) : ∀ (k j : Nat), j ≤ T.length → T.length - j + S + 2 < k → tidemillref11_Same.l1 k (j : Int) L T z L T z = some true := by
  intro k
  induction k with
  | zero => intro j _ h; omega
  | succ k ih =>
    intro j hj hk
    unfold tidemillref11_Same.l1
    by_cases h : (j : Int) < (T.length : Int)
    · have hm := hT _ (rd_getD41 T j (by omega))
      rw [if_pos h, if_pos (Int.natCast_nonneg _), if_pos h, tasks_same _ k ⟨by omega, by omega⟩ ⟨by omega, by omega⟩]
      rw [Option.bind_some, if_pos rfl, wrap_next (n := T.length) (by omega) hl]
      exact ih (j + 1) (by omega) (by omega)
    · rw [if_neg h]
theorem same_l0 (hL : ∀ x ∈ L, x.f1.length ≤ S ∧ x.f2.length ≤ S) (hT : ∀ x ∈ T, x.f3.length ≤ 1000000 ∧ x.f4.length ≤ 1000000) (hS : S ≤ 100000) (hll : L.length ≤ 1000000) (hl : T.length ≤ 1000000) : ∀ (k j : Nat), j ≤ L.length → L.length - j + T.length + 1000000 + S + 10 < k → tidemillref11_Same.l0 k (j : Int) L T z L T z = some true := by
  intro k
  induction k with
  | zero => intro j _ h; omega
  | succ k ih =>
    intro j hj hk
    unfold tidemillref11_Same.l0
    by_cases h : (j : Int) < (L.length : Int)
    · have hm := hL _ (rd_getD36 L j (by omega))
      rw [if_pos h, if_pos (Int.natCast_nonneg _), if_pos h, logs_same _ k ⟨by omega, by omega⟩ ⟨by omega, by omega⟩]
      rw [Option.bind_some, if_pos rfl, wrap_next (n := L.length) (by omega) hll]
      exact ih (j + 1) (by omega) (by omega)
    · rw [if_neg h]
      exact same_l1 L T z 1000000 hT (Nat.le_refl _) hl k 0 (Nat.zero_le _) (by omega)
theorem same_true (hL : ∀ x ∈ L, x.f1.length ≤ 100000 ∧ x.f2.length ≤ 100000) (hT : ∀ x ∈ T, x.f3.length ≤ 1000000 ∧ x.f4.length ≤ 1000000) (hll : L.length ≤ 1000000) (hl : T.length ≤ 1000000) : tidemillref11_Same.f 4000000 L T z L T z = some true := by
  unfold tidemillref11_Same.f
  rw [if_pos rfl, if_pos rfl]
  obtain ⟨k, hk⟩ : ∃ k, 4000000 = k + 1 := ⟨3999999, rfl⟩
  rw [hk]
  rw [tidemillref11_Same.j0, if_neg (by simp)]
  exact same_l0 L T z 100000 hL hT (Nat.le_refl _) hll hl k 0 (Nat.zero_le _) (by omega)
end
theorem runO_f3 (k : Int) (l : List S47) : ∀ (s : TS) (i : Int), s.t.f3.length ≤ 8 → (runO i s k l).t.f3.length ≤ 8 := by
  induction l with
  | nil => exact fun s i h => h
  | cons x l ih =>
    intro s i h
    rw [runO]
    refine ih _ _ ?_
    split
    · rename_i hx
      unfold stepO
      split
      · split
        · exact h
        · exact h
      · split
        · exact h
        · split
          · exact h
          · split
            · exact (may_nums (tk_of hx.1).1).2.2.2.2.1
            · exact h
    · exact h
theorem through_task (l : List S47) (k : Int) : getT (throughV l).T k = runO 0 (newT k) k l := by
  rw [through_split]
  show getT (goT [] 0 l) k = _
  rw [getT_go]
  rfl
/-- What is told of at most 301 entries is little enough to be compared. -/
theorem told_fits (l : List S47) (hl : l.length ≤ 310) : (∀ x ∈ (readV l).f0, x.f1.length ≤ 100000 ∧ x.f2.length ≤ 100000) ∧ (∀ x ∈ (readV l).f1, x.f3.length ≤ 1000000 ∧ x.f4.length ≤ 1000000) ∧ (readV l).f0.length ≤ 1000000 ∧ (readV l).f1.length ≤ 1000000 := by
  have hI := StInv.through l
  have hsq : l.length * l.length ≤ 310 * 310 := Nat.mul_le_mul hl hl
  refine ⟨fun x hx => ?_, fun x hx => ?_, ?_, ?_⟩
  · have := hI.bl.2 x (told_logs.1 hx)
    omega
  · obtain ⟨s, hs, rfl⟩ := told_tasks.1 hx
    have h4 := (hI.each s hs).2.1
    have h3 : s.t.f3.length ≤ 8 := by
      rw [← getT_in (KInv.through l).ndT hs, through_task]
      exact runO_f3 _ l _ _ (by simp [newT])
    have h5 := Nat.mul_le_mul_right 256 hl
    show s.t.f3.length ≤ _ ∧ s.t.f4.length ≤ _
    omega
  · have e := congrArg List.length (told_keys l)
    rw [List.length_map] at e
    unfold sortI at e
    rw [List.length_mergeSort, List.length_map] at e
    have := hI.bl.1
    omega
  · have e := congrArg List.length (told_keysT l)
    rw [List.length_map] at e
    unfold sortI at e
    rw [List.length_mergeSort, List.length_map] at e
    have := hI.tl
    omega
theorem read_same (l : List S47) (hl : l.length ≤ 310) (z : Int) : tidemillref11_Same.f 4000000 (readV l).f0 (readV l).f1 z (readV l).f0 (readV l).f1 z = some true := by
  obtain ⟨h1, h2, h3, h4⟩ := told_fits l hl
  exact same_true _ _ z h1 h2 h3 h4
end Go.Proofs.Ytmnglonjekegcaa.Vw
