/- More plain laws of marks: what See changes, pointwise; order; rising. -/
import Derived.Test.YtegfglmnlfkolaaMkPure
namespace Go.Proofs.Ytegfglmnlfkolaa.Mk
open Go Go.Maps
set_option linter.unusedVariables false
set_option linter.unusedSimpArgs false
def bump (v t : Int) (p : Int × Int) : Int × Int := if p.1 = v ∧ 0 ≤ t ∧ t ≤ 1099511627776 then (p.1, if p.2 < t then t else p.2) else p
theorem bump_fst (v t : Int) (p : Int × Int) : (bump v t p).1 = p.1 := by unfold bump; split <;> rfl
theorem bump_ge (v t : Int) (p : Int × Int) : p.2 ≤ (bump v t p).2 := by
  unfold bump
  split
  · simp only
    split <;> omega
  · omega
theorem see_map {L : List (Int × Int)} (hg : Good L) (v t : Int) : (see L v t).1 = L.map (bump v t) := by
  unfold see
  cases hl : lk L v with
  | none =>
    show L = _
    have h := lk_none.1 hl
    rw [List.map_congr_left (g := id) (fun p hp => by unfold bump; rw [if_neg (fun e => h p hp e.1)]; rfl), List.map_id]
  | some w =>
    simp only
    split
    · rename_i hr
      show L = _
      rw [List.map_congr_left (g := id) (fun p hp => by unfold bump; rw [if_neg (fun e => by omega)]; rfl), List.map_id]
    · rename_i hr
      show upd L v _ = _
      unfold upd
      apply List.map_congr_left
      intro p hp
      show (if p.1 = v then (v, if w < t then t else w) else p) = (if p.1 = v ∧ 0 ≤ t ∧ t ≤ 1099511627776 then (p.1, if p.2 < t then t else p.2) else p)
      by_cases e : p.1 = v
      · rw [if_pos e, if_pos (show p.1 = v ∧ 0 ≤ t ∧ t ≤ 1099511627776 from ⟨e, by omega, by omega⟩)]
        have h2 := lk_of_mem hg.rise (k := p.1) (t := p.2) hp
        rw [e, hl] at h2
        injection h2 with h2
        rw [h2, e]
      · rw [if_neg e, if_neg (fun h => e h.1)]
theorem bump_comm (v t v' t' : Int) (p : Int × Int) : bump v' t' (bump v t p) = bump v t (bump v' t' p) := by
  unfold bump
  repeat' split
  all_goals simp_all
  all_goals omega
def seeAll (L : List (Int × Int)) (l : List (Int × Int)) : List (Int × Int) := l.foldl (fun L p => (see L p.1 p.2).1) L
theorem seeAll_good {L : List (Int × Int)} (hg : Good L) (l : List (Int × Int)) : Good (seeAll L l) := by
  induction l generalizing L with
  | nil => exact hg
  | cons p l ih => exact ih (see_good hg p.1 p.2)
theorem seeAll_map {L : List (Int × Int)} (hg : Good L) (l : List (Int × Int)) : seeAll L l = l.foldl (fun L p => L.map (bump p.1 p.2)) L := by
  induction l generalizing L with
  | nil => rfl
  | cons p l ih =>
    show seeAll (see L p.1 p.2).1 l = l.foldl _ (L.map (bump p.1 p.2))
    rw [ih (see_good hg p.1 p.2), see_map hg]
theorem seeAll_reverse {L : List (Int × Int)} (hg : Good L) (l : List (Int × Int)) : seeAll L l.reverse = seeAll L l := by
  rw [seeAll_map hg, seeAll_map hg]
  refine List.Perm.foldl_eq' (List.reverse_perm l) (fun x _ y _ z => ?_) L
  simp only [List.map_map]
  apply List.map_congr_left
  intro p _
  exact bump_comm _ _ _ _ _
theorem seeAll_snoc (L l : List (Int × Int)) (p : Int × Int) : seeAll L (l ++ [p]) = (see (seeAll L l) p.1 p.2).1 := by simp [seeAll]
theorem see_keys {L : List (Int × Int)} (hg : Good L) (v t : Int) : (see L v t).1.map (·.1) = L.map (·.1) := by
  rw [see_map hg, List.map_map]
  exact List.map_congr_left (fun p _ => bump_fst _ _ _)
theorem least_rises (f : Int × Int → Int × Int) (hf : ∀ p, p.2 ≤ (f p).2) (L : List (Int × Int)) : least L ≤ least (L.map f) := by
  induction L with
  | nil => exact Int.le_refl _
  | cons p L ih =>
    show min p.2 (least L) ≤ min (f p).2 (least (L.map f))
    have := hf p
    omega
theorem mark_rises {L : List (Int × Int)} (hg : Good L) (v t : Int) : mark L ≤ mark (see L v t).1 := by
  rw [see_map hg]
  unfold mark
  by_cases h : L = []
  · rw [h]; exact Int.le_refl _
  · rw [if_neg h, if_neg (by simpa using h)]
    exact least_rises _ (bump_ge v t) L
theorem lk_map {f : Int × Int → Int × Int} (hf : ∀ p, (f p).1 = p.1) (L : List (Int × Int)) (k : Int) : lk (L.map f) k = (lk L k).map (fun t => (f (k, t)).2) := by
  induction L with
  | nil => rfl
  | cons p L ih =>
    rw [List.map_cons, lk, lk, hf]
    by_cases e : p.1 = k
    · rw [if_pos e, if_pos e, ← e]; rfl
    · rw [if_neg e, if_neg e, ih]
theorem seen_rises {L : List (Int × Int)} (hg : Good L) (v t k : Int) : seen L k ≤ seen (see L v t).1 k := by
  rw [see_map hg]
  unfold seen
  rw [lk_map (bump_fst v t)]
  cases lk L k with
  | none => exact Int.le_refl _
  | some w => exact bump_ge v t (k, w)
theorem see_more {L : List (Int × Int)} (hg : Good L) (v t : Int) : (see L v t).2.1 = (((see L v t).2.2 == 0) && decide (seen L v < t)) := by
  unfold see seen
  cases hl : lk L v with
  | none => rfl
  | some w =>
    simp only
    split
    · rfl
    · simp
theorem mark_le {L : List (Int × Int)} {p : Int × Int} (hp : p ∈ L) : mark L ≤ p.2 := by
  unfold mark
  rw [if_neg (fun h => by rw [h] at hp; cases hp)]
  exact least_le p hp
theorem mark_seen {L : List (Int × Int)} (hg : Good L) {k : Int} (hk : k ∈ L.map (·.1)) : mark L ≤ seen L k := by
  obtain ⟨p, hp, rfl⟩ := List.mem_map.1 hk
  unfold seen
  rw [lk_of_mem hg.rise (k := p.1) (t := p.2) hp]
  exact mark_le hp
/-- c, 2c, .. : the first n whole numbers, c apart. -/
def steps (c : Int) (n : Nat) : List Int := (List.range n).map fun i : Nat => c * (i : Int)
theorem steps_len (c : Int) (n : Nat) : (steps c n).length = n := by simp [steps]
theorem steps_succ (c : Int) (n : Nat) : steps c (n + 1) = steps c n ++ [c * (n : Int)] := by simp [steps, List.range_succ]
theorem steps_get (c : Int) {n i : Nat} (h : i < n) : (steps c n).getD i 0 = c * (i : Int) := by
  rw [List.getD_eq_getElem?_getD, List.getElem?_eq_getElem (by rw [steps_len]; exact h)]
  simp [steps]
theorem steps_ok {c : Int} (h0 : 0 < c) {n : Nat} (h1 : 0 < n) (h2 : n ≤ 24) : newOk (steps c n) := by
  refine ⟨fun h => ?_, by rw [steps_len]; exact h2, ?_, fun i hi => ?_⟩
  · have := steps_len c n
    rw [h] at this
    simp at this
    omega
  · rw [steps_get c h1]
    simp
  · rw [steps_len] at hi
    rw [steps_get c hi, steps_get c (by omega)]
    have : c * ((i + 1 : Nat) : Int) = c * (i : Int) + c := by rw [Int.natCast_succ, Int.mul_add, Int.mul_one]
    omega
theorem steps_mem {c : Int} {n i : Nat} (h : i < n) : c * (i : Int) ∈ steps c n := by
  unfold steps
  exact List.mem_map.2 ⟨i, List.mem_range.2 h, rfl⟩
theorem good_steps {c : Int} (h0 : 0 < c) (hc : c ≤ 1000) {n : Nat} (h1 : 0 < n) (h2 : n ≤ 24) : Good (initL (steps c n)) := by
  have hk := steps_ok h0 h1 h2
  have h := good_init hk.2.2.2 hk.2.2.1 (fun x hx => by
    obtain ⟨i, hi, rfl⟩ := List.mem_map.1 hx
    have := List.mem_range.1 hi
    have h3 : c * (i : Int) ≤ c * 24 := Int.mul_le_mul_of_nonneg_left (by omega) (by omega)
    omega)
  rwa [List.take_length] at h
theorem initL_keys (l : List Int) : (initL l).map (·.1) = l := by
  unfold initL
  rw [List.map_map]
  exact List.map_id _
end Go.Proofs.Ytegfglmnlfkolaa.Mk
