/- (c14) slices.BinarySearchFunc at sessions, by sess.order. -/
import Derived.Test.YtpjfmilokadchaaSeIns
import Derived.Test.YtpjfmilokadchaaSeOrd
namespace Go.Proofs.Ytpjfmilokadchaa.Se
open Go Go.RowKit Go.Proofs.YtpjfmilokadchaaW.PrintWords Go.Proofs.YtpjfmilokadchaaW.PrintLast Go.Proofs.YtpjfmilokadchaaW.PrintMore Go.Proofs.Ytpjfmilokadchaa.Rw
set_option linter.unusedVariables false
set_option linter.unusedSimpArgs false
theorem cmpI_lt {a b : Int} : cmpI a b < 0 ↔ a < b := by
  unfold cmpI
  split
  · omega
  · split <;> omega
theorem cmpI_zero {a b : Int} : cmpI a b = 0 ↔ a = b := by
  unfold cmpI
  split
  · omega
  · split <;> omega
theorem ord_lt {x y : Ses} : ordI x y < 0 ↔ ltB x y = true := by
  rw [ltB_iff]
  unfold ordI
  by_cases h0 : cmpI x.k y.k = 0
  · rw [if_neg (by simpa using h0)]
    have e0 := cmpI_zero.1 h0
    by_cases h1 : cmpI x.a y.a = 0
    · rw [if_neg (by simpa using h1), cmpI_lt]
      have e1 := cmpI_zero.1 h1
      omega
    · rw [if_pos h1, cmpI_lt]
      have e1 : x.a ≠ y.a := fun e => h1 (cmpI_zero.2 e)
      omega
  · rw [if_pos h0, cmpI_lt]
    have e0 : x.k ≠ y.k := fun e => h0 (cmpI_zero.2 e)
    omega
theorem ord_zero {x y : Ses} : ordI x y = 0 ↔ sameB x y = true := by
  rw [same_iff]
  unfold ordI
  by_cases h0 : cmpI x.k y.k = 0
  · rw [if_neg (by simpa using h0)]
    have e0 := cmpI_zero.1 h0
    by_cases h1 : cmpI x.a y.a = 0
    · rw [if_neg (by simpa using h1), cmpI_zero]
      have e1 := cmpI_zero.1 h1
      omega
    · rw [if_pos h1]
      have e1 : x.a ≠ y.a := fun e => h1 (cmpI_zero.2 e)
      omega
  · rw [if_pos h0]
    have e0 : x.k ≠ y.k := fun e => h0 (cmpI_zero.2 e)
    omega
def hasS (L : List Ses) (x : Ses) : Bool := L.any fun y => sameB y x
theorem idx_of {L : List Ses} {x : Ses} (i : Nat) (hi : i ≤ L.length) (h1 : ∀ t, t < i → ∀ p, L[t]? = some p → ltB p x = true) (h2 : ∀ t, i ≤ t → ∀ p, L[t]? = some p → ltB p x = false) : idxS L x = i := by
  unfold idxS
  induction L generalizing i with
  | nil => simp at hi; simp [hi]
  | cons y L ih =>
    cases i with
    | zero =>
      have := h2 0 (Nat.le_refl _) y rfl
      rw [List.takeWhile_cons, if_neg (by rw [this]; simp)]
      rfl
    | succ i =>
      have := h1 0 (by omega) y rfl
      rw [List.takeWhile_cons, if_pos this, List.length_cons, ih i (by simpa using hi) (fun t ht p hp => h1 (t + 1) (by omega) p (by simpa using hp)) (fun t ht p hp => h2 (t + 1) (by omega) p (by simpa using hp))]
theorem has_at {L : List Ses} {x : Ses} (hr : Rise L) (i : Nat) (h1 : ∀ t, t < i → ∀ p, L[t]? = some p → ltB p x = true) (h2 : ∀ t, i ≤ t → ∀ p, L[t]? = some p → ltB p x = false) : hasS L x = (match L[i]? with | some p => sameB p x | none => false) := by
  unfold hasS
  cases hp : L[i]? with
  | none =>
    simp only
    rw [List.any_eq_false]
    intro y hy hs
    obtain ⟨t, ht, rfl⟩ := List.getElem_of_mem hy
    have hlen := List.getElem?_eq_none_iff.1 hp
    have := h1 t (by omega) _ (List.getElem?_eq_getElem ht)
    rw [ltB_iff] at this
    rw [same_iff] at hs
    omega
  | some p =>
    simp only
    cases hs : sameB p x with
    | true => exact List.any_eq_true.2 ⟨p, List.mem_of_getElem? hp, hs⟩
    | false =>
      rw [List.any_eq_false]
      intro y hy hsy
      obtain ⟨t, ht, rfl⟩ := List.getElem_of_mem hy
      have hsy' := same_iff.1 hsy
      rcases Nat.lt_trichotomy t i with h | h | h
      · have := h1 t h _ (List.getElem?_eq_getElem ht)
        rw [ltB_iff] at this
        omega
      · subst h
        rw [List.getElem?_eq_getElem ht] at hp
        injection hp with hp
        rw [hp, hs] at hsy
        cases hsy
      · have hi := (List.getElem?_eq_some_iff.1 hp)
        have hlt := List.pairwise_iff_getElem.1 hr i t hi.1 ht h
        rw [hi.2] at hlt
        have hnp := h2 i (Nat.le_refl _) p hp
        have a1 : ¬ (ltB p x = true) := by rw [hnp]; simp
        rw [ltB_iff] at a1 hlt
        have hns : ¬ (sameB p x = true) := by rw [hs]; simp
        rw [same_iff] at hns
        omega
theorem own_cells {w : World} {base n : Nat} {v : Value} {L : List Ses} {A : Option Addr} {c : Nat} (hown : w.ownsRow base 53 3 v n (cellsS L)) (hv : v = .slice A n c) {t : Nat} {p : Ses} (hp : L[t]? = some p) :
    ∃ g, A = some ⟨g, 0, none⟩ ∧ ∀ w', Below w.heap.size w w' → w'.cell? ⟨g, t * 3, none⟩ = some (.int .i64 p.k) ∧ w'.cell? ⟨g, t * 3 + 1, none⟩ = some (spanV p.a p.b) ∧ w'.cell? ⟨g, t * 3 + 2, none⟩ = some (.int .i64 p.v) := by
  have h1 := cellsS_at hp
  have h2 := (List.getElem?_eq_some_iff.1 h1.1).1
  have h3 := hown.1
  obtain ⟨g, cap, cur, rest, rfl, hbg, hg, hnc, hcm, hxl, hrl, hcur⟩ := own_open hown (by omega)
  injection hv with e1 e2 e3
  refine ⟨g, e1.symm, fun w' hb => ?_⟩
  have hg' := (hb.block g (Array.getElem?_eq_some_iff.1 hg).1).trans hg
  have h4 := (List.getElem?_eq_some_iff.1 h1.2.1).1
  have h5 := (List.getElem?_eq_some_iff.1 h1.2.2).1
  rw [cell_row hg' hcur, cell_row hg' hcur, cell_row hg' hcur, List.getElem?_append_left (by omega), List.getElem?_append_left (by omega), List.getElem?_append_left (by omega)]
  exact h1
end Go.Proofs.Ytpjfmilokadchaa.Se
