/- Plain laws of a store: pairs by rising keys; no program in sight. -/
import Derived.RowKit
namespace Go.Proofs.Ytlnpnlacalppjaa.Kv
set_option linter.unusedVariables false
set_option linter.unusedSimpArgs false
abbrev KL := List (Int × Int)
def Rise (L : KL) : Prop := L.Pairwise fun p q => p.1 < q.1
def idx : KL → Int → Nat
  | [], _ => 0
  | p :: r, k => if p.1 < k then idx r k + 1 else 0
def get : KL → Int → Option Int
  | [], _ => none
  | p :: r, k => if p.1 = k then some p.2 else get r k
def put : KL → Int → Int → KL
  | [], k, v => [(k, v)]
  | p :: r, k, v => if p.1 < k then p :: put r k v else if p.1 = k then (k, v) :: r else (k, v) :: p :: r
def del : KL → Int → KL
  | [], _ => []
  | p :: r, k => if p.1 = k then r else p :: del r k
theorem get_none_lt {L : KL} {k : Int} (h : ∀ q ∈ L, k < q.1) : get L k = none := by
  induction L with
  | nil => rfl
  | cons p r ih =>
    rw [get, if_neg (by have := h p List.mem_cons_self; omega)]
    exact ih fun q hq => h q (List.mem_cons_of_mem _ hq)
theorem Rise.head {p : Int × Int} {r : KL} (h : Rise (p :: r)) : ∀ q ∈ r, p.1 < q.1 := fun q hq => List.rel_of_pairwise_cons h hq
theorem Rise.tail {p : Int × Int} {r : KL} (h : Rise (p :: r)) : Rise r := List.Pairwise.of_cons h
theorem Rise.mk {p : Int × Int} {r : KL} (h1 : ∀ q ∈ r, p.1 < q.1) (h : Rise r) : Rise (p :: r) := List.pairwise_cons.2 ⟨h1, h⟩
theorem get_tail_none {p : Int × Int} {r : KL} (h : Rise (p :: r)) {k : Int} (hk : k ≤ p.1) : get r k = none := get_none_lt fun q hq => by have := h.head q hq; omega
theorem idx_le (L : KL) (k : Int) : idx L k ≤ L.length := by
  induction L with
  | nil => exact Nat.le_refl _
  | cons p r ih => rw [idx, List.length_cons]; split <;> omega
theorem put_has {L : KL} (h : Rise L) {k x v : Int} (hg : get L k = some x) :
    put L k v = L.take (idx L k) ++ (k, v) :: L.drop (idx L k + 1) ∧ L[idx L k]? = some (k, x) := by
  induction L with
  | nil => cases hg
  | cons p r ih =>
    rw [get] at hg
    by_cases e : p.1 = k
    · rw [if_pos e] at hg
      injection hg with hg
      rw [put, idx, if_neg (by omega), if_pos e, if_neg (by omega)]
      refine ⟨by simp, ?_⟩
      simp only [List.getElem?_cons_zero]
      rw [← e, ← hg]
    · rw [if_neg e] at hg
      have hlt : p.1 < k := by
        by_cases hl : p.1 < k
        · exact hl
        · rw [get_tail_none h (by omega)] at hg; cases hg
      have ⟨h1, h2⟩ := ih h.tail hg
      rw [put, idx, if_pos hlt, if_pos hlt, h1]
      exact ⟨by simp, by simpa using h2⟩
theorem put_new {L : KL} (h : Rise L) {k v : Int} (hg : get L k = none) : put L k v = L.take (idx L k) ++ (k, v) :: L.drop (idx L k) := by
  induction L with
  | nil => rfl
  | cons p r ih =>
    rw [get] at hg
    by_cases e : p.1 = k
    · rw [if_pos e] at hg; cases hg
    · rw [if_neg e] at hg
      rw [put, idx]
      by_cases hl : p.1 < k
      · rw [if_pos hl, if_pos hl, ih h.tail hg]; simp
      · rw [if_neg hl, if_neg e, if_neg hl]; simp
theorem del_has {L : KL} (h : Rise L) {k x : Int} (hg : get L k = some x) : del L k = L.take (idx L k) ++ L.drop (idx L k + 1) := by
  induction L with
  | nil => cases hg
  | cons p r ih =>
    rw [get] at hg
    by_cases e : p.1 = k
    · rw [del, idx, if_pos e, if_neg (by omega)]; simp
    · rw [if_neg e] at hg
      have hlt : p.1 < k := by
        by_cases hl : p.1 < k
        · exact hl
        · rw [get_tail_none h (by omega)] at hg; cases hg
      rw [del, idx, if_neg e, if_pos hlt, ih h.tail hg]; simp
theorem del_none {L : KL} {k : Int} (hg : get L k = none) : del L k = L := by
  induction L with
  | nil => rfl
  | cons p r ih =>
    rw [get] at hg
    by_cases e : p.1 = k
    · rw [if_pos e] at hg; cases hg
    · rw [if_neg e] at hg
      rw [del, if_neg e, ih hg]
theorem mem_put {L : KL} {k v : Int} {q : Int × Int} (h : q ∈ put L k v) : q = (k, v) ∨ q ∈ L := by
  induction L with
  | nil => exact .inl (by simpa [put] using h)
  | cons p r ih =>
    rw [put] at h
    split at h
    · rcases List.mem_cons.1 h with rfl | h
      · exact .inr List.mem_cons_self
      · rcases ih h with h | h
        · exact .inl h
        · exact .inr (List.mem_cons_of_mem _ h)
    · split at h
      · rcases List.mem_cons.1 h with h | h
        · exact .inl h
        · exact .inr (List.mem_cons_of_mem _ h)
      · rcases List.mem_cons.1 h with h | h
        · exact .inl h
        · exact .inr h
theorem mem_del {L : KL} {k : Int} {q : Int × Int} (h : q ∈ del L k) : q ∈ L := by
  induction L with
  | nil => exact h
  | cons p r ih =>
    rw [del] at h
    split at h
    · exact List.mem_cons_of_mem _ h
    · rcases List.mem_cons.1 h with rfl | h
      · exact List.mem_cons_self
      · exact List.mem_cons_of_mem _ (ih h)
theorem Rise.put {L : KL} (h : Rise L) (k v : Int) : Rise (put L k v) := by
  induction L with
  | nil => exact List.pairwise_singleton _ _
  | cons p r ih =>
    rw [Kv.put]
    split
    · rename_i hl
      refine Rise.mk (fun q hq => ?_) (ih h.tail)
      rcases mem_put hq with rfl | hq
      · exact hl
      · exact h.head q hq
    · rename_i hl
      split
      · rename_i e
        exact Rise.mk (fun q hq => by have := h.head q hq; show k < q.1; omega) h.tail
      · rename_i e
        refine Rise.mk (fun q hq => ?_) h
        show k < q.1
        rcases List.mem_cons.1 hq with rfl | hq
        · omega
        · have := h.head q hq; omega
theorem Rise.del {L : KL} (h : Rise L) (k : Int) : Rise (del L k) := by
  induction L with
  | nil => exact h
  | cons p r ih =>
    rw [Kv.del]
    split
    · exact h.tail
    · exact Rise.mk (fun q hq => h.head q (mem_del hq)) (ih h.tail)
theorem get_put_same {L : KL} (h : Rise L) (k v : Int) : get (put L k v) k = some v := by
  induction L with
  | nil => simp [put, get]
  | cons p r ih =>
    rw [put]
    split
    · rw [get, if_neg (by omega)]; exact ih h.tail
    · split <;> simp [get]
theorem get_put_other {L : KL} (h : Rise L) {k k' v : Int} (hne : k' ≠ k) : get (put L k v) k' = get L k' := by
  induction L with
  | nil => simp [put, get, Ne.symm hne]
  | cons p r ih =>
    rw [put]
    split
    · rw [get, get, ih h.tail]
    · split
      · rename_i e
        rw [get, get, if_neg (Ne.symm hne), if_neg (by rw [e]; exact Ne.symm hne)]
      · rw [get, if_neg (Ne.symm hne)]
theorem get_del_same {L : KL} (h : Rise L) (k : Int) : get (del L k) k = none := by
  induction L with
  | nil => rfl
  | cons p r ih =>
    rw [del]
    split
    · rename_i e; exact get_tail_none h (by omega)
    · rename_i e; rw [get, if_neg e]; exact ih h.tail
theorem get_del_other {L : KL} {k k' : Int} (hne : k' ≠ k) : get (del L k) k' = get L k' := by
  induction L with
  | nil => rfl
  | cons p r ih =>
    rw [del]
    split
    · rename_i e; rw [get, if_neg (by rw [e]; exact Ne.symm hne)]
    · rw [get, get, ih]
theorem ext {L M : KL} (hL : Rise L) (hM : Rise M) (h : ∀ k, get L k = get M k) : L = M := by
  induction L generalizing M with
  | nil =>
    cases M with
    | nil => rfl
    | cons q M => have := h q.1; rw [get, get, if_pos rfl] at this; cases this
  | cons p L ih =>
    cases M with
    | nil => have := h p.1; rw [get, get, if_pos rfl] at this; cases this
    | cons q M =>
      have hpq : p.1 = q.1 := by
        rcases Int.lt_trichotomy p.1 q.1 with hl | he | hl
        · have := h p.1
          rw [get, get, if_pos rfl, if_neg (by omega), get_tail_none hM (by omega)] at this
          cases this
        · exact he
        · have := h q.1
          rw [get, get, if_neg (by omega), if_pos rfl, get_tail_none hL (by omega)] at this
          cases this
      have h2 : p = q := by
        have := h p.1
        rw [get, get, if_pos rfl, if_pos hpq.symm] at this
        injection this with this
        exact Prod.ext hpq this
      subst h2
      congr 1
      refine ih hL.tail hM.tail fun k => ?_
      by_cases e : p.1 = k
      · rw [get_tail_none hL (by omega), get_tail_none hM (by omega)]
      · have := h k
        rwa [get, get, if_neg e, if_neg e] at this
theorem len_put_has {L : KL} {k x v : Int} (h : Rise L) (hg : get L k = some x) : (put L k v).length = L.length := by
  have ⟨h1, h2⟩ := put_has h (v := v) hg
  have h3 := (List.getElem?_eq_some_iff.1 h2).1
  rw [h1]
  simp
  omega
theorem len_put_new {L : KL} {k v : Int} (h : Rise L) (hg : get L k = none) : (put L k v).length = L.length + 1 := by
  have := idx_le L k
  rw [put_new h hg]
  simp
  omega
theorem len_del_has {L : KL} {k x : Int} (h : Rise L) (hg : get L k = some x) : (del L k).length + 1 = L.length := by
  have ⟨h1, h2⟩ := put_has h (v := 0) hg
  have h3 := (List.getElem?_eq_some_iff.1 h2).1
  rw [del_has h hg]
  simp
  omega
/-- The place is told by what stands ahead of it and behind. -/
theorem idx_of {L : KL} {k : Int} (i : Nat) (hi : i ≤ L.length) (h1 : ∀ t, t < i → ∀ p, L[t]? = some p → p.1 < k) (h2 : ∀ t, i ≤ t → ∀ p, L[t]? = some p → k ≤ p.1) : idx L k = i := by
  induction L generalizing i with
  | nil => simp at hi; subst hi; rfl
  | cons p r ih =>
    rw [idx]
    cases i with
    | zero =>
      have := h2 0 (Nat.le_refl _) p rfl
      rw [if_neg (by omega)]
    | succ i =>
      have := h1 0 (Nat.succ_pos _) p rfl
      rw [if_pos this, ih i (by simpa using hi) (fun t ht q hq => h1 (t + 1) (by omega) q (by simpa using hq)) (fun t ht q hq => h2 (t + 1) (by omega) q (by simpa using hq))]
theorem Rise.at_ {L : KL} (h : Rise L) {s t : Nat} {p q : Int × Int} (hst : s ≤ t) (hp : L[s]? = some p) (hq : L[t]? = some q) : p.1 ≤ q.1 := by
  obtain ⟨a, rfl⟩ := List.getElem?_eq_some_iff.1 hp
  obtain ⟨b, rfl⟩ := List.getElem?_eq_some_iff.1 hq
  by_cases e : s = t
  · subst e; exact Int.le_refl _
  · exact Int.le_of_lt (List.pairwise_iff_getElem.1 h s t a b (by omega))
theorem idx_lt {L : KL} {k : Int} {t : Nat} (ht : t < idx L k) {p : Int × Int} (hp : L[t]? = some p) : p.1 < k := by
  induction L generalizing t with
  | nil => exact absurd ht (Nat.not_lt_zero _)
  | cons q r ih =>
    rw [idx] at ht
    split at ht
    · rename_i hl
      cases t with
      | zero => injection hp with hp; subst hp; exact hl
      | succ t => exact ih (t := t) (by omega) (by simpa using hp)
    · exact absurd ht (Nat.not_lt_zero _)
theorem get_at {L : KL} (h : Rise L) {k : Int} : get L k = match L[idx L k]? with | none => none | some p => if p.1 = k then some p.2 else none := by
  induction L with
  | nil => rfl
  | cons p r ih =>
    rw [get, idx]
    by_cases hl : p.1 < k
    · rw [if_neg (by omega), if_pos hl, ih h.tail]; simp
    · rw [if_neg hl]
      simp only [List.getElem?_cons_zero]
      split
      · rfl
      · exact get_tail_none h (by omega)
/-- The document's way: without the key, then ahead of the first greater one. -/
def ins : KL → Int → Int → KL
  | [], k, v => [(k, v)]
  | p :: r, k, v => if p.1 > k then (k, v) :: p :: r else p :: ins r k v
def without (L : KL) (k : Int) : KL := L.filter fun p => decide (p.1 ≠ k)
theorem without_all {L : KL} {k : Int} (h : ∀ q ∈ L, q.1 ≠ k) : without L k = L := List.filter_eq_self.2 fun q hq => by simpa using h q hq
theorem without_eq {L : KL} (h : Rise L) (k : Int) : without L k = del L k := by
  induction L with
  | nil => rfl
  | cons p r ih =>
    unfold without
    rw [List.filter_cons, del]
    by_cases e : p.1 = k
    · rw [if_neg (by simpa using e), if_pos e]
      exact without_all fun q hq => by have := h.head q hq; omega
    · rw [if_pos (by simpa using e), if_neg e]
      congr 1
      exact ih h.tail
theorem ins_without {L : KL} (h : Rise L) (k v : Int) : ins (without L k) k v = put L k v := by
  rw [without_eq h]
  induction L with
  | nil => rfl
  | cons p r ih =>
    rw [del, put]
    by_cases e : p.1 = k
    · rw [if_pos e, if_neg (by omega), if_pos e]
      cases r with
      | nil => rfl
      | cons q r =>
        have := h.head q List.mem_cons_self
        rw [ins, if_pos (by omega)]
    · rw [if_neg e, ins]
      by_cases hl : p.1 < k
      · rw [if_neg (by omega), if_pos hl, ih h.tail]
      · rw [if_pos (by omega), if_neg hl, if_neg e]
        congr 2
        exact del_none (get_none_lt fun q hq => by have := h.head q hq; omega)
theorem get_mem {L : KL} {k x : Int} (h : get L k = some x) : (k, x) ∈ L := by
  induction L with
  | nil => cases h
  | cons p r ih =>
    rw [get] at h
    split at h
    · rename_i e
      injection h with h
      rw [← e, ← h]
      exact List.mem_cons_self
    · exact List.mem_cons_of_mem _ (ih h)
theorem get_of_mem {L : KL} (hr : Rise L) {k x : Int} (h : (k, x) ∈ L) : get L k = some x := by
  induction L with
  | nil => cases h
  | cons p r ih =>
    rw [get]
    rcases List.mem_cons.1 h with h | h
    · rw [← h, if_pos rfl]
    · rw [if_neg (by have := hr.head _ h; simp only at this; omega)]
      exact ih hr.tail h
end Go.Proofs.Ytlnpnlacalppjaa.Kv
