/- Plain laws of marks: the greatest time of each input, and the least of these; no program in sight. -/
import Derived.Maps.Ext
import Derived.Maps.OwnSet
import Derived.Maps.OwnOps
import Derived.Maps.RangeWalk
namespace Go.Proofs.Ytmnglonjekegcaa.Mk
open Go Go.Maps
set_option linter.unusedVariables false
set_option linter.unusedSimpArgs false
/-- An input's time in a list of inputs with times. -/
def lk : List (Int × Int) → Int → Option Int
  | [], _ => none
  | p :: l, k => if p.1 = k then some p.2 else lk l k
def upd (L : List (Int × Int)) (k t : Int) : List (Int × Int) := L.map fun p => if p.1 = k then (k, t) else p
def least (L : List (Int × Int)) : Int := L.foldr (fun p m => min p.2 m) 1099511627776
/-- The inputs rise, and each has a time that may be. -/
structure Good (L : List (Int × Int)) : Prop where
  rise : L.Pairwise fun p q => p.1 < q.1
  keys : ∀ p ∈ L, 0 ≤ p.1 ∧ p.1 ≤ 9223372036854775807
  vals : ∀ p ∈ L, -1 ≤ p.2 ∧ p.2 ≤ 1099511627776
theorem lk_mem {L : List (Int × Int)} {k t : Int} (h : lk L k = some t) : (k, t) ∈ L := by
  induction L with
  | nil => cases h
  | cons p L ih =>
    rw [lk] at h
    split at h
    · rename_i e
      injection h with h
      rw [← e, ← h]
      exact List.mem_cons_self
    · exact List.mem_cons_of_mem _ (ih h)
theorem lk_of_mem {L : List (Int × Int)} (hg : L.Pairwise fun p q => p.1 < q.1) {k t : Int} (h : (k, t) ∈ L) : lk L k = some t := by
  induction L with
  | nil => cases h
  | cons p L ih =>
    rw [lk]
    rcases List.mem_cons.1 h with h | h
    · rw [← h, if_pos rfl]
    · have := List.rel_of_pairwise_cons hg h
      simp only at this
      rw [if_neg (by omega)]
      exact ih (List.Pairwise.of_cons hg) h
theorem lk_none {L : List (Int × Int)} {k : Int} : lk L k = none ↔ ∀ p ∈ L, p.1 ≠ k := by
  induction L with
  | nil => simp [lk]
  | cons p L ih =>
    rw [lk]
    split
    · rename_i e
      simp [e]
    · rename_i e
      rw [ih]
      simp [e]
theorem upd_keys (L : List (Int × Int)) (k t : Int) : (upd L k t).map (·.1) = L.map (·.1) := by
  unfold upd
  rw [List.map_map]
  apply List.map_congr_left
  intro p _
  simp only [Function.comp_apply]
  split
  · rename_i e; simp [e]
  · rfl
theorem upd_len (L : List (Int × Int)) (k t : Int) : (upd L k t).length = L.length := by simp [upd]
theorem lk_upd_same {L : List (Int × Int)} {k t w : Int} (h : lk L k = some w) : lk (upd L k t) k = some t := by
  induction L with
  | nil => cases h
  | cons p L ih =>
    rw [lk] at h
    show lk ((if p.1 = k then (k, t) else p) :: upd L k t) k = some t
    by_cases e : p.1 = k
    · rw [if_pos e, lk, if_pos rfl]
    · rw [if_neg e] at h ⊢
      rw [lk, if_neg e]
      exact ih h
theorem lk_upd_other {L : List (Int × Int)} {k k' t : Int} (hne : k' ≠ k) : lk (upd L k t) k' = lk L k' := by
  induction L with
  | nil => rfl
  | cons p L ih =>
    show lk ((if p.1 = k then (k, t) else p) :: upd L k t) k' = _
    by_cases e : p.1 = k
    · rw [if_pos e, lk, lk, if_neg (fun h => hne h.symm), if_neg (by rw [e]; exact fun h => hne h.symm)]
      exact ih
    · rw [if_neg e, lk, lk, ih]
theorem Good.upd {L : List (Int × Int)} (h : Good L) (k : Int) {t : Int} (t0 : -1 ≤ t) (t1 : t ≤ 1099511627776) : Good (upd L k t) := by
  refine ⟨?_, fun p hp => ?_, fun p hp => ?_⟩
  · have h1 : (L.map (·.1)).Pairwise (· < ·) := List.pairwise_map.2 h.rise
    rw [← upd_keys L k t] at h1
    exact List.pairwise_map.1 h1
  · unfold Mk.upd at hp
    obtain ⟨q, hq, rfl⟩ := List.mem_map.1 hp
    have := h.keys q hq
    split
    · rename_i e; simp only; omega
    · exact this
  · unfold Mk.upd at hp
    obtain ⟨q, hq, rfl⟩ := List.mem_map.1 hp
    have := h.vals q hq
    split
    · simp only; omega
    · exact this
theorem least_le {L : List (Int × Int)} : ∀ p ∈ L, least L ≤ p.2 := by
  induction L with
  | nil => intro p hp; cases hp
  | cons q L ih =>
    intro p hp
    show min q.2 (least L) ≤ p.2
    rcases List.mem_cons.1 hp with rfl | hp
    · omega
    · have := ih p hp
      omega
theorem least_top (L : List (Int × Int)) : least L ≤ 1099511627776 := by
  induction L with
  | nil => exact Int.le_refl _
  | cons q L ih => show min q.2 (least L) ≤ _; omega
theorem least_is (L : List (Int × Int)) : least L = 1099511627776 ∨ ∃ p ∈ L, p.2 = least L := by
  induction L with
  | nil => exact .inl rfl
  | cons q L ih =>
    show min q.2 (least L) = _ ∨ ∃ p ∈ q :: L, p.2 = min q.2 (least L)
    rcases Int.le_total q.2 (least L) with h | h
    · exact .inr ⟨q, by simp, by omega⟩
    · rcases ih with e | ⟨p, hp, e⟩
      · exact .inl (by omega)
      · exact .inr ⟨p, List.mem_cons_of_mem _ hp, by omega⟩
/-- A number that is no greater than any, and one of them (or the greatest there may be), is the least. -/
theorem least_eq {L : List (Int × Int)} {m : Int} (h1 : ∀ p ∈ L, m ≤ p.2) (h2 : m = 1099511627776 ∨ ∃ p ∈ L, p.2 = m) (h3 : m ≤ 1099511627776) : least L = m := by
  have ht := least_top L
  rcases least_is L with e | ⟨p, hp, e⟩
  · rcases h2 with e2 | ⟨q, hq, e2⟩
    · omega
    · have := least_le q hq
      omega
  · have := h1 p hp
    rcases h2 with e2 | ⟨q, hq, e2⟩
    · omega
    · have := least_le q hq
      omega
/-- What a map that reads as D says: just L. -/
structure View (D : DataW Unit) (L : List (Int × Int)) : Prop where
  tidy : Tidy D
  has : ∀ k : Int, Maps.has D (.int .i64 k) = (lk L k).isSome
  at_ : ∀ (k t : Int), lk L k = some t → ∀ z, D.atKey (.int .i64 k) z = .lit (.int .i64 t)
  size : Maps.size D = L.length
theorem view_nil : View (.map []) [] := ⟨tidy_empty, fun _ => rfl, fun _ _ h => (by cases h), rfl⟩
theorem View.put {D : DataW Unit} {L : List (Int × Int)} (h : View D L) {k w : Int} (t : Int) (hk : lk L k = some w) : View (D.put (.int .i64 k) (.lit (.int .i64 t))) (upd L k t) := by
  refine ⟨h.tidy.put (k := .int .i64 k) (by simp [WideAt.IsKeyLit]) _, fun k' => ?_, fun k' t' hl z => ?_, ?_⟩
  · by_cases e : k' = k
    · subst e
      rw [has_put_same h.tidy.isMap (k := .int .i64 _) (by simp [WideAt.IsKeyLit]), lk_upd_same hk]
      rfl
    · rw [has_put_other (by simpa using e), lk_upd_other e, h.has]
  · by_cases e : k' = k
    · subst e
      rw [lk_upd_same hk] at hl
      injection hl with hl
      rw [atKey_put_same h.tidy.isMap (k := .int .i64 _) (by simp [WideAt.IsKeyLit]), hl]
    · rw [lk_upd_other e] at hl
      rw [atKey_put_other (by simpa using e), h.at_ k' t' hl]
  · rw [size_put h.tidy, h.has, hk, upd_len]
    exact h.size
theorem lk_snoc {L : List (Int × Int)} {k t k' : Int} : lk (L ++ [(k, t)]) k' = (lk L k').or (if k = k' then some t else none) := by
  induction L with
  | nil => simp [lk]
  | cons p L ih =>
    rw [List.cons_append, lk, lk, ih]
    split <;> rfl
theorem View.snoc {D : DataW Unit} {L : List (Int × Int)} (h : View D L) {k : Int} (t : Int) (hk : lk L k = none) : View (D.put (.int .i64 k) (.lit (.int .i64 t))) (L ++ [(k, t)]) := by
  refine ⟨h.tidy.put (k := .int .i64 k) (by simp [WideAt.IsKeyLit]) _, fun k' => ?_, fun k' t' hl z => ?_, ?_⟩
  · rw [lk_snoc]
    by_cases e : k' = k
    · subst e
      rw [has_put_same h.tidy.isMap (k := .int .i64 _) (by simp [WideAt.IsKeyLit]), hk]
      simp
    · rw [has_put_other (by simpa using e), h.has, if_neg (fun h => e h.symm)]
      simp
  · rw [lk_snoc] at hl
    by_cases e : k' = k
    · subst e
      rw [hk] at hl
      simp at hl
      rw [atKey_put_same h.tidy.isMap (k := .int .i64 _) (by simp [WideAt.IsKeyLit]), hl]
    · rw [if_neg (fun h => e h.symm)] at hl
      simp at hl
      rw [atKey_put_other (by simpa using e), h.at_ k' t' hl]
  · rw [size_put h.tidy, h.has, hk, List.length_append, h.size]
    rfl
def mark (L : List (Int × Int)) : Int := if L = [] then -1 else least L
/-- Under way through a map: m is the least of what has come. -/
structure MRel (L : List (Int × Int)) (left : Lit → Bool) (m : Int) : Prop where
  top : m ≤ 1099511627776
  low : ∀ p ∈ L, left (.int .i64 p.1) = false → m ≤ p.2
  one : m = 1099511627776 ∨ ∃ p ∈ L, p.2 = m
  has : ∀ k : Int, left (.int .i64 k) = true → (lk L k).isSome = true
theorem MRel.start {D : DataW Unit} {L : List (Int × Int)} (h : View D L) : MRel L (Maps.has D) 1099511627776 := by
  refine ⟨Int.le_refl _, fun p hp he => ?_, .inl rfl, fun k hk => by rw [← h.has]; exact hk⟩
  rw [h.has] at he
  cases hl : lk L p.1 with
  | none => exact absurd rfl (lk_none.1 hl p hp)
  | some t => rw [hl] at he; cases he
theorem MRel.done {L : List (Int × Int)} {left : Lit → Bool} {m : Int} (h : MRel L left m) (hl : ∀ k, left k = false) : least L = m :=
  least_eq (fun p hp => h.low p hp (hl _)) h.one h.top
theorem MRel.step {D : DataW Unit} {L : List (Int × Int)} {left : Lit → Bool} {m x c : Int} (h : MRel L left m) (hg : Good L) (hv : View D L) (hx : left (.int .i64 x) = true) (hat : ∀ z, D.atKey (.int .i64 x) z = .lit (.int .i64 c)) : MRel L (fun z => left z && !z.sameKey (.int .i64 x)) (if c < m then c else m) := by
  have h1 := h.has x hx
  obtain ⟨c', hc⟩ := Option.isSome_iff_exists.1 h1
  have e := hv.at_ x c' hc .nil
  rw [hat] at e
  injection e with e
  injection e with _ e
  subst e
  have hm := lk_mem hc
  have ht := h.top
  refine ⟨by split <;> omega, fun p hp he => ?_, ?_, fun k hk => h.has k (by simp at hk; exact hk.1)⟩
  · simp only [Bool.and_eq_false_iff, Bool.not_eq_false'] at he
    rcases he with he | he
    · have := h.low p hp he
      split <;> omega
    · have e : p.1 = x := by simpa [Lit.sameKey] using he
      have h2 := lk_of_mem hg.rise (k := p.1) (t := p.2) hp
      rw [e, hc] at h2
      injection h2 with h2
      split <;> omega
  · split
    · exact .inr ⟨_, hm, rfl⟩
    · exact h.one
end Go.Proofs.Ytmnglonjekegcaa.Mk
