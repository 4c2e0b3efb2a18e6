/- (c14) Plain: what a change does to the sessions. -/
import Derived.Test.YtpjfmilokadchaaSeEx2
namespace Go.Proofs.Ytpjfmilokadchaa.Se
open Go Go.RowKit Go.Proofs.Ytpjfmilokadchaa.Ex
set_option linter.unusedVariables false
set_option linter.unusedSimpArgs false
def delS (L : List Ses) (x : Ses) : List Ses := L.filter fun y => !sameB y x
theorem idx_lt {L : List Ses} {x : Ses} : ∀ t, t < idxS L x → ∀ p, L[t]? = some p → ltB p x = true := by
  unfold idxS
  induction L with
  | nil => intro t ht; simp at ht
  | cons y L ih =>
    intro t ht p hp
    by_cases hy : ltB y x = true
    · cases t with
      | zero => simp at hp; rw [← hp]; exact hy
      | succ t =>
        rw [List.takeWhile_cons, if_pos hy, List.length_cons] at ht
        exact ih t (by omega) p (by simpa using hp)
    · rw [List.takeWhile_cons, if_neg hy] at ht
      simp at ht
theorem idx_ge {L : List Ses} {x : Ses} (h : Rise L) : ∀ t, idxS L x ≤ t → ∀ p, L[t]? = some p → ltB p x = false := by
  intro t ht p hp
  have hm : p ∈ L.dropWhile (fun y => ltB y x) := by
    have e : L.dropWhile (fun y => ltB y x) = L.drop (idxS L x) := by
      have h1 := ins_at L x
      unfold insS at h1
      have h2 : L.takeWhile (fun y => ltB y x) ++ L.dropWhile (fun y => ltB y x) = L := List.takeWhile_append_dropWhile
      have h3 : L.drop (idxS L x) = L.dropWhile (fun y => ltB y x) := by
        have : L.drop (idxS L x) = (L.takeWhile (fun y => ltB y x) ++ L.dropWhile (fun y => ltB y x)).drop (L.takeWhile (fun y => ltB y x)).length := by rw [h2]; rfl
        rw [this, List.drop_left]
      exact h3.symm
    rw [e]
    refine List.mem_of_getElem? (i := t - idxS L x) ?_
    rw [List.getElem?_drop, show idxS L x + (t - idxS L x) = t by omega]
    exact hp
  exact dw_ge h x p hm
theorem has_get {L : List Ses} {x : Ses} (h : Rise L) (hh : hasS L x = true) : ∃ p, L[idxS L x]? = some p ∧ sameB p x = true := by
  rw [has_at h (idxS L x) idx_lt (idx_ge h)] at hh
  cases hp : L[idxS L x]? with
  | none => rw [hp] at hh; simp at hh
  | some p => rw [hp] at hh; exact ⟨p, rfl, hh⟩
theorem lt_not_same {x y : Ses} (h : ltB x y = true) : sameB x y = false := by
  cases hs : sameB x y with
  | false => rfl
  | true => rw [same_iff] at hs; rw [ltB_iff] at h; omega
theorem lt_not_same' {x y : Ses} (h : ltB x y = true) : sameB y x = false := by
  cases hs : sameB y x with
  | false => rfl
  | true => rw [same_iff] at hs; rw [ltB_iff] at h; omega
theorem del_at {L : List Ses} {x p : Ses} (h : Rise L) (hp : L[idxS L x]? = some p) (hs : sameB p x = true) : L.take (idxS L x) ++ L.drop (idxS L x + 1) = delS L x := by
  obtain ⟨hl, e⟩ := List.getElem?_eq_some_iff.1 hp
  have hL : L = L.take (idxS L x) ++ p :: L.drop (idxS L x + 1) := by
    rw [← e, List.getElem_cons_drop, List.take_append_drop]
  have h1 : (L.take (idxS L x)).filter (fun y => !sameB y x) = L.take (idxS L x) := by
    rw [List.filter_eq_self]
    intro y hy
    obtain ⟨t, ht, rfl⟩ := List.getElem_of_mem hy
    have ht' := ht
    rw [List.length_take] at ht'
    rw [List.getElem_take, lt_not_same (idx_lt t (by omega) _ (List.getElem?_eq_getElem (by omega)))]
    rfl
  have h2 : (L.drop (idxS L x + 1)).filter (fun y => !sameB y x) = L.drop (idxS L x + 1) := by
    rw [List.filter_eq_self]
    intro y hy
    obtain ⟨t, ht, rfl⟩ := List.getElem_of_mem hy
    have ht' := ht
    rw [List.length_drop] at ht'
    rw [List.getElem_drop]
    have hlt := List.pairwise_iff_getElem.1 h (idxS L x) (idxS L x + 1 + t) hl (by omega) (by omega)
    rw [e] at hlt
    cases hq : sameB L[idxS L x + 1 + t] x with
    | false => rfl
    | true => rw [same_iff] at hq hs; rw [ltB_iff] at hlt; omega
  unfold delS
  conv => rhs; rw [hL]
  rw [List.filter_append, List.filter_cons_of_neg (by simp [hs]), h1, h2]
theorem set_at {L : List Ses} {x p : Ses} (h : Rise L) (hp : L[idxS L x]? = some p) (hs : sameB p x = true) : L.set (idxS L x) x = insS (delS L x) x := by
  obtain ⟨hl, e⟩ := List.getElem?_eq_some_iff.1 hp
  rw [← del_at h hp hs]
  generalize hi : idxS L x = i at *
  have hlt := fun t ht p hp => idx_lt (L := L) (x := x) t (by rw [hi]; exact ht) p hp
  have hge := fun t ht p hp => idx_ge (L := L) (x := x) h t (by rw [hi]; exact ht) p hp
  have hti : (L.take i).length = i := by rw [List.length_take]; omega
  have hid : idxS (L.take i ++ L.drop (i + 1)) x = i := by
    refine idx_of i (by rw [List.length_append, hti]; omega) (fun t ht q hq => ?_) (fun t ht q hq => ?_)
    · rw [List.getElem?_append_left (by omega), List.getElem?_take, if_pos ht] at hq
      exact hlt t ht q hq
    · rw [List.getElem?_append_right (by omega), List.getElem?_drop] at hq
      exact hge _ (by omega) q hq
  have hdd : (L.take i ++ L.drop (i + 1)).drop i = L.drop (i + 1) := by
    rw [List.drop_append, hti, Nat.sub_self, List.drop_zero, List.drop_of_length_le (by omega), List.nil_append]
  rw [ins_at, hid, List.take_append_of_le_length (by omega), List.take_of_length_le (by omega), hdd, List.set_eq_take_append_cons_drop, if_pos hl]
theorem del_fresh {L : List Ses} {x : Ses} (h : hasS L x = false) : delS L x = L := by
  unfold delS
  rw [List.filter_eq_self]
  intro y hy
  cases hs : sameB y x with
  | false => rfl
  | true => unfold hasS at h; rw [List.any_eq_false] at h; exact absurd hs (h y hy)
def sesOf (c : S33) : Ses := ⟨c.f0, c.f1, c.f2, c.f3⟩
def doC (L : List Ses) (c : S33) : List Ses := if c.f4 = true then delS L (sesOf c) else insS (delS L (sesOf c)) (sesOf c)
/-- A change that goes well. -/
structure OkC (room : Int) (L : List Ses) (c : S33) : Prop where
  span : Span (sesOf c)
  keys : In64 c.f0 ∧ In64 c.f3
  del : c.f4 = true → c.f3 = 0 ∧ hasS L (sesOf c) = true
  put : c.f4 = false → hasS L (sesOf c) = true ∨ (L.length : Int) < room
end Go.Proofs.Ytpjfmilokadchaa.Se
