/- Plain laws of topologies: without the last vertex, with one more. -/
import Derived.Test.YteanncfmaomhaaaTpCheck
namespace Go.Proofs.Yteanncfmaomhaaa.Ex
open Go Go.RowKit Go.Proofs.YteanncfmaomhaaaW.PrintWords Go.Proofs.YteanncfmaomhaaaW.PrintLast Go.Proofs.YteanncfmaomhaaaW.PrintMore
set_option linter.unusedVariables false
set_option linter.unusedSimpArgs false
theorem vAt_of {l : List Vx} {x : Int} (h0 : 0 ≤ x) (h1 : x < (l.length : Int)) : vAt l x = l[x.toNat]'(by omega) := by
  unfold vAt rd_T40
  rw [List.getD_eq_getElem?_getD, List.getElem?_eq_getElem (by omega)]
  rfl
theorem vAt_app {l r : List Vx} {x : Int} (h0 : 0 ≤ x) (h1 : x < (l.length : Int)) : vAt (l ++ r) x = vAt l x := by
  rw [vAt_of h0 h1, vAt_of h0 (by rw [List.length_append]; omega), List.getElem_append_left]
/-- A vertex's error hangs on those ahead alone. -/
theorem vert_app (l r : List Vx) (i : Nat) (v : Vx) (ks : List (Int × Int)) (hi : i ≤ l.length) : vertOf (l ++ r) i v ks = vertOf l i v ks := by
  by_cases h1 : v.f0 < 1 ∨ 10 < v.f0
  · rw [vert1 h1, vert1 h1]
  cases h2 : v.f1.any (badB i) with
  | true => rw [vert2 h1 h2, vert2 h1 h2]
  | false =>
    cases h3 : hasB (fmOf v.f0) v with
    | false => rw [vert3 h1 h2 h3, vert3 h1 h2 h3]
    | true =>
      cases h4 : ((fmOf v.f0).own && decide ((v.f0, v.f3) ∈ ks)) with
      | true => rw [vert4 h1 h2 h3 h4, vert4 h1 h2 h3 h4]
      | false =>
        rw [vert5 h1 h2 h3 h4, vert5 h1 h2 h3 h4]
        have hx : ∀ x ∈ v.f1, vAt (l ++ r) x = vAt l x := fun x hx => by
          have := List.any_eq_false.1 h2 x hx
          unfold badB at this
          simp at this
          exact vAt_app this.1 (by omega)
        have hs : v.f1.any (sinkB (l ++ r)) = v.f1.any (sinkB l) := by
          apply Bool.eq_iff_iff.2
          rw [List.any_eq_true, List.any_eq_true]
          constructor
          · rintro ⟨x, h, e⟩; exact ⟨x, h, by unfold sinkB at e ⊢; rw [← hx x h]; exact e⟩
          · rintro ⟨x, h, e⟩; exact ⟨x, h, by unfold sinkB at e ⊢; rw [hx x h]; exact e⟩
        rw [hs]
        by_cases h9 : v.f0 = 9
        · have h2l : v.f1.length = 2 := by
            have h := h3
            rw [h9] at h
            unfold hasB at h
            simp [fmOf] at h
            omega
          have := hx _ (rd_memI v.f1 1 (by omega))
          change vAt (l ++ r) (rd v.f1 1) = vAt l (rd v.f1 1) at this
          rw [this]
        · simp only [h9, false_and, if_false]
/-- Kinds and numbers of the first ones, the last one ahead. -/
def keysGo : List Vx → List (Int × Int) → List (Int × Int)
  | [], ks => ks
  | v :: vs, ks => keysGo vs ((v.f0, v.f3) :: ks)
theorem mem_keysGo : ∀ (vs : List Vx) (ks : List (Int × Int)) (q : Int × Int), q ∈ keysGo vs ks ↔ q ∈ ks ∨ ∃ u ∈ vs, (u.f0, u.f3) = q
  | [], ks, q => by simp [keysGo]
  | v :: vs, ks, q => by
    rw [keysGo, mem_keysGo vs]
    constructor
    · rintro (h | ⟨u, hu, rfl⟩)
      · rcases List.mem_cons.1 h with rfl | h
        · exact .inr ⟨v, List.mem_cons_self, rfl⟩
        · exact .inl h
      · exact .inr ⟨u, List.mem_cons_of_mem _ hu, rfl⟩
    · rintro (h | ⟨u, hu, rfl⟩)
      · exact .inl (List.mem_cons_of_mem _ h)
      · rcases List.mem_cons.1 hu with rfl | hu
        · exact .inl List.mem_cons_self
        · exact .inr ⟨u, hu, rfl⟩
/-- One more behind. -/
theorem go_app (l : List Vx) (w : Vx) : ∀ (vs : List Vx) (i : Nat) (ks : List (Int × Int)), i + vs.length = l.length →
    checkGo (l ++ [w]) i (vs ++ [w]) ks = if (checkGo l i vs ks).2 = 0 then (if vertOf l l.length w (keysGo vs ks) = 0 then (-1, 0) else ((l.length : Int), vertOf l l.length w (keysGo vs ks))) else checkGo l i vs ks := by
  intro vs
  induction vs with
  | nil =>
    intro i ks hi
    obtain rfl : i = l.length := by simpa using hi
    rw [List.nil_append, checkGo, checkGo, checkGo, vert_app l [w] l.length w ks (Nat.le_refl _), if_pos rfl]
    rfl
  | cons v vs ih =>
    intro i ks hi
    rw [List.length_cons] at hi
    rw [List.cons_append, checkGo, checkGo, vert_app l [w] i v ks (by omega)]
    by_cases h : vertOf l i v ks = 0
    · rw [if_pos h, if_pos h, ih (i + 1) _ (by omega)]
      rfl
    · rw [if_neg h, if_neg h, if_neg h]
theorem go_ok_fst (l : List Vx) : ∀ (vs : List Vx) (i : Nat) (ks : List (Int × Int)), (checkGo l i vs ks).2 = 0 → checkGo l i vs ks = (-1, 0) := by
  intro vs
  induction vs with
  | nil => intro i ks _; rfl
  | cons v vs ih =>
    intro i ks h
    rw [checkGo] at h ⊢
    by_cases hv : vertOf l i v ks = 0
    · rw [if_pos hv] at h ⊢; exact ih _ _ h
    · rw [if_neg hv] at h; exact absurd h hv
/-- A topology of at most 23 with one more. -/
theorem check_app (l : List Vx) (w : Vx) (p : Int) (hl : 1 ≤ l.length) (h24 : l.length < 24) :
    checkOf (l ++ [w]) p = if (checkOf l p).2 = 0 then (if vertOf l l.length w (keysGo l []) = 0 then (-1, 0) else ((l.length : Int), vertOf l l.length w (keysGo l []))) else checkOf l p := by
  have e1 : (l ++ [w]).length = l.length + 1 := by rw [List.length_append]; rfl
  by_cases hp : p < 1 ∨ 8 < p
  · have h1 : checkOf l p = (-1, 2) := by
      unfold checkOf
      rw [if_pos (by omega)]
    have h2 : checkOf (l ++ [w]) p = (-1, 2) := by
      unfold checkOf
      rw [if_pos (by omega)]
    rw [h1, h2, if_neg (fun h => by cases h)]
  · have h1 : checkOf l p = checkGo l 0 l [] := by
      unfold checkOf
      rw [if_neg (by omega)]
    have h2 : checkOf (l ++ [w]) p = checkGo (l ++ [w]) 0 (l ++ [w]) [] := by
      unfold checkOf
      rw [if_neg (by omega)]
    rw [h1, h2]
    exact go_app l w l 0 [] (by omega)
/-- A vertex's number is below the length, or there is none. -/
theorem check_ok_pair {l : List Vx} {p : Int} (h : (checkOf l p).2 = 0) : checkOf l p = (-1, 0) := by
  unfold checkOf at h ⊢
  split
  · rename_i hb; rw [if_pos hb] at h; cases h
  · rename_i hb; rw [if_neg hb] at h; exact go_ok_fst l l 0 [] h
end Go.Proofs.Yteanncfmaomhaaa.Ex
