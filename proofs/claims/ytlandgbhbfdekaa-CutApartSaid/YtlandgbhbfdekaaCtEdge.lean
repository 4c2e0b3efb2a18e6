/- (c16) Plain laws: the edges in their order, cut at one of them; what is found first. -/
import Derived.Test.YtlandgbhbfdekaaCtPure
namespace Go.Proofs.Ytlandgbhbfdekaa.Ex
open Go Go.RowKit Go.Proofs.YtlandgbhbfdekaaW.PrintWords
set_option linter.unusedVariables false
theorem edgesFrom_append : ∀ (xs ys : List Vx) (s : Nat), edgesFrom s (xs ++ ys) = edgesFrom s xs ++ edgesFrom (s + xs.length) ys := by
  intro xs
  induction xs with
  | nil => intro ys s; simp [edgesFrom]
  | cons v xs ih =>
    intro ys s
    rw [List.cons_append, edgesFrom, edgesFrom, ih, List.append_assoc, List.length_cons, show s + 1 + xs.length = s + (xs.length + 1) by omega]
/-- The edges of the first i vertices. -/
def edgesTo (l : List Vx) (i : Nat) : List (Nat × Int) := edgesFrom 0 (l.take i)
theorem edgesTo_zero (l : List Vx) : edgesTo l 0 = [] := by simp [edgesTo, edgesFrom]
theorem edgesTo_all (l : List Vx) : edgesTo l l.length = edges l := by simp [edgesTo, edges]
theorem edgesTo_succ {l : List Vx} {i : Nat} (hi : i < l.length) : edgesTo l (i + 1) = edgesTo l i ++ (l[i]).f1.map (fun x => (i, x)) := by
  unfold edgesTo
  rw [List.take_succ_eq_append_getElem hi, edgesFrom_append, List.length_take, Nat.min_eq_left (by omega), Nat.zero_add]
  simp [edgesFrom]
theorem edges_cut {l : List Vx} {i : Nat} (hi : i < l.length) : edges l = edgesTo l i ++ ((l[i]).f1.map (fun x => (i, x)) ++ edgesFrom (i + 1) (l.drop (i + 1))) := by
  have h : l = l.take i ++ (l[i] :: l.drop (i + 1)) := by rw [← List.drop_eq_getElem_cons hi, List.take_append_drop]
  have h2 : edges l = edgesFrom 0 (l.take i ++ (l[i] :: l.drop (i + 1))) := by rw [← h]; rfl
  rw [h2, edgesFrom_append, List.length_take, Nat.min_eq_left (by omega), Nat.zero_add, edgesFrom]
  rfl
theorem edge_mem {l : List Vx} {i k : Nat} (hi : i < l.length) (hk : k < (l[i]).f1.length) {x : Int} (hx : (l[i]).f1.getD k 0 = x) : (i, x) ∈ edges l := by
  rw [edges_cut hi]
  refine List.mem_append_right _ (List.mem_append_left _ (List.mem_map.2 ⟨x, ?_, rfl⟩))
  rw [← hx, List.getD_eq_getElem?_getD, List.getElem?_eq_getElem hk]
  exact List.getElem_mem _
/-- No hit among the first i vertices' edges and the first k of vertex i. -/
def noHit (l : List Vx) (ls : List Int) (i k : Nat) (fr : List Int) : Prop := (edgesTo l i).find? (hitB l ls) = none ∧ ∀ j, j < k → hitB l ls (i, fr.getD j 0) = false
theorem noHit.next {l : List Vx} {ls : List Int} {i k : Nat} {fr : List Int} {x : Int} (h : noHit l ls i k fr) (hx : rd fr (k : Int) = x) (hf : hitB l ls (i, x) = false) : noHit l ls i (k + 1) fr := by
  refine ⟨h.1, fun j hj => ?_⟩
  rcases Nat.lt_succ_iff_lt_or_eq.1 hj with h2 | rfl
  · exact h.2 j h2
  · unfold rd at hx
    rw [Int.toNat_natCast] at hx
    rw [hx]
    exact hf
theorem hit_five {l : List Vx} {ls : List Int} {i : Nat} {x kf : Int} (h : (vAt l x).f0 = kf) (h5 : kf = 5) : hitB l ls (i, x) = false := by
  unfold hitB
  simp only
  rw [h, h5]
  rfl
theorem hit_same {l : List Vx} {ls : List Int} {i : Nat} {x a b : Int} (ha : rd ls (i : Int) = a) (hb : rd ls x = b) (h : a = b) : hitB l ls (i, x) = false := by
  unfold hitB
  simp only
  rw [ha, hb, h]
  simp
theorem hit_true {l : List Vx} {ls : List Int} {i : Nat} {x a b kf : Int} (hk : (vAt l x).f0 = kf) (h5 : kf ≠ 5) (ha : rd ls (i : Int) = a) (hb : rd ls x = b) (h : a ≠ b) : hitB l ls (i, x) = true := by
  unfold hitB
  simp only
  rw [ha, hb, hk]
  simp [h5, h]
theorem noHit.round {l : List Vx} {ls : List Int} {i : Nat} (hi : i < l.length) (h : noHit l ls i (l[i]).f1.length (l[i]).f1) : (edgesTo l (i + 1)).find? (hitB l ls) = none := by
  rw [edgesTo_succ hi, List.find?_append, h.1, Option.none_or, List.find?_eq_none]
  intro p hp
  obtain ⟨x, hx, rfl⟩ := List.mem_map.1 hp
  obtain ⟨j, hj, rfl⟩ := List.getElem_of_mem hx
  have := h.2 j hj
  rw [List.getD_eq_getElem?_getD, List.getElem?_eq_getElem hj] at this
  simp only [Option.getD_some] at this
  rw [this]
  decide
theorem noHit.hit {l : List Vx} {ls : List Int} {i k : Nat} (hi : i < l.length) (h : noHit l ls i k (l[i]).f1) (hk : k < (l[i]).f1.length) (hh : hitB l ls (i, (l[i]).f1.getD k 0) = true) : (edges l).find? (hitB l ls) = some (i, (l[i]).f1.getD k 0) := by
  rw [edges_cut hi, List.find?_append, h.1, Option.none_or, List.find?_append]
  have hsplit : (l[i]).f1 = (l[i]).f1.take k ++ ((l[i]).f1.getD k 0 :: (l[i]).f1.drop (k + 1)) := by
    have e : (l[i]).f1.getD k 0 = (l[i]).f1[k] := by rw [List.getD_eq_getElem?_getD, List.getElem?_eq_getElem hk]; rfl
    rw [e, ← List.drop_eq_getElem_cons hk, List.take_append_drop]
  have hfirst : (((l[i]).f1.take k).map fun x => (i, x)).find? (hitB l ls) = none := by
    rw [List.find?_eq_none]
    intro p hp
    obtain ⟨x, hx, rfl⟩ := List.mem_map.1 hp
    obtain ⟨j, hj, rfl⟩ := List.getElem_of_mem hx
    rw [List.length_take] at hj
    have := h.2 j (by omega)
    rw [List.getD_eq_getElem?_getD, List.getElem?_eq_getElem (by omega)] at this
    simp only [Option.getD_some] at this
    rw [List.getElem_take, this]
    decide
  have hall : ((l[i]).f1.map fun x => (i, x)).find? (hitB l ls) = some (i, (l[i]).f1.getD k 0) := by
    generalize hg : (l[i]).f1.getD k 0 = y at hh hsplit
    rw [hsplit, List.map_append, List.find?_append, hfirst, Option.none_or, List.map_cons, List.find?_cons_of_pos hh]
  rw [hall]
  rfl
theorem hit_lt {l : List Vx} {fin ls : List Int} (h : PInv l fin ls) (hr : InR l) {p : Nat × Int} (hf : (edges l).find? (hitB l ls) = some p) : total (mergeL (rd ls (p.1 : Int)) (rd ls p.2) ls) < total ls := by
  obtain ⟨r1, r2, r3⟩ := hr p (List.mem_of_find?_eq_some hf)
  have hh := hit_ne (List.find?_some hf)
  exact merge_lt (rd_mem' (by omega) (by rw [h.len]; omega)) (rd_mem' r2 (by rw [h.len]; exact r3)) hh.2 h.pos
end Go.Proofs.Ytlandgbhbfdekaa.Ex
