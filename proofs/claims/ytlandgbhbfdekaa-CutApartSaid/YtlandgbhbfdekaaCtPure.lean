/- (c16) Plain laws of cut.Parts: the least vertex that each one hangs together with. -/
import Derived.Test.YtlandgbhbfdekaaTpP
import Derived.Test.YtlandgbhbfdekaaCtMax
import Derived.Test.YtlandgbhbfdekaaMkPure
namespace Go.Proofs.Ytlandgbhbfdekaa.Ex
open Go Go.RowKit Go.Proofs.YtlandgbhbfdekaaW.PrintWords Go.Proofs.YtlandgbhbfdekaaW.PrintLast Go.Proofs.YtlandgbhbfdekaaW.PrintMore
set_option linter.unusedVariables false
set_option linter.unusedSimpArgs false
def mergeL (a b : Int) (ls : List Int) : List Int := ls.map fun x => if x = max a b then min a b else x
/-- Who reads whom, in their order: those of the vertices from i on. -/
def edgesFrom : Nat → List Vx → List (Nat × Int)
  | _, [] => []
  | i, v :: vs => v.f1.map (fun x => (i, x)) ++ edgesFrom (i + 1) vs
def edges (l : List Vx) : List (Nat × Int) := edgesFrom 0 l
/-- Do they hang together without being known to? -/
def hitB (l : List Vx) (ls : List Int) (p : Nat × Int) : Bool := !((vAt l p.2).f0 == 5) && !(rd ls (p.1 : Int) == rd ls p.2)
def runP (l : List Vx) : Nat → List Int → List Int
  | 0, ls => ls
  | k + 1, ls => match (edges l).find? (hitB l ls) with
    | none => ls
    | some p => runP l k (mergeL (rd ls (p.1 : Int)) (rd ls p.2) ls)
def total (ls : List Int) : Nat := (ls.map Int.toNat).sum
def iota (n : Nat) : List Int := (List.range n).map fun i : Nat => ((i : Nat) : Int)
theorem merge_len (a b : Int) (ls : List Int) : (mergeL a b ls).length = ls.length := by simp [mergeL]
theorem merge_pos {a b : Int} (ha : 0 ≤ a) (hb : 0 ≤ b) {ls : List Int} (h : ∀ x ∈ ls, 0 ≤ x) : ∀ x ∈ mergeL a b ls, 0 ≤ x := by
  intro x hx
  obtain ⟨y, hy, rfl⟩ := List.mem_map.1 hx
  have := h y hy
  split <;> omega
theorem total_le {m u : Int} (h0 : 0 ≤ m) (h1 : m < u) : ∀ ls : List Int, total (ls.map fun x => if x = u then m else x) ≤ total ls := by
  intro ls
  induction ls with
  | nil => exact Nat.le_refl _
  | cons a ls ih =>
    unfold total at ih ⊢
    simp only [List.map_cons, List.sum_cons]
    by_cases e : a = u
    · rw [if_pos e]; omega
    · rw [if_neg e]; omega
theorem total_lt {m u : Int} (h0 : 0 ≤ m) (h1 : m < u) : ∀ ls : List Int, u ∈ ls → total (ls.map fun x => if x = u then m else x) < total ls := by
  intro ls
  induction ls with
  | nil => intro h; cases h
  | cons a ls ih =>
    intro h
    have hle := total_le h0 h1 ls
    unfold total at ih hle ⊢
    simp only [List.map_cons, List.sum_cons]
    by_cases e : a = u
    · rw [if_pos e]; omega
    · rw [if_neg e]
      rcases List.mem_cons.1 h with h | h
      · exact absurd h.symm e
      · have := ih h; omega
theorem rd_mem' {ls : List Int} {x : Int} (h0 : 0 ≤ x) (h : x < ls.length) : rd ls x ∈ ls := by
  unfold rd
  rw [List.getD_eq_getElem?_getD, List.getElem?_eq_getElem (by omega)]
  exact List.getElem_mem _
theorem merge_lt {a b : Int} {ls : List Int} (ha : a ∈ ls) (hb : b ∈ ls) (hne : a ≠ b) (h : ∀ x ∈ ls, 0 ≤ x) : total (mergeL a b ls) < total ls := by
  have h1 := h a ha
  have h2 := h b hb
  refine total_lt (by omega) (by omega) ls ?_
  rcases Int.le_total a b with h3 | h3
  · rw [show max a b = b by omega]; exact hb
  · rw [show max a b = a by omega]; exact ha
theorem merge_top {a b n : Int} (ha : a < n) {ls : List Int} (h : ∀ x ∈ ls, x < n) : ∀ x ∈ mergeL a b ls, x < n := by
  intro x hx
  obtain ⟨y, hy, rfl⟩ := List.mem_map.1 hx
  have := h y hy
  split <;> omega
theorem iota_top (n : Nat) : ∀ x ∈ iota n, x < (n : Int) := by
  intro x hx
  obtain ⟨i, hi, rfl⟩ := List.mem_map.1 hx
  have := List.mem_range.1 hi
  omega
/-- All vertices that are read lie in the list. -/
def InR (l : List Vx) : Prop := ∀ p ∈ edges l, p.1 < l.length ∧ 0 ≤ p.2 ∧ p.2 < (l.length : Int)
theorem hit_ne {l : List Vx} {ls : List Int} {p : Nat × Int} (h : hitB l ls p = true) : (vAt l p.2).f0 ≠ 5 ∧ rd ls (p.1 : Int) ≠ rd ls p.2 := by
  unfold hitB at h
  simp only [Bool.and_eq_true, Bool.not_eq_true', beq_eq_false_iff_ne, ne_eq] at h
  exact h
/-- What is found, and the row behind it. -/
structure PInv (l : List Vx) (fin ls : List Int) : Prop where
  len : ls.length = l.length
  pos : ∀ x ∈ ls, 0 ≤ x
  top : ∀ x ∈ ls, x < (l.length : Int)
  run : ∃ k, total ls < k ∧ runP l k ls = fin
theorem PInv.step {l : List Vx} {fin ls : List Int} (h : PInv l fin ls) (hr : InR l) {p : Nat × Int} (hf : (edges l).find? (hitB l ls) = some p) : PInv l fin (mergeL (rd ls (p.1 : Int)) (rd ls p.2) ls) := by
  obtain ⟨k, h1, h2⟩ := h.run
  obtain ⟨r1, r2, r3⟩ := hr p (List.mem_of_find?_eq_some hf)
  have hh := hit_ne (List.find?_some hf)
  have ma : rd ls (p.1 : Int) ∈ ls := rd_mem' (by omega) (by rw [h.len]; omega)
  have mb : rd ls p.2 ∈ ls := rd_mem' r2 (by rw [h.len]; exact r3)
  have hlt := merge_lt ma mb hh.2 h.pos
  obtain ⟨k, rfl⟩ : ∃ m, k = m + 1 := ⟨k - 1, by omega⟩
  refine ⟨by rw [merge_len, h.len], merge_pos (h.pos _ ma) (h.pos _ mb) h.pos, merge_top (h.top _ ma) h.top, k, by omega, ?_⟩
  rw [runP, hf] at h2
  exact h2
theorem PInv.done {l : List Vx} {fin ls : List Int} (h : PInv l fin ls) (hf : (edges l).find? (hitB l ls) = none) : ls = fin := by
  obtain ⟨k, h1, h2⟩ := h.run
  obtain ⟨k, rfl⟩ : ∃ m, k = m + 1 := ⟨k - 1, by omega⟩
  rw [runP, hf] at h2
  exact h2
theorem iota_len (n : Nat) : (iota n).length = n := by simp [iota]
theorem iota_pos (n : Nat) : ∀ x ∈ iota n, 0 ≤ x := by
  intro x hx
  obtain ⟨i, _, rfl⟩ := List.mem_map.1 hx
  omega
theorem total_iota : ∀ n : Nat, total (iota n) ≤ n * n := by
  intro n
  induction n with
  | zero => simp [total, iota]
  | succ n ih =>
    unfold total iota at ih ⊢
    rw [List.range_succ]
    simp only [List.map_append, List.sum_append, List.map_cons, List.map_nil, List.sum_cons, List.sum_nil, Int.toNat_natCast]
    have : (n + 1) * (n + 1) = n * n + 2 * n + 1 := by rw [Nat.add_mul, Nat.mul_add]; omega
    omega
def leastOf (l : List Vx) : List Int := runP l 600 (iota l.length)
theorem PInv.start {l : List Vx} (hl : l.length ≤ 24) : PInv l (leastOf l) (iota l.length) :=
  ⟨iota_len _, iota_pos _, iota_top _, 600, by
    have h1 := total_iota l.length
    have h2 : l.length * l.length ≤ 24 * 24 := Nat.mul_le_mul hl hl
    omega, rfl⟩
theorem vert_from {l : List Vx} {i : Nat} {v : Vx} {ks : List (Int × Int)} (h : vertOf l i v ks = 0) : ∀ x ∈ v.f1, 0 ≤ x ∧ x < (i : Int) := by
  unfold vertOf at h
  by_cases h1 : v.f0 < 1 ∨ 10 < v.f0
  · rw [if_pos h1] at h; exact absurd h (by decide)
  rw [if_neg h1] at h
  by_cases h2 : v.f1.any (badB i) = true
  · rw [if_pos h2] at h; exact absurd h (by decide)
  intro x hx
  have h3 : badB i x = false := by
    cases hb : badB i x with
    | false => rfl
    | true => exact absurd (List.any_eq_true.2 ⟨x, hx, hb⟩) h2
  unfold badB at h3
  simp only [Bool.or_eq_false_iff, decide_eq_false_iff_not] at h3
  omega
theorem go_inr (l : List Vx) : ∀ (vs : List Vx) (i : Nat) (ks : List (Int × Int)), (checkGo l i vs ks).2 = 0 → ∀ p ∈ edgesFrom i vs, p.1 < i + vs.length ∧ 0 ≤ p.2 ∧ p.2 < (p.1 : Int) := by
  intro vs
  induction vs with
  | nil => intro i ks _ p hp; cases hp
  | cons v vs ih =>
    intro i ks h p hp
    rw [checkGo] at h
    by_cases hv : vertOf l i v ks = 0
    · rw [if_pos hv] at h
      rw [edgesFrom] at hp
      rcases List.mem_append.1 hp with hp | hp
      · obtain ⟨x, hx, rfl⟩ := List.mem_map.1 hp
        have := vert_from hv x hx
        simp only [List.length_cons]
        omega
      · have := ih (i + 1) _ h p hp
        simp only [List.length_cons]
        omega
    · rw [if_neg hv] at h
      exact absurd h hv
theorem check_inr {l : List Vx} {p : Int} (h : (checkOf l p).2 = 0) : InR l ∧ 0 < l.length ∧ l.length ≤ 24 := by
  unfold checkOf at h
  by_cases h1 : p < 1 ∨ 8 < p ∨ l.length = 0 ∨ 24 < l.length
  · rw [if_pos h1] at h; exact absurd h (by decide)
  rw [if_neg h1] at h
  refine ⟨fun q hq => ?_, by omega, by omega⟩
  have := go_inr l l 0 [] h q hq
  omega
/-! The parts' numbers: each value has the number of its first coming. -/
def numGo : List (Int × Int) → List Int → List (Int × Int)
  | L, [] => L
  | L, x :: xs => numGo (if (Mk.lk L x).isSome = true then L else L ++ [(x, (L.length : Int))]) xs
def partsOf (l : List Vx) : List Int := (leastOf l).map fun x => (Mk.lk (numGo [] (leastOf l)) x).getD 0
def cut_Parts.f (l0 : List Vx) (a1 : Int) : Option (List Int × Int) := if okV l0 = true then (if (checkOf l0 a1).2 = 0 then some (partsOf l0, 0) else some ([], (checkOf l0 a1).2)) else none
end Go.Proofs.Ytlandgbhbfdekaa.Ex
