/- (c11) Plain: one transaction of one task, and its end. -/
import Derived.Test.YtmnglonjekegcaaVwGr
namespace Go.Proofs.Ytmnglonjekegcaa.Vw
open Go Go.RowKit Go.Proofs.Ytmnglonjekegcaa.Rp
set_option linter.unusedVariables false
set_option linter.unusedSimpArgs false
theorem getTV_no {L : List S41} {k : Int} (h : k ∉ L.map (·.f0)) : getTV L k = ⟨k, 0, 0, [], [], 0⟩ := by
  unfold getTV
  rw [List.find?_eq_none.2 (fun a ha => by simpa using fun e => h (List.mem_map.2 ⟨a, ha, e⟩))]
  rfl
theorem getT_no {T : List TS} {k : Int} (h : k ∉ T.map (·.t.f0)) : getT T k = newT k := by
  unfold getT
  rw [List.find?_eq_none.2 (fun a ha => by simpa using fun e => h (List.mem_map.2 ⟨a, ha, e⟩))]
  rfl
/-- What is told of a task, there or not. -/
theorem told_getT (l : List S47) (k : Int) : getTV (readV l).f1 k = toldT (getT (throughV l).T k) := by
  by_cases h : k ∈ (throughV l).T.map (·.t.f0)
  · obtain ⟨a, ha, rfl⟩ := List.mem_map.1 h
    rw [told_task ha, getT_in (KInv.through l).ndT ha]
  · rw [getTV_no (by rw [told_keysT, sortI_mem]; exact h), getT_no h]
    rfl
/-- A record of the task k's first transaction. -/
def DatE (k : Int) (x : S47) : Prop := mayE x = true ∧ x.f0 = 2 ∧ x.f1 = k ∧ x.f2 = 0 ∧ x.f3 = 0
def pl (i : Int) : List S47 → List (Int × S47)
  | [] => []
  | x :: l => (i, x) :: pl (i + 1) l
theorem pl_snd (l : List S47) : ∀ i : Int, (pl i l).map Prod.snd = l := by
  induction l with
  | nil => exact fun i => rfl
  | cons x l ih => intro i; rw [pl, List.map_cons, ih]
theorem DatE.tk {k : Int} {x : S47} (h : DatE k x) : tk x = true := by
  obtain ⟨h1, h2, _⟩ := h
  unfold Vw.tk
  rw [h1, h2]
  decide
theorem runO_data {k : Int} (l : List S47) (h : ∀ x ∈ l, DatE k x) : ∀ (s : TS) (i : Int), s.t.f1 = 0 → s.t.f2 = 0 → runO i s k l = ⟨s.t, s.o ++ pl i l⟩ := by
  induction l with
  | nil => intro s i _ _; simp [runO, pl]
  | cons x l ih =>
    intro s i h1 h2
    have hx := h x (by simp)
    have hs : stepO i x s = ⟨s.t, s.o ++ [(i, x)]⟩ := by
      obtain ⟨_, e0, e1, e2, e3⟩ := hx
      unfold stepO
      rw [if_neg (by omega), if_neg (by rw [e2, e3, h1, h2]; simp), if_pos e0]
      rfl
    rw [runO, if_pos ⟨hx.tk, hx.2.2.1.symm⟩, hs, ih (fun y hy => h y (by simp [hy])) ⟨s.t, s.o ++ [(i, x)]⟩ (i + 1) h1 h2, pl, List.append_assoc]
    rfl
theorem goP_data {k : Int} (l : List S47) (h : ∀ x ∈ l, DatE k x) : ∀ (T : List TS) (i : Int), goP T i l = [] := by
  induction l with
  | nil => exact fun _ _ => rfl
  | cons x l ih =>
    intro T i
    have hx := h x (by simp)
    rw [goP, ih (fun y hy => h y (by simp [hy])), List.append_nil]
    unfold putsAt
    rw [if_neg (fun e => by have := hx.2.1; omega), if_neg (fun e => by have := hx.2.1; omega)]
theorem goT_one {k : Int} (l : List S47) (h : ∀ x ∈ l, tk x = true ∧ x.f1 = k) : ∀ (s : TS) (i : Int), s.t.f0 = k → goT [s] i l = [runO i s k l] := by
  induction l with
  | nil => exact fun _ _ _ => rfl
  | cons x l ih =>
    intro s i hs
    have hx := h x (by simp)
    have h1 : stepT [s] i x = [stepO i x s] := by
      unfold stepT
      rw [if_pos hx.1]
      unfold ensT
      rw [if_pos (hasT_iff.2 (by simp [hs, hx.2]))]
      unfold modT
      rw [List.map_cons, if_pos (by rw [hs, hx.2])]
      rfl
    rw [goT, h1, ih (fun y hy => h y (by simp [hy])) _ _ (by rw [stepO_key]; exact hs), runO, if_pos ⟨hx.1, hx.2.symm⟩]
theorem goT_first {k : Int} {l : List S47} (h : ∀ x ∈ l, tk x = true ∧ x.f1 = k) (hl : l ≠ []) : goT [] 0 l = [runO 0 (newT k) k l] := by
  cases l with
  | nil => exact absurd rfl hl
  | cons x l =>
    have hx := h x (by simp)
    have h1 : stepT [] 0 x = [stepO 0 x (newT k)] := by
      unfold stepT
      rw [if_pos hx.1]
      unfold ensT
      rw [if_neg (fun e => by have := hasT_iff.1 e; simp at this), hx.2]
      unfold modT
      rw [List.nil_append, List.map_cons, if_pos (show (newT k).t.f0 = k from rfl)]
      rfl
    rw [goT, h1, goT_one l (fun y hy => h y (by simp [hy])) _ _ (by rw [stepO_key]; rfl), runO, if_pos ⟨hx.1, hx.2.symm⟩]
def stab (T : List TS) (n : Int) : Int := T.foldl (fun m s => match s.o with | [] => m | p :: _ => if p.1 < m then p.1 else m) n
theorem stable_one (l : List S47) (s : TS) (h : goT [] 0 l = [s]) : stableV l = match s.o with | [] => (l.length : Int) | p :: _ => if p.1 < (l.length : Int) then p.1 else (l.length : Int) := by
  unfold stableV
  rw [through_split]
  show List.foldl _ _ (goT [] 0 l) = _
  rw [h]
  rfl
/-! ### ahead of the end -/
section
variable {k : Int} {l : List S47} (h : ∀ x ∈ l, DatE k x)
include h
theorem at_logs : (readV l).f0 = [] := by
  have h1 : (throughV l).L = [] := by
    rw [through_split]
    show List.foldl putL [] (List.map Prod.snd (goP [] 0 l)) = []
    rw [goP_data l h]
    rfl
  unfold readV
  rw [h1]
  show List.map _ (sortI []) = []
  unfold sortI
  simp
theorem at_run : runO 0 (newT k) k l = ⟨(newT k).t, pl 0 l⟩ := by
  rw [runO_data l h (newT k) 0 rfl rfl]
  rfl
omit h in
theorem pl_len (i : Int) (l : List S47) : (pl i l).length = l.length := by
  have := congrArg List.length (pl_snd l i)
  rwa [List.length_map] at this
theorem at_open : (getTV (readV l).f1 k).f5 = (l.length : Int) := by
  rw [told_getT, through_split]
  show (toldT (getT (goT [] 0 l) k)).f5 = _
  rw [getT_go]
  show ((runO 0 (newT k) k l).o.length : Int) = _
  rw [at_run h, pl_len]
theorem at_stable : stableV l = 0 := by
  cases hl : l with
  | nil => rfl
  | cons x l2 =>
    have h3 : ∀ y ∈ l, tk y = true ∧ y.f1 = k := fun y hy => ⟨(h y hy).tk, (h y hy).2.2.1⟩
    rw [← hl, stable_one l _ (goT_first h3 (by rw [hl]; simp)), at_run h, hl]
    show (if (0 : Int) < ((x :: l2).length : Int) then (0 : Int) else _) = 0
    rw [if_pos (by rw [List.length_cons]; omega)]
end
/-! ### behind the end -/
def endE (k : Int) (c : Bool) : S47 := ⟨if c = true then 3 else 4, k, 0, 0, 0, ⟨0, 0, 0⟩, false, [], []⟩
theorem may_end {k : Int} (hk : 0 ≤ k ∧ k ≤ 255) (c : Bool) : mayE (endE k c) = true := by
  unfold mayE Rc.may
  rw [Bool.and_eq_true]
  constructor
  · unfold Rc.may0 Rc.num Rc.timeOk entOf endE
    cases c <;> simp <;> omega
  · rw [List.all_eq_true]
    intro i hi
    rw [List.mem_range] at hi
    rcases (show i = 0 ∨ i = 1 ∨ i = 2 ∨ i = 3 ∨ i = 4 ∨ i = 5 ∨ i = 6 ∨ i = 7 by omega) with rfl | rfl | rfl | rfl | rfl | rfl | rfl | rfl <;> cases c <;> first | rfl | (rw [Bool.or_eq_true]; exact Or.inr (show Nat.testBit 199 0 = true by decide)) | (rw [Bool.or_eq_true]; exact Or.inr (show Nat.testBit 7 0 = true by decide))
theorem may_data {k j : Int} {r : S45} (hk : 0 ≤ k ∧ k ≤ 255) (hj : 0 ≤ j ∧ j ≤ 4) (hr : 0 ≤ r.f2 ∧ r.f2 ≤ 1099511627776) : mayE ⟨2, k, 0, 0, j, r, false, [], []⟩ = true := by
  unfold mayE Rc.may
  rw [Bool.and_eq_true]
  constructor
  · unfold Rc.may0 Rc.num Rc.timeOk entOf
    simp
    omega
  · rw [List.all_eq_true]
    intro i hi
    rw [List.mem_range] at hi
    rcases (show i = 0 ∨ i = 1 ∨ i = 2 ∨ i = 3 ∨ i = 4 ∨ i = 5 ∨ i = 6 ∨ i = 7 by omega) with rfl | rfl | rfl | rfl | rfl | rfl | rfl | rfl <;> first | rfl | (rw [Bool.or_eq_true]; exact Or.inr (show Nat.testBit 63 0 = true by decide)) | (rw [Bool.or_eq_true]; exact Or.inr (show Nat.testBit 63 3 = true by decide)) | (rw [Bool.or_eq_true]; exact Or.inr (show Nat.testBit 63 4 = true by decide))
section
variable {k : Int} {l : List S47} (hk : 0 ≤ k ∧ k ≤ 255) (h : ∀ x ∈ l, DatE k x) (c : Bool)
include hk h
omit h in
theorem end_tk : tk (endE k c) = true := by
  unfold tk
  rw [may_end hk]
  cases c <;> rfl
theorem end_all : ∀ x ∈ l ++ [endE k c], tk x = true ∧ x.f1 = k := by
  intro x hx
  rcases List.mem_append.1 hx with hx | hx
  · exact ⟨(h x hx).tk, (h x hx).2.2.1⟩
  · rw [List.mem_singleton] at hx
    subst hx
    exact ⟨end_tk hk c, rfl⟩
theorem end_run : ∃ t o4, runO 0 (newT k) k (l ++ [endE k c]) = ⟨t, o4⟩ ∧ o4 = [] ∧ t.f2 = 1 := by
  rw [runO_append, at_run h, runO, if_pos ⟨end_tk hk c, rfl⟩, runO]
  unfold stepO endE
  cases c
  · exact ⟨_, _, rfl, rfl, rfl⟩
  · exact ⟨_, _, rfl, rfl, rfl⟩
theorem end_stable : stableV (l ++ [endE k c]) = ((l ++ [endE k c]).length : Int) := by
  obtain ⟨t, o4, e, rfl, _⟩ := end_run hk h c
  rw [stable_one _ _ (goT_first (end_all hk h c) (by simp)), e]
theorem end_txns : (getTV (readV (l ++ [endE k c])).f1 k).f2 = 1 := by
  obtain ⟨t, o4, e, _, h2⟩ := end_run hk h c
  rw [told_getT, through_split]
  show (toldT (getT (goT [] 0 _) k)).f2 = _
  rw [getT_go]
  show (runO 0 (newT k) k _).t.f2 = _
  rw [e]
  exact h2
theorem end_log (i : Int) : (getLV (readV (l ++ [endE k c])).f0 i).f1 = if c = true then (l.filter fun x => i == x.f4).map (·.f5) else [] := by
  rw [told_puts]
  unfold putsV
  rw [goP_append, goP_data l h, List.nil_append, goP, goP, List.append_nil]
  have hg : getT (goT [] 0 l) (endE k c).f1 = ⟨(newT k).t, pl 0 l⟩ := by
    show getT (goT [] 0 l) k = _
    rw [getT_go]
    exact at_run h
  unfold putsAt
  rw [hg, if_neg (fun e => by have h2 : (if c = true then (3 : Int) else 4) = 1 := e.2; revert h2; cases c <;> decide)]
  cases c
  · rw [if_neg (fun e => by have h2 : (if false = true then (3 : Int) else 4) = 3 := e.2.1; revert h2; decide)]
    rfl
  · rw [if_pos ⟨end_tk hk true, rfl, rfl, rfl⟩, pl_snd]
    rfl
end
/-! ### counting -/
theorem filt_lt (l : List S47) (i : Nat) : (l.filter fun x => decide (0 ≤ x.f4) && decide (x.f4 < ((i + 1 : Nat) : Int))).length = (l.filter fun x => decide (0 ≤ x.f4) && decide (x.f4 < (i : Int))).length + (l.filter fun x => (i : Int) == x.f4).length := by
  induction l with
  | nil => rfl
  | cons x l ih =>
    rw [List.filter_cons, List.filter_cons, List.filter_cons]
    by_cases h1 : x.f4 = (i : Int)
    · rw [if_pos (by simp; omega), if_neg (by simp; omega), if_pos (by simp; omega), List.length_cons, List.length_cons, ih]
      omega
    · rw [if_neg (c := ((i : Int) == x.f4) = true) (by simp; omega)]
      by_cases h2 : 0 ≤ x.f4 ∧ x.f4 < (i : Int)
      · rw [if_pos (by simp; omega), if_pos (by simp; omega), List.length_cons, List.length_cons, ih]
        omega
      · rw [if_neg (by simp; omega), if_neg (by simp; omega), ih]
theorem filt_all {l : List S47} (h : ∀ x ∈ l, 0 ≤ x.f4 ∧ x.f4 ≤ 4) : (l.filter fun x => decide (0 ≤ x.f4) && decide (x.f4 < ((5 : Nat) : Int))).length = l.length := by
  rw [List.filter_eq_self.2]
  intro x hx
  have := h x hx
  simp
  omega
/-- The record that a place's entry put lies where the count tells. -/
theorem filt_at {l : List S47} {j : Nat} {x : S47} (hx : l[j]? = some x) {p : S47 → Bool} (hp : p x = true) : ((l.filter p).map (·.f5))[((l.take j).filter p).length]? = some x.f5 := by
  obtain ⟨hj, e⟩ := List.getElem?_eq_some_iff.1 hx
  have hl : l = l.take j ++ x :: l.drop (j + 1) := by
    rw [← e]
    simp
  conv => lhs; rw [hl]
  rw [List.filter_append, List.map_append, List.getElem?_append_right (by rw [List.length_map]; rw [← hl]; exact Nat.le_refl _), List.filter_cons_of_pos hp]
  rw [List.length_map, ← hl, Nat.sub_self]
  rfl
theorem filt_next {l : List S47} {j : Nat} {x : S47} (hx : l[j]? = some x) (p : S47 → Bool) : ((l.take (j + 1)).filter p).length = ((l.take j).filter p).length + if p x = true then 1 else 0 := by
  obtain ⟨hj, e⟩ := List.getElem?_eq_some_iff.1 hx
  rw [List.take_succ_eq_append_getElem hj, e, List.filter_append, List.length_append]
  split
  · rename_i h; rw [List.filter_cons_of_pos h]; rfl
  · rename_i h; rw [List.filter_cons_of_neg (by simpa using h)]; rfl
end Go.Proofs.Ytmnglonjekegcaa.Vw
