/- (c14) Plain laws of sessions: by keys, then times; no program in sight. -/
import Derived.RowKit
namespace Go.Proofs.Ytpjfmilokadchaa.Se
open Go
set_option linter.unusedVariables false
set_option linter.unusedSimpArgs false
structure Ses where
  k : Int
  a : Int
  b : Int
  v : Int
def ltB (x y : Ses) : Bool := decide (x.k < y.k) || (x.k == y.k) && (decide (x.a < y.a) || (x.a == y.a) && decide (x.b < y.b))
theorem ltB_iff (x y : Ses) : ltB x y = true ↔ (x.k < y.k ∨ (x.k = y.k ∧ (x.a < y.a ∨ (x.a = y.a ∧ x.b < y.b)))) := by
  unfold ltB
  simp only [Bool.or_eq_true, Bool.and_eq_true, decide_eq_true_eq, beq_iff_eq]
theorem ltB_trans {x y z : Ses} (h : ltB x y = true) (k : ltB y z = true) : ltB x z = true := by
  rw [ltB_iff] at *
  omega
theorem ltB_irr (x : Ses) : ltB x x = false := by
  cases h : ltB x x with
  | false => rfl
  | true => rw [ltB_iff] at h; omega
abbrev Rise (L : List Ses) : Prop := L.Pairwise fun x y => ltB x y = true
def touchB (g key t : Int) (x : Ses) : Bool := (x.k == key) && (decide (x.a - g ≤ t) && decide (t ≤ x.b + g))
theorem touch_iff {g key t : Int} {x : Ses} : touchB g key t x = true ↔ (x.k = key ∧ x.a - g ≤ t ∧ t ≤ x.b + g) := by
  unfold touchB
  simp only [Bool.and_eq_true, decide_eq_true_eq, beq_iff_eq]
def findL (g : Int) (L : List Ses) (key t : Int) : List Ses := L.filter (touchB g key t)
def stayL (g : Int) (L : List Ses) (key t : Int) : List Ses := L.filter fun x => !touchB g key t x
def firstL (t : Int) (T : List Ses) : Int := T.foldl (fun m x => if x.a < m then x.a else m) t
def lastL (t : Int) (T : List Ses) : Int := T.foldl (fun m x => if m < x.b then x.b else m) t
def idxS (L : List Ses) (x : Ses) : Nat := (L.takeWhile fun y => ltB y x).length
def insS (L : List Ses) (x : Ses) : List Ses := L.takeWhile (fun y => ltB y x) ++ x :: L.dropWhile (fun y => ltB y x)
def putX (g : Int) (L : List Ses) (key t v : Int) : Ses := ⟨key, firstL t (findL g L key t), lastL t (findL g L key t), v⟩
def putS (g : Int) (L : List Ses) (key t v : Int) : List Ses := insS (stayL g L key t) (putX g L key t v)
theorem first_le (T : List Ses) : ∀ t, firstL t T ≤ t ∧ (∀ x ∈ T, firstL t T ≤ x.a) ∧ (firstL t T = t ∨ ∃ x ∈ T, firstL t T = x.a) := by
  induction T with
  | nil => intro t; exact ⟨Int.le_refl _, fun x hx => (List.not_mem_nil hx).elim, .inl rfl⟩
  | cons y T ih =>
    intro t
    have h := ih (if y.a < t then y.a else t)
    have e : firstL t (y :: T) = firstL (if y.a < t then y.a else t) T := rfl
    rw [e]
    generalize firstL (if y.a < t then y.a else t) T = q at h ⊢
    obtain ⟨h1, h2, h3⟩ := h
    refine ⟨by split at h1 <;> omega, fun x hx => ?_, ?_⟩
    · rcases List.mem_cons.1 hx with rfl | hx
      · split at h1 <;> omega
      · exact h2 x hx
    · rcases h3 with h3 | ⟨x, hx, h3⟩
      · by_cases hlt : y.a < t
        · rw [if_pos hlt] at h3; exact .inr ⟨y, List.mem_cons_self, h3⟩
        · rw [if_neg hlt] at h3; exact .inl h3
      · exact .inr ⟨x, List.mem_cons_of_mem _ hx, h3⟩
theorem last_ge (T : List Ses) : ∀ t, t ≤ lastL t T ∧ (∀ x ∈ T, x.b ≤ lastL t T) ∧ (lastL t T = t ∨ ∃ x ∈ T, lastL t T = x.b) := by
  induction T with
  | nil => intro t; exact ⟨Int.le_refl _, fun x hx => (List.not_mem_nil hx).elim, .inl rfl⟩
  | cons y T ih =>
    intro t
    have h := ih (if t < y.b then y.b else t)
    have e : lastL t (y :: T) = lastL (if t < y.b then y.b else t) T := rfl
    rw [e]
    generalize lastL (if t < y.b then y.b else t) T = q at h ⊢
    obtain ⟨h1, h2, h3⟩ := h
    refine ⟨by split at h1 <;> omega, fun x hx => ?_, ?_⟩
    · rcases List.mem_cons.1 hx with rfl | hx
      · split at h1 <;> omega
      · exact h2 x hx
    · rcases h3 with h3 | ⟨x, hx, h3⟩
      · by_cases hlt : t < y.b
        · rw [if_pos hlt] at h3; exact .inr ⟨y, List.mem_cons_self, h3⟩
        · rw [if_neg hlt] at h3; exact .inl h3
      · exact .inr ⟨x, List.mem_cons_of_mem _ hx, h3⟩
theorem mem_insS {L : List Ses} {x y : Ses} : y ∈ insS L x ↔ y = x ∨ y ∈ L := by
  have h : ∀ z, z ∈ L ↔ z ∈ L.takeWhile (fun y => ltB y x) ∨ z ∈ L.dropWhile (fun y => ltB y x) := fun z => by
    rw [← List.mem_append, List.takeWhile_append_dropWhile]
  unfold insS
  rw [List.mem_append, List.mem_cons, h y]
  constructor
  · rintro (h | h | h)
    · exact .inr (.inl h)
    · exact .inl h
    · exact .inr (.inr h)
  · rintro (h | h | h)
    · exact .inr (.inl h)
    · exact .inl h
    · exact .inr (.inr h)
theorem insS_len (L : List Ses) (x : Ses) : (insS L x).length = L.length + 1 := by
  have : (L.takeWhile (fun y => ltB y x)).length + (L.dropWhile (fun y => ltB y x)).length = L.length := by rw [← List.length_append, List.takeWhile_append_dropWhile]
  unfold insS
  rw [List.length_append, List.length_cons]
  omega
theorem dw_ge {L : List Ses} (h : Rise L) (x : Ses) : ∀ y ∈ L.dropWhile (fun y => ltB y x), ltB y x = false := by
  induction L with
  | nil => intro y hy; exact (List.not_mem_nil hy).elim
  | cons z L ih =>
    intro y hy
    have h := List.pairwise_cons.1 h
    by_cases hz : ltB z x = true
    · rw [List.dropWhile_cons, if_pos hz] at hy
      exact ih h.2 y hy
    · rw [List.dropWhile_cons, if_neg hz] at hy
      rcases List.mem_cons.1 hy with rfl | hy
      · simpa using hz
      · cases hyx : ltB y x with
        | false => rfl
        | true => exact absurd (ltB_trans (h.1 y hy) hyx) hz
theorem tw_lt {L : List Ses} (x : Ses) : ∀ y ∈ L.takeWhile (fun y => ltB y x), ltB y x = true := by
  induction L with
  | nil => intro y hy; exact (List.not_mem_nil hy).elim
  | cons z L ih =>
    intro y hy
    by_cases hz : ltB z x = true
    · rw [List.takeWhile_cons, if_pos hz] at hy
      rcases List.mem_cons.1 hy with rfl | hy
      · exact hz
      · exact ih y hy
    · rw [List.takeWhile_cons, if_neg hz] at hy
      exact (List.not_mem_nil hy).elim
/-- Two that stand at the same place. -/
def sameB (x y : Ses) : Bool := (x.k == y.k) && ((x.a == y.a) && (x.b == y.b))
theorem same_iff {x y : Ses} : sameB x y = true ↔ (x.k = y.k ∧ x.a = y.a ∧ x.b = y.b) := by
  unfold sameB
  simp only [Bool.and_eq_true, beq_iff_eq]
theorem rise_ins {L : List Ses} {x : Ses} (h : Rise L) (hn : ∀ y ∈ L, sameB y x = false) : Rise (insS L x) := by
  have hd := dw_ge h x
  have ht := tw_lt (L := L) x
  have hm : ∀ y ∈ L.dropWhile (fun y => ltB y x), y ∈ L := fun y hy => (List.dropWhile_sublist _).subset hy
  have hgt : ∀ y ∈ L.dropWhile (fun y => ltB y x), ltB x y = true := fun y hy => by
    have h1 := hd y hy
    have h2 := hn y (hm y hy)
    cases hxy : ltB x y with
    | true => rfl
    | false =>
      exfalso
      have a1 : ¬ (ltB y x = true) := by rw [h1]; simp
      have a2 : ¬ (ltB x y = true) := by rw [hxy]; simp
      have a3 : ¬ (sameB y x = true) := by rw [h2]; simp
      rw [ltB_iff] at a1 a2
      rw [same_iff] at a3
      omega
  unfold insS
  refine List.pairwise_append.2 ?_
  refine ⟨h.sublist (List.takeWhile_sublist _), ?_, fun y hy z hz => ?_⟩
  · refine List.pairwise_cons.2 ?_
    exact ⟨fun y hy => hgt y hy, h.sublist (List.dropWhile_sublist _)⟩
  · rcases List.mem_cons.1 hz with rfl | hz
    · exact ht y hy
    · exact ltB_trans (ht y hy) (hgt z hz)
/-- Sessions of a key lie further from each other than the gap. -/
def Apart (g : Int) (L : List Ses) : Prop := L.Pairwise fun x y => x.k = y.k → x.b + g < y.a
structure Good (g : Int) (L : List Ses) : Prop where
  rise : Rise L
  apart : Apart g L
  span : ∀ x ∈ L, 0 ≤ x.a ∧ x.a ≤ x.b ∧ x.b ≤ 1099511627776
theorem Good.nil (g : Int) : Good g [] := ⟨List.Pairwise.nil, List.Pairwise.nil, fun x hx => (List.not_mem_nil hx).elim⟩
theorem Good.sub {g : Int} {L M : List Ses} (h : Good g L) (hs : M.Sublist L) : Good g M :=
  ⟨h.rise.sublist hs, h.apart.sublist hs, fun x hx => h.span x (hs.subset hx)⟩
/-- Of two sessions of a key one lies ahead of the other. -/
theorem two_apart {g : Int} {L : List Ses} (h : Apart g L) {x y : Ses} (hx : x ∈ L) (hy : y ∈ L) (hk : x.k = y.k) : x = y ∨ x.b + g < y.a ∨ y.b + g < x.a := by
  induction L with
  | nil => exact (List.not_mem_nil hx).elim
  | cons z L ih =>
    have h := List.pairwise_cons.1 h
    rcases List.mem_cons.1 hx with ex | hx'
    · rcases List.mem_cons.1 hy with ey | hy'
      · exact .inl (ex.trans ey.symm)
      · subst ex
        exact .inr (.inl (h.1 y hy' hk))
    · rcases List.mem_cons.1 hy with ey | hy'
      · subst ey
        exact .inr (.inr (h.1 x hx' hk.symm))
      · exact ih h.2 hx' hy'
/-- What was put lies apart from what it does not touch. -/
theorem putX_apart {g : Int} {L : List Ses} {key t v : Int} (hg : 1 ≤ g) (h : Good g L) {y : Ses} (hy : y ∈ stayL g L key t) (hk : y.k = key) : y.b + g < (putX g L key t v).a ∨ (putX g L key t v).b + g < y.a := by
  unfold stayL at hy
  obtain ⟨hyL, hyt⟩ := List.mem_filter.1 hy
  have hny : ¬ touchB g key t y = true := by simpa using hyt
  rw [touch_iff] at hny
  have hsy := h.span y hyL
  obtain ⟨f1, f2, f3⟩ := first_le (findL g L key t) t
  obtain ⟨l1, l2, l3⟩ := last_ge (findL g L key t) t
  have hT : ∀ z ∈ findL g L key t, z ∈ L ∧ (z.k = key ∧ z.a - g ≤ t ∧ t ≤ z.b + g) := fun z hz => ⟨(List.mem_filter.1 hz).1, touch_iff.1 (List.mem_filter.1 hz).2⟩
  show y.b + g < firstL t (findL g L key t) ∨ lastL t (findL g L key t) + g < y.a
  generalize firstL t (findL g L key t) = fa at f1 f2 f3 ⊢
  generalize lastL t (findL g L key t) = lb at l1 l2 l3 ⊢
  by_cases hlt : y.b + g < t
  · left
    rcases f3 with f3 | ⟨z, hz, f3⟩
    · clear l3; omega
    · obtain ⟨hzL, z1, z2, z3⟩ := hT z hz
      have hsz := h.span z hzL
      clear l3 hT f2 l2
      rcases two_apart h.apart hyL hzL (hk.trans z1.symm) with e | e | e
      · subst e; omega
      · omega
      · omega
  · right
    have hgt : t < y.a - g := by clear l3 f3; omega
    rcases l3 with l3 | ⟨z, hz, l3⟩
    · clear f3; omega
    · obtain ⟨hzL, z1, z2, z3⟩ := hT z hz
      have hsz := h.span z hzL
      clear f3 hT f2 l2
      rcases two_apart h.apart hyL hzL (hk.trans z1.symm) with e | e | e
      · subst e; omega
      · omega
      · omega
theorem Good.put {g : Int} {L : List Ses} (hg : 1 ≤ g) (h : Good g L) {key t v : Int} (ht : 0 ≤ t ∧ t ≤ 1099511627776) : Good g (putS g L key t v) := by
  have hst : (stayL g L key t).Sublist L := List.filter_sublist
  have hG := h.sub hst
  obtain ⟨f1, f2, f3⟩ := first_le (findL g L key t) t
  obtain ⟨l1, l2, l3⟩ := last_ge (findL g L key t) t
  have hT : ∀ z ∈ findL g L key t, z ∈ L := fun z hz => (List.mem_filter.1 hz).1
  have hx : 0 ≤ (putX g L key t v).a ∧ (putX g L key t v).a ≤ (putX g L key t v).b ∧ (putX g L key t v).b ≤ 1099511627776 := by
    show 0 ≤ firstL t (findL g L key t) ∧ firstL t (findL g L key t) ≤ lastL t (findL g L key t) ∧ lastL t (findL g L key t) ≤ 1099511627776
    refine ⟨?_, by omega, ?_⟩
    · rcases f3 with f3 | ⟨z, hz, f3⟩
      · omega
      · have := h.span z (hT z hz); omega
    · rcases l3 with l3 | ⟨z, hz, l3⟩
      · omega
      · have := h.span z (hT z hz); omega
  have hap : ∀ y ∈ stayL g L key t, y.k = key → y.b + g < (putX g L key t v).a ∨ (putX g L key t v).b + g < y.a := fun y hy hk => putX_apart hg h hy hk
  have hkx : (putX g L key t v).k = key := rfl
  unfold putS
  generalize putX g L key t v = x at hx hap hkx ⊢
  have hns : ∀ y ∈ stayL g L key t, sameB y x = false := fun y hy => by
    cases hs : sameB y x with
    | false => rfl
    | true =>
      rw [same_iff] at hs
      have := hap y hy (hs.1.trans hkx)
      omega
  have hr := rise_ins hG.rise hns
  refine ⟨hr, ?_, fun y hy => ?_⟩
  · refine List.Pairwise.imp_of_mem (R := fun x y => ltB x y = true) (fun {y z} hy hz hyz hk => ?_) hr
    rw [ltB_iff] at hyz
    rcases mem_insS.1 hy with ey | hy'
    · rcases mem_insS.1 hz with ez | hz'
      · subst ey ez; omega
      · subst ey
        have := hap z hz' (hk.symm.trans hkx)
        have := hG.span z hz'
        omega
    · rcases mem_insS.1 hz with ez | hz'
      · subst ez
        have := hap y hy' (hk.trans hkx)
        have := hG.span y hy'
        omega
      · have h1 := hG.span y hy'
        have h2 := hG.span z hz'
        rcases two_apart hG.apart hy' hz' hk with e | e | e
        · subst e; omega
        · exact e
        · omega
  · rcases mem_insS.1 hy with rfl | hy
    · exact hx
    · exact hG.span y hy
/-- Behind a put the time touches what was put alone. -/
theorem find_put (g : Int) (L : List Ses) (key t v : Int) (hg : 1 ≤ g) : findL g (putS g L key t v) key t = [putX g L key t v] := by
  have hs : ∀ M : List Ses, (∀ y ∈ M, touchB g key t y = false) → M.filter (touchB g key t) = [] := fun M h => List.filter_eq_nil_iff.2 (fun y hy => by rw [h y hy]; simp)
  have hst : ∀ y ∈ stayL g L key t, touchB g key t y = false := fun y hy => by simpa using (List.mem_filter.1 hy).2
  have hx : touchB g key t (putX g L key t v) = true := by
    rw [touch_iff]
    have f := (first_le (findL g L key t) t).1
    have l := (last_ge (findL g L key t) t).1
    refine ⟨rfl, ?_, ?_⟩
    · show firstL t (findL g L key t) - g ≤ t; omega
    · show t ≤ lastL t (findL g L key t) + g; omega
  unfold putS
  generalize putX g L key t v = x at hx ⊢
  unfold findL insS
  rw [List.filter_append, List.filter_cons_of_pos hx, hs _ (fun y hy => hst y ((List.takeWhile_sublist _).subset hy)), hs _ (fun y hy => hst y ((List.dropWhile_sublist _).subset hy))]
  rfl
theorem put_len (g : Int) (L : List Ses) (key t v : Int) : (putS g L key t v).length + (findL g L key t).length = L.length + 1 := by
  unfold putS
  rw [insS_len]
  have : ∀ M : List Ses, (stayL g M key t).length + (findL g M key t).length = M.length := by
    intro M
    induction M with
    | nil => rfl
    | cons y M ih =>
      unfold stayL findL at ih ⊢
      cases h : touchB g key t y with
      | true => rw [List.filter_cons_of_neg (by simp [h]), List.filter_cons_of_pos h, List.length_cons, List.length_cons]; omega
      | false => rw [List.filter_cons_of_pos (by simp [h]), List.filter_cons_of_neg (by simp [h]), List.length_cons, List.length_cons]; omega
  have := this L
  omega
end Go.Proofs.Ytpjfmilokadchaa.Se
