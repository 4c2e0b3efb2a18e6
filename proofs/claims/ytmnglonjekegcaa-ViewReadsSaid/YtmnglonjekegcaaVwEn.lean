/- (c11) For the laws: rows of entries appended; few; equal records. -/
import Derived.Test.YtmnglonjekegcaaVwShow
import Derived.Test.YtmnglonjekegcaaVwGr
import Derived.Test.YtmnglonjekegcaaRp5
namespace Go.Proofs.Ytmnglonjekegcaa.Vw
open Go Go.RowKit Go.Maps Go.Proofs.Ytmnglonjekegcaa.Mk Go.Proofs.Ytmnglonjekegcaa.Rp Go.Proofs.YtmnglonjekegcaaW.PrintWords Go.Proofs.YtmnglonjekegcaaW.PrintLast Go.Proofs.YtmnglonjekegcaaW.PrintMore Go.Proofs.Ytmnglonjekegcaa.Rw Go.Proofs.Ytmnglonjekegcaa.Ow Go.Proofs.Ytmnglonjekegcaa.Mono
set_option linter.unusedVariables false
set_option linter.unusedSimpArgs false
set_option maxRecDepth 100000
theorem inner_C {α : Type} {d : Kd α} {w : World} {A : Option Addr} {n : Nat} {xs : List α} (h : Kd.C d w A n xs) (hn : 0 < n) :
    ∃ ad cs, A = some ad ∧ Reps (d.K w) d.sz xs cs ∧ (∀ j u, cs[j]? = some u → w.cell? (ad.add j) = some u) ∧ ∀ u ∈ cs, u.oneCell' = true := by
  obtain ⟨hl, _, h2⟩ := h
  obtain ⟨ad, hA, he⟩ := h2 hn
  have key : ∀ m, m ≤ xs.length → ∃ cs, Reps (d.K w) d.sz (xs.take m) cs ∧ (∀ j u, cs[j]? = some u → w.cell? (ad.add j) = some u) ∧ ∀ u ∈ cs, u.oneCell' = true := by
    intro m
    induction m with
    | zero => intro _; exact ⟨[], by rw [List.take_zero]; exact Reps.none _ _, fun j u h => by simp at h, fun u h => by cases h⟩
    | succ m ih =>
      intro hm
      obtain ⟨cs, h1, h2, h3⟩ := ih (by omega)
      obtain ⟨c, hc, hK, hcell⟩ := he m xs[m] (List.getElem?_eq_getElem (by omega))
      have hcl : cs.length = m * d.sz := by have := h1.1; rw [List.length_take] at this; rw [this, Nat.min_eq_left (by omega)]
      refine ⟨cs ++ c, ?_, fun j u hj => ?_, fun u hu => ?_⟩
      · rw [List.take_succ_eq_append_getElem (by omega)]
        exact h1.snoc hK hc
      · by_cases hj1 : j < cs.length
        · rw [List.getElem?_append_left hj1] at hj
          exact h2 j u hj
        · rw [List.getElem?_append_right (by omega)] at hj
          have := hcell _ u hj
          rwa [← hcl, show cs.length + (j - cs.length) = j by omega] at this
      · rcases List.mem_append.1 hu with hu | hu
        · exact h3 u hu
        · exact d.K_one hK u hu
  obtain ⟨cs, h1, h2, h3⟩ := key xs.length (Nat.le_refl _)
  rw [List.take_length] at h1
  exact ⟨ad, cs, hA, h1, h2, h3⟩
theorem TIE : TInfo 22 47 11 120 := tinfo_of Try.underlying22 info47 rfl (by omega)
theorem reps_app {α : Type} {K : α → List Value → Prop} {sz : Nat} {xs ys : List α} {cs ds : List Value} (h : Reps K sz xs cs) (k : Reps K sz ys ds) : Reps K sz (xs ++ ys) (cs ++ ds) := by
  refine ⟨by rw [List.length_append, List.length_append, h.1, k.1, Nat.add_mul], fun j p hj => ?_⟩
  by_cases hl : j < xs.length
  · rw [List.getElem?_append_left hl] at hj
    have h2 := h.2 j p hj
    have h3 : (j + 1) * sz ≤ cs.length := by rw [h.1]; exact Nat.mul_le_mul_right _ hl
    rw [Nat.succ_mul] at h3
    rw [List.drop_append_of_le_length (by omega), List.take_append_of_le_length (by rw [List.length_drop]; omega)]
    exact h2
  · rw [List.getElem?_append_right (by omega)] at hj
    have h2 := k.2 _ p hj
    have h3 : j * sz = cs.length + (j - xs.length) * sz := by rw [h.1, ← Nat.add_mul]; congr 1; omega
    rw [h3, List.drop_append, List.drop_of_length_le (by omega), List.nil_append, show cs.length + (j - xs.length) * sz - cs.length = (j - xs.length) * sz by omega]
    exact h2
/-- A row of entries of one's own; what they hold lies in the world w0. -/
def EO (w0 : World) (base : Nat) (w : World) (v : Value) (xs : List S47) : Prop := ∃ cs, w.ownsRow base 47 11 v xs.length cs ∧ Reps (k47.K w0) 11 xs cs
theorem EO.below {w0 w w' : World} {base : Nat} {v : Value} {xs : List S47} (h : EO w0 base w v xs) (hb : Below w.heap.size w w') : EO w0 base w' v xs := by
  obtain ⟨cs, h1, h2⟩ := h
  exact ⟨cs, own_below h1 hb, h2⟩
theorem EO.C {w0 w : World} {base : Nat} {v : Value} {xs : List S47} (h : EO w0 base w v xs) (hB : Below w0.heap.size w0 w) : ∃ A c, v = .slice A xs.length c ∧ xs.length ≤ c ∧ c ≤ maxLen ∧ Kd.C k47 w A xs.length xs := by
  obtain ⟨cs, h1, h2⟩ := h
  obtain ⟨A, c, e, h3, h4⟩ := C_own (d := k47) h1 (h2.imp_ (fun _ _ hK => k47.K_below hB hK)) rfl
  obtain ⟨A', c', e', h5, h6⟩ := slice_of h1
  rw [e] at e'
  injection e' with _ _ e'
  exact ⟨A, c, e, h3, by omega, h4⟩
theorem EO.nil (w0 w : World) (base : Nat) : EO w0 base w (.slice none 0 0) [] := ⟨[], World.ownsRow_nil _ _ _ _, Reps.none _ _⟩
/-- []api.Entry{} -/
theorem EO.lit (w0 w : World) {base : Nat} (hb : base ≤ w.heap.size) : EO w0 base (w.alloc (.cells #[] 47)) (.slice (some ⟨w.heap.size, 0, none⟩) 0 0) [] :=
  ⟨[], own_mk hb (heap_alloc_new w _) (Nat.le_refl _) (Nat.zero_le _) rfl (rest := []) rfl rfl, Reps.none _ _⟩
/-- append(row, entries...) -/
theorem EO.app {w0 w : World} {base : Nat} {v : Value} {xs ys : List S47} (h : EO w0 base w v xs) (hB : Below w0.heap.size w0 w) (hbs : base ≤ w.heap.size) (A : Option Addr) (m c : Nat) (hC : Kd.C k47 w0 A m ys) (hn : xs.length + m ≤ 100000) (ty : TypeId) (hty : ty = 22) :
    ∃ v' w', (Builtin.append_ #[22, 22] ty #[v, .slice A m c]).run Try.prog w = .ok v' w' ∧ EO w0 base w' v' (xs ++ ys) ∧ (∀ (b : Nat) (wx : World), b ≤ base → Below b wx w → Below b wx w') ∧ base ≤ w'.heap.size ∧ (∃ A' c', v' = .slice A' (xs.length + m) c') := by
  obtain ⟨cs, ho, hr⟩ := h
  have hym : ys.length = m := hC.1
  have fr : ∀ {w' : World}, w.grownBy w' v.ownBlock → ∀ (b : Nat) (wx : World), b ≤ base → Below b wx w → Below b wx w' := fun hg b wx hb hx => hx.grown hg (Nat.le_trans hb hbs) fun k hk => Nat.le_trans hb (Ow.own_lt ho k hk).1
  by_cases h0 : 0 < m
  · obtain ⟨ad, ds, rfl, hd, hcell, h1⟩ := inner_C hC h0
    obtain ⟨v', w', hrun, ho', hg, hat, hA⟩ := app_run TIE ty hty w base xs.length v cs ho ad m c ds (by rw [hd.1, hym]; rfl) (fun j u hj => pw_cell_below hB (hcell j u hj)) h1 (by have : 9000000 ≤ maxLen := (by decide); omega) (by omega) hbs
    exact ⟨v', w', hrun, ⟨cs ++ ds, by rw [List.length_append, hym]; exact ho', reps_app hr hd⟩, fr hg, Nat.le_trans hbs hg.size, hA⟩
  · obtain rfl : m = 0 := by omega
    have h1 : ys = [] := List.length_eq_zero_iff.1 hym
    subst h1
    cases A with
    | some ad =>
      obtain ⟨v', w', hrun, ho', hg, hat, hA⟩ := app_run TIE ty hty w base xs.length v cs ho ad 0 c [] rfl (fun j u hj => by simp at hj) (by simp) (by have : 9000000 ≤ maxLen := (by decide); omega) (by omega) hbs
      exact ⟨v', w', hrun, ⟨cs ++ [], by rw [List.length_append]; exact ho', reps_app hr (Reps.none _ _)⟩, fr hg, Nat.le_trans hbs hg.size, hA⟩
    | none =>
      obtain ⟨hu, i, zv, hi, hz, hs, hbb, hzc, h0⟩ := TIE
      obtain ⟨A, c', e, h1, h2⟩ := slice_of ho
      subst hty
      subst e
      refine ⟨_, w, ?_, ⟨cs, by rw [List.append_nil]; exact ho, by rw [List.append_nil]; exact hr⟩, fun _ _ _ h => h, hbs, A, c', rfl⟩
      cases A <;> simp [Builtin.append_, run_underlying hu, sizeOf, typeInfo, hi, Builtin.lenOf, Builtin.firstCells, h1, storeCells]
theorem recs_l0 (l : List S45) : ∀ (k j : Nat), j ≤ l.length → l.length - j < k → l.length ≤ 100000 → tidemillref11_Recs.l0 k l l (j : Int) = some true := by
  intro k
  induction k with
  | zero => intro j _ h; omega
  | succ k ih =>
    intro j hj hk hl
    unfold tidemillref11_Recs.l0
    by_cases h : (j : Int) < (l.length : Int)
    · rw [if_pos h, if_pos (Int.natCast_nonneg _), if_pos h, if_neg (by simp)]
      have hw : wrap64 ((j : Int) + 1) = ((j + 1 : Nat) : Int) := by unfold wrap64; omega
      rw [hw]
      exact ih (j + 1) (by omega) (by omega) hl
    · rw [if_neg h]
theorem few_ok (A : Option Addr) (n c : Nat) (w : World) (hnc : n ≤ c) : Calls Try.prog 10 #[.slice A n c] w fun e w' => e = .returned (.slice A (min n 200) c) ∧ w' = w := by
  by_cases h : 200 < n
  · have h1 : decide ((200 : Int) < (n : Int)) = true := decide_eq_true (by omega)
    have h2 : decide (200 < n) = true := decide_eq_true h
    have h3 : min n 200 = 200 := by omega
    have h4 : (200 : Int) ≤ (c : Int) := by omega
    rw [h3]
    go_enter Try.func10, Try.ntmps10
    go_wp2
    go_ret
    exact ⟨rfl, rfl⟩
  · have h1 : decide ((200 : Int) < (n : Int)) = false := decide_eq_false (by omega)
    have h2 : decide (200 < n) = false := decide_eq_false h
    have h3 : min n 200 = n := by omega
    rw [h3]
    go_enter Try.func10, Try.ntmps10
    go_wp2
    go_ret
    exact ⟨rfl, rfl⟩
theorem few_C {w : World} {A : Option Addr} {n : Nat} {l : List S47} (h : Kd.C k47 w A n l) : Kd.C k47 w A (min n 200) (l.take 200) := by
  obtain ⟨h1, h2, h3⟩ := h
  refine ⟨by rw [List.length_take, h1]; omega, by omega, fun h0 => ?_⟩
  obtain ⟨ad, e, he⟩ := h3 (by omega)
  refine ⟨ad, e, fun j p hj => he j p ?_⟩
  have hjl := (List.getElem?_eq_some_iff.1 hj).1
  rw [List.length_take] at hjl
  rwa [List.getElem?_take_of_lt (by omega)] at hj
end Go.Proofs.Ytmnglonjekegcaa.Vw
