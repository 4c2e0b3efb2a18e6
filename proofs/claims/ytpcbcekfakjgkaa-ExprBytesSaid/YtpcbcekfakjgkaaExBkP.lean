/- (c04) Plain: what is read is well formed; no error is none. -/
import Derived.Test.YtpcbcekfakjgkaaExByP
namespace Go.Proofs.Ytpcbcekfakjgkaa.Ex
open Go Go.RowKit Go.Proofs.Ytpcbcekfakjgkaa.Pk Go.Proofs.YtpcbcekfakjgkaaW.PrintWords
set_option linter.unusedVariables false
set_option linter.unusedSimpArgs false
theorem head_nz {xs : List Int} {e : Int} (h : headE xs = .inl e) : e ≠ 0 := by
  unfold headE at h
  by_cases h1 : (rdU xs).2.1 ≠ 0
  · rw [if_pos h1] at h; injection h with h; rw [← h]; exact h1
  rw [if_neg h1] at h
  by_cases h2 : ¬ (1 ≤ (rdU xs).1 ∧ (rdU xs).1 ≤ 16)
  · rw [if_pos h2] at h; injection h with h; rw [← h]; decide
  rw [if_neg h2] at h
  by_cases h3 : (rdU xs).1 = 1
  · rw [if_pos h3] at h
    by_cases h4 : (rdU (rdU xs).2.2).2.1 ≠ 0
    · rw [if_pos h4] at h; injection h with h; rw [← h]; exact h4
    · rw [if_neg h4] at h; cases h
  · rw [if_neg h3] at h; cases h
theorem kids_nz {g : List Int → Nat → GotE} (hg : ∀ xs lf e, g xs lf = .inl e → e ≠ 0) : ∀ (m : Nat) (xs : List Int) (lf : Nat) (e : Int), kidsE g m xs lf = .inl e → e ≠ 0 := by
  intro m
  induction m with
  | zero => intro xs lf e h; simp [kidsE] at h
  | succ m ih =>
    intro xs lf e h
    rw [kidsE] at h
    cases h1 : g xs lf with
    | inl e1 => rw [h1] at h; injection h with h; rw [← h]; exact hg _ _ _ h1
    | inr q =>
      obtain ⟨k, r, l1⟩ := q
      rw [h1] at h
      simp only at h
      cases h2 : kidsE g m r l1 with
      | inl e2 => rw [h2] at h; injection h with h; rw [← h]; exact ih _ _ _ h2
      | inr q => obtain ⟨ks, r2, l2⟩ := q; rw [h2] at h; cases h
theorem get_nz : ∀ (d : Nat) (xs : List Int) (lf : Nat) (e : Int), getE d xs lf = .inl e → e ≠ 0 := by
  intro d
  induction d with
  | zero => intro xs lf e h; rw [getE] at h; injection h with h; rw [← h]; decide
  | succ d ih =>
    intro xs lf e h
    rw [getE] at h
    by_cases h0 : lf = 0
    · rw [if_pos h0] at h; injection h with h; rw [← h]; decide
    rw [if_neg h0] at h
    cases hh : headE xs with
    | inl e1 => rw [hh] at h; injection h with h; rw [← h]; exact head_nz hh
    | inr q =>
      obtain ⟨op, n, r⟩ := q
      rw [hh] at h
      simp only at h
      cases hk : kidsE (getE d) (kidsOf op).toNat r (lf - 1) with
      | inl e2 => rw [hk] at h; injection h with h; rw [← h]; exact kids_nz ih _ _ _ _ hk
      | inr q => obtain ⟨ks, r2, l2⟩ := q; rw [hk] at h; cases h
theorem head_wf {xs : List Int} {op n : Int} {r : List Int} (hb : Byt xs) (h : headE xs = .inr (op, n, r)) : I64 op ∧ I64 n := by
  have h1 := (head_is hb h).1
  refine ⟨by unfold I64; omega, ?_⟩
  unfold headE at h
  by_cases h1 : (rdU xs).2.1 ≠ 0
  · rw [if_pos h1] at h; cases h
  rw [if_neg h1] at h
  by_cases h2 : ¬ (1 ≤ (rdU xs).1 ∧ (rdU xs).1 ≤ 16)
  · rw [if_pos h2] at h; cases h
  rw [if_neg h2] at h
  by_cases h3 : (rdU xs).1 = 1
  · rw [if_pos h3] at h
    by_cases h4 : (rdU (rdU xs).2.2).2.1 ≠ 0
    · rw [if_pos h4] at h; cases h
    rw [if_neg h4] at h
    injection h with h
    injection h with e1 h
    injection h with e2 e3
    have := rdU_range (rdU_byt hb)
    rw [← e2]
    exact sgn_range this.1 this.2
  · rw [if_neg h3] at h
    injection h with h
    injection h with e1 h
    injection h with e2 e3
    rw [← e2]
    unfold I64
    decide
theorem kids_wf {d : Nat} (hd : ∀ (xs : List Int) (lf : Nat) (x : E) (r : List Int) (l1 : Nat), Byt xs → getE d xs lf = .inr (x, r, l1) → wfE x ∧ Byt r) :
    ∀ (m : Nat) (xs : List Int) (lf : Nat) (ks : List E) (r : List Int) (l1 : Nat), Byt xs → kidsE (getE d) m xs lf = .inr (ks, r, l1) → (∀ x ∈ ks, wfE x) ∧ Byt r := by
  intro m
  induction m with
  | zero =>
    intro xs lf ks r l1 hb h
    simp only [kidsE] at h
    injection h with h
    injection h with h1 h
    injection h with h2 h3
    subst h1 h2 h3
    exact ⟨fun x hx => (List.not_mem_nil hx).elim, hb⟩
  | succ m ih =>
    intro xs lf ks r l1 hb h
    rw [kidsE] at h
    cases hg : getE d xs lf with
    | inl e => rw [hg] at h; cases h
    | inr q =>
      obtain ⟨k, r1, l2⟩ := q
      rw [hg] at h
      simp only at h
      obtain ⟨a1, a2⟩ := hd xs lf k r1 l2 hb hg
      cases hk : kidsE (getE d) m r1 l2 with
      | inl e => rw [hk] at h; cases h
      | inr q =>
        obtain ⟨ks2, r2, l3⟩ := q
        rw [hk] at h
        simp only at h
        injection h with h
        injection h with h1 h
        injection h with h2 h3
        subst h1 h2 h3
        obtain ⟨b1, b2⟩ := ih r1 l2 ks2 r2 l3 a2 hk
        refine ⟨fun x hx => ?_, b2⟩
        rcases List.mem_cons.1 hx with rfl | hx
        · exact a1
        · exact b1 x hx
theorem get_wf : ∀ (d : Nat) (xs : List Int) (lf : Nat) (x : E) (r : List Int) (l1 : Nat), Byt xs → getE d xs lf = .inr (x, r, l1) → wfE x ∧ Byt r := by
  intro d
  induction d with
  | zero => intro xs lf x r l1 _ h; simp [getE] at h
  | succ d ih =>
    intro xs lf x r l1 hb h
    have hok := get_is (d + 1) xs lf x r l1 hb h
    rw [getE] at h
    by_cases h0 : lf = 0
    · rw [if_pos h0] at h; cases h
    rw [if_neg h0] at h
    cases hh : headE xs with
    | inl e => rw [hh] at h; cases h
    | inr q =>
      obtain ⟨op, n, r0⟩ := q
      rw [hh] at h
      simp only at h
      have hw := head_wf hb hh
      have hb0 : Byt r0 := fun y hy => hb y (by rw [(head_is hb hh).2.2]; exact List.mem_append.2 (.inr (List.mem_append.2 (.inr hy))))
      cases hk : kidsE (getE d) (kidsOf op).toNat r0 (lf - 1) with
      | inl e => rw [hk] at h; cases h
      | inr q =>
        obtain ⟨ks, r2, l2⟩ := q
        rw [hk] at h
        simp only at h
        injection h with h
        injection h with e1 h
        injection h with e2 e3
        subst e1 e2 e3
        obtain ⟨b1, b2⟩ := kids_wf ih _ _ _ _ _ _ hb0 hk
        have hlen : kidsOf op = (ks.length : Int) := (okB_succ hok.1).1.2.1
        have hk3 := (kidsOf_le op).2
        exact ⟨wfE.mk op n ks hw.1 hw.2 (by omega) b1, b2⟩
end Go.Proofs.Ytpcbcekfakjgkaa.Ex
