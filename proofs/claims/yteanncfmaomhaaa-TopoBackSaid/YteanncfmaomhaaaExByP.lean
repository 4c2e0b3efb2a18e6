/- (c04) Plain: what is read is well formed; no error is none. -/
import Derived.Test.YteanncfmaomhaaaExGtP
namespace Go.Proofs.Yteanncfmaomhaaa.Ex
open Go Go.RowKit Go.Proofs.Yteanncfmaomhaaa.Pk Go.Proofs.YteanncfmaomhaaaW.PrintWords
set_option linter.unusedVariables false
set_option linter.unusedSimpArgs false
/-- An expression's bytes. -/
def putD : Nat → E → List Int
  | 0, _ => []
  | d + 1, e => enc e.f0 ++ ((if e.f0 = 1 then enc (uns e.f1) else []) ++ e.f2.flatMap (putD d))
theorem byt_app {a b : List Int} (ha : Byt a) (hb : Byt b) : Byt (a ++ b) := fun x hx => by
  rcases List.mem_append.1 hx with hx | hx
  · exact ha x hx
  · exact hb x hx
theorem putD_byt : ∀ d e, Byt (putD d e) := by
  intro d
  induction d with
  | zero => intro e x hx; cases hx
  | succ d ih =>
    intro e
    unfold putD
    refine byt_app (enc_byt _) (byt_app ?_ ?_)
    · split
      · exact enc_byt _
      · intro x hx; cases hx
    · intro x hx
      obtain ⟨y, _, hx⟩ := List.mem_flatMap.1 hx
      exact ih y x hx
theorem flat_len {d : Nat} : ∀ ks : List E, (∀ x ∈ ks, (putD d x).length ≤ 20 * cnt d x) → (ks.flatMap (putD d)).length ≤ 20 * cntL (cnt d) ks := by
  intro ks
  induction ks with
  | nil => intro _; simp [cntL]
  | cons x xs ih =>
    intro h
    rw [List.flatMap_cons, List.length_append]
    unfold cntL
    have h1 := h x (List.mem_cons_self ..)
    have h2 := ih (fun y hy => h y (List.mem_cons_of_mem _ hy))
    omega
theorem putD_len : ∀ d e, wfE e → (1 ≤ e.f0 ∧ e.f0 ≤ 16) → okB d e = true → (putD d e).length ≤ 20 * cnt d e := by
  intro d
  induction d with
  | zero => intro e _ _ h; simp [okB] at h
  | succ d ih =>
    intro e hw hr h
    have hs := okB_succ h
    have hwo := hw.out
    have h1 := flat_len (d := d) e.f2 (fun x hx => by
      have hx1 := hs.2 x hx
      cases d with
      | zero => simp [okB] at hx1
      | succ d => exact ih x (hwo.2.2.2 x hx) (okB_succ hx1).1.1 hx1)
    have h2 := enc_len (n := e.f0) (by omega)
    have h3 := enc_len (uns_range hwo.2.1.1 hwo.2.1.2).2
    unfold putD cnt
    rw [List.length_append, List.length_append]
    generalize e.f2.flatMap (putD d) = F at h1 ⊢
    split
    · omega
    · rw [List.length_nil]; omega
/-! ### what was laid down is read -/
theorem kids_back {d : Nat} (hd : ∀ e, okB d e = true → wfE e → ∀ (t : List Int) (lf : Nat), cnt d e ≤ lf → getE d (putD d e ++ t) lf = .inr (e, t, lf - cnt d e)) :
    ∀ (ks : List E), (∀ x ∈ ks, okB d x = true ∧ wfE x) → ∀ (t : List Int) (lf : Nat), cntL (cnt d) ks ≤ lf → kidsE (getE d) ks.length (ks.flatMap (putD d) ++ t) lf = .inr (ks, t, lf - cntL (cnt d) ks) := by
  intro ks
  induction ks with
  | nil => intro _ t lf _; simp [kidsE, cntL]
  | cons x xs ih =>
    intro h t lf hl
    unfold cntL at hl
    rw [List.length_cons, kidsE, List.flatMap_cons, List.append_assoc, hd x (h x (List.mem_cons_self ..)).1 (h x (List.mem_cons_self ..)).2 _ lf (by omega)]
    simp only
    rw [ih (fun y hy => h y (List.mem_cons_of_mem _ hy)) t (lf - cnt d x) (by omega)]
    simp only
    rw [show cntL (cnt d) (x :: xs) = cnt d x + cntL (cnt d) xs from rfl, Nat.sub_sub]
theorem get_back : ∀ d e, okB d e = true → wfE e → ∀ (t : List Int) (lf : Nat), cnt d e ≤ lf → getE d (putD d e ++ t) lf = .inr (e, t, lf - cnt d e) := by
  intro d
  induction d with
  | zero => intro e h; simp [okB] at h
  | succ d ih =>
    intro e h hw t lf hl
    have hs := okB_succ h
    have hwo := hw.out
    have hp := cnt_pos (d + 1) e
    have hc : cnt (d + 1) e = 1 + cntL (cnt d) e.f2 := rfl
    have e0 : ∀ u, rdU (enc e.f0 ++ u) = (e.f0, 0, u) := fun u => rdU_enc (by omega) (by omega) u
    have hk : (kidsOf e.f0).toNat = e.f2.length := by rw [hs.1.2.1]; simp
    have hkb := kids_back ih e.f2 (fun x hx => ⟨hs.2 x hx, hwo.2.2.2 x hx⟩) t (lf - 1) (by omega)
    have hhead : headE (putD (d + 1) e ++ t) = .inr (e.f0, e.f1, e.f2.flatMap (putD d) ++ t) := by
      unfold putD
      rw [List.append_assoc]
      by_cases h1 : e.f0 = 1
      · have hu := uns_range hwo.2.1.1 hwo.2.1.2
        rw [if_pos h1]
        have e1 := e0 ((enc (uns e.f1) ++ e.f2.flatMap (putD d)) ++ t)
        have e2 : rdU ((enc (uns e.f1) ++ e.f2.flatMap (putD d)) ++ t) = (uns e.f1, 0, e.f2.flatMap (putD d) ++ t) := by
          rw [List.append_assoc]; exact rdU_enc hu.1 hu.2 _
        rw [head_con (by rw [e1]) (by rw [e1]; exact h1) (by rw [e1, e2]), e1, e2, sgn_uns, h1]
      · have hf : e.f1 = 0 := hs.1.2.2.resolve_right h1
        rw [if_neg h1, List.nil_append]
        have e1 := e0 (e.f2.flatMap (putD d) ++ t)
        rw [head_op (by rw [e1]) (by rw [e1]; exact hs.1.1) (by rw [e1]; exact h1), e1, hf]
    rw [get_good (by omega) hhead (by rw [hk]; exact hkb), hc]
    have e3 : lf - 1 - cntL (cnt d) e.f2 = lf - (1 + cntL (cnt d) e.f2) := by omega
    rw [e3]
    cases e
    rfl
/-! ### what was read is laid down -/
theorem kids_is {d : Nat} (hd : ∀ (xs : List Int) (lf : Nat) (x : E) (r : List Int) (l1 : Nat), Byt xs → getE d xs lf = .inr (x, r, l1) → okB d x = true ∧ xs = putD d x ++ r ∧ lf = l1 + cnt d x) :
    ∀ (m : Nat) (xs : List Int) (lf : Nat) (ks : List E) (r : List Int) (l1 : Nat), Byt xs → kidsE (getE d) m xs lf = .inr (ks, r, l1) → ks.length = m ∧ (∀ x ∈ ks, okB d x = true) ∧ xs = ks.flatMap (putD d) ++ r ∧ lf = l1 + cntL (cnt d) ks := by
  intro m
  induction m with
  | zero =>
    intro xs lf ks r l1 _ h
    simp only [kidsE] at h
    injection h with h
    injection h with h1 h
    injection h with h2 h3
    subst h1 h2 h3
    exact ⟨rfl, fun x hx => (List.not_mem_nil hx).elim, rfl, by simp [cntL]⟩
  | succ m ih =>
    intro xs lf ks r l1 hb h
    rw [kidsE] at h
    cases hg : getE d xs lf with
    | inl e => rw [hg] at h; cases h
    | inr q =>
      obtain ⟨k, r1, l2⟩ := q
      rw [hg] at h
      simp only at h
      obtain ⟨a1, a2, a3⟩ := hd xs lf k r1 l2 hb hg
      have hb1 : Byt r1 := fun x hx => hb x (by rw [a2]; exact List.mem_append.2 (.inr hx))
      cases hk : kidsE (getE d) m r1 l2 with
      | inl e => rw [hk] at h; cases h
      | inr q =>
        obtain ⟨ks2, r2, l3⟩ := q
        rw [hk] at h
        simp only at h
        injection h with h
        injection h with h1 h
        injection h with h2 h3
        subst h1 h2 h3
        obtain ⟨b1, b2, b3, b4⟩ := ih r1 l2 ks2 r2 l3 hb1 hk
        refine ⟨by rw [List.length_cons, b1], fun x hx => ?_, ?_, ?_⟩
        · rcases List.mem_cons.1 hx with rfl | hx
          · exact a1
          · exact b2 x hx
        · rw [a2, b3, List.flatMap_cons, List.append_assoc]
        · unfold cntL; omega
theorem head_is {xs : List Int} {op n : Int} {r : List Int} (hb : Byt xs) (h : headE xs = .inr (op, n, r)) : (1 ≤ op ∧ op ≤ 16) ∧ (n = 0 ∨ op = 1) ∧ xs = enc op ++ ((if op = 1 then enc (uns n) else []) ++ r) := by
  unfold headE at h
  by_cases h1 : (rdU xs).2.1 ≠ 0
  · rw [if_pos h1] at h; cases h
  rw [if_neg h1] at h
  have h1' : (rdU xs).2.1 = 0 := by simpa using h1
  by_cases h2 : ¬ (1 ≤ (rdU xs).1 ∧ (rdU xs).1 ≤ 16)
  · rw [if_pos h2] at h; cases h
  rw [if_neg h2] at h
  have h2' : 1 ≤ (rdU xs).1 ∧ (rdU xs).1 ≤ 16 := Decidable.not_not.1 h2
  obtain ⟨_, _, hx⟩ := rdU_is hb h1'
  by_cases h3 : (rdU xs).1 = 1
  · rw [if_pos h3] at h
    by_cases h4 : (rdU (rdU xs).2.2).2.1 ≠ 0
    · rw [if_pos h4] at h; cases h
    rw [if_neg h4] at h
    have h4' : (rdU (rdU xs).2.2).2.1 = 0 := by simpa using h4
    injection h with h
    injection h with e1 h
    injection h with e2 e3
    obtain ⟨g0, g1, hy⟩ := rdU_is (rdU_byt hb) h4'
    refine ⟨by omega, .inr e1.symm, ?_⟩
    rw [if_pos e1.symm, ← e2, ← e3, ← e1, uns_sgn g0, ← hy, ← h3]
    exact hx
  · rw [if_neg h3] at h
    injection h with h
    injection h with e1 h
    injection h with e2 e3
    refine ⟨by omega, .inl e2.symm, ?_⟩
    rw [if_neg (by omega), List.nil_append, ← e1, ← e3]
    exact hx
theorem get_is : ∀ (d : Nat) (xs : List Int) (lf : Nat) (x : E) (r : List Int) (l1 : Nat), Byt xs → getE d xs lf = .inr (x, r, l1) → okB d x = true ∧ xs = putD d x ++ r ∧ lf = l1 + cnt d x := by
  intro d
  induction d with
  | zero => intro xs lf x r l1 _ h; simp [getE] at h
  | succ d ih =>
    intro xs lf x r l1 hb h
    rw [getE] at h
    by_cases h0 : lf = 0
    · rw [if_pos h0] at h; cases h
    rw [if_neg h0] at h
    cases hh : headE xs with
    | inl e => rw [hh] at h; cases h
    | inr q =>
      obtain ⟨op, n, r0⟩ := q
      rw [hh] at h
      simp only at h
      obtain ⟨g1, g2, g3⟩ := head_is hb hh
      have hb0 : Byt r0 := fun y hy => hb y (by rw [g3]; exact List.mem_append.2 (.inr (List.mem_append.2 (.inr hy))))
      cases hk : kidsE (getE d) (kidsOf op).toNat r0 (lf - 1) with
      | inl e => rw [hk] at h; cases h
      | inr q =>
        obtain ⟨ks, r2, l2⟩ := q
        rw [hk] at h
        simp only at h
        injection h with h
        injection h with e1 h
        injection h with e2 e3
        subst e1 e2 e3
        obtain ⟨b1, b2, b3, b4⟩ := kids_is ih _ _ _ _ _ _ hb0 hk
        refine ⟨?_, ?_, ?_⟩
        · unfold okB
          rw [Bool.and_eq_true, decide_eq_true_eq, List.all_eq_true]
          have hnn := (kidsOf_le op).1
          exact ⟨⟨g1, by show kidsOf op = (ks.length : Int); rw [b1]; omega, g2⟩, b2⟩
        · rw [g3, b3]
          unfold putD
          simp only [List.append_assoc]
        · have hc : cnt (d + 1) ⟨op, n, ks⟩ = 1 + cntL (cnt d) ks := rfl
          rw [hc]
          omega
end Go.Proofs.Yteanncfmaomhaaa.Ex
namespace Go.Proofs.Yteanncfmaomhaaa.Ex
open Go Go.RowKit Go.Proofs.Yteanncfmaomhaaa.Pk Go.Proofs.YteanncfmaomhaaaW.PrintWords
set_option linter.unusedVariables false
set_option linter.unusedSimpArgs false
theorem head_nz {xs : List Int} {e : Int} (h : headE xs = .inl e) : e ≠ 0 := by
  unfold headE at h
  by_cases h1 : (rdU xs).2.1 ≠ 0
  · rw [if_pos h1] at h; injection h with h; rw [← h]; exact h1
  rw [if_neg h1] at h
  by_cases h2 : ¬ (1 ≤ (rdU xs).1 ∧ (rdU xs).1 ≤ 16)
  · rw [if_pos h2] at h; injection h with h; rw [← h]; decide
  rw [if_neg h2] at h
  by_cases h3 : (rdU xs).1 = 1
  · rw [if_pos h3] at h
    by_cases h4 : (rdU (rdU xs).2.2).2.1 ≠ 0
    · rw [if_pos h4] at h; injection h with h; rw [← h]; exact h4
    · rw [if_neg h4] at h; cases h
  · rw [if_neg h3] at h; cases h
theorem kids_nz {g : List Int → Nat → GotE} (hg : ∀ xs lf e, g xs lf = .inl e → e ≠ 0) : ∀ (m : Nat) (xs : List Int) (lf : Nat) (e : Int), kidsE g m xs lf = .inl e → e ≠ 0 := by
  intro m
  induction m with
  | zero => intro xs lf e h; simp [kidsE] at h
  | succ m ih =>
    intro xs lf e h
    rw [kidsE] at h
    cases h1 : g xs lf with
    | inl e1 => rw [h1] at h; injection h with h; rw [← h]; exact hg _ _ _ h1
    | inr q =>
      obtain ⟨k, r, l1⟩ := q
      rw [h1] at h
      simp only at h
      cases h2 : kidsE g m r l1 with
      | inl e2 => rw [h2] at h; injection h with h; rw [← h]; exact ih _ _ _ h2
      | inr q => obtain ⟨ks, r2, l2⟩ := q; rw [h2] at h; cases h
theorem get_nz : ∀ (d : Nat) (xs : List Int) (lf : Nat) (e : Int), getE d xs lf = .inl e → e ≠ 0 := by
  intro d
  induction d with
  | zero => intro xs lf e h; rw [getE] at h; injection h with h; rw [← h]; decide
  | succ d ih =>
    intro xs lf e h
    rw [getE] at h
    by_cases h0 : lf = 0
    · rw [if_pos h0] at h; injection h with h; rw [← h]; decide
    rw [if_neg h0] at h
    cases hh : headE xs with
    | inl e1 => rw [hh] at h; injection h with h; rw [← h]; exact head_nz hh
    | inr q =>
      obtain ⟨op, n, r⟩ := q
      rw [hh] at h
      simp only at h
      cases hk : kidsE (getE d) (kidsOf op).toNat r (lf - 1) with
      | inl e2 => rw [hk] at h; injection h with h; rw [← h]; exact kids_nz ih _ _ _ _ hk
      | inr q => obtain ⟨ks, r2, l2⟩ := q; rw [hk] at h; cases h
theorem head_wf {xs : List Int} {op n : Int} {r : List Int} (hb : Byt xs) (h : headE xs = .inr (op, n, r)) : I64 op ∧ I64 n := by
  have h1 := (head_is hb h).1
  refine ⟨by unfold I64; omega, ?_⟩
  unfold headE at h
  by_cases h1 : (rdU xs).2.1 ≠ 0
  · rw [if_pos h1] at h; cases h
  rw [if_neg h1] at h
  by_cases h2 : ¬ (1 ≤ (rdU xs).1 ∧ (rdU xs).1 ≤ 16)
  · rw [if_pos h2] at h; cases h
  rw [if_neg h2] at h
  by_cases h3 : (rdU xs).1 = 1
  · rw [if_pos h3] at h
    by_cases h4 : (rdU (rdU xs).2.2).2.1 ≠ 0
    · rw [if_pos h4] at h; cases h
    rw [if_neg h4] at h
    injection h with h
    injection h with e1 h
    injection h with e2 e3
    have := rdU_range (rdU_byt hb)
    rw [← e2]
    exact sgn_range this.1 this.2
  · rw [if_neg h3] at h
    injection h with h
    injection h with e1 h
    injection h with e2 e3
    rw [← e2]
    unfold I64
    decide
theorem kids_wf {d : Nat} (hd : ∀ (xs : List Int) (lf : Nat) (x : E) (r : List Int) (l1 : Nat), Byt xs → getE d xs lf = .inr (x, r, l1) → wfE x ∧ Byt r) :
    ∀ (m : Nat) (xs : List Int) (lf : Nat) (ks : List E) (r : List Int) (l1 : Nat), Byt xs → kidsE (getE d) m xs lf = .inr (ks, r, l1) → (∀ x ∈ ks, wfE x) ∧ Byt r := by
  intro m
  induction m with
  | zero =>
    intro xs lf ks r l1 hb h
    simp only [kidsE] at h
    injection h with h
    injection h with h1 h
    injection h with h2 h3
    subst h1 h2 h3
    exact ⟨fun x hx => (List.not_mem_nil hx).elim, hb⟩
  | succ m ih =>
    intro xs lf ks r l1 hb h
    rw [kidsE] at h
    cases hg : getE d xs lf with
    | inl e => rw [hg] at h; cases h
    | inr q =>
      obtain ⟨k, r1, l2⟩ := q
      rw [hg] at h
      simp only at h
      obtain ⟨a1, a2⟩ := hd xs lf k r1 l2 hb hg
      cases hk : kidsE (getE d) m r1 l2 with
      | inl e => rw [hk] at h; cases h
      | inr q =>
        obtain ⟨ks2, r2, l3⟩ := q
        rw [hk] at h
        simp only at h
        injection h with h
        injection h with h1 h
        injection h with h2 h3
        subst h1 h2 h3
        obtain ⟨b1, b2⟩ := ih r1 l2 ks2 r2 l3 a2 hk
        refine ⟨fun x hx => ?_, b2⟩
        rcases List.mem_cons.1 hx with rfl | hx
        · exact a1
        · exact b1 x hx
theorem get_wf : ∀ (d : Nat) (xs : List Int) (lf : Nat) (x : E) (r : List Int) (l1 : Nat), Byt xs → getE d xs lf = .inr (x, r, l1) → wfE x ∧ Byt r := by
  intro d
  induction d with
  | zero => intro xs lf x r l1 _ h; simp [getE] at h
  | succ d ih =>
    intro xs lf x r l1 hb h
    have hok := get_is (d + 1) xs lf x r l1 hb h
    rw [getE] at h
    by_cases h0 : lf = 0
    · rw [if_pos h0] at h; cases h
    rw [if_neg h0] at h
    cases hh : headE xs with
    | inl e => rw [hh] at h; cases h
    | inr q =>
      obtain ⟨op, n, r0⟩ := q
      rw [hh] at h
      simp only at h
      have hw := head_wf hb hh
      have hb0 : Byt r0 := fun y hy => hb y (by rw [(head_is hb hh).2.2]; exact List.mem_append.2 (.inr (List.mem_append.2 (.inr hy))))
      cases hk : kidsE (getE d) (kidsOf op).toNat r0 (lf - 1) with
      | inl e => rw [hk] at h; cases h
      | inr q =>
        obtain ⟨ks, r2, l2⟩ := q
        rw [hk] at h
        simp only at h
        injection h with h
        injection h with e1 h
        injection h with e2 e3
        subst e1 e2 e3
        obtain ⟨b1, b2⟩ := kids_wf ih _ _ _ _ _ _ hb0 hk
        have hlen : kidsOf op = (ks.length : Int) := (okB_succ hok.1).1.2.1
        have hk3 := (kidsOf_le op).2
        exact ⟨wfE.mk op n ks hw.1 hw.2 (by omega) b1, b2⟩
end Go.Proofs.Yteanncfmaomhaaa.Ex
