/- The statement FlowFlats. -/
import Derived.Test.YthkilejcddgodaaFlFew
import Derived.Test.YthkilejcddgodaaEx14
namespace Go.Proofs.Ythkilejcddgodaa.Ex
open Go Go.RowKit Go.Proofs.YthkilejcddgodaaW.PrintWords Go.Proofs.YthkilejcddgodaaW.PrintLast Go.Proofs.YthkilejcddgodaaW.PrintMore Go.Proofs.Ythkilejcddgodaa.Opn
set_option linter.unusedVariables false
set_option linter.unusedSimpArgs false
def flatV (n : Int) : Vx := ⟨4, [], ⟨1, n, []⟩, 0⟩
theorem eval_con (n ky vl tm : Int) : evalOf ⟨1, n, []⟩ ky vl tm 0 = (n, 0) := by
  have h : mayB ⟨1, n, []⟩ = true := by simp [mayB, leftOf, kidsOf, mayL]
  unfold evalOf
  rw [if_pos h]
  simp [valOf]
theorem ap_flat (n : Int) (r : Rc) : apOf (flatV n).f0 (flatV n).f2 r = (flatOf n r, 0) := by
  unfold apOf flatV
  simp only
  rw [if_neg (by decide), if_pos (by decide), eval_con]
  simp [outOf]
def eachOf (n : Int) : Nat := (mn n 4).toNat
theorem flat_length (n : Int) (r : Rc) : (flatOf n r).length = eachOf n := by simp [flatOf, eachOf]
theorem flats_ok (n : Int) : ∀ (k : Nat) (r : Rc), okD (List.replicate k (flatV n)) r = true := by
  intro k
  induction k with
  | zero => intro r; rfl
  | succ k ih =>
    intro r
    rw [List.replicate_succ, okD, ap_flat]
    simp only [decide_true, Bool.true_and, List.all_eq_true]
    exact fun x _ => ih x
theorem sum_const {f : Rc → Nat} {c : Nat} : ∀ xs : List Rc, (∀ x ∈ xs, f x = c) → (xs.map f).sum = xs.length * c := by
  intro xs
  induction xs with
  | nil => intro _; simp
  | cons x xs ih =>
    intro h
    rw [List.map_cons, List.sum_cons, ih (fun y hy => h y (List.mem_cons_of_mem _ hy)), h x (List.mem_cons_self ..), List.length_cons, Nat.succ_mul]
    omega
theorem flats_cnt (n : Int) : ∀ (k j : Nat) (r : Rc), j < k → cnV (List.replicate k (flatV n)) j r = eachOf n ^ (j + 1) := by
  intro k
  induction k with
  | zero => intro j r h; omega
  | succ k ih =>
    intro j r h
    rw [List.replicate_succ]
    cases j with
    | zero => rw [cnV, ap_flat]; simp [flat_length]
    | succ j =>
      rw [cnV, ap_flat, sum_const _ (fun x _ => ih j x (by omega)), flat_length, Nat.pow_succ _ (j + 1), Nat.mul_comm]
theorem sum_len {f : Rc → List Rc} : ∀ xs : List Rc, (xs.flatMap f).length = (xs.map (fun x => (f x).length)).sum := by
  intro xs
  induction xs with
  | nil => rfl
  | cons x xs ih => rw [List.flatMap_cons, List.length_append, ih, List.map_cons, List.sum_cons]
theorem flats_len (n : Int) : ∀ (k : Nat) (r : Rc), (runD (List.replicate k (flatV n)) r).length = eachOf n ^ k := by
  intro k
  induction k with
  | zero => intro r; simp [runD]
  | succ k ih =>
    intro r
    rw [List.replicate_succ, runD, ap_flat, sum_len, sum_const _ (fun x _ => ih x), flat_length, Nat.pow_succ, Nat.mul_comm]
theorem flats_head (n : Int) (hn : 1 ≤ eachOf n) : ∀ (k : Nat) (r : Rc), I64 r.f1 → ∃ t, runD (List.replicate k (flatV n)) r = r :: t := by
  intro k
  induction k with
  | zero => intro r _; exact ⟨[], rfl⟩
  | succ k ih =>
    intro r hr
    obtain ⟨m, hm⟩ : ∃ m, (mn n 4).toNat = m + 1 := ⟨(mn n 4).toNat - 1, by unfold eachOf at hn; omega⟩
    have hw : wrap64 (r.f1 + ((0 : Nat) : Int)) = r.f1 := by unfold I64 at hr; unfold wrap64; omega
    rw [List.replicate_succ, runD, ap_flat]
    simp only [flatOf]
    rw [hm, range_map_succ, List.flatMap_cons, hw]
    obtain ⟨t, ht⟩ := ih r hr
    rw [show (⟨r.f0, r.f1, r.f2⟩ : Rc) = r from rfl, ht]
    exact ⟨_, rfl⟩
theorem pow_small {c i : Nat} (hc : c ≤ 4) (hi : i ≤ 7) : c ^ i ≤ 16384 :=
  Nat.le_trans (Nat.pow_le_pow_left hc i) (Nat.le_trans (Nat.pow_le_pow_right (by omega) hi) (by decide))
theorem flats_end (n : Int) (val : Int) (hv : I64 val) (K : Nat) (hK : K ≤ 7) (x2 : Int) (e : x2 = val) (n8 : Int) : Ev (fun k => (flow_Chain.f k (List.replicate K (flatV n)) 0 x2 0).bind fun bt => (if ((eachOf n ^ K : Nat) : Int) > 10000 then (if true = true then (if bt.2.2 = 3 then (if bt.2.1 ≥ 0 then (some ((bt.1.length : Int) == 0)) else (some false)) else (some false)) else (some false)) else (if true = true then (if bt.2.2 = 0 then (if (bt.1.length : Int) = ((eachOf n ^ K : Nat) : Int) then (if ((eachOf n ^ K : Nat) : Int) = 0 then (some true) else (if 0 < (bt.1.length : Int) then (some (((rd_T29 bt.1 0).f1) == x2)) else (none))) else (some false)) else (some false)) else (some false)))) true := by
  subst e
  have hc4 : eachOf n ≤ 4 := mn_le n
  refine Ev.bind (chain_ev (by simp; omega) 0 x2 0) ?_
  generalize hr : (⟨0, x2, 0⟩ : Rc) = r
  have hr1 : r.f1 = x2 := by rw [← hr]
  by_cases hw : ((eachOf n ^ K : Nat) : Int) > 10000
  · have hK1 : 1 ≤ K := by
      cases K with
      | zero => simp at hw
      | succ K => omega
    have hb : ¬ (okD (List.replicate K (flatV n)) r = true ∧ ∀ j, j < (List.replicate K (flatV n)).length → cnV (List.replicate K (flatV n)) j r ≤ 10000) := by
      rintro ⟨_, h⟩
      have := h (K - 1) (by simp; omega)
      rw [flats_cnt n K (K - 1) r (by omega), show K - 1 + 1 = K by omega] at this
      omega
    obtain ⟨a, e, hch, hne, ha, _, h3⟩ := chain_bad hb
    have he : e = 3 := by
      by_cases h : e = 3
      · exact h
      · have := h3 h
        rw [flats_ok] at this; cases this
    subst he
    rw [hch]
    simp only [if_pos hw, if_true, List.length_nil, if_pos (show a ≥ 0 from ha)]
    exact Ev.now _
  · have hg : ∀ j, j < (List.replicate K (flatV n)).length → cnV (List.replicate K (flatV n)) j r ≤ 10000 := by
      intro j hj
      simp only [List.length_replicate] at hj
      rw [flats_cnt n K j r hj]
      by_cases h0 : eachOf n = 0
      · rw [h0, Nat.zero_pow (by omega)]; omega
      · have := Nat.pow_le_pow_right (n := eachOf n) (by omega) (show j + 1 ≤ K by omega)
        omega
    rw [chain_good (flats_ok n K r) hg]
    simp only [if_neg hw, if_true]
    rw [flats_len, if_pos rfl]
    by_cases h0 : ((eachOf n ^ K : Nat) : Int) = 0
    · rw [if_pos h0]; exact Ev.now _
    · have h1 : 1 ≤ eachOf n ∨ K = 0 := by
        by_cases hk : K = 0
        · exact .inr hk
        · refine .inl ?_
          by_cases hz : eachOf n = 0
          · rw [hz, Nat.zero_pow (by omega)] at h0; exact absurd rfl h0
          · omega
      rw [if_neg h0, if_pos (by omega)]
      have hh : ∃ t, runD (List.replicate K (flatV n)) r = r :: t := by
        rcases h1 with h1 | rfl
        · exact flats_head n h1 K r (by rw [hr1]; exact hv)
        · exact ⟨[], rfl⟩
      obtain ⟨t, ht⟩ := hh
      rw [ht]
      have : (rd_T29 (r :: t) 0).f1 = x2 := by rw [← hr1]; rfl
      rw [this, beq_self_eq_true]
      exact Ev.now _
theorem flats_l0 (n : Int) (hn : -128 ≤ n ∧ n < 128) (val : Int) (hv : I64 val) (K : Nat) (hK : K ≤ 7) : ∀ (d i : Nat), i + d = K → Ev (fun k => tidemilllaw17_FlowFlats.l0 k n val true (K : Int) (List.replicate i (flatV n)) ((eachOf n ^ i : Nat) : Int) (eachOf n : Int) (i : Int)) true := by
  have hc4 : eachOf n ≤ 4 := mn_le n
  have hwn : wrap64 n = n := by unfold wrap64; omega
  intro d
  induction d with
  | zero =>
    intro i hi
    obtain rfl : i = K := by omega
    refine Ev.step (fun k => ?_) (flats_end n val hv i hK val rfl n)
    simp only [tidemilllaw17_FlowFlats.l0]
    rw [if_neg (by omega)]
  | succ d ih =>
    intro i hi
    refine Ev.step (fun k => ?_) (ih (i + 1) (by omega))
    have hp := pow_small hc4 (show i + 1 ≤ 7 by omega)
    simp only [tidemilllaw17_FlowFlats.l0]
    rw [if_pos (by omega), hwn]
    unfold tidemilllaw17_con.f
    simp only [Option.bind_some]
    rw [if_pos (by simp; omega)]
    rw [show wrap64 ((i : Int) + 1) = ((i + 1 : Nat) : Int) by unfold wrap64; omega, show wrap64 (((eachOf n ^ i : Nat) : Int) * (eachOf n : Int)) = ((eachOf n ^ (i + 1) : Nat) : Int) by
      rw [Nat.pow_succ] at hp ⊢
      rw [← Int.natCast_mul]
      unfold wrap64
      omega]
    rw [show (List.replicate i (flatV n) ++ [(⟨4, [], ⟨1, n, []⟩, 0⟩ : Vx)]) = List.replicate (i + 1) (flatV n) by rw [List.replicate_succ']; rfl]
theorem flats_pure (n u val : Int) (hn : -128 ≤ n ∧ n < 128) (hu : 0 ≤ u ∧ u < 256) (hv : I64 val) : ∃ k, tidemilllaw17_FlowFlats.f k n u val = some true := by
  refine Ev.rounds ?_
  unfold tidemilllaw17_FlowFlats.f
  refine Ev.bind shown_ev ?_
  have hwn : wrap64 n = n := by unfold wrap64; omega
  have he : mx (mn (wrap64 n) 4) 0 = (eachOf n : Int) := by
    rw [hwn]
    unfold eachOf mx
    split <;> omega
  have hK : wrap64 (Int.tmod u 8) = (((u % 8).toNat : Nat) : Int) := by
    rw [Int.tmod_eq_emod_of_nonneg hu.1]
    unfold wrap64
    omega
  rw [he, hK]
  have := flats_l0 n hn val hv (u % 8).toNat (by omega) (u % 8).toNat 0 (by omega)
  simpa using this
theorem flats_law (n u val : Int) (w : World) (hn : -128 ≤ n ∧ n < 128) (hu : 0 ≤ u ∧ u < 256) (hv : I64 val) :
    Calls Try.prog 7 #[.int .i8 n, .int .u8 u, .int .i64 val] w fun e_ w' => e_ = .returned (.bool true) ∧ Below w.heap.size w w' := by
  obtain ⟨k, hk⟩ := flats_pure n u val hn hu hv
  exact tidemilllaw17_FlowFlats.calls k n u val true w hk
theorem wff_u8 {n : Int} (h : (Lit.int .u8 n).wf = true) : 0 ≤ n ∧ n < 256 := by
  simp [Lit.wf, IntKind.min, IntKind.max, IntKind.bits, IntKind.signed] at h
  omega
theorem wff_i8 {n : Int} (h : (Lit.int .i8 n).wf = true) : -128 ≤ n ∧ n < 128 := by
  simp [Lit.wf, IntKind.min, IntKind.max, IntKind.bits, IntKind.signed] at h
  omega
end Go.Proofs.Ythkilejcddgodaa.Ex
