/- Plain laws: what ToEntry reads; bytes that are read are just the ones laid down. -/
import Derived.Test.YtedbgkbjbfdnlaaRcW
import Derived.Test.YtedbgkbjbfdnlaaRcTr
namespace Go.Proofs.Ytedbgkbjbfdnlaa.Rc
open Go Go.RowKit Go.Proofs.Ytedbgkbjbfdnlaa.Pk
set_option linter.unusedVariables false
set_option linter.unusedSimpArgs false
def cap (n : Int) : Int := if n ≤ 1048577 then n else 1048577
/-- So many unsigned numbers, each no greater than one more than the most. -/
def nums5 : Nat → List Int → List Int × Int × List Int
  | 0, xs => ([], 0, xs)
  | k + 1, xs => if (rdU xs).2.1 ≠ 0 then ([], (rdU xs).2.1, xs) else (cap (rdU xs).1 :: (nums5 k (rdU xs).2.2).1, (nums5 k (rdU xs).2.2).2.1, (nums5 k (rdU xs).2.2).2.2)
def zeroE : Ent := ⟨0, 0, 0, 0, 0, 0, 0, 0, false, [], []⟩
/-- An entry out of bytes, or the error. -/
def toEnt (xs : List Int) : Ent × Int :=
  let a := nums5 5 xs
  let b := rec3 a.2.2
  let d := rdU b.2.2
  let o := rdL 8 d.2.2
  let p := rdL 256 o.2.2
  let x : Ent := ⟨a.1.getD 0 0, a.1.getD 1 0, a.1.getD 2 0, a.1.getD 3 0, a.1.getD 4 0, b.1.1, b.1.2.1, b.1.2.2, d.1 == 1, o.1, p.1⟩
  if a.2.1 ≠ 0 then (zeroE, a.2.1)
  else if b.2.1 ≠ 0 then (zeroE, b.2.1)
  else if d.2.1 ≠ 0 then (zeroE, d.2.1)
  else if o.2.1 ≠ 0 then (zeroE, o.2.1)
  else if p.2.1 ≠ 0 then (zeroE, p.2.1)
  else if p.2.2.length ≠ 0 ∨ 1 < d.1 ∨ may x = false then (zeroE, 5)
  else (x, 0)
theorem nums5_len : ∀ (k : Nat) (xs : List Int), (nums5 k xs).2.1 = 0 → (nums5 k xs).1.length = k := by
  intro k
  induction k with
  | zero => intro xs _; rfl
  | succ k ih =>
    intro xs h
    rw [nums5] at h ⊢
    by_cases h0 : (rdU xs).2.1 ≠ 0
    · rw [if_pos h0] at h; exact absurd h h0
    · rw [if_neg h0] at h ⊢
      simp only [List.length_cons, ih _ h]
theorem nums5_is : ∀ (k : Nat) (xs : List Int), Byt xs → (nums5 k xs).2.1 = 0 → (∀ n ∈ (nums5 k xs).1, n ≤ 1048576) → xs = Pk.encs (nums5 k xs).1 ++ (nums5 k xs).2.2 ∧ Byt (nums5 k xs).2.2 := by
  intro k
  induction k with
  | zero => intro xs hb _ _; exact ⟨rfl, hb⟩
  | succ k ih =>
    intro xs hb h hm
    rw [nums5] at h hm ⊢
    by_cases h0 : (rdU xs).2.1 ≠ 0
    · rw [if_pos h0] at h; exact absurd h h0
    · rw [if_neg h0] at h hm ⊢
      simp only at h hm ⊢
      obtain ⟨g0, g1, g2⟩ := rdU_is hb (by simpa using h0)
      have hc := hm _ (List.mem_cons_self ..)
      have hcap : cap (rdU xs).1 = (rdU xs).1 := by unfold cap at hc ⊢; split at hc <;> rename_i hh <;> first | rw [if_pos hh] | omega
      obtain ⟨i1, i2⟩ := ih (rdU xs).2.2 (rdU_byt hb) h (fun n hn => hm n (List.mem_cons_of_mem _ hn))
      refine ⟨?_, i2⟩
      rw [hcap, encs_cons, List.append_assoc, ← i1]
      exact g2
theorem rec3_is {xs : List Int} (hb : Byt xs) (h : (rec3 xs).2.1 = 0) : xs = recB (rec3 xs).1.1 (rec3 xs).1.2.1 (rec3 xs).1.2.2 ++ (rec3 xs).2.2 ∧ Byt (rec3 xs).2.2 ∧ (I64 (rec3 xs).1.1 ∧ I64 (rec3 xs).1.2.1 ∧ I64 (rec3 xs).1.2.2) := by
  unfold rec3 at h ⊢
  by_cases h1 : (rdU xs).2.1 ≠ 0
  · rw [if_pos h1] at h; exact absurd h h1
  rw [if_neg h1] at h ⊢
  by_cases h2 : (rdU (rdU xs).2.2).2.1 ≠ 0
  · rw [if_pos h2] at h; exact absurd h h2
  rw [if_neg h2] at h ⊢
  by_cases h3 : (rdU (rdU (rdU xs).2.2).2.2).2.1 ≠ 0
  · rw [if_pos h3] at h; exact absurd h h3
  rw [if_neg h3]
  have b1 := rdU_byt hb
  have b2 := rdU_byt b1
  obtain ⟨p0, p1, p2⟩ := rdU_is hb (by simpa using h1)
  obtain ⟨q0, q1, q2⟩ := rdU_is b1 (by simpa using h2)
  obtain ⟨r0, r1, r2⟩ := rdU_is b2 (by simpa using h3)
  refine ⟨?_, rdU_byt b2, sgn_range p0 p1, sgn_range q0 q1, sgn_range r0 r1⟩
  simp only [recB, uns_sgn p0, uns_sgn q0, uns_sgn r0, List.append_assoc]
  rw [← r2, ← q2]
  exact p2
theorem rdIs_is : ∀ (k : Nat) (xs : List Int), Byt xs → (rdIs k xs).2.1 = 0 → xs = uenc (rdIs k xs).1 ++ (rdIs k xs).2.2 ∧ Byt (rdIs k xs).2.2 ∧ (rdIs k xs).1.length = k ∧ ∀ n ∈ (rdIs k xs).1, I64 n := by
  intro k
  induction k with
  | zero => intro xs hb _; exact ⟨rfl, hb, rfl, fun n hn => by cases hn⟩
  | succ k ih =>
    intro xs hb h
    rw [rdIs] at h ⊢
    by_cases h0 : (rdU xs).2.1 ≠ 0
    · rw [if_pos h0] at h; exact absurd h h0
    rw [if_neg h0] at h ⊢
    by_cases h1 : sgn (rdU xs).1 < -2147483648 ∨ 2147483647 < sgn (rdU xs).1
    · rw [if_pos h1] at h; exact absurd h (by simp)
    rw [if_neg h1] at h ⊢
    simp only at h ⊢
    obtain ⟨g0, g1, g2⟩ := rdU_is hb (by simpa using h0)
    obtain ⟨i1, i2, i3, i4⟩ := ih _ (rdU_byt hb) h
    refine ⟨?_, i2, by rw [List.length_cons, i3], fun n hn => ?_⟩
    · rw [uenc_cons, uns_sgn g0, List.append_assoc, ← i1]
      exact g2
    · rcases List.mem_cons.1 hn with rfl | hn
      · exact sgn_range g0 g1
      · exact i4 n hn
theorem rdL_is {m : Int} {xs : List Int} (hb : Byt xs) (h : (rdL m xs).2.1 = 0) : xs = (enc (rdL m xs).1.length ++ uenc (rdL m xs).1) ++ (rdL m xs).2.2 ∧ Byt (rdL m xs).2.2 ∧ ∀ n ∈ (rdL m xs).1, I64 n := by
  unfold rdL at h ⊢
  by_cases h0 : (rdU xs).2.1 ≠ 0
  · rw [if_pos h0] at h; exact absurd h h0
  rw [if_neg h0] at h ⊢
  by_cases h1 : m < 0 ∨ m < (rdU xs).1
  · rw [if_pos h1] at h; exact absurd h (by simp)
  rw [if_neg h1] at h ⊢
  by_cases h2 : (rdIs (rdU xs).1.toNat (rdU xs).2.2).2.1 ≠ 0
  · rw [if_pos h2] at h; exact absurd h h2
  rw [if_neg h2]
  obtain ⟨g0, g1, g2⟩ := rdU_is hb (by simpa using h0)
  obtain ⟨i1, i2, i3, i4⟩ := rdIs_is _ _ (rdU_byt hb) (by simpa using h2)
  refine ⟨?_, i2, i4⟩
  rw [i3, Int.toNat_of_nonneg g0, List.append_assoc, ← i1]
  exact g2
theorem five {l : List Int} (h : l.length = 5) : l = [l.getD 0 0, l.getD 1 0, l.getD 2 0, l.getD 3 0, l.getD 4 0] := by
  match l, h with
  | [a, b, c, d, e], _ => rfl
/-- Bytes that are read as an entry are just the ones that are laid down for it. -/
theorem toEnt_is {xs : List Int} (hb : Byt xs) (h : (toEnt xs).2 = 0) : entB (toEnt xs).1 = xs ∧ may (toEnt xs).1 = true ∧ entWf (toEnt xs).1 := by
  unfold toEnt at h ⊢
  simp only at h ⊢
  generalize ha : nums5 5 xs = a at h ⊢
  by_cases h1 : a.2.1 ≠ 0
  · rw [if_pos h1] at h; exact absurd h h1
  rw [if_neg h1] at h ⊢
  generalize hbb : rec3 a.2.2 = b at h ⊢
  by_cases h2 : b.2.1 ≠ 0
  · rw [if_pos h2] at h; exact absurd h h2
  rw [if_neg h2] at h ⊢
  generalize hd : rdU b.2.2 = d at h ⊢
  by_cases h3 : d.2.1 ≠ 0
  · rw [if_pos h3] at h; exact absurd h h3
  rw [if_neg h3] at h ⊢
  generalize ho : rdL 8 d.2.2 = o at h ⊢
  by_cases h4 : o.2.1 ≠ 0
  · rw [if_pos h4] at h; exact absurd h h4
  rw [if_neg h4] at h ⊢
  generalize hp : rdL 256 o.2.2 = p at h ⊢
  by_cases h5 : p.2.1 ≠ 0
  · rw [if_pos h5] at h; exact absurd h h5
  rw [if_neg h5] at h ⊢
  generalize hx : (⟨a.1.getD 0 0, a.1.getD 1 0, a.1.getD 2 0, a.1.getD 3 0, a.1.getD 4 0, b.1.1, b.1.2.1, b.1.2.2, d.1 == 1, o.1, p.1⟩ : Ent) = x at h ⊢
  by_cases h6 : p.2.2.length ≠ 0 ∨ 1 < d.1 ∨ may x = false
  · rw [if_pos h6] at h; exact absurd h (by simp)
  rw [if_neg h6]
  simp only
  have hm : may x = true := by cases hmx : may x with
    | true => rfl
    | false => exact absurd (.inr (.inr hmx)) h6
  have hlen : a.1.length = 5 := by rw [← ha]; exact nums5_len 5 xs (by rw [ha]; simpa using h1)
  have h5' := five hlen
  obtain ⟨n1, n2, n3, n4, n5, _, _⟩ := may_nums hm
  have hsm : ∀ n ∈ a.1, n ≤ 1048576 := by
    have hq := hm
    unfold may may0 num at hq
    simp only [Bool.and_eq_true, decide_eq_true_eq] at hq
    obtain ⟨⟨⟨⟨⟨⟨⟨⟨k1, k2⟩, ⟨⟨⟨⟨_, t1⟩, _, t2⟩, _, t3⟩, _, t4⟩⟩, _⟩, _⟩, _⟩, _⟩, _⟩, _⟩ := hq
    rw [h5']
    intro n hn
    rw [← hx] at k2 t1 t2 t3 t4
    simp only at k2 t1 t2 t3 t4
    simp only [List.mem_cons, List.not_mem_nil, or_false] at hn
    omega
  obtain ⟨A1, A2⟩ := nums5_is 5 xs hb (by rw [ha]; simpa using h1) (by rw [ha]; exact hsm)
  rw [ha] at A1 A2
  obtain ⟨B1, B2, B3⟩ := rec3_is A2 (by rw [hbb]; simpa using h2)
  rw [hbb] at B1 B2 B3
  obtain ⟨D0, _, D1⟩ := rdU_is B2 (by rw [hd]; simpa using h3)
  have D2 := rdU_byt B2
  rw [hd] at D0 D1 D2
  obtain ⟨O1, O2, O3⟩ := rdL_is (m := 8) D2 (by rw [ho]; simpa using h4)
  rw [ho] at O1 O2 O3
  obtain ⟨P1, _, P3⟩ := rdL_is (m := 256) O2 (by rw [hp]; simpa using h5)
  rw [hp] at P1 P3
  have hr : p.2.2 = [] := by
    by_cases hl : p.2.2.length = 0
    · exact List.length_eq_zero_iff.1 hl
    · exact absurd (.inl hl) h6
  have hd1 : d.1 = 0 ∨ d.1 = 1 := by
    by_cases hl : 1 < d.1
    · exact absurd (.inr (.inl hl)) h6
    · omega
  have hde : enc (if (d.1 == 1) = true then 1 else 0) = enc d.1 := by rcases hd1 with e | e <;> rw [e] <;> rfl
  refine ⟨?_, hm, ?_⟩
  · rw [A1, B1, D1, O1, P1, hr, ← hx]
    unfold entB tailB
    simp only
    rw [hde, ← h5']
    simp only [List.append_nil, List.append_assoc]
  · rw [← hx]
    rw [← hx] at n1 n2 n3 n4 n5
    simp only at n1 n2 n3 n4 n5
    unfold entWf I64
    simp only
    refine ⟨by omega, B3, O3, P3⟩
end Go.Proofs.Ytedbgkbjbfdnlaa.Rc
