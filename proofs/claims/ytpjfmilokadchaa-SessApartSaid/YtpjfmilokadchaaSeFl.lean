/- (c14) Whole numbers as floats, and back: exact below 2^53. -/
import GoSem.Core.Float
namespace Go.Proofs.Ytpjfmilokadchaa.Se
open Ieee
set_option linter.unusedVariables false
theorem cut_none (way : Toward) (N : Nat) : Toward.cut way false N 0 = N := by
  unfold Toward.cut
  have h1 : (1 <<< min 0 (N.log2 + 2)) = 1 := by rw [Nat.zero_min]; rfl
  simp only [h1, Nat.div_one, Nat.mod_one]
  cases way <;> simp
theorem shl (n k : Nat) : n <<< k = n * 2 ^ k := Nat.shiftLeft_eq n k
set_option exponentiation.threshold 2000 in
/-- How a whole number reads. -/
theorem read_nearest (n : Nat) (h : n < 2 ^ 53) : ∃ k : Nat, Ieee.double.read (Ieee.double.nearest false n 0) = .number false (n * 2 ^ k) (-(k : Int)) := by
  by_cases h0 : n = 0
  · subst h0
    refine ⟨1074, ?_⟩
    rw [Nat.zero_mul]
    decide +kernel
  · have hl : n.log2 ≤ 52 := by
      have := (Nat.log2_lt h0).2 h
      omega
    have e1 : 2 ^ n.log2 ≤ n := Nat.log2_self_le h0
    have e2 : n < 2 ^ (n.log2 + 1) := Nat.lt_log2_self
    unfold Format.nearest
    rw [if_neg h0]
    generalize n.log2 = e at hl e1 e2 ⊢
    have hlast : max ((0 : Int) + (e : Int) - (double.fractionBits : Int)) double.leastPlace = (e : Int) - 52 := by
      have : double.leastPlace = -1074 := by decide
      have h2 : (double.fractionBits : Int) = 52 := by decide
      rw [this, h2]
      omega
    simp only [hlast]
    have k1 : ((0 : Int) - ((e : Int) - 52)).toNat = 52 - e := by omega
    have k2 : (((e : Int) - 52) - 0).toNat = 0 := by omega
    rw [k1, k2, cut_none, shl]
    have p52 : 2 ^ e * 2 ^ (52 - e) = 4503599627370496 := by rw [← Nat.pow_add, show e + (52 - e) = 52 by omega]
    have n1 : 4503599627370496 ≤ n * 2 ^ (52 - e) := by rw [← p52]; exact Nat.mul_le_mul_right _ e1
    have n2 : n * 2 ^ (52 - e) < 9007199254740992 := by
      have := Nat.mul_lt_mul_of_pos_right e2 (Nat.two_pow_pos (52 - e))
      rw [Nat.pow_succ, Nat.mul_right_comm, p52] at this
      omega
    refine ⟨52 - e, ?_⟩
    generalize n * 2 ^ (52 - e) = N at n1 n2
    have k3 : ((e : Int) - 52 - double.leastPlace).toNat = e + 1022 := by
      have : double.leastPlace = -1074 := by decide
      rw [this]
      omega
    have b52 : double.binade = 4503599627370496 := by decide +kernel
    have binf : double.infRung = 9218868437227405312 := by decide +kernel
    have bsw : double.signWeight = 9223372036854775808 := by decide +kernel
    rw [k3, b52, binf, Nat.min_eq_left (by omega)]
    unfold Format.word
    rw [if_neg (by decide)]
    unfold Format.read
    rw [bsw, b52, binf]
    generalize hr : (e + 1022) * 4503599627370496 + N = r
    have r0 : r / 9223372036854775808 = 0 := by omega
    have r1 : r % 9223372036854775808 = r := by omega
    have r4 : N / 4503599627370496 = 1 := by clear hr r0 r1; omega
    have r7 : N % 4503599627370496 = N - 4503599627370496 := by clear hr r0 r1 r4; omega
    have r2 : 4503599627370496 + r % 4503599627370496 = N := by
      rw [← hr, Nat.mul_comm, Nat.mul_add_mod, r7, Nat.add_sub_cancel' n1]
    have r3 : r / 4503599627370496 - 1 = e + 1022 := by
      have r5 : r / 4503599627370496 = e + 1022 + 1 := by rw [← hr, Nat.mul_comm, Nat.mul_add_div (by clear hr r0 r1 r2 r4 r7; omega), r4]
      rw [r5, Nat.add_sub_cancel]
    simp only [r0, r1]
    rw [if_neg (by omega), if_pos (by omega), r2, r3]
    have : double.leastPlace + ((e + 1022 : Nat) : Int) = -((52 - e : Nat) : Int) := by
      have : double.leastPlace = -1074 := by decide
      rw [this]
      omega
    rw [this]
    rfl
theorem cut_back (way : Toward) (n k : Nat) : Toward.cut way false (n * 2 ^ k) k = n := by
  unfold Toward.cut
  have hp : 0 < 2 ^ k := Nat.two_pow_pos k
  by_cases h0 : n = 0
  · subst h0
    rw [Nat.zero_mul]
    simp only [Nat.zero_div, Nat.zero_mod]
    cases way <;> simp
  · have hm : min k ((n * 2 ^ k).log2 + 2) = k := by
      have : k ≤ (n * 2 ^ k).log2 := (Nat.le_log2 (by have := Nat.mul_pos (show 0 < n by omega) hp; omega)).2 (Nat.le_mul_of_pos_left _ (by omega))
      omega
    simp only [hm, shl, Nat.one_mul, Nat.mul_div_cancel _ hp, Nat.mul_mod_left]
    cases way <;> simp
    all_goals omega
theorem back (n : Nat) (h : n < 2 ^ 53) : (Ieee.double.read (Ieee.double.nearest false n 0)).toInt .zero = some (n : Int) := by
  obtain ⟨k, e⟩ := read_nearest n h
  rw [e]
  unfold Datum.toInt Datum.integral
  simp only
  rw [show (-(k : Int)).toNat = 0 by omega, show (- -(k : Int)).toNat = k by omega, shl, Nat.pow_zero, Nat.mul_one, cut_back]
  simp [signed]
/-- Whole numbers as floats are the same just if they are. -/
theorem order_eq (a b : Nat) (ha : a < 2 ^ 53) (hb : b < 2 ^ 53) : (Ieee.double.order (Ieee.double.nearest false a 0) (Ieee.double.nearest false b 0) == some .eq) = decide (a = b) := by
  obtain ⟨k, e1⟩ := read_nearest a ha
  obtain ⟨j, e2⟩ := read_nearest b hb
  unfold Format.order
  rw [e1, e2]
  unfold Datum.order
  simp only
  have hc : ∀ x y : Int, (some (compare x y) == some Ordering.eq) = decide (x = y) := by
    intro x y
    show (some (compareOfLessAndEq x y) == some Ordering.eq) = decide (x = y)
    unfold compareOfLessAndEq
    by_cases h1 : x < y
    · rw [if_pos h1]; have : ¬ x = y := by omega
      simp [this]
    · rw [if_neg h1]
      by_cases h2 : x = y
      · rw [if_pos h2]; simp [h2]
      · rw [if_neg h2]; simp [h2]
  rw [hc]
  have p1 : a * 2 ^ k * 2 ^ (max k j - k) = a * 2 ^ max k j := by rw [Nat.mul_assoc, ← Nat.pow_add, show k + (max k j - k) = max k j by omega]
  have p2 : b * 2 ^ j * 2 ^ (max k j - j) = b * 2 ^ max k j := by rw [Nat.mul_assoc, ← Nat.pow_add, show j + (max k j - j) = max k j by omega]
  have m1 : (-(k : Int) - min (-(k : Int)) (-(j : Int))).toNat = max k j - k := by omega
  have m2 : (-(j : Int) - min (-(k : Int)) (-(j : Int))).toNat = max k j - j := by omega
  rw [m1, m2]
  unfold signed
  rw [if_neg (by decide), if_neg (by decide), shl, shl, p1, p2]
  have hp : 0 < 2 ^ max k j := Nat.two_pow_pos _
  generalize 2 ^ max k j = q at hp
  by_cases h : a = b
  · subst h; simp
  · have : a * q ≠ b * q := fun e => h (Nat.eq_of_mul_eq_mul_right hp e)
    simp only [h, decide_false, decide_eq_false_iff_not]
    omega
end Go.Proofs.Ytpjfmilokadchaa.Se
