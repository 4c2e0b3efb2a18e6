/- (c04) Plain: numbers laid down in bytes, by the printed texts' functions. -/
import Derived.Test.YteanncfmaomhaaaPkPure
import Derived.Test.YteanncfmaomhaaaEx3
import Derived.Test.YteanncfmaomhaaaPkPure
namespace Go.Proofs.Yteanncfmaomhaaa.Ex
open Go Go.RowKit Go.Proofs.YteanncfmaomhaaaW.PrintWords Go.Proofs.YteanncfmaomhaaaW.PrintLast Go.Proofs.YteanncfmaomhaaaW.PrintMore Go.Proofs.Yteanncfmaomhaaa.Pk
set_option linter.unusedVariables false
set_option linter.unusedSimpArgs false
theorem uintL (k : Nat) : ∀ (x : List Int) (n : Int), 0 ≤ n → n < 128 ^ k * 128 → x.length + k + 1 < 140737488355328 → pack_Uint.l0 (k + 1) x n = some (x ++ enc n) := by
  induction k with
  | zero =>
    intro x n h0 h hx
    simp only [pack_Uint.l0]
    rw [if_neg (by omega), if_pos (by omega), enc_lt h0 (by omega), show n % 256 = n by omega]
  | succ k ih =>
    intro x n h0 h hx
    rw [pack_Uint.l0]
    by_cases hn : n ≥ 128
    · rw [if_pos hn, if_pos (by omega), ih _ _ (by omega) (by rw [Int.pow_succ] at h; omega) (by rw [List.length_append, List.length_singleton]; omega), enc_ge hn]
      have hb : bits .or .u8 (n % 256) 128 = n % 128 + 128 := by
        rw [u8_or _ _ (by omega) (by omega) (by omega) (by omega)]
        have : ∀ m : Nat, m < 256 → (m ||| (128 : Int).toNat) = m % 128 + 128 := by decide +kernel
        rw [this _ (by omega)]
        omega
      rw [hb, List.append_assoc, List.singleton_append]
    · rw [if_neg hn, if_pos (by omega), enc_lt h0 (by omega), show n % 256 = n by omega]
theorem uintF (x : List Int) (n : Int) (h0 : 0 ≤ n) (h : n < 18446744073709551616) (hx : x.length + 10 < 140737488355328) : pack_Uint.f 10 x n = some (x ++ enc n) := by
  unfold pack_Uint.f
  simp only [Option.bind_some, List.length_nil, List.nil_append]
  rw [if_pos (by omega)]
  exact uintL 9 x n h0 (by
    have e : (128 : Int) ^ 9 * 128 = 1180591620717411303424 := by decide
    rw [e]
    omega) (by omega)
theorem pow_mono128 {k : Nat} (h : 9 ≤ k) : (1180591620717411303424 : Int) ≤ 128 ^ k * 128 := by
  have e : (128 : Int) ^ 9 * 128 = 1180591620717411303424 := by decide
  have h1 : (128 : Int) ^ 9 ≤ 128 ^ k := by
    have : (128 : Nat) ^ 9 ≤ 128 ^ k := Nat.pow_le_pow_right (by omega) h
    exact_mod_cast this
  omega
theorem uintFk (k : Nat) (x : List Int) (n : Int) (hk : 10 ≤ k) (h0 : 0 ≤ n) (h : n < 18446744073709551616) (hx : x.length + k < 140737488355328) : pack_Uint.f k x n = some (x ++ enc n) := by
  obtain ⟨k, rfl⟩ : ∃ j, k = j + 1 := ⟨k - 1, by omega⟩
  unfold pack_Uint.f
  simp only [Option.bind_some, List.length_nil, List.nil_append]
  rw [if_pos (by omega)]
  exact uintL k x n h0 (by have := pow_mono128 (k := k) (by omega); omega) (by omega)
theorem intFk (k : Nat) (x : List Int) (n : Int) (hk : 10 ≤ k) (h0 : -9223372036854775808 ≤ n) (h : n ≤ 9223372036854775807) (hx : x.length + k < 140737488355328) : pack_Int.f k x n = some (x ++ enc (uns n)) := by
  unfold pack_Int.f
  rw [uns_bits h0 h, uintFk k x _ hk (uns_range h0 h).1 (uns_range h0 h).2 hx]
  rfl
end Go.Proofs.Yteanncfmaomhaaa.Ex
