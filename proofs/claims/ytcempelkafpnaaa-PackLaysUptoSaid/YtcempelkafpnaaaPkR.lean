/- Contracts of the document's own writers (tidemillref01), in plain words: out of the printed ones. -/
import Derived.Test.YtcempelkafpnaaaPkD
namespace Go.Proofs.Ytcempelkafpnaaa.Pk
open Go Go.RowKit Go.Proofs.YtcempelkafpnaaaW.PrintWords Go.Proofs.YtcempelkafpnaaaW.PrintLast Go.Proofs.YtcempelkafpnaaaW.PrintMore Go.Proofs.Ytcempelkafpnaaa.PPackLays
set_option linter.unusedVariables false
set_option linter.unusedSimpArgs false
theorem ruintL (k : Nat) : ∀ (x : List Int) (n : Int), 0 ≤ n → n < 128 ^ k * 128 → n < 18446744073709551616 → x.length + k + 1 < 140737488355328 → tidemillref01_Uint.l0 (k + 1) n x = some (x ++ enc n) := by
  induction k with
  | zero =>
    intro x n h0 h hb hx
    simp only [tidemillref01_Uint.l0]
    rw [if_neg (by omega), if_pos (by omega), enc_lt h0 (by omega), show n % 256 = n by omega]
  | succ k ih =>
    intro x n h0 h hb hx
    rw [tidemillref01_Uint.l0]
    by_cases hn : n > 127
    · rw [if_pos hn, if_pos (by omega), Int.tdiv_eq_ediv_of_nonneg h0, Int.tmod_eq_emod_of_nonneg h0, wrap_u64 (by omega) (by omega), wrap_u64 (by omega) (by omega),
        ih _ _ (by omega) (by rw [Int.pow_succ] at h; omega) (by omega) (by rw [List.length_append, List.length_singleton]; omega), enc_ge (n := n) (by omega)]
      rw [show (128 + n % 128) % 256 = n % 128 + 128 by omega, List.append_assoc, List.singleton_append]
    · rw [if_neg hn, if_pos (by omega), enc_lt h0 (by omega), show n % 256 = n by omega]
theorem ruintFk (k : Nat) (x : List Int) (n : Int) (hk : 10 ≤ k) (h0 : 0 ≤ n) (h : n < 18446744073709551616) (hx : x.length + k < 140737488355328) : tidemillref01_Uint.f k x n = some (x ++ enc n) := by
  obtain ⟨k, rfl⟩ : ∃ j, k = j + 1 := ⟨k - 1, by omega⟩
  unfold tidemillref01_Uint.f
  simp only [Option.bind_some, List.length_nil, List.nil_append]
  rw [if_pos (by omega)]
  exact ruintL k x n h0 (by have := pow_mono128 (k := k) (by omega); omega) h (by omega)
theorem rintFk (k : Nat) (x : List Int) (n : Int) (hk : 10 ≤ k) (h0 : -9223372036854775808 ≤ n) (h : n ≤ 9223372036854775807) (hx : x.length + k < 140737488355328) : tidemillref01_Int.f k x n = some (x ++ enc (uns n)) := by
  unfold tidemillref01_Int.f
  have hu := uns_range h0 h
  by_cases hn : n < 0
  · rw [if_pos hn, show wrap64 (n + 1) = n + 1 by unfold wrap64; omega, show wrap64 (-(n + 1)) = -(n + 1) by unfold wrap64; omega, wrap_u64 (n := -(n + 1)) (by omega) (by omega),
      wrap_u64 (n := 2 * -(n + 1)) (by omega) (by omega), wrap_u64 (by omega) (by omega), ruintFk k x _ hk (by omega) (by omega) hx]
    unfold uns
    rw [if_pos hn, show 2 * -(n + 1) + 1 = -2 * n - 1 by omega]
    rfl
  · rw [if_neg hn, wrap_u64 (n := n) (by omega) (by omega), wrap_u64 (by omega) (by omega), ruintFk k x _ hk (by omega) (by omega) hx]
    unfold uns
    rw [if_neg hn]
    rfl
theorem rintsL (l : List Int) (hl : ∀ n ∈ l, -9223372036854775808 ≤ n ∧ n ≤ 9223372036854775807) (hn : l.length ≤ 2000000) (d : Nat) : ∀ (i : Nat) (x : List Int) (k : Nat), i + d = l.length → d + 11 ≤ k → x.length + 10 * d + k < 140737488355328 →
    tidemillref01_Ints.l0 k x l (i : Int) = some (x ++ uenc (l.drop i)) := by
  induction d with
  | zero =>
    intro i x k hi hk hx
    obtain ⟨k, rfl⟩ : ∃ j, k = j + 1 := ⟨k - 1, by omega⟩
    simp only [tidemillref01_Ints.l0]
    rw [if_neg (by omega), List.drop_of_length_le (by omega)]
    simp [uenc]
  | succ d ih =>
    intro i x k hi hk hx
    obtain ⟨k, rfl⟩ : ∃ j, k = j + 1 := ⟨k - 1, by omega⟩
    have hr := hl _ (rd_mem (l := l) (i := i) (by omega))
    simp only [tidemillref01_Ints.l0]
    rw [if_pos (by omega), if_pos (by omega), rintFk k x _ (by omega) hr.1 hr.2 (by omega)]
    simp only [Option.bind_some]
    rw [show wrap64 ((i : Int) + 1) = ((i + 1 : Nat) : Int) by unfold wrap64; omega]
    have h1 := enc_len (uns_range hr.1 hr.2).2
    rw [ih (i + 1) _ k (by omega) (by omega) (by rw [List.length_append]; omega), drop_rd (l := l) (i := i) (by omega), uenc_cons, List.append_assoc]
section
variable (A0 : Option Addr) (c0 : Nat) (l0 : List Int) (w : World) (hr : (Kd.int .u8).C w A0 l0.length l0) (hc : l0.length ≤ c0)
include hr hc
theorem ruint (n : Int) (h0 : 0 ≤ n) (h : n < 18446744073709551616) (hx : l0.length ≤ 100000000000) :
    Calls Try.prog 17 #[.slice A0 l0.length c0, .int .u64 n] w (Laid (l0 ++ enc n) w) :=
  tidemillref01_Uint.calls 10 A0 c0 l0 n _ w hr hc (ruintFk 10 l0 n (by omega) h0 h (by omega))
theorem rint (n : Int) (h0 : -9223372036854775808 ≤ n) (h : n ≤ 9223372036854775807) (hx : l0.length ≤ 100000000000) :
    Calls Try.prog 18 #[.slice A0 l0.length c0, .int .i64 n] w (Laid (l0 ++ enc (uns n)) w) :=
  tidemillref01_Int.calls 10 A0 c0 l0 n _ w hr hc (rintFk 10 l0 n (by omega) h0 h (by omega))
variable (A1 : Option Addr) (c1 : Nat) (l1 : List Int) (hc1 : l1.length ≤ c1)
include hc1
theorem rints (hr1 : (Kd.int .i64).C w A1 l1.length l1) (hl : ∀ n ∈ l1, -9223372036854775808 ≤ n ∧ n ≤ 9223372036854775807) (hn : l1.length ≤ 2000000) (hx : l0.length ≤ 100000000000) :
    Calls Try.prog 22 #[.slice A0 l0.length c0, .slice A1 l1.length c1] w (Laid (l0 ++ (enc l1.length ++ uenc l1)) w) :=
  tidemillref01_Ints.calls (l1.length + 11) A0 c0 l0 A1 c1 l1 _ w hr hc hr1 hc1 (by
    unfold tidemillref01_Ints.f
    rw [wrap_u64 (by omega) (by omega), ruintFk _ l0 _ (by omega) (by omega) (by omega) (by omega)]
    simp only [Option.bind_some]
    have h1 := enc_len (n := (l1.length : Int)) (by omega)
    have := rintsL l1 hl hn l1.length 0 (l0 ++ enc l1.length) (l1.length + 11) (by omega) (by omega) (by rw [List.length_append]; omega)
    rw [show ((0 : Nat) : Int) = 0 from rfl] at this
    rw [this, List.drop_zero, List.append_assoc])
theorem rbytes (hr1 : (Kd.int .u8).C w A1 l1.length l1) (hx : l0.length + l1.length ≤ 100000000000) :
    Calls Try.prog 20 #[.slice A0 l0.length c0, .slice A1 l1.length c1] w (Laid (l0 ++ (enc l1.length ++ l1)) w) :=
  tidemillref01_Bytes.calls 10 A0 c0 l0 A1 c1 l1 _ w hr hc hr1 hc1 (by
    unfold tidemillref01_Bytes.f
    rw [wrap_u64 (by omega) (by omega), ruintFk _ l0 _ (by omega) (by omega) (by omega) (by omega)]
    simp only [Option.bind_some]
    have h1 := enc_len (n := (l1.length : Int)) (by omega)
    rw [if_pos (by rw [List.length_append]; omega), List.append_assoc])
end
end Go.Proofs.Ytcempelkafpnaaa.Pk
