/- Contracts of pack's Bytes and Ints, and of the document's own writers, in plain words: out of the printed ones. -/
import Derived.Test.YtcempelkafpnaaaPkC
namespace Go.Proofs.Ytcempelkafpnaaa.Pk
open Go Go.RowKit Go.Proofs.YtcempelkafpnaaaW.PrintWords Go.Proofs.YtcempelkafpnaaaW.PrintLast Go.Proofs.YtcempelkafpnaaaW.PrintMore Go.Proofs.Ytcempelkafpnaaa.PPackLays
set_option linter.unusedVariables false
set_option linter.unusedSimpArgs false
theorem pow_mono128 {k : Nat} (h : 9 ≤ k) : (1180591620717411303424 : Int) ≤ 128 ^ k * 128 := by
  have e : (128 : Int) ^ 9 * 128 = 1180591620717411303424 := by decide
  have h1 : (128 : Int) ^ 9 ≤ 128 ^ k := by
    have : (128 : Nat) ^ 9 ≤ 128 ^ k := Nat.pow_le_pow_right (by omega) h
    exact_mod_cast this
  omega
theorem uintFk (k : Nat) (x : List Int) (n : Int) (hk : 10 ≤ k) (h0 : 0 ≤ n) (h : n < 18446744073709551616) (hx : x.length + k < 140737488355328) : pack_Uint.f k x n = some (x ++ enc n) := by
  obtain ⟨k, rfl⟩ : ∃ j, k = j + 1 := ⟨k - 1, by omega⟩
  unfold pack_Uint.f
  simp only [Option.bind_some, List.length_nil, List.nil_append]
  rw [if_pos (by omega)]
  exact uintL k x n h0 (by have := pow_mono128 (k := k) (by omega); omega) (by omega)
theorem intFk (k : Nat) (x : List Int) (n : Int) (hk : 10 ≤ k) (h0 : -9223372036854775808 ≤ n) (h : n ≤ 9223372036854775807) (hx : x.length + k < 140737488355328) : pack_Int.f k x n = some (x ++ enc (uns n)) := by
  unfold pack_Int.f
  rw [uns_bits h0 h, uintFk k x _ hk (uns_range h0 h).1 (uns_range h0 h).2 hx]
  rfl
theorem drop_rd {l : List Int} {i : Nat} (h : i < l.length) : l.drop i = rd l i :: l.drop (i + 1) :=
  drop_at (by unfold rd; rw [List.getElem?_eq_getElem h, List.getD_eq_getElem?_getD, List.getElem?_eq_getElem (by simpa using h)]; simp)
theorem rd_mem {l : List Int} {i : Nat} (h : i < l.length) : rd l i ∈ l := by
  have := drop_rd h
  exact List.mem_of_mem_drop (i := i) (by rw [this]; simp)
theorem intsL (l : List Int) (hl : ∀ n ∈ l, -9223372036854775808 ≤ n ∧ n ≤ 9223372036854775807) (hn : l.length ≤ 2000000) (d : Nat) : ∀ (i : Nat) (x : List Int) (k : Nat), i + d = l.length → d + 11 ≤ k → x.length + 10 * d + k < 140737488355328 →
    pack_Ints.l0 k x l (l.length : Int) (i : Int) = some (x ++ uenc (l.drop i)) := by
  induction d with
  | zero =>
    intro i x k hi hk hx
    obtain ⟨k, rfl⟩ : ∃ j, k = j + 1 := ⟨k - 1, by omega⟩
    simp only [pack_Ints.l0]
    rw [if_neg (by omega), List.drop_of_length_le (by omega)]
    simp [uenc]
  | succ d ih =>
    intro i x k hi hk hx
    obtain ⟨k, rfl⟩ : ∃ j, k = j + 1 := ⟨k - 1, by omega⟩
    have hr := hl _ (rd_mem (l := l) (i := i) (by omega))
    simp only [pack_Ints.l0]
    rw [if_pos (by omega), if_pos (by omega), if_pos (by omega), intFk k x _ (by omega) hr.1 hr.2 (by omega)]
    simp only [Option.bind_some]
    rw [show wrap64 ((i : Int) + 1) = ((i + 1 : Nat) : Int) by unfold wrap64; omega]
    have h1 := enc_len (uns_range hr.1 hr.2).2
    rw [ih (i + 1) _ k (by omega) (by omega) (by rw [List.length_append]; omega), drop_rd (l := l) (i := i) (by omega), uenc_cons, List.append_assoc]
theorem pints (A0 : Option Addr) (c0 : Nat) (l0 : List Int) (A1 : Option Addr) (c1 : Nat) (l1 : List Int) (w : World) (hr : (Kd.int .u8).C w A0 l0.length l0) (hc : l0.length ≤ c0) (hr1 : (Kd.int .i64).C w A1 l1.length l1) (hc1 : l1.length ≤ c1)
    (hl : ∀ n ∈ l1, -9223372036854775808 ≤ n ∧ n ≤ 9223372036854775807) (hn : l1.length ≤ 2000000) (hx : l0.length ≤ 100000000000) :
    Calls Try.prog 21 #[.slice A0 l0.length c0, .slice A1 l1.length c1] w (Laid (l0 ++ (enc l1.length ++ uenc l1)) w) :=
  pack_Ints.calls (l1.length + 11) A0 c0 l0 A1 c1 l1 _ w hr hc hr1 hc1 (by
    unfold pack_Ints.f
    rw [wrap_u64 (by omega) (by omega), uintFk _ l0 _ (by omega) (by omega) (by omega) (by omega)]
    simp only [Option.bind_some]
    have h1 := enc_len (n := (l1.length : Int)) (by omega)
    have := intsL l1 hl hn l1.length 0 (l0 ++ enc l1.length) (l1.length + 11) (by omega) (by omega) (by rw [List.length_append]; omega)
    rw [show ((0 : Nat) : Int) = 0 from rfl] at this
    rw [this, List.drop_zero, List.append_assoc])
theorem pbytes (A0 : Option Addr) (c0 : Nat) (l0 : List Int) (A1 : Option Addr) (c1 : Nat) (l1 : List Int) (w : World) (hr : (Kd.int .u8).C w A0 l0.length l0) (hc : l0.length ≤ c0) (hr1 : (Kd.int .u8).C w A1 l1.length l1) (hc1 : l1.length ≤ c1)
    (hx : l0.length + l1.length ≤ 100000000000) :
    Calls Try.prog 19 #[.slice A0 l0.length c0, .slice A1 l1.length c1] w (Laid (l0 ++ (enc l1.length ++ l1)) w) :=
  pack_Bytes.calls 10 A0 c0 l0 A1 c1 l1 _ w hr hc hr1 hc1 (by
    unfold pack_Bytes.f
    rw [wrap_u64 (by omega) (by omega), uintFk _ l0 _ (by omega) (by omega) (by omega) (by omega)]
    simp only [Option.bind_some]
    have h1 := enc_len (n := (l1.length : Int)) (by omega)
    rw [if_pos (by rw [List.length_append]; omega), List.append_assoc])
end Go.Proofs.Ytcempelkafpnaaa.Pk
