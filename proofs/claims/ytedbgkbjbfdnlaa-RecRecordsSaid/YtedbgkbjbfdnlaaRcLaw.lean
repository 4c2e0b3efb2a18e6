/- The statement RecRecords. -/
import Derived.Test.YtedbgkbjbfdnlaaRcW
import Derived.Test.YtedbgkbjbfdnlaaRcTr
import Derived.Test.YtedbgkbjbfdnlaaRcTrR
import Derived.Test.YtedbgkbjbfdnlaaRp8
namespace Go.Proofs.Ytedbgkbjbfdnlaa.Rc
open Go Go.RowKit Go.Proofs.YtedbgkbjbfdnlaaW.PrintWords Go.Proofs.YtedbgkbjbfdnlaaW.PrintLast Go.Proofs.YtedbgkbjbfdnlaaW.PrintMore Go.Proofs.Ytedbgkbjbfdnlaa.Rp Go.Proofs.Ytedbgkbjbfdnlaa.Pk
set_option linter.unusedVariables false
set_option linter.unusedSimpArgs false
theorem ruintL (k : Nat) : ∀ (x : List Int) (n : Int), 0 ≤ n → n < 128 ^ k * 128 → n < 18446744073709551616 → x.length + k + 1 < 140737488355328 → tidemillref01_Uint.l0 (k + 1) n x = some (x ++ enc n) := by
  induction k with
  | zero =>
    intro x n h0 h hb hx
    simp only [tidemillref01_Uint.l0]
    rw [if_neg (by omega), if_pos (by omega), enc_lt h0 (by omega), show n % 256 = n by omega]
  | succ k ih =>
    intro x n h0 h hb hx
    rw [tidemillref01_Uint.l0]
    by_cases hn : n > 127
    · rw [if_pos hn, if_pos (by omega), Int.tdiv_eq_ediv_of_nonneg h0, Int.tmod_eq_emod_of_nonneg h0, wrap_u64 (by omega) (by omega), wrap_u64 (by omega) (by omega),
        ih _ _ (by omega) (by rw [Int.pow_succ] at h; omega) (by omega) (by rw [List.length_append, List.length_singleton]; omega), enc_ge (n := n) (by omega)]
      rw [show (128 + n % 128) % 256 = n % 128 + 128 by omega, List.append_assoc, List.singleton_append]
    · rw [if_neg hn, if_pos (by omega), enc_lt h0 (by omega), show n % 256 = n by omega]
theorem ruintFk (k : Nat) (x : List Int) (n : Int) (hk : 10 ≤ k) (h0 : 0 ≤ n) (h : n < 18446744073709551616) (hx : x.length + k < 140737488355328) : tidemillref01_Uint.f k x n = some (x ++ enc n) := by
  obtain ⟨k, rfl⟩ : ∃ j, k = j + 1 := ⟨k - 1, by omega⟩
  unfold tidemillref01_Uint.f
  simp only [Option.bind_some, List.length_nil, List.nil_append]
  rw [if_pos (by omega)]
  exact ruintL k x n h0 (by have := pow_mono128 (k := k) (by omega); omega) h (by omega)
theorem rintFk (k : Nat) (x : List Int) (n : Int) (hk : 10 ≤ k) (h0 : -9223372036854775808 ≤ n) (h : n ≤ 9223372036854775807) (hx : x.length + k < 140737488355328) : tidemillref01_Int.f k x n = some (x ++ enc (uns n)) := by
  unfold tidemillref01_Int.f
  have hu := uns_range h0 h
  by_cases hn : n < 0
  · rw [if_pos hn, show wrap64 (n + 1) = n + 1 by unfold wrap64; omega, show wrap64 (-(n + 1)) = -(n + 1) by unfold wrap64; omega, wrap_u64 (n := -(n + 1)) (by omega) (by omega),
      wrap_u64 (n := 2 * -(n + 1)) (by omega) (by omega), wrap_u64 (by omega) (by omega), ruintFk k x _ hk (by omega) (by omega) hx]
    unfold uns
    rw [if_pos hn, show 2 * -(n + 1) + 1 = -2 * n - 1 by omega]
    rfl
  · rw [if_neg hn, wrap_u64 (n := n) (by omega) (by omega), wrap_u64 (by omega) (by omega), ruintFk k x _ hk (by omega) (by omega) hx]
    unfold uns
    rw [if_neg hn]
    rfl

theorem refRecF (k : Nat) (hk : 10 ≤ k) (hk2 : k ≤ 1000000) {a b c : Int} (ha : I64 a) (hb : I64 b) (hc : I64 c) : tidemillref03_Record.f k a b c = some (recB a b c) := by
  have h1 := enc_len (uns_range ha.1 ha.2).2
  have h2 := enc_len (uns_range hb.1 hb.2).2
  unfold tidemillref03_Record.f
  rw [rintFk k [] a hk ha.1 ha.2 (by simp; omega)]
  simp only [Option.bind_some, List.nil_append]
  rw [rintFk k _ b hk hb.1 hb.2 (by omega)]
  simp only [Option.bind_some]
  rw [rintFk k _ c hk hc.1 hc.2 (by rw [List.length_append]; omega)]
  simp [recB, List.append_assoc]
theorem shown_f : tidemilllaw03_shown.f 40 = some true := by decide +kernel
theorem records_f (r : S23) (l : List Int) (hr : recOk r) (hb : bytesB l = true) : tidemilllaw03_RecRecords.f 40 r.f0 r.f1 r.f2 l = some true := by
  unfold tidemilllaw03_RecRecords.f rec_ToRecord.f tidemillref03_ToRecord.f
  rw [shown_f, if_pos hb, recF 40 (by omega) (by omega) hr.1 hr.2.1 hr.2.2, refRecF 40 (by omega) (by omega) hr.1 hr.2.1 hr.2.2]
  simp only [Option.bind_some, if_true]
  simp
theorem records_ok (r : S23) (A1 : Option Addr) (c1 : Nat) (l1 : List Int) (w : World) (hr : recOk r) (hr1 : Kd.C (Kd.int .u8) w A1 l1.length l1) (hc1 : l1.length ≤ c1) (hl : l1.length < 140737488355328) (hby : ∀ x ∈ l1, 0 ≤ x ∧ x < 256) :
    Calls Try.prog 5 #[.agg #[.int .i64 r.f0, .int .i64 r.f1, .int .i64 r.f2], .slice A1 l1.length c1] w fun e w' => e = .returned (.bool true) ∧ Below w.heap.size w w' :=
  tidemilllaw03_RecRecords.calls 40 _ _ _ A1 c1 l1 true w hr1 hc1 (records_f r l1 hr (bytesB_iff.2 ⟨hby, hl⟩))
theorem wfb_u8 {n : Int} (h : (Lit.int .u8 n).wf = true) : 0 ≤ n ∧ n < 256 := by
  simp [Lit.wf, IntKind.min, IntKind.max, IntKind.bits, IntKind.signed] at h
  omega
end Go.Proofs.Ytedbgkbjbfdnlaa.Rc
