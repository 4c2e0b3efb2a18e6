/- What rec.Record and rec.Entry lay down, in plain words; from the printed texts' functions. -/
import Derived.Test.YtedbgkbjbfdnlaaPkPure
import Derived.Test.YtedbgkbjbfdnlaaRp4
import Derived.Test.YtedbgkbjbfdnlaaRcOp
namespace Go.Proofs.Ytedbgkbjbfdnlaa.Rc
open Go Go.RowKit Go.Proofs.YtedbgkbjbfdnlaaW.PrintWords Go.Proofs.YtedbgkbjbfdnlaaW.PrintLast Go.Proofs.YtedbgkbjbfdnlaaW.PrintMore Go.Proofs.Ytedbgkbjbfdnlaa.Rp Go.Proofs.Ytedbgkbjbfdnlaa.Pk
set_option linter.unusedVariables false
set_option linter.unusedSimpArgs false
theorem uintL (k : Nat) : ∀ (x : List Int) (n : Int), 0 ≤ n → n < 128 ^ k * 128 → x.length + k + 1 < 140737488355328 → pack_Uint.l0 (k + 1) x n = some (x ++ enc n) := by
  induction k with
  | zero =>
    intro x n h0 h hx
    simp only [pack_Uint.l0]
    rw [if_neg (by omega), if_pos (by omega), enc_lt h0 (by omega), show n % 256 = n by omega]
  | succ k ih =>
    intro x n h0 h hx
    rw [pack_Uint.l0]
    by_cases hn : n ≥ 128
    · rw [if_pos hn, if_pos (by omega), ih _ _ (by omega) (by rw [Int.pow_succ] at h; omega) (by rw [List.length_append, List.length_singleton]; omega), enc_ge hn]
      have hb : bits .or .u8 (n % 256) 128 = n % 128 + 128 := by
        rw [u8_or _ _ (by omega) (by omega) (by omega) (by omega)]
        have : ∀ m : Nat, m < 256 → (m ||| (128 : Int).toNat) = m % 128 + 128 := by decide +kernel
        rw [this _ (by omega)]
        omega
      rw [hb, List.append_assoc, List.singleton_append]
    · rw [if_neg hn, if_pos (by omega), enc_lt h0 (by omega), show n % 256 = n by omega]
theorem uintF (x : List Int) (n : Int) (h0 : 0 ≤ n) (h : n < 18446744073709551616) (hx : x.length + 10 < 140737488355328) : pack_Uint.f 10 x n = some (x ++ enc n) := by
  unfold pack_Uint.f
  simp only [Option.bind_some, List.length_nil, List.nil_append]
  rw [if_pos (by omega)]
  exact uintL 9 x n h0 (by
    have e : (128 : Int) ^ 9 * 128 = 1180591620717411303424 := by decide
    rw [e]
    omega) (by omega)
theorem pow_mono128 {k : Nat} (h : 9 ≤ k) : (1180591620717411303424 : Int) ≤ 128 ^ k * 128 := by
  have e : (128 : Int) ^ 9 * 128 = 1180591620717411303424 := by decide
  have h1 : (128 : Int) ^ 9 ≤ 128 ^ k := by
    have : (128 : Nat) ^ 9 ≤ 128 ^ k := Nat.pow_le_pow_right (by omega) h
    exact_mod_cast this
  omega
theorem uintFk (k : Nat) (x : List Int) (n : Int) (hk : 10 ≤ k) (h0 : 0 ≤ n) (h : n < 18446744073709551616) (hx : x.length + k < 140737488355328) : pack_Uint.f k x n = some (x ++ enc n) := by
  obtain ⟨k, rfl⟩ : ∃ j, k = j + 1 := ⟨k - 1, by omega⟩
  unfold pack_Uint.f
  simp only [Option.bind_some, List.length_nil, List.nil_append]
  rw [if_pos (by omega)]
  exact uintL k x n h0 (by have := pow_mono128 (k := k) (by omega); omega) (by omega)
theorem intFk (k : Nat) (x : List Int) (n : Int) (hk : 10 ≤ k) (h0 : -9223372036854775808 ≤ n) (h : n ≤ 9223372036854775807) (hx : x.length + k < 140737488355328) : pack_Int.f k x n = some (x ++ enc (uns n)) := by
  unfold pack_Int.f
  rw [uns_bits h0 h, uintFk k x _ hk (uns_range h0 h).1 (uns_range h0 h).2 hx]
  rfl
theorem drop_rd {l : List Int} {i : Nat} (h : i < l.length) : l.drop i = rd l i :: l.drop (i + 1) :=
  drop_at (by unfold rd; rw [List.getElem?_eq_getElem h, List.getD_eq_getElem?_getD, List.getElem?_eq_getElem (by simpa using h)]; simp)
theorem rd_mem {l : List Int} {i : Nat} (h : i < l.length) : rd l i ∈ l := by
  have := drop_rd h
  exact List.mem_of_mem_drop (i := i) (by rw [this]; simp)
theorem intsL (l : List Int) (hl : ∀ n ∈ l, -9223372036854775808 ≤ n ∧ n ≤ 9223372036854775807) (hn : l.length ≤ 2000000) (d : Nat) : ∀ (i : Nat) (x : List Int) (k : Nat), i + d = l.length → d + 11 ≤ k → x.length + 10 * d + k < 140737488355328 →
    pack_Ints.l0 k x l (l.length : Int) (i : Int) = some (x ++ uenc (l.drop i)) := by
  induction d with
  | zero =>
    intro i x k hi hk hx
    obtain ⟨k, rfl⟩ : ∃ j, k = j + 1 := ⟨k - 1, by omega⟩
    simp only [pack_Ints.l0]
    rw [if_neg (by omega), List.drop_of_length_le (by omega)]
    simp [uenc]
  | succ d ih =>
    intro i x k hi hk hx
    obtain ⟨k, rfl⟩ : ∃ j, k = j + 1 := ⟨k - 1, by omega⟩
    have hr := hl _ (rd_mem (l := l) (i := i) (by omega))
    simp only [pack_Ints.l0]
    rw [if_pos (by omega), if_pos (by omega), if_pos (by omega), intFk k x _ (by omega) hr.1 hr.2 (by omega)]
    simp only [Option.bind_some]
    rw [show wrap64 ((i : Int) + 1) = ((i + 1 : Nat) : Int) by unfold wrap64; omega]
    have h1 := enc_len (uns_range hr.1 hr.2).2
    rw [ih (i + 1) _ k (by omega) (by omega) (by rw [List.length_append]; omega), drop_rd (l := l) (i := i) (by omega), uenc_cons, List.append_assoc]
/-- A record's bytes. -/
def recB (a b c : Int) : List Int := enc (uns a) ++ (enc (uns b) ++ enc (uns c))
theorem recB_len {a b c : Int} (ha : I64 a) (hb : I64 b) (hc : I64 c) : (recB a b c).length ≤ 30 := by
  unfold recB
  rw [List.length_append, List.length_append]
  have h1 := enc_len (uns_range ha.1 ha.2).2
  have h2 := enc_len (uns_range hb.1 hb.2).2
  have h3 := enc_len (uns_range hc.1 hc.2).2
  omega
theorem recF (k : Nat) (hk : 10 ≤ k) (hk2 : k ≤ 1000000) {a b c : Int} (ha : I64 a) (hb : I64 b) (hc : I64 c) : rec_Record.f k a b c = some (recB a b c) := by
  have h1 := enc_len (uns_range ha.1 ha.2).2
  have h2 := enc_len (uns_range hb.1 hb.2).2
  unfold rec_Record.f
  rw [intFk k [] a hk ha.1 ha.2 (by simp; omega)]
  simp only [Option.bind_some, List.nil_append]
  rw [intFk k _ b hk hb.1 hb.2 (by omega)]
  simp only [Option.bind_some]
  rw [intFk k _ c hk hc.1 hc.2 (by rw [List.length_append]; omega)]
  simp [recB, List.append_assoc]
theorem intsF (k : Nat) (x l : List Int) (hl : ∀ n ∈ l, -9223372036854775808 ≤ n ∧ n ≤ 9223372036854775807) (hn : l.length ≤ 2000) (hk : l.length + 11 ≤ k) (hk2 : k ≤ 1000000) (hx : x.length ≤ 1000000000) : pack_Ints.f k x l = some (x ++ (enc l.length ++ uenc l)) := by
  unfold pack_Ints.f
  rw [wrap_u64 (by omega) (by omega), uintFk _ x _ (by omega) (by omega) (by omega) (by omega)]
  simp only [Option.bind_some]
  have h1 := enc_len (n := (l.length : Int)) (by omega)
  have := intsL l hl (by omega) l.length 0 (x ++ enc l.length) k (by omega) (by omega) (by rw [List.length_append]; omega)
  rw [show ((0 : Nat) : Int) = 0 from rfl] at this
  rw [this, List.drop_zero, List.append_assoc]
/-- What comes behind the five numbers. -/
def tailB (x : Ent) : List Int := recB x.key x.val x.time ++ (enc (if x.del then 1 else 0) ++ ((enc x.offs.length ++ uenc x.offs) ++ (enc x.order.length ++ uenc x.order)))
def entB (x : Ent) : List Int := Pk.encs [x.kind, x.task, x.epoch, x.txn, x.log] ++ tailB x
def entWf (x : Ent) : Prop := (I64 x.kind ∧ I64 x.task ∧ I64 x.epoch ∧ I64 x.txn ∧ I64 x.log) ∧ (I64 x.key ∧ I64 x.val ∧ I64 x.time) ∧ (∀ n ∈ x.offs, I64 n) ∧ ∀ n ∈ x.order, I64 n
theorem may_nums {x : Ent} (h : may x = true) : (0 ≤ x.kind ∧ x.kind < 2000000) ∧ (0 ≤ x.task ∧ x.task < 2000000) ∧ (0 ≤ x.epoch ∧ x.epoch < 2000000) ∧ (0 ≤ x.txn ∧ x.txn < 2000000) ∧ (0 ≤ x.log ∧ x.log < 2000000) ∧ x.offs.length ≤ 8 ∧ x.order.length ≤ 256 := by
  unfold may may0 num at h
  simp only [Bool.and_eq_true, decide_eq_true_eq] at h
  omega
theorem round_E (k : Nat) (acc xs : List Int) (i : Nat) (k0 t0 e0 x0 g0 y0 v0 m0 : Int) (d0 : Bool) (l9 l10 : List Int) (hi : i < xs.length) (hl : xs.length = 5) (hk : 10 ≤ k) (hk2 : k ≤ 1000000) (ha : acc.length ≤ 1000) (h0 : 0 ≤ rd xs i) (h1 : rd xs i < 2000000) :
    rec_Entry.l0 (k + 1) acc xs 5 (i : Int) k0 t0 e0 x0 g0 y0 v0 m0 d0 l9 l10 = rec_Entry.l0 k (acc ++ enc (rd xs i)) xs 5 ((i + 1 : Nat) : Int) k0 t0 e0 x0 g0 y0 v0 m0 d0 l9 l10 := by
  rw [rec_Entry.l0, if_pos (by omega), if_pos (by omega), if_pos (by omega), wrap_u64 h0 (by omega), uintFk k acc _ hk h0 (by omega) (by omega)]
  simp only [Option.bind_some]
  rw [show wrap64 ((i : Int) + 1) = ((i + 1 : Nat) : Int) by unfold wrap64; omega]
theorem end_E (k : Nat) (acc xs : List Int) (i : Int) (x : Ent) (hx : entWf x) (h9 : x.offs.length ≤ 8) (h10 : x.order.length ≤ 256) (hi : ¬ i < 5) (hk : 300 ≤ k) (hk2 : k ≤ 1000000) (ha : acc.length ≤ 1000) :
    rec_Entry.l0 (k + 1) acc xs 5 i x.kind x.task x.epoch x.txn x.log x.key x.val x.time x.del x.offs x.order = some (acc ++ tailB x, 0) := by
  obtain ⟨_, ⟨ky, vl, tm⟩, ho, hp⟩ := hx
  have h3 := recB_len ky vl tm
  have u9 := uenc_len (l := x.offs) ho
  have u10 := uenc_len (l := x.order) hp
  have w9 := enc_len (n := (x.offs.length : Int)) (by omega)
  rw [rec_Entry.l0, if_neg hi, recF k (by omega) hk2 ky vl tm]
  simp only [Option.bind_some]
  rw [if_pos (by omega)]
  cases hd : x.del with
  | true =>
    rw [if_pos rfl, uintFk k _ 1 (by omega) (by omega) (by omega) (by rw [List.length_append]; omega)]
    have w1 := enc_len (n := 1) (by omega)
    simp only [Option.bind_some]
    rw [intsF k _ x.offs ho (by omega) (by omega) hk2 (by simp only [List.length_append]; omega)]
    simp only [Option.bind_some]
    rw [intsF k _ x.order hp (by omega) (by omega) hk2 (by simp only [List.length_append]; omega)]
    simp [tailB, hd, List.append_assoc]
  | false =>
    rw [if_neg (by simp), uintFk k _ 0 (by omega) (by omega) (by omega) (by rw [List.length_append]; omega)]
    have w1 := enc_len (n := 0) (by omega)
    simp only [Option.bind_some]
    rw [intsF k _ x.offs ho (by omega) (by omega) hk2 (by simp only [List.length_append]; omega)]
    simp only [Option.bind_some]
    rw [intsF k _ x.order hp (by omega) (by omega) hk2 (by simp only [List.length_append]; omega)]
    simp [tailB, hd, List.append_assoc]
theorem loop_E (k : Nat) (hk : 300 ≤ k) (hk2 : k ≤ 900000) (x : Ent) (hx : entWf x) (h : may x = true) : rec_Entry.l0 (k + 6) [] [x.kind, x.task, x.epoch, x.txn, x.log] 5 ((0 : Nat) : Int) x.kind x.task x.epoch x.txn x.log x.key x.val x.time x.del x.offs x.order = some (entB x, 0) := by
  obtain ⟨n1, n2, n3, n4, n5, n9, n10⟩ := may_nums h
  have e1 := enc_len (n := x.kind) (by omega)
  have e2 := enc_len (n := x.task) (by omega)
  have e3 := enc_len (n := x.epoch) (by omega)
  have e4 := enc_len (n := x.txn) (by omega)
  have e5 := enc_len (n := x.log) (by omega)
  obtain ⟨xs, hxs⟩ : ∃ xs, xs = [x.kind, x.task, x.epoch, x.txn, x.log] := ⟨_, rfl⟩
  have hl : xs.length = 5 := by rw [hxs]; rfl
  have r0 : rd xs ((0 : Nat) : Int) = x.kind := by rw [hxs]; rfl
  have r1 : rd xs ((0 + 1 : Nat) : Int) = x.task := by rw [hxs]; rfl
  have r2 : rd xs ((0 + 1 + 1 : Nat) : Int) = x.epoch := by rw [hxs]; rfl
  have r3 : rd xs ((0 + 1 + 1 + 1 : Nat) : Int) = x.txn := by rw [hxs]; rfl
  have r4 : rd xs ((0 + 1 + 1 + 1 + 1 : Nat) : Int) = x.log := by rw [hxs]; rfl
  have he : Pk.encs xs = enc x.kind ++ (enc x.task ++ (enc x.epoch ++ (enc x.txn ++ enc x.log))) := by rw [hxs]; simp [Pk.encs]
  unfold entB
  rw [← hxs]
  rw [he]
  clear he hxs
  rw [round_E (k + 5) [] xs 0 _ _ _ _ _ _ _ _ _ _ _ (by omega) hl (by omega) (by omega) (by simp) (by rw [r0]; exact n1.1) (by rw [r0]; exact n1.2), r0]
  rw [round_E (k + 4) _ xs (0 + 1) _ _ _ _ _ _ _ _ _ _ _ (by omega) hl (by omega) (by omega) (by simp only [List.length_append, List.length_nil]; omega) (by rw [r1]; exact n2.1) (by rw [r1]; exact n2.2), r1]
  rw [round_E (k + 3) _ xs (0 + 1 + 1) _ _ _ _ _ _ _ _ _ _ _ (by omega) hl (by omega) (by omega) (by simp only [List.length_append, List.length_nil]; omega) (by rw [r2]; exact n3.1) (by rw [r2]; exact n3.2), r2]
  rw [round_E (k + 2) _ xs (0 + 1 + 1 + 1) _ _ _ _ _ _ _ _ _ _ _ (by omega) hl (by omega) (by omega) (by simp only [List.length_append, List.length_nil]; omega) (by rw [r3]; exact n4.1) (by rw [r3]; exact n4.2), r3]
  rw [round_E (k + 1) _ xs (0 + 1 + 1 + 1 + 1) _ _ _ _ _ _ _ _ _ _ _ (by omega) hl (by omega) (by omega) (by simp only [List.length_append, List.length_nil]; omega) (by rw [r4]; exact n5.1) (by rw [r4]; exact n5.2), r4]
  rw [end_E k _ xs _ x hx n9 n10 (by omega) (by omega) (by omega) (by simp only [List.length_append, List.length_nil]; omega)]
  simp only [List.nil_append, List.append_assoc]
theorem entF (k : Nat) (hk : 300 ≤ k) (hk2 : k ≤ 900000) (x : Ent) (hx : entWf x) : rec_Entry.f (k + 6) x.kind x.task x.epoch x.txn x.log x.key x.val x.time x.del x.offs x.order = some (if may x then (entB x, 0) else ([], 1)) := by
  unfold rec_Entry.f rec_May.f
  simp only [Option.bind_some]
  cases h : may x with
  | false => rfl
  | true =>
    rw [if_pos rfl, if_pos rfl]
    exact loop_E k hk hk2 x hx h
end Go.Proofs.Ytedbgkbjbfdnlaa.Rc
