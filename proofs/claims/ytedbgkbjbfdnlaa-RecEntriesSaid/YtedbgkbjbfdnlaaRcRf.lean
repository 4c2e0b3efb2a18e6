/- Plain laws: the document's own May, Entry and ToEntry are the program's. -/
import Derived.Test.YtedbgkbjbfdnlaaRcTeP
import Derived.Test.YtedbgkbjbfdnlaaRp11
namespace Go.Proofs.Ytedbgkbjbfdnlaa.Rc
open Go Go.RowKit Go.Proofs.YtedbgkbjbfdnlaaW.PrintWords Go.Proofs.YtedbgkbjbfdnlaaW.PrintLast Go.Proofs.YtedbgkbjbfdnlaaW.PrintMore Go.Proofs.Ytedbgkbjbfdnlaa.Rp Go.Proofs.Ytedbgkbjbfdnlaa.Pk
set_option linter.unusedVariables false
set_option linter.unusedSimpArgs false
theorem ruintL (k : Nat) : ∀ (x : List Int) (n : Int), 0 ≤ n → n < 128 ^ k * 128 → n < 18446744073709551616 → x.length + k + 1 < 140737488355328 → tidemillref01_Uint.l0 (k + 1) n x = some (x ++ enc n) := by
  induction k with
  | zero =>
    intro x n h0 h hb hx
    simp only [tidemillref01_Uint.l0]
    rw [if_neg (by omega), if_pos (by omega), enc_lt h0 (by omega), show n % 256 = n by omega]
  | succ k ih =>
    intro x n h0 h hb hx
    rw [tidemillref01_Uint.l0]
    by_cases hn : n > 127
    · rw [if_pos hn, if_pos (by omega), Int.tdiv_eq_ediv_of_nonneg h0, Int.tmod_eq_emod_of_nonneg h0, wrap_u64 (by omega) (by omega), wrap_u64 (by omega) (by omega),
        ih _ _ (by omega) (by rw [Int.pow_succ] at h; omega) (by omega) (by rw [List.length_append, List.length_singleton]; omega), enc_ge (n := n) (by omega)]
      rw [show (128 + n % 128) % 256 = n % 128 + 128 by omega, List.append_assoc, List.singleton_append]
    · rw [if_neg hn, if_pos (by omega), enc_lt h0 (by omega), show n % 256 = n by omega]
theorem ruintFk (k : Nat) (x : List Int) (n : Int) (hk : 10 ≤ k) (h0 : 0 ≤ n) (h : n < 18446744073709551616) (hx : x.length + k < 140737488355328) : tidemillref01_Uint.f k x n = some (x ++ enc n) := by
  obtain ⟨k, rfl⟩ : ∃ j, k = j + 1 := ⟨k - 1, by omega⟩
  unfold tidemillref01_Uint.f
  simp only [Option.bind_some, List.length_nil, List.nil_append]
  rw [if_pos (by omega)]
  exact ruintL k x n h0 (by have := pow_mono128 (k := k) (by omega); omega) h (by omega)
theorem rintFk (k : Nat) (x : List Int) (n : Int) (hk : 10 ≤ k) (h0 : -9223372036854775808 ≤ n) (h : n ≤ 9223372036854775807) (hx : x.length + k < 140737488355328) : tidemillref01_Int.f k x n = some (x ++ enc (uns n)) := by
  unfold tidemillref01_Int.f
  have hu := uns_range h0 h
  by_cases hn : n < 0
  · rw [if_pos hn, show wrap64 (n + 1) = n + 1 by unfold wrap64; omega, show wrap64 (-(n + 1)) = -(n + 1) by unfold wrap64; omega, wrap_u64 (n := -(n + 1)) (by omega) (by omega),
      wrap_u64 (n := 2 * -(n + 1)) (by omega) (by omega), wrap_u64 (by omega) (by omega), ruintFk k x _ hk (by omega) (by omega) hx]
    unfold uns
    rw [if_pos hn, show 2 * -(n + 1) + 1 = -2 * n - 1 by omega]
    rfl
  · rw [if_neg hn, wrap_u64 (n := n) (by omega) (by omega), wrap_u64 (by omega) (by omega), ruintFk k x _ hk (by omega) (by omega) hx]
    unfold uns
    rw [if_neg hn]
    rfl

theorem refRecF (k : Nat) (hk : 10 ≤ k) (hk2 : k ≤ 1000000) {a b c : Int} (ha : I64 a) (hb : I64 b) (hc : I64 c) : tidemillref03_Record.f k a b c = some (recB a b c) := by
  have h1 := enc_len (uns_range ha.1 ha.2).2
  have h2 := enc_len (uns_range hb.1 hb.2).2
  unfold tidemillref03_Record.f
  rw [rintFk k [] a hk ha.1 ha.2 (by simp; omega)]
  simp only [Option.bind_some, List.nil_append]
  rw [rintFk k _ b hk hb.1 hb.2 (by omega)]
  simp only [Option.bind_some]
  rw [rintFk k _ c hk hc.1 hc.2 (by rw [List.length_append]; omega)]
  simp [recB, List.append_assoc]
theorem rintsL (l : List Int) (hl : ∀ n ∈ l, -9223372036854775808 ≤ n ∧ n ≤ 9223372036854775807) (hn : l.length ≤ 2000000) (d : Nat) : ∀ (i : Nat) (x : List Int) (k : Nat), i + d = l.length → d + 11 ≤ k → x.length + 10 * d + k < 140737488355328 →
    tidemillref01_Ints.l0 k x l (i : Int) = some (x ++ uenc (l.drop i)) := by
  induction d with
  | zero =>
    intro i x k hi hk hx
    obtain ⟨k, rfl⟩ : ∃ j, k = j + 1 := ⟨k - 1, by omega⟩
    simp only [tidemillref01_Ints.l0]
    rw [if_neg (by omega), List.drop_of_length_le (by omega)]
    simp [uenc]
  | succ d ih =>
    intro i x k hi hk hx
    obtain ⟨k, rfl⟩ : ∃ j, k = j + 1 := ⟨k - 1, by omega⟩
    have hr := hl _ (rd_mem (l := l) (i := i) (by omega))
    simp only [tidemillref01_Ints.l0]
    rw [if_pos (by omega), if_pos (by omega), rintFk k x _ (by omega) hr.1 hr.2 (by omega)]
    simp only [Option.bind_some]
    rw [show wrap64 ((i : Int) + 1) = ((i + 1 : Nat) : Int) by unfold wrap64; omega]
    have h1 := enc_len (uns_range hr.1 hr.2).2
    rw [ih (i + 1) _ k (by omega) (by omega) (by rw [List.length_append]; omega), drop_rd (l := l) (i := i) (by omega), uenc_cons, List.append_assoc]
theorem rintsF (k : Nat) (x l : List Int) (hl : ∀ n ∈ l, -9223372036854775808 ≤ n ∧ n ≤ 9223372036854775807) (hn : l.length ≤ 2000) (hk : l.length + 11 ≤ k) (hk2 : k ≤ 1000000) (hx : x.length ≤ 1000000000) : tidemillref01_Ints.f k x l = some (x ++ (enc l.length ++ uenc l)) := by
  unfold tidemillref01_Ints.f
  rw [wrap_u64 (by omega) (by omega), ruintFk _ x _ (by omega) (by omega) (by omega) (by omega)]
  simp only [Option.bind_some]
  have h1 := enc_len (n := (l.length : Int)) (by omega)
  have := rintsL l hl (by omega) l.length 0 (x ++ enc l.length) k (by omega) (by omega) (by rw [List.length_append]; omega)
  rw [show ((0 : Nat) : Int) = 0 from rfl] at this
  rw [this, List.drop_zero, List.append_assoc]
theorem fitsF (n : Int) : tidemillref03_fits.f n = some (num n) := by
  unfold tidemillref03_fits.f num
  by_cases h : n ≥ 0
  · rw [if_pos h, decide_eq_true (by omega : 0 ≤ n), Bool.true_and]
  · rw [if_neg h, decide_eq_false (by omega : ¬ 0 ≤ n), Bool.false_and]
theorem timeF (n : Int) : tidemillref03_Time.f n = some (timeOk n) := by
  unfold tidemillref03_Time.f timeOk
  by_cases h : n ≥ 0
  · rw [if_pos h, decide_eq_true (by omega : 0 ≤ n), Bool.true_and]
  · rw [if_neg h, decide_eq_false (by omega : ¬ 0 ≤ n), Bool.false_and]
theorem allL (l : List Int) (hl : l.length < 9223372036854775808) : ∀ (d i k : Nat), i + d = l.length → d < k → tidemillref03_all.l0 k l (i : Int) = some ((l.drop i).all num) := by
  intro d
  induction d with
  | zero =>
    intro i k hi hk
    obtain ⟨k, rfl⟩ : ∃ m, k = m + 1 := ⟨k - 1, by omega⟩
    simp only [tidemillref03_all.l0]
    rw [if_neg (by omega), List.drop_of_length_le (by omega)]
    rfl
  | succ d ih =>
    intro i k hi hk
    obtain ⟨k, rfl⟩ : ∃ m, k = m + 1 := ⟨k - 1, by omega⟩
    simp only [tidemillref03_all.l0]
    rw [if_pos (by omega), if_pos (by omega), fitsF]
    simp only [Option.bind_some]
    rw [drop_rd (l := l) (i := i) (by omega), List.all_cons]
    cases num (rd l (i : Int)) with
    | false => rfl
    | true =>
      rw [if_pos rfl, show wrap64 ((i : Int) + 1) = ((i + 1 : Nat) : Int) by unfold wrap64; omega, ih (i + 1) k (by omega) (by omega)]
      rfl
theorem allF (k : Nat) (l : List Int) (hl : l.length < 9223372036854775808) (hk : l.length < k) : tidemillref03_all.f k l = some (l.all num) := by
  unfold tidemillref03_all.f
  have := allL l hl l.length 0 k (by omega) (by omega)
  rw [List.drop_zero] at this
  exact this
theorem ite2 {α : Type} (a b : Bool) (x y : α) : (if a = true then (if b = true then x else y) else y) = if (a && b) = true then x else y := by cases a <;> rfl
theorem itT (p : Prop) [Decidable p] (b : Bool) : (if p then some b else some false) = some (decide p && b) := by by_cases h : p <;> simp [h]
theorem itF (p : Prop) [Decidable p] (b : Bool) : (if p then some false else some b) = some (!decide p && b) := by by_cases h : p <;> simp [h]
theorem len0 (l : List Int) : decide ((l.length : Int) = 0) = !decide (0 < l.length) := by cases l <;> simp <;> omega
theorem len1 (l : List Int) : ((l.length : Int) == 0) = !decide (0 < l.length) := by cases l <;> simp <;> omega
theorem ne3 (a b c : Int) : decide ((a, b, c) ≠ ((0, 0, 0) : Int × Int × Int)) = (!(a == 0) || (!(b == 0) || !(c == 0))) := by
  rw [Bool.eq_iff_iff]
  simp
theorem not_dec (p : Prop) [Decidable p] : decide (¬ p) = !decide p := by by_cases h : p <;> simp [h]
theorem mayTree (b1 b2 b3 b4 b5 b6 b7 b8 : Bool) : True := trivial
theorem refMayF (k : Nat) (x : Ent) (h9 : x.offs.length < 9223372036854775808) (h10 : x.order.length < 9223372036854775808) (k9 : x.offs.length < k) (k10 : x.order.length < k) :
    tidemillref03_May.f k x.kind x.task x.epoch x.txn x.log x.key x.val x.time x.del x.offs x.order = some (may x) := by
  obtain ⟨kind, task, epoch, txn, log, key, val, time, del, offs, order⟩ := x
  simp only at h9 h10 k9 k10 ⊢
  unfold tidemillref03_May.f
  rw [fitsF, fitsF, fitsF, fitsF, allF k offs h9 k9, allF k order h10 k10, timeF]
  simp only [Option.bind_some]
  obtain ⟨k, rfl⟩ : ∃ m, k = m + 1 := ⟨k - 1, by omega⟩
  have hT : ∀ a0 a1 a2 a3 a4 a5 a6 a7 a8 a9 a10, tidemillref03_May.j0 (k + 1) true a0 a1 a2 a3 a4 a5 a6 a7 a8 a9 a10 = some false := fun _ _ _ _ _ _ _ _ _ _ _ => rfl
  by_cases hk1 : kind < 1
  · rw [if_pos hk1, hT]
    simp [may, may0, hk1, show ¬ 1 ≤ kind by omega]
  by_cases hk6 : kind > 6
  · rw [if_neg hk1, if_pos hk6, hT]
    simp [may, may0, show ¬ kind ≤ 6 by omega]
  rw [if_neg hk1, if_neg hk6]
  by_cases h8 : (offs.length : Int) > 8
  · simp only [if_pos h8, hT]
    simp [may, may0, show ¬ offs.length ≤ 8 by omega]
  by_cases h256 : (order.length : Int) > 256
  · simp only [if_neg h8, decide_eq_true h256, hT]
    simp [may, may0, show ¬ order.length ≤ 256 by omega]
  simp only [if_neg h8, decide_eq_false h256, hT, ite2]
  by_cases hm : (num task && (num epoch && (num txn && (num log && (offs.all num && (order.all num && timeOk time)))))) = true
  · rw [if_pos hm]
    have hm0 : may0 ⟨kind, task, epoch, txn, log, key, val, time, del, offs, order⟩ = true := by
      simp only [Bool.and_eq_true] at hm
      obtain ⟨a, b, c, d, e, f, g⟩ := hm
      simp only [may0, a, b, c, d, e, f, g, decide_eq_true (show 1 ≤ kind by omega), decide_eq_true (show kind ≤ 6 by omega), decide_eq_true (show offs.length ≤ 8 by omega), decide_eq_true (show order.length ≤ 256 by omega)]
      rfl
    unfold may
    rw [hm0, Bool.true_and]
    have hkk : kind = 1 ∨ kind = 2 ∨ kind = 3 ∨ kind = 4 ∨ kind = 5 ∨ kind = 6 := by omega
    have hr8 : List.range 8 = [0, 1, 2, 3, 4, 5, 6, 7] := rfl
    rw [hr8]
    simp only [List.all_cons, List.all_nil, Ent.has, ne3]
    simp only [ne_eq, decide_not]
    simp only [tidemillref03_May.j0]
    rw [if_neg (by simp)]
    rcases hkk with rfl | rfl | rfl | rfl | rfl | rfl
    all_goals
      simp only [itT, itF, len0, len1, reduceIte, Int.reduceEq]
      generalize decide (task = 0) = b1
      generalize decide (epoch = 0) = b2
      generalize decide (txn = 0) = b3
      generalize decide (log = 0) = b4
      generalize (key == 0) = b5
      generalize (val == 0) = b6
      generalize (time == 0) = b7
      generalize decide (0 < offs.length) = b8
      generalize decide (0 < order.length) = b9
      clear hm0 hm hT
      revert b1 b2 b3 b4 b5 b6 b7 b8 b9 del
      decide +kernel
  · rw [if_neg hm]
    have hm0 : may0 ⟨kind, task, epoch, txn, log, key, val, time, del, offs, order⟩ = false := by
      cases h : may0 ⟨kind, task, epoch, txn, log, key, val, time, del, offs, order⟩ with
      | false => rfl
      | true =>
        simp only [may0, Bool.and_eq_true] at h
        obtain ⟨⟨⟨⟨⟨⟨⟨_, _⟩, ⟨⟨⟨a, b⟩, c⟩, d⟩⟩, e⟩, f⟩, g⟩, _⟩, _⟩ := h
        exact absurd (by simp only [a, b, c, d, e, f, g]; rfl) hm
    unfold may
    rw [hm0]
    rfl
theorem rround_E (k : Nat) (acc xs : List Int) (i : Nat) (k0 t0 e0 x0 g0 y0 v0 m0 : Int) (d0 : Bool) (l9 l10 : List Int) (hi : i < xs.length) (hl : xs.length = 5) (hk : 10 ≤ k) (hk2 : k ≤ 1000000) (ha : acc.length ≤ 1000) (h0 : 0 ≤ rd xs i) (h1 : rd xs i < 2000000) :
    tidemillref03_Entry.l0 (k + 1) xs acc (i : Int) k0 t0 e0 x0 g0 y0 v0 m0 d0 l9 l10 = tidemillref03_Entry.l0 k xs (acc ++ enc (rd xs i)) ((i + 1 : Nat) : Int) k0 t0 e0 x0 g0 y0 v0 m0 d0 l9 l10 := by
  rw [tidemillref03_Entry.l0, if_pos (by omega), if_pos (by omega), if_pos (by omega), wrap_u64 h0 (by omega), ruintFk k acc _ hk h0 (by omega) (by omega)]
  simp only [Option.bind_some]
  rw [show wrap64 ((i : Int) + 1) = ((i + 1 : Nat) : Int) by unfold wrap64; omega]
theorem rend_E (k : Nat) (acc xs : List Int) (i : Int) (x : Ent) (hx : entWf x) (h9 : x.offs.length ≤ 8) (h10 : x.order.length ≤ 256) (hi : ¬ i < 5) (hk : 300 ≤ k) (hk2 : k ≤ 1000000) (ha : acc.length ≤ 1000) :
    tidemillref03_Entry.l0 (k + 1) xs acc i x.kind x.task x.epoch x.txn x.log x.key x.val x.time x.del x.offs x.order = some (acc ++ tailB x, 0) := by
  obtain ⟨_, ⟨ky, vl, tm⟩, ho, hp⟩ := hx
  have h3 := recB_len ky vl tm
  have u9 := uenc_len (l := x.offs) ho
  have u10 := uenc_len (l := x.order) hp
  have w9 := enc_len (n := (x.offs.length : Int)) (by omega)
  have e0 : enc 0 = [0] := by rw [enc_lt (by omega) (by omega)]
  have e1 : enc 1 = [1] := by rw [enc_lt (by omega) (by omega)]
  rw [tidemillref03_Entry.l0, if_neg hi, refRecF k (by omega) hk2 ky vl tm]
  simp only [Option.bind_some]
  rw [if_pos (by omega)]
  cases hd : x.del with
  | true =>
    rw [if_pos rfl, if_pos (by rw [List.length_append]; omega)]
    rw [rintsF k _ x.offs ho (by omega) (by omega) hk2 (by simp only [List.length_append, List.length_cons, List.length_nil]; omega)]
    simp only [Option.bind_some]
    rw [rintsF k _ x.order hp (by omega) (by omega) hk2 (by simp only [List.length_append, List.length_cons, List.length_nil]; omega)]
    simp [tailB, hd, e1, List.append_assoc]
  | false =>
    rw [if_neg (by simp), if_pos (by rw [List.length_append]; omega)]
    rw [rintsF k _ x.offs ho (by omega) (by omega) hk2 (by simp only [List.length_append, List.length_cons, List.length_nil]; omega)]
    simp only [Option.bind_some]
    rw [rintsF k _ x.order hp (by omega) (by omega) hk2 (by simp only [List.length_append, List.length_cons, List.length_nil]; omega)]
    simp [tailB, hd, e0, List.append_assoc]
theorem rloop_E (k : Nat) (hk : 300 ≤ k) (hk2 : k ≤ 900000) (x : Ent) (hx : entWf x) (h : may x = true) : tidemillref03_Entry.l0 (k + 6) [x.kind, x.task, x.epoch, x.txn, x.log] [] ((0 : Nat) : Int) x.kind x.task x.epoch x.txn x.log x.key x.val x.time x.del x.offs x.order = some (entB x, 0) := by
  obtain ⟨n1, n2, n3, n4, n5, n9, n10⟩ := may_nums h
  have e1 := enc_len (n := x.kind) (by omega)
  have e2 := enc_len (n := x.task) (by omega)
  have e3 := enc_len (n := x.epoch) (by omega)
  have e4 := enc_len (n := x.txn) (by omega)
  have e5 := enc_len (n := x.log) (by omega)
  obtain ⟨xs, hxs⟩ : ∃ xs, xs = [x.kind, x.task, x.epoch, x.txn, x.log] := ⟨_, rfl⟩
  have hl : xs.length = 5 := by rw [hxs]; rfl
  have r0 : rd xs ((0 : Nat) : Int) = x.kind := by rw [hxs]; rfl
  have r1 : rd xs ((0 + 1 : Nat) : Int) = x.task := by rw [hxs]; rfl
  have r2 : rd xs ((0 + 1 + 1 : Nat) : Int) = x.epoch := by rw [hxs]; rfl
  have r3 : rd xs ((0 + 1 + 1 + 1 : Nat) : Int) = x.txn := by rw [hxs]; rfl
  have r4 : rd xs ((0 + 1 + 1 + 1 + 1 : Nat) : Int) = x.log := by rw [hxs]; rfl
  have he : Pk.encs xs = enc x.kind ++ (enc x.task ++ (enc x.epoch ++ (enc x.txn ++ enc x.log))) := by rw [hxs]; simp [Pk.encs]
  unfold entB
  rw [← hxs]
  rw [he]
  clear he hxs
  rw [rround_E (k + 5) [] xs 0 _ _ _ _ _ _ _ _ _ _ _ (by omega) hl (by omega) (by omega) (by simp) (by rw [r0]; exact n1.1) (by rw [r0]; exact n1.2), r0]
  rw [rround_E (k + 4) _ xs (0 + 1) _ _ _ _ _ _ _ _ _ _ _ (by omega) hl (by omega) (by omega) (by simp only [List.length_append, List.length_nil]; omega) (by rw [r1]; exact n2.1) (by rw [r1]; exact n2.2), r1]
  rw [rround_E (k + 3) _ xs (0 + 1 + 1) _ _ _ _ _ _ _ _ _ _ _ (by omega) hl (by omega) (by omega) (by simp only [List.length_append, List.length_nil]; omega) (by rw [r2]; exact n3.1) (by rw [r2]; exact n3.2), r2]
  rw [rround_E (k + 2) _ xs (0 + 1 + 1 + 1) _ _ _ _ _ _ _ _ _ _ _ (by omega) hl (by omega) (by omega) (by simp only [List.length_append, List.length_nil]; omega) (by rw [r3]; exact n4.1) (by rw [r3]; exact n4.2), r3]
  rw [rround_E (k + 1) _ xs (0 + 1 + 1 + 1 + 1) _ _ _ _ _ _ _ _ _ _ _ (by omega) hl (by omega) (by omega) (by simp only [List.length_append, List.length_nil]; omega) (by rw [r4]; exact n5.1) (by rw [r4]; exact n5.2), r4]
  rw [rend_E k _ xs _ x hx n9 n10 (by omega) (by omega) (by omega) (by simp only [List.length_append, List.length_nil]; omega)]
  simp only [List.nil_append, List.append_assoc]
theorem refEntF (k : Nat) (hk : 300 ≤ k) (x : Ent) (hx : entWf x) (h9 : x.offs.length < 9223372036854775808) (h10 : x.order.length < 9223372036854775808) (k9 : x.offs.length < k) (k10 : x.order.length < k) (hk2 : may x = true → k ≤ 900000) : tidemillref03_Entry.f (k + 6) x.kind x.task x.epoch x.txn x.log x.key x.val x.time x.del x.offs x.order = some (if may x then (entB x, 0) else ([], 1)) := by
  unfold tidemillref03_Entry.f
  rw [refMayF (k + 6) x h9 h10 (by omega) (by omega)]
  simp only [Option.bind_some]
  cases h : may x with
  | false => rfl
  | true =>
    rw [if_pos rfl, if_pos rfl]
    exact rloop_E k hk (hk2 h) x hx h
/-! ToEntry: a number too great is -1 there, one more than the most here. -/
def capR (n : Int) : Int := if n ≤ 1048576 then n else -1
def numsR : Nat → List Int → List Int × Int × List Int
  | 0, xs => ([], 0, xs)
  | k + 1, xs => if (rdU xs).2.1 ≠ 0 then ([], (rdU xs).2.1, xs) else (capR (rdU xs).1 :: (numsR k (rdU xs).2.2).1, (numsR k (rdU xs).2.2).2.1, (numsR k (rdU xs).2.2).2.2)
def refEnt (xs : List Int) : Ent × Int :=
  let a := numsR 5 xs
  let b := rec3 a.2.2
  let d := rdU b.2.2
  let o := rdL 8 d.2.2
  let p := rdL 256 o.2.2
  let x : Ent := ⟨a.1.getD 0 0, a.1.getD 1 0, a.1.getD 2 0, a.1.getD 3 0, a.1.getD 4 0, b.1.1, b.1.2.1, b.1.2.2, d.1 == 1, o.1, p.1⟩
  if a.2.1 ≠ 0 then (zeroE, a.2.1)
  else if b.2.1 ≠ 0 then (zeroE, b.2.1)
  else if d.2.1 ≠ 0 then (zeroE, d.2.1)
  else if o.2.1 ≠ 0 then (zeroE, o.2.1)
  else if p.2.1 ≠ 0 then (zeroE, p.2.1)
  else if p.2.2.length ≠ 0 ∨ 1 < d.1 ∨ may x = false then (zeroE, 5)
  else (x, 0)
theorem nums_same : ∀ (k : Nat) (xs : List Int), Byt xs → (numsR k xs).2 = (nums5 k xs).2 ∧ ∃ raw : List Int, (∀ n ∈ raw, 0 ≤ n) ∧ (nums5 k xs).1 = raw.map cap ∧ (numsR k xs).1 = raw.map capR := by
  intro k
  induction k with
  | zero => intro xs _; exact ⟨rfl, [], by simp, rfl, rfl⟩
  | succ k ih =>
    intro xs hb
    rw [nums5, numsR]
    by_cases h0 : (rdU xs).2.1 ≠ 0
    · rw [if_pos h0, if_pos h0]
      exact ⟨rfl, [], by simp, rfl, rfl⟩
    · rw [if_neg h0, if_neg h0]
      obtain ⟨i1, raw, i2, i3, i4⟩ := ih (rdU xs).2.2 (rdU_byt hb)
      refine ⟨i1, (rdU xs).1 :: raw, ?_, ?_, ?_⟩
      · intro n hn
        rcases List.mem_cons.1 hn with rfl | hn
        · exact (rdU_range hb).1
        · exact i2 n hn
      · simp only [List.map_cons, i3]
      · simp only [List.map_cons, i4]
theorem may_fit {x : Ent} (h : may x = true) : (0 ≤ x.kind ∧ x.kind ≤ 1048576) ∧ (0 ≤ x.task ∧ x.task ≤ 1048576) ∧ (0 ≤ x.epoch ∧ x.epoch ≤ 1048576) ∧ (0 ≤ x.txn ∧ x.txn ≤ 1048576) ∧ (0 ≤ x.log ∧ x.log ≤ 1048576) := by
  unfold may may0 num at h
  simp only [Bool.and_eq_true, decide_eq_true_eq] at h
  omega
theorem cap_eq {a : Int} (h0 : 0 ≤ a) (h : cap a ≤ 1048576 ∨ 0 ≤ capR a) : cap a = a ∧ capR a = a := by
  unfold cap capR at *
  split at h <;> split at h <;> simp only [*] <;> first | omega | simp
theorem caps_may {a b c d e : Int} (ha : 0 ≤ a) (hb : 0 ≤ b) (hc : 0 ≤ c) (hd : 0 ≤ d) (he : 0 ≤ e) (k v t : Int) (dl : Bool) (l9 l10 : List Int) :
    may ⟨cap a, cap b, cap c, cap d, cap e, k, v, t, dl, l9, l10⟩ = may ⟨capR a, capR b, capR c, capR d, capR e, k, v, t, dl, l9, l10⟩ ∧
    (may ⟨cap a, cap b, cap c, cap d, cap e, k, v, t, dl, l9, l10⟩ = true → (⟨cap a, cap b, cap c, cap d, cap e, k, v, t, dl, l9, l10⟩ : Ent) = ⟨capR a, capR b, capR c, capR d, capR e, k, v, t, dl, l9, l10⟩) := by
  cases hX : may ⟨cap a, cap b, cap c, cap d, cap e, k, v, t, dl, l9, l10⟩ with
  | true =>
    obtain ⟨f1, f2, f3, f4, f5⟩ := may_fit hX
    simp only at f1 f2 f3 f4 f5
    rw [(cap_eq ha (.inl f1.2)).1, (cap_eq hb (.inl f2.2)).1, (cap_eq hc (.inl f3.2)).1, (cap_eq hd (.inl f4.2)).1, (cap_eq he (.inl f5.2)).1] at hX
    rw [(cap_eq ha (.inl f1.2)).1, (cap_eq hb (.inl f2.2)).1, (cap_eq hc (.inl f3.2)).1, (cap_eq hd (.inl f4.2)).1, (cap_eq he (.inl f5.2)).1, (cap_eq ha (.inl f1.2)).2, (cap_eq hb (.inl f2.2)).2, (cap_eq hc (.inl f3.2)).2, (cap_eq hd (.inl f4.2)).2, (cap_eq he (.inl f5.2)).2]
    exact ⟨hX.symm, fun _ => rfl⟩
  | false =>
    refine ⟨?_, fun h => by cases h⟩
    cases hY : may ⟨capR a, capR b, capR c, capR d, capR e, k, v, t, dl, l9, l10⟩ with
    | false => rfl
    | true =>
      obtain ⟨f1, f2, f3, f4, f5⟩ := may_fit hY
      simp only at f1 f2 f3 f4 f5
      rw [(cap_eq ha (.inr f1.1)).2, (cap_eq hb (.inr f2.1)).2, (cap_eq hc (.inr f3.1)).2, (cap_eq hd (.inr f4.1)).2, (cap_eq he (.inr f5.1)).2] at hY
      rw [(cap_eq ha (.inr f1.1)).1, (cap_eq hb (.inr f2.1)).1, (cap_eq hc (.inr f3.1)).1, (cap_eq hd (.inr f4.1)).1, (cap_eq he (.inr f5.1)).1, hY] at hX
      cases hX
theorem five_raw {l : List Int} (h : l.length = 5) : ∃ a b c d e, l = [a, b, c, d, e] := by
  match l, h with
  | [a, b, c, d, e], _ => exact ⟨a, b, c, d, e, rfl⟩
theorem refEnt_eq {xs : List Int} (hb : Byt xs) : refEnt xs = toEnt xs := by
  obtain ⟨e2, raw, h0, h1, h2⟩ := nums_same 5 xs hb
  unfold refEnt toEnt
  simp only
  rw [e2]
  by_cases g1 : (nums5 5 xs).2.1 ≠ 0
  · rw [if_pos g1, if_pos g1]
  have hl : raw.length = 5 := by have := nums5_len 5 xs (by simpa using g1); rw [h1] at this; simpa using this
  rw [if_neg g1, if_neg g1, h1, h2]
  obtain ⟨a, b, c, d, e, rfl⟩ := five_raw hl
  simp only [List.mem_cons, List.not_mem_nil, or_false] at h0
  generalize rec3 (nums5 5 xs).2.2 = B
  by_cases g2 : B.2.1 ≠ 0
  · rw [if_pos g2, if_pos g2]
  rw [if_neg g2, if_neg g2]
  generalize rdU B.2.2 = D
  by_cases g3 : D.2.1 ≠ 0
  · rw [if_pos g3, if_pos g3]
  rw [if_neg g3, if_neg g3]
  generalize rdL 8 D.2.2 = O
  by_cases g4 : O.2.1 ≠ 0
  · rw [if_pos g4, if_pos g4]
  rw [if_neg g4, if_neg g4]
  generalize rdL 256 O.2.2 = P
  by_cases g5 : P.2.1 ≠ 0
  · rw [if_pos g5, if_pos g5]
  rw [if_neg g5, if_neg g5]
  simp only [List.map_cons, List.map_nil, List.getD_cons_zero, List.getD_cons_succ]
  obtain ⟨m1, m2⟩ := caps_may (h0 a (by simp)) (h0 b (by simp)) (h0 c (by simp)) (h0 d (by simp)) (h0 e (by simp)) B.1.1 B.1.2.1 B.1.2.2 (D.1 == 1) O.1 P.1
  rw [m1] at m2 ⊢
  split
  · rfl
  · rename_i hn
    rw [m2 (by cases hh : may ⟨capR a, capR b, capR c, capR d, capR e, B.1.1, B.1.2.1, B.1.2.2, D.1 == 1, O.1, P.1⟩ with | true => rfl | false => exact absurd (.inr (.inr hh)) hn)]
end Go.Proofs.Ytedbgkbjbfdnlaa.Rc
