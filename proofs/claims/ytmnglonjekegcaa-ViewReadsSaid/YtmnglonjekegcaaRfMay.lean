/- (c11) The document's May is the program's. -/
import Derived.Test.YtmnglonjekegcaaVwP
import Derived.Test.YtmnglonjekegcaaRp9
namespace Go.Proofs.Ytmnglonjekegcaa.Rc
open Go Go.RowKit Go.Proofs.YtmnglonjekegcaaW.PrintWords Go.Proofs.YtmnglonjekegcaaW.PrintLast Go.Proofs.YtmnglonjekegcaaW.PrintMore Go.Proofs.Ytmnglonjekegcaa.Rp
set_option linter.unusedVariables false
set_option linter.unusedSimpArgs false
theorem drop_rd {l : List Int} {i : Nat} (h : i < l.length) : l.drop i = rd l (i : Int) :: l.drop (i + 1) := by
  unfold rd
  rw [Int.toNat_natCast, List.drop_eq_getElem_cons h, List.getD_eq_getElem?_getD, List.getElem?_eq_getElem h]
  rfl
theorem fitsF (n : Int) : tidemillref03_fits.f n = some (num n) := by
  unfold tidemillref03_fits.f num
  by_cases h : n ≥ 0
  · rw [if_pos h, decide_eq_true (by omega : 0 ≤ n), Bool.true_and]
  · rw [if_neg h, decide_eq_false (by omega : ¬ 0 ≤ n), Bool.false_and]
theorem timeF (n : Int) : tidemillref03_Time.f n = some (timeOk n) := by
  unfold tidemillref03_Time.f timeOk
  by_cases h : n ≥ 0
  · rw [if_pos h, decide_eq_true (by omega : 0 ≤ n), Bool.true_and]
  · rw [if_neg h, decide_eq_false (by omega : ¬ 0 ≤ n), Bool.false_and]
theorem allL (l : List Int) (hl : l.length < 9223372036854775808) : ∀ (d i k : Nat), i + d = l.length → d < k → tidemillref03_all.l0 k l (i : Int) = some ((l.drop i).all num) := by
  intro d
  induction d with
  | zero =>
    intro i k hi hk
    obtain ⟨k, rfl⟩ : ∃ m, k = m + 1 := ⟨k - 1, by omega⟩
    simp only [tidemillref03_all.l0]
    rw [if_neg (by omega), List.drop_of_length_le (by omega)]
    rfl
  | succ d ih =>
    intro i k hi hk
    obtain ⟨k, rfl⟩ : ∃ m, k = m + 1 := ⟨k - 1, by omega⟩
    simp only [tidemillref03_all.l0]
    rw [if_pos (by omega), if_pos (by omega), fitsF]
    simp only [Option.bind_some]
    rw [drop_rd (l := l) (i := i) (by omega), List.all_cons]
    cases num (rd l (i : Int)) with
    | false => rfl
    | true =>
      rw [if_pos rfl, show wrap64 ((i : Int) + 1) = ((i + 1 : Nat) : Int) by unfold wrap64; omega, ih (i + 1) k (by omega) (by omega)]
      rfl
theorem allF (k : Nat) (l : List Int) (hl : l.length < 9223372036854775808) (hk : l.length < k) : tidemillref03_all.f k l = some (l.all num) := by
  unfold tidemillref03_all.f
  have := allL l hl l.length 0 k (by omega) (by omega)
  rw [List.drop_zero] at this
  exact this
theorem ite2 {α : Type} (a b : Bool) (x y : α) : (if a = true then (if b = true then x else y) else y) = if (a && b) = true then x else y := by cases a <;> rfl
theorem itT (p : Prop) [Decidable p] (b : Bool) : (if p then some b else some false) = some (decide p && b) := by by_cases h : p <;> simp [h]
theorem itF (p : Prop) [Decidable p] (b : Bool) : (if p then some false else some b) = some (!decide p && b) := by by_cases h : p <;> simp [h]
theorem len0 (l : List Int) : decide ((l.length : Int) = 0) = !decide (0 < l.length) := by cases l <;> simp <;> omega
theorem len1 (l : List Int) : ((l.length : Int) == 0) = !decide (0 < l.length) := by cases l <;> simp <;> omega
theorem ne3 (a b c : Int) : decide ((a, b, c) ≠ ((0, 0, 0) : Int × Int × Int)) = (!(a == 0) || (!(b == 0) || !(c == 0))) := by
  rw [Bool.eq_iff_iff]
  simp
theorem refMayF (k : Nat) (x : Ent) (h9 : x.offs.length < 9223372036854775808) (h10 : x.order.length < 9223372036854775808) (k9 : x.offs.length < k) (k10 : x.order.length < k) :
    tidemillref03_May.f k x.kind x.task x.epoch x.txn x.log x.key x.val x.time x.del x.offs x.order = some (may x) := by
  obtain ⟨kind, task, epoch, txn, log, key, val, time, del, offs, order⟩ := x
  simp only at h9 h10 k9 k10 ⊢
  unfold tidemillref03_May.f
  rw [fitsF, fitsF, fitsF, fitsF, allF k offs h9 k9, allF k order h10 k10, timeF]
  simp only [Option.bind_some]
  obtain ⟨k, rfl⟩ : ∃ m, k = m + 1 := ⟨k - 1, by omega⟩
  have hT : ∀ a0 a1 a2 a3 a4 a5 a6 a7 a8 a9 a10, tidemillref03_May.j0 (k + 1) true a0 a1 a2 a3 a4 a5 a6 a7 a8 a9 a10 = some false := fun _ _ _ _ _ _ _ _ _ _ _ => rfl
  by_cases hk1 : kind < 1
  · rw [if_pos hk1, hT]
    simp [may, may0, hk1, show ¬ 1 ≤ kind by omega]
  by_cases hk6 : kind > 6
  · rw [if_neg hk1, if_pos hk6, hT]
    simp [may, may0, show ¬ kind ≤ 6 by omega]
  rw [if_neg hk1, if_neg hk6]
  by_cases h8 : (offs.length : Int) > 8
  · simp only [if_pos h8, hT]
    simp [may, may0, show ¬ offs.length ≤ 8 by omega]
  by_cases h256 : (order.length : Int) > 256
  · simp only [if_neg h8, decide_eq_true h256, hT]
    simp [may, may0, show ¬ order.length ≤ 256 by omega]
  simp only [if_neg h8, decide_eq_false h256, hT, ite2]
  by_cases hm : (num task && (num epoch && (num txn && (num log && (offs.all num && (order.all num && timeOk time)))))) = true
  · rw [if_pos hm]
    have hm0 : may0 ⟨kind, task, epoch, txn, log, key, val, time, del, offs, order⟩ = true := by
      simp only [Bool.and_eq_true] at hm
      obtain ⟨a, b, c, d, e, f, g⟩ := hm
      simp only [may0, a, b, c, d, e, f, g, decide_eq_true (show 1 ≤ kind by omega), decide_eq_true (show kind ≤ 6 by omega), decide_eq_true (show offs.length ≤ 8 by omega), decide_eq_true (show order.length ≤ 256 by omega)]
      rfl
    unfold may
    rw [hm0, Bool.true_and]
    have hkk : kind = 1 ∨ kind = 2 ∨ kind = 3 ∨ kind = 4 ∨ kind = 5 ∨ kind = 6 := by omega
    have hr8 : List.range 8 = [0, 1, 2, 3, 4, 5, 6, 7] := rfl
    rw [hr8]
    simp only [List.all_cons, List.all_nil, Ent.has, ne3]
    simp only [ne_eq, decide_not]
    simp only [tidemillref03_May.j0]
    rw [if_neg (by simp)]
    rcases hkk with rfl | rfl | rfl | rfl | rfl | rfl
    all_goals
      simp only [itT, itF, len0, len1, reduceIte, Int.reduceEq]
      generalize decide (task = 0) = b1
      generalize decide (epoch = 0) = b2
      generalize decide (txn = 0) = b3
      generalize decide (log = 0) = b4
      generalize (key == 0) = b5
      generalize (val == 0) = b6
      generalize (time == 0) = b7
      generalize decide (0 < offs.length) = b8
      generalize decide (0 < order.length) = b9
      clear hm0 hm hT
      revert b1 b2 b3 b4 b5 b6 b7 b8 b9 del
      decide +kernel
  · rw [if_neg hm]
    have hm0 : may0 ⟨kind, task, epoch, txn, log, key, val, time, del, offs, order⟩ = false := by
      cases h : may0 ⟨kind, task, epoch, txn, log, key, val, time, del, offs, order⟩ with
      | false => rfl
      | true =>
        simp only [may0, Bool.and_eq_true] at h
        obtain ⟨⟨⟨⟨⟨⟨⟨_, _⟩, ⟨⟨⟨a, b⟩, c⟩, d⟩⟩, e⟩, f⟩, g⟩, _⟩, _⟩ := h
        exact absurd (by simp only [a, b, c, d, e, f, g]; rfl) hm
    unfold may
    rw [hm0]
    rfl
end Go.Proofs.Ytmnglonjekegcaa.Rc
namespace Go.Proofs.Ytmnglonjekegcaa.Vw
open Go Go.RowKit Go.Proofs.YtmnglonjekegcaaW.PrintWords Go.Proofs.YtmnglonjekegcaaW.PrintLast Go.Proofs.YtmnglonjekegcaaW.PrintMore Go.Proofs.Ytmnglonjekegcaa.Rp
theorem refMay_ok (x : S47) (A9 A10 : Option Addr) (c9 c10 : Nat) (w : World) (k9 : Kd.C (Kd.int .i64) w A9 x.f7.length x.f7) (l9 : x.f7.length ≤ c9) (k10 : Kd.C (Kd.int .i64) w A10 x.f8.length x.f8) (l10 : x.f8.length ≤ c10) :
    Calls Try.prog 31 #[.agg #[.int .i64 x.f0, .int .i64 x.f1, .int .i64 x.f2, .int .i64 x.f3, .int .i64 x.f4, .int .i64 x.f5.f0, .int .i64 x.f5.f1, .int .i64 x.f5.f2, .bool x.f6, .slice A9 x.f7.length c9, .slice A10 x.f8.length c10]] w fun e w' => e = .returned (.bool (mayE x)) ∧ Below w.heap.size w w' :=
  Rp.tidemillref03_May.calls (x.f7.length + x.f8.length + 1) _ _ _ _ _ _ _ _ _ A9 c9 x.f7 A10 c10 x.f8 (mayE x) w k9 l9 k10 l10 (Rc.refMayF _ (entOf x) (Nat.lt_succ_of_le k9.2.1) (Nat.lt_succ_of_le k10.2.1) (by show x.f7.length < _; omega) (by show x.f8.length < _; omega))
end Go.Proofs.Ytmnglonjekegcaa.Vw
