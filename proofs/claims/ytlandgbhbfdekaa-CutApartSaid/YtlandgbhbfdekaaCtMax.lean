/- (c16) slices.Max at []int, in the form of the printer's own contracts. -/
import Derived.Test.YtlandgbhbfdekaaEx0
import Derived.Test.YtlandgbhbfdekaaWMore
import Derived.Test.YtlandgbhbfdekaaWLast
namespace Go.Proofs.Ytlandgbhbfdekaa.Ex
open Go Go.RowKit Go.Proofs.YtlandgbhbfdekaaW.PrintWords Go.Proofs.YtlandgbhbfdekaaW.PrintLast Go.Proofs.YtlandgbhbfdekaaW.PrintMore
attribute [local go_sem] max2_int min2_int max_two min_two max_three min_three max_four min_four
set_option linter.unusedVariables false
set_option linter.unusedSimpArgs false
/-- The greatest of the first i. -/
def mx (l : List Int) (i : Nat) : Int := (l.take i).foldl max (l.getD 0 0)
theorem mx_succ {l : List Int} {i : Nat} (hi : i < l.length) : mx l (i + 1) = max (mx l i) (l.getD i 0) := by
  unfold mx
  rw [List.take_succ_eq_append_getElem hi, List.foldl_append, List.getD_eq_getElem?_getD (i := i), List.getElem?_eq_getElem hi]
  rfl
theorem mx_one {l : List Int} (hi : 0 < l.length) : mx l 1 = l.getD 0 0 := by
  rw [mx_succ hi]
  simp [mx]
def slices_Max_int_int.f (l0 : List Int) : Option Int := if l0 = [] then none else some (mx l0 l0.length)
theorem mrd_nat (l : List Int) (k : Nat) : rd l (k : Int) = l.getD k 0 := by unfold rd; rw [Int.toNat_natCast]
set_option maxHeartbeats 1000000 in
set_option maxRecDepth 100000 in
theorem slices_Max_int_int.calls (A0 : Option Addr) (c0 : Nat) (l0 : List Int) (r : Int) (w : World) (hr0 : Kd.C (Kd.int .i64) w A0 l0.length l0) (hc0 : l0.length ≤ c0) (h : slices_Max_int_int.f l0 = some r) :
    Calls Try.prog 29 #[.slice A0 l0.length c0] w fun e w' => e = .returned (.int .i64 r) ∧ Below w.heap.size w w' := by
  unfold slices_Max_int_int.f at h
  by_cases h0 : l0 = []
  · rw [if_pos h0] at h; cases h
  rw [if_neg h0] at h
  injection h with h
  have HR := Aside0.mk h
  have HC := Aside0.mk hr0
  have hm : l0.length ≤ 9223372036854775807 := hr0.2.1
  have hp : 0 < l0.length := List.length_pos_iff.2 h0
  obtain ⟨ad, rfl, hx⟩ := Kd.at_int hr0 0 (by omega) (by omega)
  have hx0 : w.cell? ad = some (.int .i64 (rd l0 0)) := by have := hx; rwa [show ad.add (Int.toNat 0) = ad by simp [Addr.add]] at this
  clear hx hr0 hc0 h h0
  obtain ⟨n, HN⟩ : ∃ n, Aside0 (l0.length = n) := ⟨_, ⟨rfl⟩⟩
  rw [HN.out] at hm hp ⊢
  obtain ⟨x, HX⟩ : ∃ x, Aside0 (rd l0 0 = x) := ⟨_, ⟨rfl⟩⟩
  rw [HX.out] at hx0
  have h1 : decide ((n : Int) < 1) = false := by simp; omega
  have h1b : decide (n < 1) = false := by simp; omega
  go_enter Try.func29, Try.ntmps29
  go_wp2_with fail
  go_loopw [3, 4] (fun v3 v4 wr => ∃ i : Nat, 1 ≤ i ∧ i ≤ n ∧ v3 = .int .i64 (mx l0 i) ∧ v4 = .int .i64 (i : Int) ∧ wr = w) (fun _ v4 _ => n - (intOf v4).toNat)
  case atStart => exact ⟨1, by omega, by omega, by rw [mx_one (by rw [HN.out]; exact hp), ← mrd_nat, ← HX.out]; rfl, rfl, rfl⟩
  case round =>
    obtain ⟨i, hi1, hi, rfl, rfl, rfl⟩ := hrel
    clear hx0
    by_cases hlt : i < n
    · have h3 : decide ((i : Int) < (n : Int)) = true := by simp; omega
      have h3b : decide (i < n) = true := by simp; omega
      obtain ⟨ad1, hA1, hx⟩ := Kd.at_int HC.out i (by omega) (by rw [HN.out]; omega)
      injection hA1 with hA1
      subst hA1
      have hxi : wr.cell? (ad.add i) = some (.int .i64 (rd l0 i)) := hx
      clear hx
      obtain ⟨y, HY⟩ : ∃ y, Aside0 (rd l0 i = y) := ⟨_, ⟨rfl⟩⟩
      obtain ⟨m, HM⟩ : ∃ m, Aside0 (mx l0 i = m) := ⟨_, ⟨rfl⟩⟩
      rw [HY.out] at hxi
      rw [HM.out]
      have HS := Aside0.mk (mx_succ (l := l0) (i := i) (by rw [HN.out]; exact hlt))
      rw [HM.out, ← mrd_nat, HY.out] at HS
      go_wp2
      go_roundw
      case rel => exact ⟨i + 1, by omega, by omega, by rw [HS.out]; first | rfl | (congr 1; omega) | (congr 1; rw [Int.max_def]; repeat' split <;> omega), by go_num, by first | rfl | trivial⟩
      case measure => simp [intOf]; omega
    · obtain rfl : n = i := by omega
      have h3 : decide ((n : Int) < (n : Int)) = false := by simp
      have HR2 : Aside0 (mx l0 n = r) := ⟨by rw [← HR.out, HN.out]⟩
      rw [HR2.out]
      go_wp2
      go_ret
      exact ⟨rfl, Below.refl _ _⟩
end Go.Proofs.Ytlandgbhbfdekaa.Ex
