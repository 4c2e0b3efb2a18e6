/- Contracts of rec's small functions: has, numbers, time. -/
import Derived.Test.YtmnglonjekegcaaWWords
import Derived.Test.YtmnglonjekegcaaRp2
import Derived.Test.YtmnglonjekegcaaRcPure
import Derived.Maps.Ext
import Derived.Maps.OwnSet
import Derived.Maps.OwnOps
import Derived.Maps.RangeWalk
import Derived.WalkMore
import Derived.WalkKit
import Derived.Test.YtmnglonjekegcaaProg
namespace Go.Proofs.Ytmnglonjekegcaa.Rc
open Go Go.RowKit Go.Maps Go.Proofs.YtmnglonjekegcaaW.PrintWords Go.Proofs.YtmnglonjekegcaaW.PrintLast Go.Proofs.YtmnglonjekegcaaW.PrintMore Go.Proofs.Ytmnglonjekegcaa.Rp
set_option linter.unusedVariables false
set_option linter.unusedSimpArgs false
theorem has_ok (w : World) : Calls Try.prog 43 #[] w fun e w' => e = .returned (.agg #[.int .i64 0, .int .i64 24, .int .i64 63, .int .i64 199, .int .i64 7, .int .i64 3, .int .i64 0]) ∧ Below w.heap.size w w' := by
  have HB := Aside0.mk (Below.refl w.heap.size w)
  go_enter Try.func43, Try.ntmps43
  go_wp2
  refine bodyPost_ret (v := .agg #[.int .i64 0, .int .i64 24, .int .i64 63, .int .i64 199, .int .i64 7, .int .i64 3, .int .i64 0]) (by simp [results, Try.results43, go_sem]) rfl ?_
  exact ⟨rfl, below_alloc HB.out _⟩
theorem time_ok (n : Int) (w : World) : Calls Try.prog 42 #[.int .i64 n] w fun e w' => e = .returned (.bool (timeOk n)) ∧ Below w.heap.size w w' :=
  (rec_time.calls n (timeOk n) w (by
    unfold rec_time.f timeOk
    split
    · rename_i h; simp; intro; omega
    · rename_i h; simp; intro; omega)).mono fun e w' h => ⟨h.1, h.2.below⟩
theorem numbersL (l : List Int) (hm : l.length ≤ 9223372036854775807) (d : Nat) : ∀ (i k : Nat), i + d = l.length → d < k → rec_numbers.l0 k l (l.length : Int) (i : Int) = some ((l.drop i).all num) := by
  induction d with
  | zero =>
    intro i k hi hk
    obtain ⟨k, rfl⟩ : ∃ j, k = j + 1 := ⟨k - 1, by omega⟩
    simp only [rec_numbers.l0]
    rw [if_neg (by omega), List.drop_of_length_le (by omega)]
    rfl
  | succ d ih =>
    intro i k hi hk
    obtain ⟨k, rfl⟩ : ∃ j, k = j + 1 := ⟨k - 1, by omega⟩
    have ha : l.drop i = rd l i :: l.drop (i + 1) := by
      unfold rd
      rw [Int.toNat_natCast, List.getD_eq_getElem?_getD, List.getElem?_eq_getElem (by omega)]
      exact List.drop_eq_getElem_cons (by omega)
    have hs := ih (i + 1) k (by omega) (by omega)
    simp only [rec_numbers.l0]
    rw [ha, List.all_cons, if_pos (by omega), if_pos (by omega), if_pos (by omega)]
    by_cases h1 : rd l i < 0
    · rw [if_pos h1]
      have : num (rd l i) = false := by unfold num; simp; intro; omega
      rw [this]
      rfl
    · rw [if_neg h1]
      by_cases h2 : rd l i > 1048576
      · rw [if_pos h2]
        have : num (rd l i) = false := by unfold num; simp; omega
        rw [this]
        rfl
      · rw [if_neg h2, show wrap64 ((i : Int) + 1) = ((i + 1 : Nat) : Int) by unfold wrap64; omega, hs]
        have : num (rd l i) = true := by unfold num; simp; omega
        rw [this, Bool.true_and]
theorem numbers_ok (A0 : Option Addr) (c0 n : Nat) (l0 : List Int) (w : World) (hn : l0.length = n) (hr0 : Kd.C (Kd.int .i64) w A0 n l0) (hc0 : n ≤ c0) :
    Calls Try.prog 41 #[.slice A0 n c0] w fun e w' => e = .returned (.bool (l0.all num)) ∧ Below w.heap.size w w' := by
  subst hn
  exact (rec_numbers.calls (l0.length + 1) A0 c0 l0 (l0.all num) w hr0 hc0 (numbersL l0 hr0.2.1 l0.length 0 _ (by omega) (by omega))).mono fun e w' h => ⟨h.1, h.2.below⟩
end Go.Proofs.Ytmnglonjekegcaa.Rc
