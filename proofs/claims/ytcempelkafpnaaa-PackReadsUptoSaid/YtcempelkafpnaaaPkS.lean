/- The contract of tidemillref01.Same, in plain words: out of the printed one. -/
import Derived.Outline
import Derived.Test.YtcempelkafpnaaaPPackReadsx1
import Derived.Test.YtcempelkafpnaaaWMore
import Derived.Test.YtcempelkafpnaaaPkPure
namespace Go.Proofs.Ytcempelkafpnaaa.Pk
open Go Go.RowKit Go.Proofs.YtcempelkafpnaaaW.PrintWords Go.Proofs.YtcempelkafpnaaaW.PrintLast Go.Proofs.YtcempelkafpnaaaW.PrintMore Go.Proofs.Ytcempelkafpnaaa.PPackReads
set_option linter.unusedVariables false
set_option linter.unusedSimpArgs false
theorem sameL (a b : List Int) (hab : a.length = b.length) (hm : a.length ≤ 9223372036854775807) (d : Nat) : ∀ (i k : Nat), i + d = a.length → d < k → tidemillref01_Same.l0 k a b (i : Int) = some (decide (a.drop i = b.drop i)) := by
  induction d with
  | zero =>
    intro i k hi hk
    obtain ⟨k, rfl⟩ : ∃ j, k = j + 1 := ⟨k - 1, by omega⟩
    simp only [tidemillref01_Same.l0]
    rw [if_neg (by omega), List.drop_of_length_le (by omega), List.drop_of_length_le (by omega)]
    simp
  | succ d ih =>
    intro i k hi hk
    obtain ⟨k, rfl⟩ : ∃ j, k = j + 1 := ⟨k - 1, by omega⟩
    have ha : a.drop i = rd a i :: a.drop (i + 1) := by
      unfold rd
      rw [Int.toNat_natCast, List.getD_eq_getElem?_getD, List.getElem?_eq_getElem (by omega)]
      exact List.drop_eq_getElem_cons (by omega)
    have hb : b.drop i = rd b i :: b.drop (i + 1) := by
      unfold rd
      rw [Int.toNat_natCast, List.getD_eq_getElem?_getD, List.getElem?_eq_getElem (by omega)]
      exact List.drop_eq_getElem_cons (by omega)
    simp only [tidemillref01_Same.l0]
    rw [if_pos (by omega), if_pos (by omega), if_pos (by omega), ha, hb]
    by_cases h : rd a i = rd b i
    · rw [if_pos h, show wrap64 ((i : Int) + 1) = ((i + 1 : Nat) : Int) by unfold wrap64; omega, ih (i + 1) k (by omega) (by omega)]
      simp [h]
    · rw [if_neg h]
      simp [h]
theorem sameF (a b : List Int) (hm : a.length ≤ 9223372036854775807) : tidemillref01_Same.f (a.length + 1) a b = some (decide (a = b)) := by
  unfold tidemillref01_Same.f
  by_cases h : a.length = b.length
  · rw [if_pos (by omega)]
    have := sameL a b h hm a.length 0 (a.length + 1) (by omega) (by omega)
    simpa using this
  · rw [if_neg (by omega)]
    congr 1
    symm
    exact decide_eq_false (fun e => h (by rw [e]))
theorem same_any (A0 : Option Addr) (c0 : Nat) (l0 : List Int) (A1 : Option Addr) (c1 : Nat) (l1 : List Int) (w : World) (hr0 : (Kd.int .i64).C w A0 l0.length l0) (hc0 : l0.length ≤ c0) (hr1 : (Kd.int .i64).C w A1 l1.length l1) (hc1 : l1.length ≤ c1) :
    Calls Try.prog 30 #[.slice A0 l0.length c0, .slice A1 l1.length c1] w fun e w' => e = .returned (.bool (decide (l0 = l1))) ∧ Below w.heap.size w w' :=
  (tidemillref01_Same.calls (l0.length + 1) A0 c0 l0 A1 c1 l1 _ w hr0 hc0 hr1 hc1 (sameF l0 l1 hr0.2.1)).mono fun e w' h => ⟨h.1, h.2.below⟩
end Go.Proofs.Ytcempelkafpnaaa.Pk
