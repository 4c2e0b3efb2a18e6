/- (c16) A scope in which the run jumps back to one label: what holds there with a count that falls; what is behind the label is walked once. -/
import Derived.Test.YtlandgbhbfdekaaWMore
import Derived.ScopeJumps
import Derived.Tactics
namespace Go.Proofs.Ytlandgbhbfdekaa.Ex
open Go
set_option linter.unusedVariables false
theorem least_ex (p : Nat → Prop) (h : ∃ n, p n) : ∃ n, p n ∧ ∀ m, p m → n ≤ m := by
  obtain ⟨n, hn⟩ := h
  induction n using Nat.strongRecOn with
  | _ n ih =>
    by_cases hm : ∃ m, m < n ∧ p m
    · obtain ⟨m, h1, h2⟩ := hm
      exact ih m h1 h2
    · exact ⟨n, hn, fun m hp => Nat.le_of_not_lt fun hlt => hm ⟨m, hlt, hp⟩⟩
theorem scope_count {P : Program} {a : Act} {w : World} {Q : Exit → Act → World → Prop} {c rest : Code} (l : Nat) (J : Nat → Act → World → Prop) (hf : findLabel c l = some (Code.skip.seq rest))
    (pass : ∀ n a w, J n a w → rest.wp P (Exit.jump l (fun a' w' => ∃ m, m < n ∧ J m a' w') Q) a w)
    (first : (∀ a w, (∃ n, J n a w) → rest.wp P (Exit.jump l (fun a' w' => ∃ n, J n a' w') Q) a w) → c.wp P (Exit.jump l (fun a' w' => ∃ n, J n a' w') Q) a w) : (Code.scope c).wp P Q a w := by
  classical
  refine wp_scope_jumps l (fun a' w' => ∃ n, J n a' w') (fun a' w' => if h : ∃ n, J n a' w' then Classical.choose (least_ex (fun n => J n a' w') h) else 0) hf (first fun a w h => ?_) (fun a w h => ?_)
  · obtain ⟨n, h⟩ := h
    refine Code.wp_mono (fun e a' w' hq => ?_) (pass n a w h)
    cases e with
    | goto l' => exact ⟨hq.1, hq.2.elim fun m hm => ⟨m, hm.2⟩⟩
    | normal => exact hq
    | exit id => exact hq
    | ret => exact hq
    | panic ch => exact hq
    | outgrown => exact hq
  · refine wp_seq (wp_skip ?_)
    have hs := Classical.choose_spec (least_ex (fun n => J n a w) h)
    have h1 := pass _ a w hs.1
    refine Code.wp_mono (fun e a' w' hq => ?_) h1
    cases e with
    | goto l' =>
      obtain ⟨m, hm, hj⟩ := hq.2
      refine ⟨hq.1, ⟨m, hj⟩, ?_⟩
      rw [dif_pos ⟨m, hj⟩, dif_pos h]
      have hs2 := Classical.choose_spec (least_ex (fun n => J n a' w') ⟨m, hj⟩)
      have := hs2.2 m hj
      omega
    | normal => exact hq
    | exit id => exact hq
    | ret => exact hq
    | panic ch => exact hq
    | outgrown => exact hq
end Go.Proofs.Ytlandgbhbfdekaa.Ex
