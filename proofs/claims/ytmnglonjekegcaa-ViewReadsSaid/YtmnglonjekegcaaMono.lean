/- Operations that yield values and may come up in any order, each of which only makes memory: what is known of each value stays true as the world grows. -/
import Derived.Test.YtmnglonjekegcaaWWords
import Derived.Orders
import Derived.RegionTactic
namespace Go.Proofs.Ytmnglonjekegcaa.Mono
open Go Go.RowKit Go.Proofs.YtmnglonjekegcaaW.PrintWords Go.Proofs.YtmnglonjekegcaaW.PrintLast
set_option linter.unusedVariables false
set_option linter.unusedSimpArgs false
section
variable {P : Program} {ops : Array Oper} {Q : Exit → Act → World → Prop} {md : Region.Mode} {S : World → Prop}
end
section
variable {P : Program} {ops : Array Oper} {Q : Exit → Act → World → Prop} {md : Region.Mode} {S : World → Prop}
/-- A new variable. -/
def AL (B : Nat) (t : TypeId) (cs : Array Value) (w : World) (v : Value) : Prop := ∃ g, v = .pointer (some ⟨g, 0, none⟩) ∧ w.heap[g]? = some (.cells cs t (0, 0)) ∧ B ≤ g
theorem AL.below {B : Nat} {t : TypeId} {cs : Array Value} {w w2 : World} {v : Value} (h : AL B t cs w v) (hb : Below w.heap.size w w2) : AL B t cs w2 v := by
  obtain ⟨g, h1, h2, h3⟩ := h
  exact ⟨g, h1, blk_below h2 hb, h3⟩
theorem AL.new (t : TypeId) (cs : Array Value) (w w0 : World) (h : Below w0.heap.size w0 w) : AL w0.heap.size t cs (w.alloc (.cells cs t)) (.pointer (some ⟨w.heap.size, 0, none⟩)) := ⟨_, rfl, blk_new _ _, h.size⟩
end
end Go.Proofs.Ytmnglonjekegcaa.Mono
