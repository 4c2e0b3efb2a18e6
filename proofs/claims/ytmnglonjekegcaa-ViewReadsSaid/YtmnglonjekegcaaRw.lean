/- Rows in blocks: copy and clear at elements of any size, said of the whole block. -/
import Derived.Laws.CopyRow
import Derived.Laws.AppendOwn
import Derived.Laws.IdiomCopy
import Derived.Lib.AppendZerosOnto
import Derived.Lib.Overlaps
import Derived.Lib.SliceRun
import Derived.Maps.AppendAt
import Derived.WalkKit
namespace Go.Proofs.Ytmnglonjekegcaa.Rw
open Go Go.RowKit
set_option linter.unusedVariables false
set_option linter.unusedSimpArgs false
variable {P : Program}
theorem wpList_append_eq (w : World) {ops : Array Oper} {rest : List Oper} {o : Oper} {a : Act} {Q : Exit → Act → World → Prop} (hgd : o.guard = none) (s x : Operand) (t t' : TypeId)
    (ho : o.op = .call { callee := .builtin .append, args := #[s, x], argTypes := #[t, t'] }) (v u : Value) (hs : a.eval s = v) (hx : a.eval x = u) {v' : Value} {w' : World}
    (hr : (Builtin.append_ #[t, t'] o.type #[v, u]).run P w = .ok v' w') (h : wpList P ops Q rest (a.put o.dst v') w') : wpList P ops Q (o :: rest) a w :=
  wpList_plain hgd fun _ hK => by
    unfold Oper.wp execOp
    simp only [ho, resolve, invoke, builtin, Sem.run_bind, Sem.run_pure, Result.andThen_ok, List.map_toArray, List.map_cons, List.map_nil, hs, hx, hr]
    exact hK _ _ h
/-- A row is told by its block. -/
theorem own_mk {w : World} {base e sz g n cap : Nat} {cur : Array Value} {xs rest : List Value} (hb : base ≤ g) (hg : w.heap[g]? = some (.cells cur e (0, 0))) (hn : n ≤ cap) (hc : cap ≤ maxLen) (hx : xs.length = n * sz) (hr : rest.length + n * sz = cap * sz) (hcur : cur.toList = xs ++ rest) :
    w.ownsRow base e sz (.slice (some ⟨g, 0, none⟩) n cap) n xs := by
  refine ⟨hx, .inr ⟨g, cap, cur, rfl, hb, hg, hn, hc, ?_, ?_⟩⟩
  · rw [← Array.length_toList, hcur, List.length_append]; omega
  · rw [hcur, ← hx]; exact List.take_left
theorem cell_row {w : World} {g : Nat} {cur : Array Value} {e : TypeId} {fr : Nat × Nat} {l : List Value} (hg : w.heap[g]? = some (.cells cur e fr)) (hc : cur.toList = l) (j : Nat) : w.cell? ⟨g, j, none⟩ = l[j]? := by
  subst hc
  simp [World.cell?, hg]
end Go.Proofs.Ytmnglonjekegcaa.Rw
