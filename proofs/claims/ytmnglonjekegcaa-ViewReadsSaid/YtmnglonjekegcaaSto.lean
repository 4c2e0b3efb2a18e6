/- A whole struct stored as one, in a region that draws its order. -/
import Derived.Test.YtmnglonjekegcaaRw
import Derived.Test.YtmnglonjekegcaaWWords
import Derived.WalkMore
import Derived.WalkKit
import Derived.Test.YtmnglonjekegcaaProg
namespace Go.Proofs.Ytmnglonjekegcaa.Sto
open Go Go.RowKit Go.Proofs.YtmnglonjekegcaaW.PrintWords Go.Proofs.YtmnglonjekegcaaW.PrintLast Go.Proofs.YtmnglonjekegcaaW.PrintMore Go.Proofs.Ytmnglonjekegcaa.Rw
set_option linter.unusedVariables false
set_option linter.unusedSimpArgs false
def setAll (cs : Array Value) (o : Nat) : List Value → Array Value
  | [] => cs
  | v :: r => setAll (cs.setIfInBounds o v) (o + 1) r
theorem setAll_blk {b : Nat} {t : TypeId} : ∀ (vs : List Value) (o : Nat) (w : World) (cs : Array Value), w.heap[b]? = some (.cells cs t (0, 0)) → (w.setCells b o vs).heap[b]? = some (.cells (setAll cs o vs) t (0, 0))
  | [], _, _, _, h => h
  | v :: r, o, w, cs, h => setAll_blk r (o + 1) _ _ (blk_put h o v rfl)
theorem setAll_other {b k : Nat} (hk : k ≠ b) : ∀ (vs : List Value) (o : Nat) (w : World), (w.setCells b o vs).heap[k]? = w.heap[k]?
  | [], _, _ => rfl
  | v :: r, o, w => (setAll_other hk r (o + 1) _).trans (Below.heap_setCell w _ v k hk)
theorem setAll_get : ∀ (vs : List Value) (o : Nat) (cs : Array Value) (i : Nat), o + vs.length ≤ cs.size → (setAll cs o vs)[i]? = if o ≤ i ∧ i < o + vs.length then vs[i - o]? else cs[i]?
  | [], o, cs, i, _ => by rw [if_neg (by simp)]; rfl
  | v :: r, o, cs, i, h => by
    rw [List.length_cons] at h
    rw [setAll, setAll_get r (o + 1) _ i (by simp; omega), List.length_cons]
    by_cases h1 : i = o
    · subst h1
      rw [if_neg (by omega), if_pos (by omega), Nat.sub_self, Array.getElem?_setIfInBounds_self_of_lt (by omega)]
      rfl
    · by_cases h2 : o + 1 ≤ i ∧ i < o + 1 + r.length
      · rw [if_pos h2, if_pos (by omega), show i - o = (i - (o + 1)) + 1 by omega]
        rfl
      · rw [if_neg h2, if_neg (by omega), Array.getElem?_setIfInBounds_ne (by omega)]
theorem setAll_whole (vs : List Value) (cs : Array Value) (h : cs.size = vs.length) : setAll cs 0 vs = vs.toArray := by
  apply Array.ext_getElem?
  intro i
  rw [setAll_get vs 0 cs i (by omega)]
  by_cases hi : i < vs.length
  · rw [if_pos (by omega)]; simp
  · rw [if_neg (by omega), Array.getElem?_eq_none (by omega), Array.getElem?_eq_none (by simpa using hi)]
theorem setCells_tail {b : Nat} : ∀ (vs : List Value) (o : Nat) (w : World), (w.setCells b o vs).os = w.os ∧ (w.setCells b o vs).tape = w.tape ∧ (w.setCells b o vs).output = w.output ∧ (w.setCells b o vs).heap.size = w.heap.size
  | [], _, _ => ⟨rfl, rfl, rfl, rfl⟩
  | v :: r, o, w => by
    obtain ⟨h1, h2, h3, h4⟩ := setCells_tail r (o + 1) (w.setCell ⟨b, o, none⟩ v)
    exact ⟨h1.trans rfl, h2.trans rfl, h3.trans rfl, h4.trans (by simp)⟩
theorem store_row {P : Program} {w : World} {ty : TypeId} {g : Nat} {t : TypeId} {cs vs : Array Value} (hg : w.heap[g]? = some (.cells cs t (0, 0))) (hi : (P.info? ty).map (·.size) = some vs.size) (hs : cs.size = vs.size) (h1 : vs.toList.all Value.oneCell' = true) :
    ∃ w', (storeVar ty ⟨g, 0, none⟩ (.agg vs)).run P w = .ok () w' ∧ w'.heap[g]? = some (.cells vs t (0, 0)) ∧ w.grownBy w' (some g) := by
  cases hq : P.info? ty with
  | none => simp [hq] at hi
  | some i =>
    have hsz : i.size = vs.size := by simpa [hq] using hi
    have hrun := run_storeCells_cells (P := P) g 0 vs.toList 0 w (fun j hj => by
      rw [show 0 + 0 + j = j by omega, blk_cell hg]
      simp at hj
      rw [Array.getElem?_eq_getElem (by omega)]; rfl) (fun j _ => blk_frozen hg _) (fun v hv => List.all_eq_true.1 h1 v hv)
    have hst : (storeVar ty ⟨g, 0, none⟩ (.agg vs)).run P w = .ok () (w.setCells g 0 vs.toList) := by
      simp [storeVar, sizeOf, typeInfo, hq, hsz, Value.cells, Sem.run_bind] at hrun ⊢
      exact hrun
    have hb := setAll_blk vs.toList 0 w cs hg
    rw [setAll_whole _ _ (by simpa using hs)] at hb
    obtain ⟨e1, e2, e3, e4⟩ := setCells_tail (b := g) vs.toList 0 w
    exact ⟨_, hst, by simpa using hb, e1, e2, e3, by omega, fun k _ hk => setAll_other (fun e => hk (by rw [e])) _ _ _⟩
theorem store_exec {P : Program} {oi : Oper} {a : Act} {w w1 : World} (ty : TypeId) (p x : Operand) (ho : oi.op = .store ty p x) (g : Nat) (vs : Array Value) (hp : a.eval p = .pointer (some ⟨g, 0, none⟩)) (hx : a.eval x = .agg vs) (h : (storeVar ty ⟨g, 0, none⟩ (.agg vs)).run P w = .ok () w1) : (execOp a.eval oi).run P w = .ok .skip w1 := by
  simp [execOp, ho, hp, hx, Instr.storeAt, Instr.sureAddr, h, Result.andThen, Sem.run_bind]
theorem list_store {P : Program} {ops : Array Oper} {rest : List Oper} {o : Oper} {a : Act} {Q : Exit → Act → World → Prop} {w w' : World} (hgd : o.guard = none) (hdn : o.dst = none) (ty : TypeId) (p x : Operand) (ho : o.op = .store ty p x) (g : Nat) (vs : Array Value) (hp : a.eval p = .pointer (some ⟨g, 0, none⟩)) (hx : a.eval x = .agg vs) (hst : (storeVar ty ⟨g, 0, none⟩ (.agg vs)).run P w = .ok () w') (h : wpList P ops Q rest a w') : wpList P ops Q (o :: rest) a w := by
  refine wpList_plain hgd fun K hK => ?_
  unfold Oper.wp
  rw [store_exec ty p x ho g vs hp hx hst]
  show K (a.put o.dst undef) w'
  rw [hdn]
  exact hK _ _ h
end Go.Proofs.Ytmnglonjekegcaa.Sto
