/- The forms of kinds. -/
import Derived.Test.YteanncfmaomhaaaTpP
import Derived.Test.YteanncfmaomhaaaGw
import Derived.WalkKit
import Derived.WalkMore
import Derived.Test.YteanncfmaomhaaaProg
namespace Go.Proofs.Yteanncfmaomhaaa.Ex
open Go Go.RowKit Go.Proofs.YteanncfmaomhaaaW.PrintWords Go.Proofs.YteanncfmaomhaaaW.PrintLast Go.Proofs.YteanncfmaomhaaaW.PrintMore
set_option linter.unusedVariables false
set_option linter.unusedSimpArgs false
def formV (f : Fm) : Value := .agg #[.int .i64 f.fr, .bool f.e, .bool f.acc, .int .i64 f.least, .int .i64 f.most, .bool f.own]
def formsV : Value := .agg #[.int .i64 0, .bool false, .bool false, .int .i64 0, .int .i64 0, .bool false, .int .i64 0, .bool false, .bool false, .int .i64 0, .int .i64 7, .bool true, .int .i64 1, .bool true, .bool false, .int .i64 0, .int .i64 0, .bool false, .int .i64 1, .bool true, .bool false, .int .i64 0, .int .i64 0, .bool false, .int .i64 1, .bool true, .bool false, .int .i64 0, .int .i64 0, .bool false, .int .i64 1, .bool true, .bool false, .int .i64 0, .int .i64 0, .bool false, .int .i64 1, .bool true, .bool true, .int .i64 0, .int .i64 0, .bool false, .int .i64 1, .bool true, .bool true, .int .i64 1, .int .i64 1048576, .bool false, .int .i64 1, .bool true, .bool true, .int .i64 1, .int .i64 1048576, .bool false, .int .i64 2, .bool true, .bool true, .int .i64 0, .int .i64 0, .bool false, .int .i64 1, .bool false, .bool false, .int .i64 0, .int .i64 7, .bool true]
theorem zeroF (w : World) : (zeroValue 72).run Try.prog w = .ok (.agg #[.int .i64 0, .bool false, .bool false, .int .i64 0, .int .i64 0, .bool false, .int .i64 0, .bool false, .bool false, .int .i64 0, .int .i64 0, .bool false, .int .i64 0, .bool false, .bool false, .int .i64 0, .int .i64 0, .bool false, .int .i64 0, .bool false, .bool false, .int .i64 0, .int .i64 0, .bool false, .int .i64 0, .bool false, .bool false, .int .i64 0, .int .i64 0, .bool false, .int .i64 0, .bool false, .bool false, .int .i64 0, .int .i64 0, .bool false, .int .i64 0, .bool false, .bool false, .int .i64 0, .int .i64 0, .bool false, .int .i64 0, .bool false, .bool false, .int .i64 0, .int .i64 0, .bool false, .int .i64 0, .bool false, .bool false, .int .i64 0, .int .i64 0, .bool false, .int .i64 0, .bool false, .bool false, .int .i64 0, .int .i64 0, .bool false, .int .i64 0, .bool false, .bool false, .int .i64 0, .int .i64 0, .bool false]) w := by kernel_rfl
/-! ### a whole row is stored -/
def setAll (cs : Array Value) (o : Nat) : List Value → Array Value
  | [] => cs
  | v :: r => setAll (cs.setIfInBounds o v) (o + 1) r
theorem setAll_blk {b : Nat} {t : TypeId} : ∀ (vs : List Value) (o : Nat) (w : World) (cs : Array Value), w.heap[b]? = some (.cells cs t (0, 0)) → (w.setCells b o vs).heap[b]? = some (.cells (setAll cs o vs) t (0, 0))
  | [], _, _, _, h => h
  | v :: r, o, w, cs, h => setAll_blk r (o + 1) _ _ (blk_set h o v)
theorem setAll_other {b k : Nat} (hk : k ≠ b) : ∀ (vs : List Value) (o : Nat) (w : World), (w.setCells b o vs).heap[k]? = w.heap[k]?
  | [], _, _ => rfl
  | v :: r, o, w => (setAll_other hk r (o + 1) _).trans (Below.heap_setCell w _ v k hk)
theorem setAll_size : ∀ (vs : List Value) (o : Nat) (cs : Array Value), (setAll cs o vs).size = cs.size
  | [], _, _ => rfl
  | v :: r, o, cs => by rw [setAll, setAll_size r]; simp
theorem setAll_get : ∀ (vs : List Value) (o : Nat) (cs : Array Value) (i : Nat), o + vs.length ≤ cs.size → (setAll cs o vs)[i]? = if o ≤ i ∧ i < o + vs.length then vs[i - o]? else cs[i]?
  | [], o, cs, i, _ => by rw [if_neg (by simp)]; rfl
  | v :: r, o, cs, i, h => by
    rw [List.length_cons] at h
    rw [setAll, setAll_get r (o + 1) _ i (by simp; omega), List.length_cons]
    by_cases h1 : i = o
    · subst h1
      rw [if_neg (by omega), if_pos (by omega), Nat.sub_self, Array.getElem?_setIfInBounds_self_of_lt (by omega)]
      rfl
    · by_cases h2 : o + 1 ≤ i ∧ i < o + 1 + r.length
      · rw [if_pos h2, if_pos (by omega), show i - o = (i - (o + 1)) + 1 by omega]
        rfl
      · rw [if_neg h2, if_neg (by omega), Array.getElem?_setIfInBounds_ne (by omega)]
theorem setAll_whole (vs : List Value) (cs : Array Value) (h : cs.size = vs.length) : setAll cs 0 vs = vs.toArray := by
  apply Array.ext_getElem?
  intro i
  rw [setAll_get vs 0 cs i (by omega)]
  by_cases hi : i < vs.length
  · rw [if_pos (by omega)]; simp
  · rw [if_neg (by omega), Array.getElem?_eq_none (by omega), Array.getElem?_eq_none (by simpa using hi)]
theorem setCells_tail {b : Nat} : ∀ (vs : List Value) (o : Nat) (w : World), (w.setCells b o vs).os = w.os ∧ (w.setCells b o vs).tape = w.tape ∧ (w.setCells b o vs).output = w.output ∧ (w.setCells b o vs).heap.size = w.heap.size
  | [], _, _ => ⟨rfl, rfl, rfl, rfl⟩
  | v :: r, o, w => by
    obtain ⟨h1, h2, h3, h4⟩ := setCells_tail r (o + 1) (w.setCell ⟨b, o, none⟩ v)
    exact ⟨h1.trans rfl, h2.trans rfl, h3.trans rfl, h4.trans (by simp)⟩
section
variable {P : Program} {ops : Array Oper} {rest : List Oper} {o : Oper} {a : Act} {Q : Exit → Act → World → Prop}
theorem list_val {w : World} (hgd : o.guard = none) (v : Value) (hrun : (execOp a.eval o).run P w = .ok (.value v) w) (h : wpList P ops Q rest (a.put o.dst v) w) : wpList P ops Q (o :: rest) a w := by
  refine wpList_plain hgd fun K hK => ?_
  unfold Oper.wp
  rw [hrun]
  exact hK _ _ h
theorem list_store {w : World} (hgd : o.guard = none) (hdn : o.dst = none) (ty : TypeId) (p x : Operand) (ho : o.op = .store ty p x) (g : Nat) (hp : a.eval p = .pointer (some ⟨g, 0, none⟩)) (t : TypeId) (cs vs : Array Value) (hx : a.eval x = .agg vs)
    (hg : w.heap[g]? = some (.cells cs t (0, 0))) (hi : (P.info? ty).map (·.size) = some vs.size) (hs : cs.size = vs.size) (h1 : vs.toList.all Value.oneCell' = true)
    (h : ∀ w', w'.heap[g]? = some (.cells vs t (0, 0)) → w.grownBy w' (some g) → wpList P ops Q rest a w') : wpList P ops Q (o :: rest) a w := by
  cases hq : P.info? ty with
  | none => simp [hq] at hi
  | some i =>
    have hsz : i.size = vs.size := by simpa [hq] using hi
    have hrun := run_storeCells_cells (P := P) g 0 vs.toList 0 w (fun j hj => by
      rw [show 0 + 0 + j = j by omega, blk_cell hg]
      simp at hj
      rw [Array.getElem?_eq_getElem (by omega)]; rfl) (fun j _ => blk_frozen hg _) (fun v hv => List.all_eq_true.1 h1 v hv)
    have hst : (storeVar ty ⟨g, 0, none⟩ (.agg vs)).run P w = .ok () (w.setCells g 0 vs.toList) := by
      simp [storeVar, sizeOf, typeInfo, hq, hsz, Value.cells, Sem.run_bind] at hrun ⊢
      exact hrun
    have hb := setAll_blk vs.toList 0 w cs hg
    rw [setAll_whole _ _ (by simpa using hs)] at hb
    obtain ⟨e1, e2, e3, e4⟩ := setCells_tail (b := g) vs.toList 0 w
    refine wpList_plain hgd fun K hK' => ?_
    unfold Oper.wp
    simp [execOp, ho, hp, hx, Instr.storeAt, Instr.sureAddr, hst, Result.andThen, Sem.run_bind]
    show K (a.put o.dst undef) _
    rw [hdn]
    exact hK' _ _ (h _ (by simpa using hb) ⟨e1, e2, e3, by omega, fun k _ hk => setAll_other (fun e => hk (by rw [e])) _ _ _⟩)
end
set_option maxRecDepth 100000 in
theorem res_forms (tmps : Array Value) (w : World) (g : Nat) (h0 : tmps.getD 0 undef = .pointer (some ⟨g, 0, none⟩)) (hg : w.heap[g]? = some (.cells #[.int .i64 0, .bool false, .bool false, .int .i64 0, .int .i64 0, .bool false, .int .i64 0, .bool false, .bool false, .int .i64 0, .int .i64 7, .bool true, .int .i64 1, .bool true, .bool false, .int .i64 0, .int .i64 0, .bool false, .int .i64 1, .bool true, .bool false, .int .i64 0, .int .i64 0, .bool false, .int .i64 1, .bool true, .bool false, .int .i64 0, .int .i64 0, .bool false, .int .i64 1, .bool true, .bool false, .int .i64 0, .int .i64 0, .bool false, .int .i64 1, .bool true, .bool true, .int .i64 0, .int .i64 0, .bool false, .int .i64 1, .bool true, .bool true, .int .i64 1, .int .i64 1048576, .bool false, .int .i64 1, .bool true, .bool true, .int .i64 1, .int .i64 1048576, .bool false, .int .i64 2, .bool true, .bool true, .int .i64 0, .int .i64 0, .bool false, .int .i64 1, .bool false, .bool false, .int .i64 0, .int .i64 7, .bool true] 72 (0, 0))) : (results Try.f33 tmps).run Try.prog w = .ok formsV w := by
  have h := results_cell_row (P := Try.prog) Try.results33 tmps w g _ _ (0, 0) _ h0 hg Try.underlying72 rfl (by kernel_rfl)
  exact h
set_option maxHeartbeats 4000000 in
set_option maxRecDepth 100000 in
theorem forms_ok (w : World) : Calls Try.prog 33 #[] w fun e w' => e = .returned formsV ∧ Below w.heap.size w w' := by
  have hz_ := zeroF
  go_enter Try.func33, Try.ntmps33
  go_upto_region 1 with fail
  have B0 := Aside0.mk (blk_new w (.cells #[.int .i64 0, .bool false, .bool false, .int .i64 0, .int .i64 0, .bool false, .int .i64 0, .bool false, .bool false, .int .i64 0, .int .i64 0, .bool false, .int .i64 0, .bool false, .bool false, .int .i64 0, .int .i64 0, .bool false, .int .i64 0, .bool false, .bool false, .int .i64 0, .int .i64 0, .bool false, .int .i64 0, .bool false, .bool false, .int .i64 0, .int .i64 0, .bool false, .int .i64 0, .bool false, .bool false, .int .i64 0, .int .i64 0, .bool false, .int .i64 0, .bool false, .bool false, .int .i64 0, .int .i64 0, .bool false, .int .i64 0, .bool false, .bool false, .int .i64 0, .int .i64 0, .bool false, .int .i64 0, .bool false, .bool false, .int .i64 0, .int .i64 0, .bool false, .int .i64 0, .bool false, .bool false, .int .i64 0, .int .i64 0, .bool false, .int .i64 0, .bool false, .bool false, .int .i64 0, .int .i64 0, .bool false] 72))
  have HB := Aside0.mk (below_alloc (Below.refl w.heap.size w) (.cells #[.int .i64 0, .bool false, .bool false, .int .i64 0, .int .i64 0, .bool false, .int .i64 0, .bool false, .bool false, .int .i64 0, .int .i64 0, .bool false, .int .i64 0, .bool false, .bool false, .int .i64 0, .int .i64 0, .bool false, .int .i64 0, .bool false, .bool false, .int .i64 0, .int .i64 0, .bool false, .int .i64 0, .bool false, .bool false, .int .i64 0, .int .i64 0, .bool false, .int .i64 0, .bool false, .bool false, .int .i64 0, .int .i64 0, .bool false, .int .i64 0, .bool false, .bool false, .int .i64 0, .int .i64 0, .bool false, .int .i64 0, .bool false, .bool false, .int .i64 0, .int .i64 0, .bool false, .int .i64 0, .bool false, .bool false, .int .i64 0, .int .i64 0, .bool false, .int .i64 0, .bool false, .bool false, .int .i64 0, .int .i64 0, .bool false, .int .i64 0, .bool false, .bool false, .int .i64 0, .int .i64 0, .bool false] 72))
  generalize w.alloc (.cells #[.int .i64 0, .bool false, .bool false, .int .i64 0, .int .i64 0, .bool false, .int .i64 0, .bool false, .bool false, .int .i64 0, .int .i64 0, .bool false, .int .i64 0, .bool false, .bool false, .int .i64 0, .int .i64 0, .bool false, .int .i64 0, .bool false, .bool false, .int .i64 0, .int .i64 0, .bool false, .int .i64 0, .bool false, .bool false, .int .i64 0, .int .i64 0, .bool false, .int .i64 0, .bool false, .bool false, .int .i64 0, .int .i64 0, .bool false, .int .i64 0, .bool false, .bool false, .int .i64 0, .int .i64 0, .bool false, .int .i64 0, .bool false, .bool false, .int .i64 0, .int .i64 0, .bool false, .int .i64 0, .bool false, .bool false, .int .i64 0, .int .i64 0, .bool false, .int .i64 0, .bool false, .bool false, .int .i64 0, .int .i64 0, .bool false, .int .i64 0, .bool false, .bool false, .int .i64 0, .int .i64 0, .bool false] 72) = w1 at B0 HB ⊢
  obtain ⟨g, HG⟩ : ∃ g, Aside0 (w.heap.size = g) := ⟨_, ⟨rfl⟩⟩
  rw [HG.out] at B0 ⊢
  have hlt := HB.out.size
  clear hz_
  go_upto_region 2 with fail
  replace B0 := Aside0.mk (blk_alloc B0.out (.cells #[.int .i64 1, .bool true, .bool false, .int .i64 0, .int .i64 0, .bool false] 71))
  have B1 := Aside0.mk (blk_new w1 (.cells #[.int .i64 1, .bool true, .bool false, .int .i64 0, .int .i64 0, .bool false] 71))
  replace HB := Aside0.mk (below_alloc HB.out (.cells #[.int .i64 1, .bool true, .bool false, .int .i64 0, .int .i64 0, .bool false] 71))
  generalize w1.alloc (.cells #[.int .i64 1, .bool true, .bool false, .int .i64 0, .int .i64 0, .bool false] 71) = w2 at B0 B1 HB ⊢
  generalize w1.heap.size = g1 at B1 ⊢
  go_upto_region 3 with fail
  replace B0 := Aside0.mk (blk_alloc B0.out (.cells #[.int .i64 1, .bool true, .bool true, .int .i64 1, .int .i64 1048576, .bool false] 71))
  replace B1 := Aside0.mk (blk_alloc B1.out (.cells #[.int .i64 1, .bool true, .bool true, .int .i64 1, .int .i64 1048576, .bool false] 71))
  have B2 := Aside0.mk (blk_new w2 (.cells #[.int .i64 1, .bool true, .bool true, .int .i64 1, .int .i64 1048576, .bool false] 71))
  replace HB := Aside0.mk (below_alloc HB.out (.cells #[.int .i64 1, .bool true, .bool true, .int .i64 1, .int .i64 1048576, .bool false] 71))
  generalize w2.alloc (.cells #[.int .i64 1, .bool true, .bool true, .int .i64 1, .int .i64 1048576, .bool false] 71) = w3 at B0 B1 B2 HB ⊢
  generalize w2.heap.size = g2 at B2 ⊢
  iterate 4 go_step
  refine wpList_load_row rfl 71 (.tmp 1) rfl g1 rfl 71 _ (0, 0) _ B1.out Try.underlying71 rfl (by kernel_rfl) ?_
  refine wpList_load_row rfl 71 (.tmp 1) rfl g1 rfl 71 _ (0, 0) _ B1.out Try.underlying71 rfl (by kernel_rfl) ?_
  refine wpList_load_row rfl 71 (.tmp 1) rfl g1 rfl 71 _ (0, 0) _ B1.out Try.underlying71 rfl (by kernel_rfl) ?_
  refine wpList_load_row rfl 71 (.tmp 1) rfl g1 rfl 71 _ (0, 0) _ B1.out Try.underlying71 rfl (by kernel_rfl) ?_
  simp only [Act.put, List.setIfInBounds_toArray, List.set_cons_zero, List.set_cons_succ]
  iterate 3 go_step
  refine wpList_load_row rfl 71 (.tmp 2) rfl g2 rfl 71 _ (0, 0) _ B2.out Try.underlying71 rfl (by kernel_rfl) ?_
  refine wpList_load_row rfl 71 (.tmp 2) rfl g2 rfl 71 _ (0, 0) _ B2.out Try.underlying71 rfl (by kernel_rfl) ?_
  simp only [Act.put, List.setIfInBounds_toArray, List.set_cons_zero, List.set_cons_succ]
  iterate 6 go_step
  refine list_val rfl (.agg #[.int .i64 0, .bool false, .bool false, .int .i64 0, .int .i64 0, .bool false, .int .i64 0, .bool false, .bool false, .int .i64 0, .int .i64 7, .bool true, .int .i64 1, .bool true, .bool false, .int .i64 0, .int .i64 0, .bool false, .int .i64 1, .bool true, .bool false, .int .i64 0, .int .i64 0, .bool false, .int .i64 1, .bool true, .bool false, .int .i64 0, .int .i64 0, .bool false, .int .i64 1, .bool true, .bool false, .int .i64 0, .int .i64 0, .bool false, .int .i64 1, .bool true, .bool true, .int .i64 0, .int .i64 0, .bool false, .int .i64 1, .bool true, .bool true, .int .i64 1, .int .i64 1048576, .bool false, .int .i64 1, .bool true, .bool true, .int .i64 1, .int .i64 1048576, .bool false, .int .i64 2, .bool true, .bool true, .int .i64 0, .int .i64 0, .bool false, .int .i64 1, .bool false, .bool false, .int .i64 0, .int .i64 7, .bool true]) (by kernel_rfl) ?_
  refine list_store rfl rfl 72 (.tmp 0) (.tmp 15) rfl g rfl 72 _ _ rfl B0.out (by kernel_rfl) rfl (by kernel_rfl) ?_
  intro w4 hk_ hg_
  replace HB := Aside0.mk (HB.out.grown hg_ HB.out.size (fun k hk => by cases hk; rw [← HG.out]; exact Nat.le_refl _))
  go_wp2
  refine bodyPost_ret (v := formsV) (res_forms _ w4 g rfl hk_) rfl ⟨rfl, HB.out⟩
end Go.Proofs.Yteanncfmaomhaaa.Ex
