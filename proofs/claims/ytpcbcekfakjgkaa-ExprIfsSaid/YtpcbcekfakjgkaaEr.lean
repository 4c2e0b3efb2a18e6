/- Expressions as values: what they read as; those that a statement makes. -/
import Derived.Test.YtpcbcekfakjgkaaExEval
import Derived.Test.YtpcbcekfakjgkaaMono
namespace Go.Proofs.Ytpcbcekfakjgkaa.Ex
open Go Go.RowKit Go.Proofs.YtpcbcekfakjgkaaW.PrintWords Go.Proofs.YtpcbcekfakjgkaaW.PrintLast Go.Proofs.YtpcbcekfakjgkaaW.PrintMore Go.Proofs.Ytpcbcekfakjgkaa.Mono
set_option linter.unusedVariables false
set_option linter.unusedSimpArgs false
/-- A value that reads as an expression. -/
def ER (w : World) (v : Value) (e : E) : Prop := ∃ A c, v = .agg #[.int .i64 e.f0, .int .i64 e.f1, .slice A e.f2.length c] ∧ e.f2.length ≤ c ∧ Kd.C k27 w A e.f2.length e.f2
theorem ER.below {w w2 : World} {v : Value} {e : E} (h : ER w v e) (hb : Below w.heap.size w w2) : ER w2 v e := by
  obtain ⟨A, c, h1, h2, h3⟩ := h
  exact ⟨A, c, h1, h2, Kd.C_below h3 hb⟩
theorem ER.leaf (w : World) (op n : Int) : ER w (.agg #[.int .i64 op, .int .i64 n, .slice none 0 0]) ⟨op, n, []⟩ := ⟨none, 0, rfl, Nat.le_refl _, Kd.C_nil _ _⟩
theorem reps_cons {α : Type} {R : α → List Value → Prop} {size : Nat} {ps : List α} {cs c : List Value} {p : α} (h : Reps R size ps cs) (hp : R p c) (hc : c.length = size) : Reps R size (p :: ps) (c ++ cs) := by
  refine ⟨by rw [List.length_append, h.1, hc, List.length_cons, Nat.succ_mul, Nat.add_comm], fun j q hq => ?_⟩
  cases j with
  | zero =>
    have : p = q := by simpa using hq
    subst this
    rw [Nat.zero_mul, List.drop_zero, ← hc, List.take_left]
    exact hp
  | succ j =>
    have h2 := h.2 j q (by simpa using hq)
    have : (c ++ cs).drop ((j + 1) * size) = cs.drop (j * size) := by
      rw [Nat.succ_mul, Nat.add_comm, ← hc, ← List.drop_drop, List.drop_left]
    rw [this]
    exact h2
/-- Elements one behind the other in a new block. -/
theorem C_of_lit {α : Type} (d : Kd α) (w : World) (t : TypeId) (ps : List α) (cs : List Value) (h : Reps (d.K w) d.sz ps cs) (hm : ps.length ≤ 9223372036854775807) : Kd.C d (w.alloc (.cells cs.toArray t)) (some ⟨w.heap.size, 0, none⟩) ps.length ps := by
  refine ⟨rfl, hm, fun _ => ⟨_, rfl, fun j p hj => ?_⟩⟩
  have hj2 : j < ps.length := (List.getElem?_eq_some_iff.1 hj).1
  have hK := h.2 j p hj
  refine ⟨_, d.K_len hK, d.K_below (below_alloc (Below.refl _ _) _) hK, fun i u hu => ?_⟩
  have hi : i < d.sz := by
    have := (List.getElem?_eq_some_iff.1 hu).1
    rw [d.K_len hK] at this
    exact this
  rw [add_plain, cell_of_row _ _ _ _ _ _ (heap_alloc_new w _)]
  rw [List.getElem?_take_of_lt hi, List.getElem?_drop] at hu
  simpa using hu
theorem C_of_blk {α : Type} (d : Kd α) (w : World) (g : Nat) (t : TypeId) (ps : List α) (cs : List Value) (hb : w.heap[g]? = some (.cells cs.toArray t (0, 0))) (h : Reps (d.K w) d.sz ps cs) (hm : ps.length ≤ 9223372036854775807) : Kd.C d w (some ⟨g, 0, none⟩) ps.length ps := by
  refine ⟨rfl, hm, fun _ => ⟨_, rfl, fun j p hj => ?_⟩⟩
  have hK := h.2 j p hj
  refine ⟨_, d.K_len hK, hK, fun i u hu => ?_⟩
  have hi : i < d.sz := by
    have := (List.getElem?_eq_some_iff.1 hu).1
    rw [d.K_len hK] at this
    exact this
  rw [add_plain, cell_of_row _ _ _ _ _ _ hb]
  rw [List.getElem?_take_of_lt hi, List.getElem?_drop] at hu
  simpa using hu
theorem lit_ER (w : World) (op n : Int) (es : List E) (cells : List Value) (h : Reps (Kd.K k27 w) 3 es cells) (hm : es.length ≤ 9223372036854775807) : ER (w.alloc (.cells cells.toArray 27)) (.agg #[.int .i64 op, .int .i64 n, .slice (some ⟨w.heap.size, 0, none⟩) es.length es.length]) ⟨op, n, es⟩ :=
  ⟨_, _, rfl, Nat.le_refl _, C_of_lit k27 w 27 es cells h hm⟩
/-- One element more ahead. -/
theorem rep_E {w : World} {es : List E} {cells : List Value} (x : E) (A : Option Addr) (c : Nat) (h : Reps (Kd.K k27 w) 3 es cells) (hl : x.f2.length ≤ c) (hC : Kd.C k27 w A x.f2.length x.f2) : Reps (Kd.K k27 w) 3 (x :: es) (.int .i64 x.f0 :: .int .i64 x.f1 :: .slice A x.f2.length c :: cells) :=
  reps_cons (c := [.int .i64 x.f0, .int .i64 x.f1, .slice A x.f2.length c]) h (k27_mk w x hl hC) rfl
theorem rep_leaf {w : World} {es : List E} {cells : List Value} (op n : Int) (h : Reps (Kd.K k27 w) 3 es cells) : Reps (Kd.K k27 w) 3 ((⟨op, n, []⟩ : E) :: es) (.int .i64 op :: .int .i64 n :: .slice none 0 0 :: cells) :=
  rep_E ⟨op, n, []⟩ none 0 h (Nat.le_refl _) (Kd.C_nil _ _)
theorem ER.cells {w : World} {v : Value} {e : E} (h : ER w v e) : ∃ cs, v.cells = cs.toArray ∧ Kd.K k27 w e cs ∧ cs.length = 3 := by
  obtain ⟨A, c, h1, h2, h3⟩ := h
  refine ⟨[.int .i64 e.f0, .int .i64 e.f1, .slice A e.f2.length c], by rw [h1]; rfl, k27_mk w e h2 h3, rfl⟩
theorem con_is (n : Int) (w : World) : Calls Try.prog 16 #[.int .i64 n] w fun e w' => e = .returned (.agg #[.int .i64 1, .int .i64 n, .slice none 0 0]) ∧ Below w.heap.size w w' := by
  go_enter Try.func16, Try.ntmps16
  go_wp2
  refine bodyPost_ret (v := .agg #[.int .i64 1, .int .i64 n, .slice none 0 0]) (by simp [results, Try.results16, go_sem]) rfl ?_
  exact ⟨rfl, by repeat (first | exact Below.refl _ _ | apply below_alloc)⟩
theorem con_ER (n : Int) (w : World) : Calls Try.prog 16 #[.int .i64 n] w fun e w' => ∃ v, e = .returned v ∧ ER w' v ⟨1, n, []⟩ ∧ Below w.heap.size w w' := by
  go_enter Try.func16, Try.ntmps16
  go_wp2
  refine bodyPost_ret (v := .agg #[.int .i64 1, .int .i64 n, .slice none 0 0]) (by simp [results, Try.results16, go_sem]) rfl ?_
  exact ⟨_, rfl, ER.leaf _ _ _, by repeat (first | exact Below.refl _ _ | apply below_alloc)⟩
set_option maxHeartbeats 1000000 in
theorem two_ER (op : Int) (va vb : Value) (a b : E) (w : World) (ha : ER w va a) (hb : ER w vb b) : Calls Try.prog 11 #[.int .i64 op, va, vb] w fun e w' => ∃ v, e = .returned v ∧ ER w' v ⟨op, 0, [a, b]⟩ ∧ Below w.heap.size w w' := by
  have HA := Aside0.mk ha
  have HB := Aside0.mk hb
  obtain ⟨A1, c1, rfl, l1, r1⟩ := ha
  obtain ⟨A2, c2, rfl, l2, r2⟩ := hb
  clear l1 r1 l2 r2
  go_enter Try.func11, Try.ntmps11
  go_wp2
  refine bodyPost_ret (v := .agg #[.int .i64 op, .int .i64 0, .slice (some ⟨w.heap.size + 1 + 1 + 1, 0, none⟩) 2 2]) (by simp [results, Try.results11, go_sem]) rfl ?_
  refine ⟨_, rfl, ⟨some ⟨w.heap.size + 1 + 1 + 1, 0, none⟩, 2, rfl, Nat.le_refl _, ?_⟩, below_alloc (below_alloc (below_alloc (below_alloc (Below.refl _ _) _) _) _) _⟩
  generalize hW : ((w.alloc (.cells #[.int .i64 a.f0, .int .i64 a.f1, .slice A1 a.f2.length c1] 27)).alloc (.cells #[.int .i64 b.f0, .int .i64 b.f1, .slice A2 b.f2.length c2] 27)).alloc (.cells #[.int .i64 op, .int .i64 0, .slice (some ⟨w.heap.size + 1 + 1 + 1, 0, none⟩) 2 2] 27) = W
  have hsz : W.heap.size = w.heap.size + 1 + 1 + 1 := by rw [← hW]; simp
  have hbl : Below w.heap.size w W := by rw [← hW]; exact below_alloc (below_alloc (below_alloc (Below.refl _ _) _) _) _
  obtain ⟨A1', c1', e1, l1, r1⟩ := HA.out.below hbl
  obtain ⟨A2', c2', e2, l2, r2⟩ := HB.out.below hbl
  injection e1 with e1
  injection e2 with e2
  simp at e1 e2
  obtain ⟨rfl, rfl⟩ := e1
  obtain ⟨rfl, rfl⟩ := e2
  have h3 := C_of_lit k27 W 27 [a, b] ([.int .i64 a.f0, .int .i64 a.f1, .slice A1 a.f2.length c1] ++ ([.int .i64 b.f0, .int .i64 b.f1, .slice A2 b.f2.length c2] ++ [])) (reps_cons (reps_cons (Reps.none _ _) (k27_mk W b l2 r2) rfl) (k27_mk W a l1 r1) rfl) (by simp)
  rw [hsz] at h3
  exact h3
theorem eval_ER (v : Value) (e : E) (ky vl tm ac : Int) (r : Int × Int) (w : World) (h : ER w v e) (hr : evalOf e ky vl tm ac = r) :
    Calls Try.prog 12 #[v, .agg #[.int .i64 ky, .int .i64 vl, .int .i64 tm], .int .i64 ac] w fun e w' => e = .returned (.tuple #[.int .i64 r.1, .int .i64 r.2]) ∧ Below w.heap.size w w' := by
  obtain ⟨op, n, l⟩ := e
  obtain ⟨A, c, rfl, h2, h3⟩ := h
  obtain ⟨r1, r2⟩ := r
  exact expr_Eval.calls op n A c l ky vl tm ac r1 r2 w h3 h2 (by unfold expr_Eval.f; exact congrArg some hr)
end Go.Proofs.Ytpcbcekfakjgkaa.Ex
