/- Expressions as values: what they read as; those that a statement makes. -/
import Derived.Test.YtpcbcekfakjgkaaExEval
import Derived.Test.YtpcbcekfakjgkaaMono
namespace Go.Proofs.Ytpcbcekfakjgkaa.Ex
open Go Go.RowKit Go.Proofs.YtpcbcekfakjgkaaW.PrintWords Go.Proofs.YtpcbcekfakjgkaaW.PrintLast Go.Proofs.YtpcbcekfakjgkaaW.PrintMore Go.Proofs.Ytpcbcekfakjgkaa.Mono
set_option linter.unusedVariables false
set_option linter.unusedSimpArgs false
/-- A value that reads as an expression. -/
def ER (w : World) (v : Value) (e : E) : Prop := ∃ A c, v = .agg #[.int .i64 e.f0, .int .i64 e.f1, .slice A e.f2.length c] ∧ e.f2.length ≤ c ∧ Kd.C k27 w A e.f2.length e.f2
theorem ER.below {w w2 : World} {v : Value} {e : E} (h : ER w v e) (hb : Below w.heap.size w w2) : ER w2 v e := by
  obtain ⟨A, c, h1, h2, h3⟩ := h
  exact ⟨A, c, h1, h2, Kd.C_below h3 hb⟩
theorem ER.leaf (w : World) (op n : Int) : ER w (.agg #[.int .i64 op, .int .i64 n, .slice none 0 0]) ⟨op, n, []⟩ := ⟨none, 0, rfl, Nat.le_refl _, Kd.C_nil _ _⟩
theorem reps_cons {α : Type} {R : α → List Value → Prop} {size : Nat} {ps : List α} {cs c : List Value} {p : α} (h : Reps R size ps cs) (hp : R p c) (hc : c.length = size) : Reps R size (p :: ps) (c ++ cs) := by
  refine ⟨by rw [List.length_append, h.1, hc, List.length_cons, Nat.succ_mul, Nat.add_comm], fun j q hq => ?_⟩
  cases j with
  | zero =>
    have : p = q := by simpa using hq
    subst this
    rw [Nat.zero_mul, List.drop_zero, ← hc, List.take_left]
    exact hp
  | succ j =>
    have h2 := h.2 j q (by simpa using hq)
    have : (c ++ cs).drop ((j + 1) * size) = cs.drop (j * size) := by
      rw [Nat.succ_mul, Nat.add_comm, ← hc, ← List.drop_drop, List.drop_left]
    rw [this]
    exact h2
/-- Elements one behind the other in a new block. -/
theorem C_of_lit {α : Type} (d : Kd α) (w : World) (t : TypeId) (ps : List α) (cs : List Value) (h : Reps (d.K w) d.sz ps cs) (hm : ps.length ≤ 9223372036854775807) : Kd.C d (w.alloc (.cells cs.toArray t)) (some ⟨w.heap.size, 0, none⟩) ps.length ps := by
  refine ⟨rfl, hm, fun _ => ⟨_, rfl, fun j p hj => ?_⟩⟩
  have hj2 : j < ps.length := (List.getElem?_eq_some_iff.1 hj).1
  have hK := h.2 j p hj
  refine ⟨_, d.K_len hK, d.K_below (below_alloc (Below.refl _ _) _) hK, fun i u hu => ?_⟩
  have hi : i < d.sz := by
    have := (List.getElem?_eq_some_iff.1 hu).1
    rw [d.K_len hK] at this
    exact this
  rw [add_plain, cell_of_row _ _ _ _ _ _ (heap_alloc_new w _)]
  rw [List.getElem?_take_of_lt hi, List.getElem?_drop] at hu
  simpa using hu
theorem C_of_blk {α : Type} (d : Kd α) (w : World) (g : Nat) (t : TypeId) (ps : List α) (cs : List Value) (hb : w.heap[g]? = some (.cells cs.toArray t (0, 0))) (h : Reps (d.K w) d.sz ps cs) (hm : ps.length ≤ 9223372036854775807) : Kd.C d w (some ⟨g, 0, none⟩) ps.length ps := by
  refine ⟨rfl, hm, fun _ => ⟨_, rfl, fun j p hj => ?_⟩⟩
  have hK := h.2 j p hj
  refine ⟨_, d.K_len hK, hK, fun i u hu => ?_⟩
  have hi : i < d.sz := by
    have := (List.getElem?_eq_some_iff.1 hu).1
    rw [d.K_len hK] at this
    exact this
  rw [add_plain, cell_of_row _ _ _ _ _ _ hb]
  rw [List.getElem?_take_of_lt hi, List.getElem?_drop] at hu
  simpa using hu
theorem lit_ER (w : World) (op n : Int) (es : List E) (cells : List Value) (h : Reps (Kd.K k27 w) 3 es cells) (hm : es.length ≤ 9223372036854775807) : ER (w.alloc (.cells cells.toArray 27)) (.agg #[.int .i64 op, .int .i64 n, .slice (some ⟨w.heap.size, 0, none⟩) es.length es.length]) ⟨op, n, es⟩ :=
  ⟨_, _, rfl, Nat.le_refl _, C_of_lit k27 w 27 es cells h hm⟩
/-- One element more ahead. -/
theorem rep_E {w : World} {es : List E} {cells : List Value} (x : E) (A : Option Addr) (c : Nat) (h : Reps (Kd.K k27 w) 3 es cells) (hl : x.f2.length ≤ c) (hC : Kd.C k27 w A x.f2.length x.f2) : Reps (Kd.K k27 w) 3 (x :: es) (.int .i64 x.f0 :: .int .i64 x.f1 :: .slice A x.f2.length c :: cells) :=
  reps_cons (c := [.int .i64 x.f0, .int .i64 x.f1, .slice A x.f2.length c]) h (k27_mk w x hl hC) rfl
theorem rep_leaf {w : World} {es : List E} {cells : List Value} (op n : Int) (h : Reps (Kd.K k27 w) 3 es cells) : Reps (Kd.K k27 w) 3 ((⟨op, n, []⟩ : E) :: es) (.int .i64 op :: .int .i64 n :: .slice none 0 0 :: cells) :=
  rep_E ⟨op, n, []⟩ none 0 h (Nat.le_refl _) (Kd.C_nil _ _)
theorem ER.cells {w : World} {v : Value} {e : E} (h : ER w v e) : ∃ cs, v.cells = cs.toArray ∧ Kd.K k27 w e cs ∧ cs.length = 3 := by
  obtain ⟨A, c, h1, h2, h3⟩ := h
  refine ⟨[.int .i64 e.f0, .int .i64 e.f1, .slice A e.f2.length c], by rw [h1]; rfl, k27_mk w e h2 h3, rfl⟩
theorem con_is (n : Int) (w : World) : Calls Try.prog 16 #[.int .i64 n] w fun e w' => e = .returned (.agg #[.int .i64 1, .int .i64 n, .slice none 0 0]) ∧ Below w.heap.size w w' := by
  go_enter Try.func16, Try.ntmps16
  go_wp2
  refine bodyPost_ret (v := .agg #[.int .i64 1, .int .i64 n, .slice none 0 0]) (by simp [results, Try.results16, go_sem]) rfl ?_
  exact ⟨rfl, by repeat (first | exact Below.refl _ _ | apply below_alloc)⟩
theorem con_ER (n : Int) (w : World) : Calls Try.prog 16 #[.int .i64 n] w fun e w' => ∃ v, e = .returned v ∧ ER w' v ⟨1, n, []⟩ ∧ Below w.heap.size w w' := by
  go_enter Try.func16, Try.ntmps16
  go_wp2
  refine bodyPost_ret (v := .agg #[.int .i64 1, .int .i64 n, .slice none 0 0]) (by simp [results, Try.results16, go_sem]) rfl ?_
  exact ⟨_, rfl, ER.leaf _ _ _, by repeat (first | exact Below.refl _ _ | apply below_alloc)⟩
set_option maxHeartbeats 1000000 in
theorem two_is (op x0 x1 y0 y1 : Int) (A1 A2 : Option Addr) (n1 c1 n2 c2 : Nat) (w : World) : Calls Try.prog 11 #[.int .i64 op, .agg #[.int .i64 x0, .int .i64 x1, .slice A1 n1 c1], .agg #[.int .i64 y0, .int .i64 y1, .slice A2 n2 c2]] w fun e w' => ∃ g, e = .returned (.agg #[.int .i64 op, .int .i64 0, .slice (some ⟨g, 0, none⟩) 2 2]) ∧ w.heap.size ≤ g ∧ w'.heap[g]? = some (.cells #[.int .i64 x0, .int .i64 x1, .slice A1 n1 c1, .int .i64 y0, .int .i64 y1, .slice A2 n2 c2] 27 (0, 0)) ∧ Below w.heap.size w w' := by
  go_enter Try.func11, Try.ntmps11
  go_wp2
  refine bodyPost_ret (v := .agg #[.int .i64 op, .int .i64 0, .slice (some ⟨w.heap.size + 1 + 1 + 1, 0, none⟩) 2 2]) (by simp [results, Try.results11, go_sem]) rfl ?_
  refine ⟨_, rfl, by omega, ?_, below_alloc (below_alloc (below_alloc (below_alloc (Below.refl _ _) _) _) _) _⟩
  generalize hW : ((w.alloc (.cells #[.int .i64 x0, .int .i64 x1, .slice A1 n1 c1] 27)).alloc (.cells #[.int .i64 y0, .int .i64 y1, .slice A2 n2 c2] 27)).alloc (.cells #[.int .i64 op, .int .i64 0, .slice (some ⟨w.heap.size + 1 + 1 + 1, 0, none⟩) 2 2] 27) = W
  have hsz : W.heap.size = w.heap.size + 1 + 1 + 1 := by rw [← hW]; simp
  rw [← hsz]
  exact blk_new _ _
theorem two_C {w : World} {g : Nat} {a b : E} {A1 A2 : Option Addr} {c1 c2 : Nat} (hb : w.heap[g]? = some (.cells #[.int .i64 a.f0, .int .i64 a.f1, .slice A1 a.f2.length c1, .int .i64 b.f0, .int .i64 b.f1, .slice A2 b.f2.length c2] 27 (0, 0)))
    (l1 : a.f2.length ≤ c1) (r1 : Kd.C k27 w A1 a.f2.length a.f2) (l2 : b.f2.length ≤ c2) (r2 : Kd.C k27 w A2 b.f2.length b.f2) : Kd.C k27 w (some ⟨g, 0, none⟩) 2 [a, b] :=
  C_of_blk k27 w g 27 [a, b] _ hb (rep_E a A1 c1 (rep_E b A2 c2 (Reps.none _ _) l2 r2) l1 r1) (by simp)
theorem two_ER (op : Int) (va vb : Value) (a b : E) (w : World) (ha : ER w va a) (hb : ER w vb b) : Calls Try.prog 11 #[.int .i64 op, va, vb] w fun e w' => ∃ v, e = .returned v ∧ ER w' v ⟨op, 0, [a, b]⟩ ∧ Below w.heap.size w w' := by
  obtain ⟨A1, c1, rfl, l1, r1⟩ := ha
  obtain ⟨A2, c2, rfl, l2, r2⟩ := hb
  refine (two_is op _ _ _ _ A1 A2 _ c1 _ c2 w).mono ?_
  rintro e w2 ⟨g, rfl, _, hg, hbl⟩
  exact ⟨_, rfl, ⟨_, 2, rfl, Nat.le_refl _, two_C hg l1 (Kd.C_below r1 hbl) l2 (Kd.C_below r2 hbl)⟩, hbl⟩
/-- The same, told by the blocks that it leads to: none of them is a variable's (three cells). -/
def EF (w : World) (v : Value) (e : E) : Prop := ∃ S : Nat → Prop, (∀ k, S k → k < w.heap.size ∧ ∀ cs, w.heap[k]? = some (.cells cs 27 (0, 0)) → cs.size ≠ 3) ∧ ∀ w' : World, (∀ k, S k → w'.heap[k]? = w.heap[k]?) → ER w' v e
theorem EF.er {w : World} {v : Value} {e : E} (h : EF w v e) : ER w v e := by
  obtain ⟨S, _, h2⟩ := h
  exact h2 w (fun _ _ => rfl)
theorem EF.leaf (w : World) (op n : Int) : EF w (.agg #[.int .i64 op, .int .i64 n, .slice none 0 0]) ⟨op, n, []⟩ := ⟨fun _ => False, fun k hk => hk.elim, fun w' _ => ER.leaf w' op n⟩
theorem EF.move {w w2 : World} {v : Value} {e : E} (h : EF w v e) (hm : ∀ k, k < w.heap.size → (∀ cs, w.heap[k]? = some (.cells cs 27 (0, 0)) → cs.size ≠ 3) → w2.heap[k]? = w.heap[k]?) (hs : w.heap.size ≤ w2.heap.size) : EF w2 v e := by
  obtain ⟨S, h1, h2⟩ := h
  refine ⟨S, fun k hk => ?_, fun w' hw => h2 w' (fun k hk => ?_)⟩
  · have h3 := h1 k hk
    exact ⟨Nat.lt_of_lt_of_le h3.1 hs, fun cs hc => h3.2 cs (by rw [← hm k h3.1 h3.2]; exact hc)⟩
  · have h3 := h1 k hk
    rw [hw k hk, hm k h3.1 h3.2]
theorem EF.below {w w2 : World} {v : Value} {e : E} (h : EF w v e) (hb : Below w.heap.size w w2) : EF w2 v e := h.move (fun k hk _ => hb.block k hk) hb.size
theorem EF.set_ {w : World} {v : Value} {e : E} (h : EF w v e) {g : Nat} {cs : Array Value} (hg : w.heap[g]? = some (.cells cs 27 (0, 0))) (h3 : cs.size = 3) (j : Nat) (u : Value) : EF (w.setCell ⟨g, j, none⟩ u) v e :=
  h.move (fun k hk hn => Below.heap_setCell w _ u k (fun he => by
    have : k = g := he
    subst this
    exact hn cs hg h3)) (by simp)
theorem two_EF (op : Int) (va vb : Value) (a b : E) (w : World) (ha : EF w va a) (hb : EF w vb b) : Calls Try.prog 11 #[.int .i64 op, va, vb] w fun e w' => ∃ v, e = .returned v ∧ EF w' v ⟨op, 0, [a, b]⟩ ∧ Below w.heap.size w w' := by
  obtain ⟨S1, h1, k1⟩ := ha
  obtain ⟨S2, h2, k2⟩ := hb
  obtain ⟨A1, c1, rfl, l1, r1⟩ := k1 w (fun _ _ => rfl)
  obtain ⟨A2, c2, rfl, l2, r2⟩ := k2 w (fun _ _ => rfl)
  refine (two_is op _ _ _ _ A1 A2 _ c1 _ c2 w).mono ?_
  rintro e w2 ⟨g, rfl, hge, hg, hbl⟩
  refine ⟨_, rfl, ⟨fun k => S1 k ∨ S2 k ∨ k = g, fun k hk => ?_, fun w' hw => ?_⟩, hbl⟩
  · rcases hk with hk | hk | rfl
    · exact ⟨Nat.lt_of_lt_of_le (h1 k hk).1 hbl.size, fun cs hc => (h1 k hk).2 cs (by rw [← hbl.block k (h1 k hk).1]; exact hc)⟩
    · exact ⟨Nat.lt_of_lt_of_le (h2 k hk).1 hbl.size, fun cs hc => (h2 k hk).2 cs (by rw [← hbl.block k (h2 k hk).1]; exact hc)⟩
    · refine ⟨(Array.getElem?_eq_some_iff.1 hg).1, fun cs hc => ?_⟩
      rw [hg] at hc
      injection hc with hc
      injection hc with hc
      rw [← hc]
      simp
  · obtain ⟨A1', c1', e1, l1', r1'⟩ := k1 w' (fun k hk => (hw k (.inl hk)).trans (hbl.block k (h1 k hk).1))
    obtain ⟨A2', c2', e2, l2', r2'⟩ := k2 w' (fun k hk => (hw k (.inr (.inl hk))).trans (hbl.block k (h2 k hk).1))
    injection e1 with e1
    injection e2 with e2
    simp at e1 e2
    obtain ⟨rfl, rfl⟩ := e1
    obtain ⟨rfl, rfl⟩ := e2
    exact ⟨_, 2, rfl, Nat.le_refl _, two_C ((hw g (.inr (.inr rfl))).trans hg) l1' r1' l2' r2'⟩
theorem eval_ER (v : Value) (e : E) (ky vl tm ac : Int) (r : Int × Int) (w : World) (h : ER w v e) (hr : evalOf e ky vl tm ac = r) :
    Calls Try.prog 12 #[v, .agg #[.int .i64 ky, .int .i64 vl, .int .i64 tm], .int .i64 ac] w fun e w' => e = .returned (.tuple #[.int .i64 r.1, .int .i64 r.2]) ∧ Below w.heap.size w w' := by
  obtain ⟨op, n, l⟩ := e
  obtain ⟨A, c, rfl, h2, h3⟩ := h
  obtain ⟨r1, r2⟩ := r
  exact expr_Eval.calls op n A c l ky vl tm ac r1 r2 w h3 h2 (by unfold expr_Eval.f; exact congrArg some hr)
end Go.Proofs.Ytpcbcekfakjgkaa.Ex
