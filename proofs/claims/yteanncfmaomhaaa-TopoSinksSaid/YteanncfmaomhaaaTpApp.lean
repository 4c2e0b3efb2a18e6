/- A row of elements with one more behind, made anew: cells, appends. -/
import Derived.Test.YteanncfmaomhaaaTpMo
import Derived.ArgAppend
import Derived.Maps.AppendAt
namespace Go.Proofs.Yteanncfmaomhaaa.Ex
open Go Go.RowKit Go.Proofs.YteanncfmaomhaaaW.PrintWords Go.Proofs.YteanncfmaomhaaaW.PrintLast Go.Proofs.YteanncfmaomhaaaW.PrintMore
set_option linter.unusedVariables false
set_option linter.unusedSimpArgs false
/-- The cells of a row. -/
theorem inner_C {α : Type} {d : Kd α} {w : World} {A : Option Addr} {n : Nat} {xs : List α} (h : Kd.C d w A n xs) (hn : 0 < n) :
    ∃ ad cs, A = some ad ∧ Reps (d.K w) d.sz xs cs ∧ (∀ j u, cs[j]? = some u → w.cell? (ad.add j) = some u) ∧ ∀ u ∈ cs, u.oneCell' = true := by
  obtain ⟨hl, _, h2⟩ := h
  obtain ⟨ad, hA, he⟩ := h2 hn
  have key : ∀ m, m ≤ xs.length → ∃ cs, Reps (d.K w) d.sz (xs.take m) cs ∧ (∀ j u, cs[j]? = some u → w.cell? (ad.add j) = some u) ∧ ∀ u ∈ cs, u.oneCell' = true := by
    intro m
    induction m with
    | zero => intro _; exact ⟨[], by rw [List.take_zero]; exact Reps.none _ _, fun j u h => by simp at h, fun u h => by cases h⟩
    | succ m ih =>
      intro hm
      obtain ⟨cs, h1, h2, h3⟩ := ih (by omega)
      obtain ⟨c, hc, hK, hcell⟩ := he m xs[m] (List.getElem?_eq_getElem (by omega))
      have hcl : cs.length = m * d.sz := by have := h1.1; rw [List.length_take] at this; rw [this, Nat.min_eq_left (by omega)]
      refine ⟨cs ++ c, ?_, fun j u hj => ?_, fun u hu => ?_⟩
      · rw [List.take_succ_eq_append_getElem (by omega)]
        exact h1.snoc hK hc
      · by_cases hj1 : j < cs.length
        · rw [List.getElem?_append_left hj1] at hj
          exact h2 j u hj
        · rw [List.getElem?_append_right (by omega)] at hj
          have := hcell _ u hj
          rwa [← hcl, show cs.length + (j - cs.length) = j by omega] at this
      · rcases List.mem_append.1 hu with hu | hu
        · exact h3 u hu
        · exact d.K_one hK u hu
  obtain ⟨cs, h1, h2, h3⟩ := key xs.length (Nat.le_refl _)
  rw [List.take_length] at h1
  exact ⟨ad, cs, hA, h1, h2, h3⟩
/-- An own row reads as what its cells read as. -/
theorem C_of_own {α : Type} {d : Kd α} {w : World} {base : Nat} {e : TypeId} {v : Value} {n : Nat} {cs : List Value} {ps : List α} (ho : w.ownsRow base e d.sz v n cs) (hr : Reps (d.K w) d.sz ps cs) (hl : ps.length = n) (hn : 0 < n) :
    ∃ g c, v = .slice (some ⟨g, 0, none⟩) n c ∧ n ≤ c ∧ base ≤ g ∧ Kd.C d w (some ⟨g, 0, none⟩) n ps := by
  obtain ⟨h1, h2⟩ := ho
  rcases h2 with ⟨_, h0⟩ | ⟨g, cap, cur, rfl, hb, hg, hnc, hcm, hcs, htk⟩
  · omega
  refine ⟨g, cap, rfl, hnc, hb, hl, by have : maxLen ≤ 9223372036854775807 := (by decide); omega, fun _ => ⟨_, rfl, fun j p hj => ?_⟩⟩
  have hK := hr.2 j p hj
  refine ⟨_, d.K_len hK, hK, fun i u hu => ?_⟩
  have hi : i < d.sz := by
    have := (List.getElem?_eq_some_iff.1 hu).1
    rw [d.K_len hK] at this
    exact this
  rw [List.getElem?_take_of_lt hi, List.getElem?_drop] at hu
  rw [Addr.add_lit, Nat.zero_add, blk_cell hg]
  rw [← htk] at hu
  have hlt : j * d.sz + i < n * d.sz := by
    have hjn : j < n := by rw [← hl]; exact (List.getElem?_eq_some_iff.1 hj).1
    have : (j + 1) * d.sz ≤ n * d.sz := Nat.mul_le_mul_right _ hjn
    rw [Nat.succ_mul] at this
    omega
  rw [List.getElem?_take_of_lt hlt] at hu
  simpa using hu
theorem reps_below {α : Type} {d : Kd α} {w w2 : World} {size : Nat} {ps : List α} {cs : List Value} (h : Reps (d.K w) size ps cs) (hb : Below w.heap.size w w2) : Reps (d.K w2) size ps cs := h.imp_ (fun _ _ hK => d.K_below hb hK)
/-- An own row's fact, over a world that grew. -/
def OW (base n : Nat) (cs : List Value) (w : World) (v : Value) : Prop := w.ownsRow base 40 6 v n cs
theorem OW.below {base n : Nat} {cs : List Value} {w w2 : World} {v : Value} (h : OW base n cs w v) (hb : Below w.heap.size w w2) : OW base n cs w2 v := by
  obtain ⟨h1, h2⟩ := h
  refine ⟨h1, ?_⟩
  rcases h2 with h2 | ⟨g, cap, cur, e, h3, hg, h4⟩
  · exact .inl h2
  · exact .inr ⟨g, cap, cur, e, h3, blk_below hg hb, h4⟩
/-- An empty row. -/
def E0 (w : World) (v : Value) : Prop := ∃ a, v = .slice (some a) 0 0
theorem E0.below {w w2 : World} {v : Value} (h : E0 w v) (_ : Below w.heap.size w w2) : E0 w2 v := h
/-- The variadic's box. -/
def BX (cs : List Value) (w : World) (v : Value) : Prop := ∃ g, v = .slice (some ⟨g, 0, none⟩) 1 1 ∧ w.heap[g]? = some (.cells cs.toArray 40 (0, 0))
theorem BX.below {cs : List Value} {w w2 : World} {v : Value} (h : BX cs w v) (hb : Below w.heap.size w w2) : BX cs w2 v := by
  obtain ⟨g, e, h1⟩ := h
  exact ⟨g, e, blk_below h1 hb⟩
/-- append([]T{}, l...) -/
theorem app_first (w0 w : World) (l : List Vx) (A0 : Option Addr) (c0 : Nat) (cs : List Value) (ad : Addr) (hA : A0 = some ad) (hl : 0 < l.length) (h24 : l.length ≤ 1000) (hr : Reps (Kd.K k40 w0) 6 l cs) (hc : ∀ j u, cs[j]? = some u → w0.cell? (ad.add j) = some u) (hb : Below w0.heap.size w0 w)
    (v : Value) (hv : E0 w v) (ty : TypeId) : ∃ v' w', (Builtin.append_ #[22, 22] ty #[v, .slice A0 l.length c0]).run Try.prog w = .ok v' w' ∧ OW w.heap.size l.length cs w' v' ∧ Below w.heap.size w w' := by
  obtain ⟨a, rfl⟩ := hv
  subst hA
  obtain ⟨i0, hi, hzz⟩ := Option.map_eq_some_iff.1 info40
  simp only [Prod.mk.injEq] at hzz
  obtain ⟨hz0, hz1, hz2⟩ := hzz
  obtain ⟨v', w', hrun, hown, hg⟩ := run_append_arg_grows (P := Try.prog) w 22 ty 40 i0 _ 6 80 Try.underlying22 hi hz0 hz1 hz2 rfl (by decide) a 0 0 [] rfl (fun j u h => by simp at h) ad l.length c0 cs hr.1
    (fun j u h => pw_cell_below hb (hc j u h)) (by omega) (by simp only [maxLen]; omega) (by omega)
  rw [Nat.zero_add, List.nil_append] at hown
  exact ⟨v', w', hrun, hown, ⟨hg.os, hg.tape, hg.output, hg.size, fun k hk => hg.block k hk (by simp)⟩⟩
/-- append(row, v) -/
theorem app_more (w0 w : World) (base n : Nat) (cs cv : List Value) (v b : Value) (ho : OW base n cs w v) (hb : BX cv w b) (hn : n ≤ 1000) (hcl : cv.length = 6) (h1 : ∀ u ∈ cv, u.oneCell' = true) (hB : Below w0.heap.size w0 w) (hbase : w0.heap.size ≤ base) (hle : base ≤ w.heap.size) (ty : TypeId) :
    ∃ v' w', (Builtin.append_ #[22, 22] ty #[v, b]).run Try.prog w = .ok v' w' ∧ OW base (n + 1) (cs ++ cv) w' v' ∧ Below w0.heap.size w0 w' ∧ w.grownBy w' v.ownBlock ∧ ∀ k, v.ownBlock = some k → base ≤ k := by
  obtain ⟨g, rfl, hg⟩ := hb
  obtain ⟨i0, hi, hzz⟩ := Option.map_eq_some_iff.1 info40
  simp only [Prod.mk.injEq] at hzz
  obtain ⟨hz0, hz1, hz2⟩ := hzz
  obtain ⟨v', w', hrun, hown, hgr, _, _⟩ := run_append_own_at (P := Try.prog) w base 22 ty 40 i0 _ 6 80 Try.underlying22 hi hz0 hz1 hz2 rfl (by decide) v n cs ho ⟨g, 0, none⟩ 1 1 cv (by rw [hcl])
    (fun j u h => by rw [Addr.add_lit, Nat.zero_add, blk_cell hg]; simpa using h) h1 (by simp only [maxLen]; omega) (by omega) hle
  have hown_base : ∀ k, v.ownBlock = some k → base ≤ k := fun k hk => by
    rcases ho.2 with ⟨rfl, _⟩ | ⟨g2, cap, cur, rfl, h3, _⟩
    · simp [Value.ownBlock] at hk
    · simp [Value.ownBlock] at hk
      omega
  exact ⟨v', w', hrun, hown, hB.grown hgr hB.size (fun k hk => Nat.le_trans hbase (hown_base k hk)), hgr, hown_base⟩
theorem OW.lower {base base' n : Nat} {cs : List Value} {w : World} {v : Value} (h : OW base n cs w v) (hb : base' ≤ base) : OW base' n cs w v := by
  obtain ⟨h1, h2⟩ := h
  refine ⟨h1, ?_⟩
  rcases h2 with h2 | ⟨g, cap, cur, e, h3, h4⟩
  · exact .inl h2
  · exact .inr ⟨g, cap, cur, e, Nat.le_trans hb h3, h4⟩
theorem append_exec {P : Program} {w w1 : World} {ρ : Operand → Value} {o : Oper} {v1 va xv : Value} (s x : Operand) (t : TypeId) (ho : o.op = .call { callee := .builtin .append, args := #[s, x], argTypes := #[t, t] }) (hs : ρ s = va) (hx : ρ x = xv)
    (hr : (Builtin.append_ #[t, t] o.type #[va, xv]).run P w = .ok v1 w1) : (execOp ρ o).run P w = .ok (.value v1) w1 := by
  unfold execOp
  simp only [ho, resolve, invoke, builtin, Sem.run_bind, Sem.run_pure, Result.andThen_ok, List.map_toArray, List.map_cons, List.map_nil, hs, hx, hr]
theorem C_take {α : Type} {d : Kd α} {w : World} {A : Option Addr} {n : Nat} {xs : List α} (h : Kd.C d w A n xs) (m : Nat) (hm : m ≤ n) : Kd.C d w A m (xs.take m) := by
  obtain ⟨h1, h2, h3⟩ := h
  refine ⟨by rw [List.length_take]; omega, by omega, fun h0 => ?_⟩
  obtain ⟨ad, hA, he⟩ := h3 (by omega)
  refine ⟨ad, hA, fun j p hj => he j p ?_⟩
  have hjm : j < m := by have := (List.getElem?_eq_some_iff.1 hj).1; rw [List.length_take] at this; omega
  rwa [List.getElem?_take_of_lt hjm] at hj
theorem OW.set {base n : Nat} {cs : List Value} {w : World} {v : Value} (h : OW base n cs w v) {g : Nat} (hg : g < base) (j : Nat) (u : Value) : OW base n cs (w.setCell ⟨g, j, none⟩ u) v := by
  obtain ⟨h1, h2⟩ := h
  refine ⟨h1, ?_⟩
  rcases h2 with h2 | ⟨g2, cap, cur, e, h3, hg2, h4⟩
  · exact .inl h2
  · exact .inr ⟨g2, cap, cur, e, h3, blk_far hg2 (p := ⟨g, j, none⟩) (by show g2 ≠ g; omega) _, h4⟩
end Go.Proofs.Yteanncfmaomhaaa.Ex
