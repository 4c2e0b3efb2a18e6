/- (c11) An entry appended to a row of one's own; bits of a log's number. -/
import Derived.Test.YtmnglonjekegcaaVwEn
namespace Go.Proofs.Ytmnglonjekegcaa.Vw
open Go Go.RowKit Go.Maps Go.Proofs.Ytmnglonjekegcaa.Mk Go.Proofs.Ytmnglonjekegcaa.Rp Go.Proofs.YtmnglonjekegcaaW.PrintWords Go.Proofs.YtmnglonjekegcaaW.PrintLast Go.Proofs.YtmnglonjekegcaaW.PrintMore Go.Proofs.Ytmnglonjekegcaa.Rw Go.Proofs.Ytmnglonjekegcaa.Ow Go.Proofs.Ytmnglonjekegcaa.Mono
set_option linter.unusedVariables false
set_option linter.unusedSimpArgs false
set_option maxRecDepth 100000
/-- append(row, x): the literal row of one entry lies in the block gl. -/
theorem EO.app1 {w0 w W1 : World} {base : Nat} {v : Value} {xs : List S47} (h : EO w0 base w v xs) (hB : Below w0.heap.size w0 w) (hbs : base ≤ w.heap.size) (x : S47) (A9 A10 : Option Addr) (c9 c10 : Nat) (hC9 : Kd.C (Kd.int .i64) w0 A9 x.f7.length x.f7) (hc9 : x.f7.length ≤ c9) (hC10 : Kd.C (Kd.int .i64) w0 A10 x.f8.length x.f8) (hc10 : x.f8.length ≤ c10)
    {gl : Nat} (h1 : Below w.heap.size w W1) (hgl : W1.heap[gl]? = some (.cells (entC x A9 c9 A10 c10).toArray 47 (0, 0))) (hn : xs.length ≤ 1000000) (ty : TypeId) (hty : ty = 22) :
    ∃ v' w', (Builtin.append_ #[22, 22] ty #[v, .slice (some ⟨gl, 0, none⟩) 1 1]).run Try.prog W1 = .ok v' w' ∧ EO w0 base w' v' (xs ++ [x]) ∧ W1.grownBy w' v.ownBlock ∧ Hat v v' W1.heap.size ∧ base ≤ w'.heap.size ∧ (∀ (b : Nat) (wx : World), b ≤ base → Below b wx w → Below b wx w') ∧ (∃ A' c', v' = .slice A' (xs.length + 1) c') := by
  obtain ⟨cs, ho, hr⟩ := h
  have hb1 : base ≤ W1.heap.size := Nat.le_trans hbs h1.size
  obtain ⟨v', w', hrun, h2, h3, h4, h5⟩ := app_one TIE ty hty W1 base xs.length v cs (own_below ho h1) gl 1 (entC x A9 c9 A10 c10) hgl rfl (by simp [entC, Value.oneCell']) hn (by decide) hb1
  refine ⟨v', w', hrun, ⟨cs ++ entC x A9 c9 A10 c10, by rw [List.length_append]; exact h2, ?_⟩, h3, h4, Nat.le_trans hb1 h3.size, fun b wx hb hx => ?_, h5⟩
  · exact hr.snoc (k47_mk w0 x (A9 := A9) (c9 := c9) hc9 hC9 (A10 := A10) (c10 := c10) hc10 hC10) rfl
  · have hx1 : Below b wx W1 := below_on hx (Nat.le_trans hb hbs) h1
    exact hx1.grown h3 (Nat.le_trans hb hb1) fun k hk => Nat.le_trans hb (Ow.own_lt ho k hk).1
theorem EO.keep {w0 w W1 w' : World} {base : Nat} {v : Value} {xs : List S47} (h : EO w0 base w v xs) (h1 : Below w.heap.size w W1) (hg : W1.grownBy w' v.ownBlock) : ∀ (k : Nat) (T : TypeId) (cs : Array Value), T ≠ 47 → W1.heap[k]? = some (.cells cs T (0, 0)) → w'.heap[k]? = some (.cells cs T (0, 0)) := fun k T cs hT hk => blk_grown hk hg fun hh => by
  obtain ⟨ds, ho, _⟩ := h
  obtain ⟨cur, hc⟩ := own_block (own_below ho h1) hh
  exact blk_types hk hc hT rfl
theorem EO.kept {w0 w w' : World} {base : Nat} {v : Value} {xs : List S47} (h : EO w0 base w v xs) (hk : ∀ (j : Nat) (cs : Array Value), w.heap[j]? = some (.cells cs 47 (0, 0)) → w'.heap[j]? = some (.cells cs 47 (0, 0))) : EO w0 base w' v xs := by
  obtain ⟨ds, ho, hr⟩ := h
  exact ⟨ds, own_kept ho fun k e => by
    obtain ⟨cur, hc⟩ := own_block ho e
    rw [hk _ _ hc, hc], hr⟩
theorem C_nil (w : World) : Kd.C (Kd.int .i64) w none 0 [] := ⟨rfl, by simp, fun h => by simp at h⟩
end Go.Proofs.Ytmnglonjekegcaa.Vw
