/- Rows of one's own, of any element type: carried, and grown by one element. -/
import Derived.Test.YtmnglonjekegcaaRw
import Derived.Test.YtmnglonjekegcaaWWords
import Derived.WalkMore
import Derived.WalkKit
import Derived.Test.YtmnglonjekegcaaProg
namespace Go.Proofs.Ytmnglonjekegcaa.Ow
open Go Go.RowKit Go.Proofs.YtmnglonjekegcaaW.PrintWords Go.Proofs.YtmnglonjekegcaaW.PrintLast Go.Proofs.YtmnglonjekegcaaW.PrintMore Go.Proofs.Ytmnglonjekegcaa.Rw
set_option linter.unusedVariables false
set_option linter.unusedSimpArgs false
theorem own_lt {w : World} {base e sz n : Nat} {v : Value} {xs : List Value} (h : w.ownsRow base e sz v n xs) (k : Nat) (hk : v.ownBlock = some k) : base ≤ k ∧ k < w.heap.size := by
  rcases h.2 with ⟨rfl, _⟩ | ⟨g, cap, cur, rfl, hb, hg, _⟩
  · cases hk
  · injection hk with hk
    subst hk
    exact ⟨hb, (Array.getElem?_eq_some_iff.1 hg).1⟩
theorem blk_types {w : World} {g g2 : Nat} {c1 c2 : Array Value} {t1 t2 : TypeId} {f1 f2 : Nat × Nat} (h1 : w.heap[g]? = some (.cells c1 t1 f1)) (h2 : w.heap[g2]? = some (.cells c2 t2 f2)) (hne : t1 ≠ t2) : g ≠ g2 := by
  rintro rfl
  rw [h1] at h2
  injection h2 with h2
  injection h2 with _ h2
  exact hne h2
theorem own_block {w : World} {base e sz n : Nat} {v : Value} {xs : List Value} (h : w.ownsRow base e sz v n xs) {k : Nat} (hk : some k = v.ownBlock) : ∃ cur, w.heap[k]? = some (.cells cur e (0, 0)) := by
  rcases h.2 with ⟨rfl, _⟩ | ⟨g, cap, cur, rfl, hb, hg, _⟩
  · cases hk
  · injection hk with hk
    subst hk
    exact ⟨cur, hg⟩
theorem own_kept {w w' : World} {base e sz n : Nat} {v : Value} {xs : List Value} (h : w.ownsRow base e sz v n xs) (hm : ∀ k, some k = v.ownBlock → w'.heap[k]? = w.heap[k]?) : w'.ownsRow base e sz v n xs := by
  obtain ⟨h1, h2⟩ := h
  refine ⟨h1, ?_⟩
  rcases h2 with h2 | ⟨g, cap, cur, rfl, hg, hh, r⟩
  · exact .inl h2
  · exact .inr ⟨g, cap, cur, rfl, hg, (hm g rfl).trans hh, r⟩
theorem own_below {w w' : World} {base e sz n : Nat} {v : Value} {xs : List Value} (h : w.ownsRow base e sz v n xs) (hb : Below w.heap.size w w') : w'.ownsRow base e sz v n xs :=
  own_kept h fun k hk => hb.block k (own_lt h k hk.symm).2
theorem slice_of {w : World} {base e sz n : Nat} {v : Value} {xs : List Value} (h : w.ownsRow base e sz v n xs) : ∃ A c, v = .slice A n c ∧ n ≤ c ∧ c ≤ maxLen := by
  rcases h.2 with ⟨rfl, rfl⟩ | ⟨g, cap, cur, rfl, _, _, h1, h2, _⟩
  · exact ⟨none, 0, rfl, Nat.le_refl _, Nat.zero_le _⟩
  · exact ⟨_, _, rfl, h1, h2⟩
/-- A row whose cells are said so reads so. -/
theorem own_cell {w : World} {base e sz n c g : Nat} {xs : List Value} (h : w.ownsRow base e sz (.slice (some ⟨g, 0, none⟩) n c) n xs) {j : Nat} {u : Value} (hj : xs[j]? = some u) : w.cell? ⟨g, j, none⟩ = some u := by
  rcases h.2 with ⟨h2, _⟩ | ⟨g2, cap, cur, e2, hb, hg, hn, hc, hs, ht⟩
  · cases h2
  · injection e2 with e2 _ _
    injection e2 with e2
    injection e2 with e2 _ _
    subst e2
    have hl := (List.getElem?_eq_some_iff.1 hj).1
    have hcur : cur.toList = xs ++ cur.toList.drop (n * sz) := by
      have := List.take_append_drop (n * sz) cur.toList
      rw [ht] at this
      exact this.symm
    rw [cell_row hg hcur, List.getElem?_append_left hl]
    exact hj
theorem own_some {w : World} {base e sz n c : Nat} {A : Option Addr} {xs : List Value} (h : w.ownsRow base e sz (.slice A n c) n xs) (hn : 0 < n) : ∃ g, A = some ⟨g, 0, none⟩ := by
  rcases h.2 with ⟨h2, _⟩ | ⟨g2, cap, cur, e2, _⟩
  · injection h2 with _ h2 _; omega
  · injection e2 with e2 _ _
    exact ⟨g2, e2⟩
def TInfo (tl te : TypeId) (z bytes : Nat) : Prop := Try.prog.underlying tl = some (.slice te) ∧ ∃ i zv, Try.prog.info? te = some i ∧ i.zero = some zv ∧ i.size = z ∧ i.bytes = bytes ∧ zv.cells.size = z ∧ 0 < z
theorem tinfo_of {tl te : TypeId} {zv : Value} {z bytes : Nat} (hu : Try.prog.underlying tl = some (.slice te)) (h : (Try.prog.info? te).map (fun i => (i.zero, i.size, i.bytes)) = some (some zv, z, bytes)) (hz : zv.cells.size = z) (h0 : 0 < z) : TInfo tl te z bytes := by
  refine ⟨hu, ?_⟩
  cases hq : Try.prog.info? te with
  | none => rw [hq] at h; cases h
  | some i =>
    rw [hq] at h
    simp only [Option.map_some, Option.some.injEq, Prod.mk.injEq] at h
    exact ⟨i, zv, rfl, h.1, h.2.1, h.2.2, hz, h0⟩
def Hat (vo v : Value) (n : Nat) : Prop := v.ownBlock = vo.ownBlock ∨ v.ownBlock = some n
/-- append(v, x..): what comes of it, as an equation. -/
theorem app_run {tl te : TypeId} {z bytes : Nat} (T : TInfo tl te z bytes) (ty : TypeId) (hty : ty = tl) (w : World) (base n : Nat) (v : Value) (xs : List Value) (hown : w.ownsRow base te z v n xs) (ad : Addr) (m c : Nat) (news : List Value) (hl : news.length = m * z) (hnews : ∀ j u, news[j]? = some u → w.cell? (ad.add j) = some u) (h1 : ∀ u ∈ news, u.oneCell' = true)
    (h63 : n + m ≤ maxLen) (hby : (n + m) * bytes ≤ 140737488355328) (hb : base ≤ w.heap.size) :
    ∃ v' w', (Builtin.append_ #[tl, tl] ty #[v, .slice (some ad) m c]).run Try.prog w = .ok v' w' ∧ w'.ownsRow base te z v' (n + m) (xs ++ news) ∧ w.grownBy w' v.ownBlock ∧ Hat v v' w.heap.size ∧ ∃ A c', v' = .slice A (n + m) c' := by
  obtain ⟨hu, i, zv, hi, hz, hs, hbb, hzc, h0⟩ := T
  subst hty
  obtain ⟨v', w', hr, ho', hg', _, hat⟩ := run_append_own_at (P := Try.prog) w base ty ty te i zv z bytes hu hi hz hs hbb hzc h0 v n xs hown ad m c news hl hnews h1 h63 hby hb
  obtain ⟨A, c', e, _⟩ := slice_of ho'
  exact ⟨v', w', hr, ho', hg', hat, A, c', e⟩
/-- append(v, x) where x lies in its own block. -/
theorem app_one {tl te : TypeId} {z bytes : Nat} (T : TInfo tl te z bytes) (ty : TypeId) (hty : ty = tl) (w : World) (base n : Nat) (v : Value) (xs : List Value) (hown : w.ownsRow base te z v n xs) (gl c : Nat) (news : List Value) (hgl : w.heap[gl]? = some (.cells news.toArray te (0, 0))) (hl : news.length = z) (h1 : ∀ u ∈ news, u.oneCell' = true)
    (hn : n ≤ 1000000) (hby : bytes ≤ 1000) (hb : base ≤ w.heap.size) :
    ∃ v' w', (Builtin.append_ #[tl, tl] ty #[v, .slice (some ⟨gl, 0, none⟩) 1 c]).run Try.prog w = .ok v' w' ∧ w'.ownsRow base te z v' (n + 1) (xs ++ news) ∧ w.grownBy w' v.ownBlock ∧ Hat v v' w.heap.size ∧ ∃ A c', v' = .slice A (n + 1) c' := by
  have hmax : 9000000 ≤ maxLen := by decide
  refine app_run T ty hty w base n v xs hown ⟨gl, 0, none⟩ 1 c news (by rw [hl, Nat.one_mul]) (fun j u hj => by rw [Addr.add_lit, Nat.zero_add, cell_row hgl rfl]; exact hj) h1 (by omega) ?_ hb
  have := Nat.mul_le_mul (show n + 1 ≤ 1000001 by omega) hby
  omega
section
variable {ops : Array Oper} {o : Oper} {a : Act} {w : World} {K : Act → World → Prop} {Q : Exit → Act → World → Prop} {E : Prop} {rest : List Oper}
end
end Go.Proofs.Ytmnglonjekegcaa.Ow
