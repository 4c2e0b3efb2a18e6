/- (c14) Rows of changes and of sessions, as they grow. -/
import Derived.Test.YtpjfmilokadchaaSeBs
import Derived.Test.YtpjfmilokadchaaSeNil
import Derived.Test.YtpjfmilokadchaaEx0
namespace Go.Proofs.Ytpjfmilokadchaa.Se
open Go Go.RowKit Go.Proofs.YtpjfmilokadchaaW.PrintWords Go.Proofs.YtpjfmilokadchaaW.PrintLast Go.Proofs.YtpjfmilokadchaaW.PrintMore Go.Proofs.Ytpjfmilokadchaa.Rw Go.Proofs.Ytpjfmilokadchaa.Ex
set_option linter.unusedVariables false
set_option linter.unusedSimpArgs false
theorem run_store_span {P : Program} {w : World} {ad : Addr} {m : Mode} (a b : Int) : (store ad (spanV a b) m).run P w = stored P w ad (spanV a b) m := run_store P w ad _ m rfl
def cell5 (c : S33) : List Value := [.int .i64 c.f0, .int .i64 c.f1, .int .i64 c.f2, .int .i64 c.f3, .bool c.f4]
def cellsC (M : List S33) : List Value := M.flatMap cell5
theorem cellsC_len (L : List S33) : (cellsC L).length = L.length * 5 := by
  induction L with
  | nil => rfl
  | cons p r ih => show (_ :: _ :: _ :: _ :: _ :: cellsC r).length = _; simp only [List.length_cons, ih]; omega
theorem cellsC_append (L M : List S33) : cellsC (L ++ M) = cellsC L ++ cellsC M := by simp [cellsC]
theorem cellsC_one {L : List S33} : ∀ v ∈ cellsC L, v.oneCell' = true := by
  intro v hv
  unfold cellsC at hv
  obtain ⟨p, _, hv⟩ := List.mem_flatMap.1 hv
  unfold cell5 at hv
  simp only [List.mem_cons, List.not_mem_nil, or_false] at hv
  rcases hv with rfl | rfl | rfl | rfl | rfl <;> rfl
theorem cellsC_at {L : List S33} {i : Nat} {p : S33} (h : L[i]? = some p) : (cellsC L)[i * 5]? = some (.int .i64 p.f0) ∧ (cellsC L)[i * 5 + 1]? = some (.int .i64 p.f1) ∧ (cellsC L)[i * 5 + 2]? = some (.int .i64 p.f2) ∧ (cellsC L)[i * 5 + 3]? = some (.int .i64 p.f3) ∧ (cellsC L)[i * 5 + 4]? = some (.bool p.f4) := by
  induction L generalizing i with
  | nil => simp at h
  | cons q r ih =>
    cases i with
    | zero => simp only [List.getElem?_cons_zero, Option.some.injEq] at h; subst h; exact ⟨rfl, rfl, rfl, rfl, rfl⟩
    | succ i =>
      have := ih (i := i) (by simpa using h)
      rw [show (i + 1) * 5 = i * 5 + 1 + 1 + 1 + 1 + 1 by omega]
      exact this
theorem cellsC_take (L : List S33) (i : Nat) : cellsC (L.take i) = (cellsC L).take (i * 5) := by
  induction L generalizing i with
  | nil => simp [cellsC]
  | cons q r ih =>
    cases i with
    | zero => simp [cellsC]
    | succ i =>
      rw [List.take_succ_cons, show (i + 1) * 5 = i * 5 + 1 + 1 + 1 + 1 + 1 by omega]
      show _ :: _ :: _ :: _ :: _ :: cellsC (r.take i) = (_ :: _ :: _ :: _ :: _ :: cellsC r).take _
      rw [ih, List.take_succ_cons, List.take_succ_cons, List.take_succ_cons, List.take_succ_cons, List.take_succ_cons]
theorem cellsC_set {L : List S33} {i : Nat} {q : S33} (p : S33) (h : L[i]? = some q) : (((((cellsC L).set (i * 5) (.int .i64 p.f0)).set (i * 5 + 1) (.int .i64 p.f1)).set (i * 5 + 2) (.int .i64 p.f2)).set (i * 5 + 3) (.int .i64 p.f3)).set (i * 5 + 4) (.bool p.f4) = cellsC (L.set i p) := by
  induction L generalizing i with
  | nil => simp at h
  | cons y r ih =>
    cases i with
    | zero => rfl
    | succ i =>
      have := ih (i := i) (by simpa using h)
      rw [show (i + 1) * 5 + 1 = (i * 5 + 1) + 1 + 1 + 1 + 1 + 1 by omega, show (i + 1) * 5 + 2 = (i * 5 + 2) + 1 + 1 + 1 + 1 + 1 by omega, show (i + 1) * 5 + 3 = (i * 5 + 3) + 1 + 1 + 1 + 1 + 1 by omega, show (i + 1) * 5 + 4 = (i * 5 + 4) + 1 + 1 + 1 + 1 + 1 by omega, show (i + 1) * 5 = i * 5 + 1 + 1 + 1 + 1 + 1 by omega]
      show (((((_ :: _ :: _ :: _ :: _ :: cellsC r : List Value).set _ _).set _ _).set _ _).set _ _).set _ _ = _ :: _ :: _ :: _ :: _ :: cellsC (r.set i p)
      simp only [List.set_cons_succ]
      rw [this]
theorem cellsS_set {L : List Ses} {i : Nat} {q : Ses} (p : Ses) (h : L[i]? = some q) : (((cellsS L).set (i * 3) (.int .i64 p.k)).set (i * 3 + 1) (spanV p.a p.b)).set (i * 3 + 2) (.int .i64 p.v) = cellsS (L.set i p) := by
  induction L generalizing i with
  | nil => simp at h
  | cons y r ih =>
    cases i with
    | zero => rfl
    | succ i =>
      have := ih (i := i) (by simpa using h)
      rw [show (i + 1) * 3 + 1 = (i * 3 + 1) + 1 + 1 + 1 by omega, show (i + 1) * 3 + 2 = (i * 3 + 2) + 1 + 1 + 1 by omega, show (i + 1) * 3 = i * 3 + 1 + 1 + 1 by omega]
      show (((_ :: _ :: _ :: cellsS r : List Value).set _ _).set _ _).set _ _ = _ :: _ :: _ :: cellsS (r.set i p)
      simp only [List.set_cons_succ]
      rw [this]
theorem blk_types {w : World} {g g2 : Nat} {c1 c2 : Array Value} {t1 t2 : TypeId} {f1 f2 : Nat × Nat} (h1 : w.heap[g]? = some (.cells c1 t1 f1)) (h2 : w.heap[g2]? = some (.cells c2 t2 f2)) (hne : t1 ≠ t2) : g ≠ g2 := by
  rintro rfl
  rw [h1] at h2
  injection h2 with h2
  injection h2 with _ h2
  exact hne h2
theorem own_block {w : World} {base e sz n : Nat} {v : Value} {xs : List Value} (h : w.ownsRow base e sz v n xs) {k : Nat} (hk : some k = v.ownBlock) : ∃ cur, w.heap[k]? = some (.cells cur e (0, 0)) := by
  rcases h.2 with ⟨rfl, _⟩ | ⟨g, cap, cur, rfl, hb, hg, _⟩
  · cases hk
  · injection hk with hk
    subst hk
    exact ⟨cur, hg⟩
theorem own_kept {w w' : World} {base e sz n : Nat} {v : Value} {xs : List Value} (h : w.ownsRow base e sz v n xs) (hm : ∀ k, some k = v.ownBlock → w'.heap[k]? = w.heap[k]?) : w'.ownsRow base e sz v n xs := by
  obtain ⟨h1, h2⟩ := h
  refine ⟨h1, ?_⟩
  rcases h2 with h2 | ⟨g, cap, cur, rfl, hg, hh, r⟩
  · exact .inl h2
  · exact .inr ⟨g, cap, cur, rfl, hg, (hm g rfl).trans hh, r⟩
theorem own_below {w w' : World} {base e sz n : Nat} {v : Value} {xs : List Value} (h : w.ownsRow base e sz v n xs) (hb : Below w.heap.size w w') : w'.ownsRow base e sz v n xs :=
  own_kept h fun k hk => hb.block k (own_lt' h k hk.symm).2
theorem own_lower {w : World} {base base' e sz n : Nat} {v : Value} {xs : List Value} (h : w.ownsRow base e sz v n xs) (hb : base' ≤ base) : w.ownsRow base' e sz v n xs := by
  obtain ⟨h1, h2⟩ := h
  refine ⟨h1, ?_⟩
  rcases h2 with h2 | ⟨g, cap, cur, rfl, hg, hh, r⟩
  · exact .inl h2
  · exact .inr ⟨g, cap, cur, rfl, Nat.le_trans hb hg, hh, r⟩
theorem slice_of {w : World} {base e sz n : Nat} {v : Value} {xs : List Value} (h : w.ownsRow base e sz v n xs) : ∃ A c, v = .slice A n c ∧ n ≤ c ∧ c ≤ maxLen := by
  rcases h.2 with ⟨rfl, rfl⟩ | ⟨g, cap, cur, rfl, _, _, h1, h2, _⟩
  · exact ⟨none, 0, rfl, Nat.le_refl _, Nat.zero_le _⟩
  · exact ⟨_, _, rfl, h1, h2⟩
theorem own_set {w : World} {base e sz n cap gg : Nat} {xs : List Value} (h : w.ownsRow base e sz (.slice (some ⟨gg, 0, none⟩) n cap) n xs) (j : Nat) (u : Value) (hj : j < xs.length) : (w.setCell ⟨gg, j, none⟩ u).ownsRow base e sz (.slice (some ⟨gg, 0, none⟩) n cap) n (xs.set j u) := by
  obtain ⟨h1, h2⟩ := h
  rcases h2 with ⟨h2, _⟩ | ⟨g2, cap2, cur, e2, hb, hg, hn, hc, hs, ht⟩
  · cases h2
  · injection e2 with e2 _ e3
    injection e2 with e2
    injection e2 with e2 _ _
    subst e2
    subst e3
    refine ⟨by simpa using h1, .inr ⟨gg, cap, cur.setIfInBounds j u, rfl, hb, blk_put hg j u rfl, hn, hc, by simpa using hs, ?_⟩⟩
    rw [Array.toList_setIfInBounds, List.take_set, ht]
/-- A row of changes reads so. -/
theorem C_of_own {w : World} {base n : Nat} {A : Option Addr} {c : Nat} {M : List S33} (h : w.ownsRow base 33 5 (.slice A n c) n (cellsC M)) : Kd.C k33 w A M.length M ∧ M.length = n ∧ n ≤ c := by
  have hl : M.length = n := by have := h.1; rw [cellsC_len] at this; omega
  rcases h.2 with ⟨e1, e2⟩ | ⟨g, cap, cur, e1, hb, hg, hn, hc, hs, ht⟩
  · subst e2
    injection e1 with ea eb ec
    subst ea ec
    have : M = [] := List.length_eq_zero_iff.1 hl
    subst this
    exact ⟨⟨rfl, by simp, fun h => by simp at h⟩, rfl, Nat.le_refl _⟩
  · injection e1 with ea eb ec
    subst ea ec
    refine ⟨⟨rfl, by rw [hl]; exact Nat.le_trans hn hc, fun _ => ⟨_, rfl, fun j q hj => ⟨_, rfl, k33_mk _ q, fun i u hu => ?_⟩⟩⟩, hl, hn⟩
    have hj2 := (List.getElem?_eq_some_iff.1 hj).1
    have hi : i < 5 := by have := (List.getElem?_eq_some_iff.1 hu).1; simpa using this
    have hcur : cur.toList = cellsC M ++ cur.toList.drop (n * 5) := by
      have := List.take_append_drop (n * 5) cur.toList
      rw [ht] at this
      exact this.symm
    rw [Addr.add_lit, cell_row hg hcur, List.getElem?_append_left (by rw [cellsC_len]; have : k33.sz = 5 := rfl; rw [this]; omega)]
    obtain ⟨q0, q1, q2, q3, q4⟩ := cellsC_at hj
    have e5 : k33.sz = 5 := rfl
    rw [e5]
    rcases i with _ | _ | _ | _ | _ | i
    · simp only [List.getElem?_cons_zero, Option.some.injEq] at hu; subst hu; simpa using q0
    · simp only [List.getElem?_cons_zero, List.getElem?_cons_succ, Option.some.injEq] at hu; subst hu; simpa using q1
    · simp only [List.getElem?_cons_zero, List.getElem?_cons_succ, Option.some.injEq] at hu; subst hu; simpa using q2
    · simp only [List.getElem?_cons_zero, List.getElem?_cons_succ, Option.some.injEq] at hu; subst hu; simpa using q3
    · simp only [List.getElem?_cons_zero, List.getElem?_cons_succ, Option.some.injEq] at hu; subst hu; simpa using q4
    · omega
theorem infoC' : ∃ i, Try.prog.info? 33 = some i ∧ i.zero = some (.agg #[.int .i64 0, .int .i64 0, .int .i64 0, .int .i64 0, .bool false]) ∧ i.size = 5 ∧ i.bytes = 40 := by
  have h : (Try.prog.info? 33).map (fun i => (i.zero, i.size, i.bytes)) = some (some (.agg #[.int .i64 0, .int .i64 0, .int .i64 0, .int .i64 0, .bool false]), 5, 40) := by kernel_rfl
  cases hq : Try.prog.info? 33 with
  | none => rw [hq] at h; cases h
  | some i =>
    rw [hq] at h
    simp only [Option.map_some, Option.some.injEq, Prod.mk.injEq] at h
    exact ⟨i, rfl, h.1, h.2.1, h.2.2⟩
theorem zeroC (w : World) : (zeroValue 33).run Try.prog w = .ok (.agg #[.int .i64 0, .int .i64 0, .int .i64 0, .int .i64 0, .bool false]) w := by kernel_rfl
theorem own_alloc {w : World} {base e sz n : Nat} {v : Value} {xs : List Value} (h : w.ownsRow base e sz v n xs) (o : Obj) : (w.alloc o).ownsRow base e sz v n xs := own_below h (below_alloc (Below.refl _ _) o)
/-- A change appended to a row of them; its own block was made ahead. -/
theorem wpList_appC (W : World) {ops : Array Oper} {rest : List Oper} {o : Oper} {a : Act} {Q : Exit → Act → World → Prop} (hgd : o.guard = none) (s x : Operand) (ho : o.op = .call { callee := .builtin .append, args := #[s, x], argTypes := #[29, 29] })
    (base n : Nat) (v : Value) (M : List S33) (c : S33) (hs : a.eval s = v) (hown : W.ownsRow base 33 5 v n (cellsC M)) (hx : a.eval x = .slice (some ⟨W.heap.size, 0, none⟩) 1 1) (hn : n ≤ 5000) (hb : base ≤ W.heap.size)
    (h : ∀ v' w', w'.ownsRow base 33 5 v' (n + 1) (cellsC (M ++ [c])) → W.grownBy w' v.ownBlock → Hat v v' W.heap.size → (∃ A c', v' = .slice A (n + 1) c') → wpList Try.prog ops Q rest (a.put o.dst v') w') :
    wpList Try.prog ops Q (o :: rest) a (W.alloc (.cells #[.int .i64 c.f0, .int .i64 c.f1, .int .i64 c.f2, .int .i64 c.f3, .bool c.f4] 33)) := by
  obtain ⟨i0, hi0, hz0, hzs, hzb⟩ := infoC'
  have hmax : 9000 ≤ maxLen := by decide
  have hb1 := below_alloc (Below.refl W.heap.size W) (.cells #[.int .i64 c.f0, .int .i64 c.f1, .int .i64 c.f2, .int .i64 c.f3, .bool c.f4] 33)
  have hv := heap_alloc_new W (.cells #[.int .i64 c.f0, .int .i64 c.f1, .int .i64 c.f2, .int .i64 c.f3, .bool c.f4] 33)
  obtain ⟨v', w', hr, ho', hg', _, hat⟩ := run_append_own_at (P := Try.prog) _ base 29 o.type 33 i0 _ 5 40 Try.underlying29 hi0 hz0 hzs hzb (by rfl) (by omega) v n (cellsC M) (own_alloc hown _) ⟨W.heap.size, 0, none⟩ 1 1 (cell5 c) rfl
    (fun j u hj => by rw [Addr.add_lit, Nat.zero_add, cell_row hv rfl]; exact hj) (by intro u hu; unfold cell5 at hu; simp only [List.mem_cons, List.not_mem_nil, or_false] at hu; rcases hu with rfl | rfl | rfl | rfl | rfl <;> rfl) (by omega) (by omega) (Nat.le_trans hb hb1.size)
  refine wpList_append_eq _ hgd s x 29 29 ho _ _ hs hx hr (h v' w' ?_ ?_ ?_ ?_)
  · rw [cellsC_append]
    have : cellsC [c] = cell5 c := by simp [cellsC]
    rw [this]
    exact ho'
  · exact grown_trans (grown_below hb1 _) hg'
  · rcases hat with e | e
    · exact .inl e
    · exact .inr ⟨_, e, by have := hb1.size; exact this⟩
  · obtain ⟨A, c', e, _⟩ := slice_of ho'
    exact ⟨A, c', e⟩
theorem wpList_appS (W : World) {ops : Array Oper} {rest : List Oper} {o : Oper} {a : Act} {Q : Exit → Act → World → Prop} (hgd : o.guard = none) (s x : Operand) (ho : o.op = .call { callee := .builtin .append, args := #[s, x], argTypes := #[47, 47] })
    (base n : Nat) (v : Value) (M : List Ses) (c : Ses) (hs : a.eval s = v) (hown : W.ownsRow base 53 3 v n (cellsS M)) (hx : a.eval x = .slice (some ⟨W.heap.size, 0, none⟩) 1 1) (hn : n ≤ 5000) (hb : base ≤ W.heap.size)
    (h : ∀ v' w', w'.ownsRow base 53 3 v' (n + 1) (cellsS (M ++ [c])) → W.grownBy w' v.ownBlock → Hat v v' W.heap.size → (∃ A c', v' = .slice A (n + 1) c') → wpList Try.prog ops Q rest (a.put o.dst v') w') :
    wpList Try.prog ops Q (o :: rest) a (W.alloc (.cells #[.int .i64 c.k, spanV c.a c.b, .int .i64 c.v] 53)) := by
  obtain ⟨i0, hi0, hz0, hzs, hzb⟩ := infoP'
  have hmax : 9000 ≤ maxLen := by decide
  have hb1 := below_alloc (Below.refl W.heap.size W) (.cells #[.int .i64 c.k, spanV c.a c.b, .int .i64 c.v] 53)
  have hv := heap_alloc_new W (.cells #[.int .i64 c.k, spanV c.a c.b, .int .i64 c.v] 53)
  obtain ⟨v', w', hr, ho', hg', _, hat⟩ := run_append_own_at (P := Try.prog) _ base 47 o.type 53 i0 _ 3 32 Try.underlying47 hi0 hz0 hzs hzb (by rfl) (by omega) v n (cellsS M) (own_alloc hown _) ⟨W.heap.size, 0, none⟩ 1 1 [.int .i64 c.k, spanV c.a c.b, .int .i64 c.v] rfl
    (fun j u hj => by rw [Addr.add_lit, Nat.zero_add, cell_row hv rfl]; exact hj) (by intro u hu; simp only [List.mem_cons, List.not_mem_nil, or_false] at hu; rcases hu with rfl | rfl | rfl <;> rfl) (by omega) (by omega) (Nat.le_trans hb hb1.size)
  refine wpList_append_eq _ hgd s x 47 47 ho _ _ hs hx hr (h v' w' ?_ ?_ ?_ ?_)
  · rw [cellsS_append]
    exact ho'
  · exact grown_trans (grown_below hb1 _) hg'
  · rcases hat with e | e
    · exact .inl e
    · exact .inr ⟨_, e, by have := hb1.size; exact this⟩
  · obtain ⟨A, c', e, _⟩ := slice_of ho'
    exact ⟨A, c', e⟩
def chgOf (x : Ses) : S33 := ⟨x.k, x.a, x.b, x.v, false⟩
def gonOf (x : Ses) : S33 := ⟨x.k, x.a, x.b, 0, true⟩
/-- A row of changes is told, and nothing else was turned. -/
def RowOut (w : World) (M : List S33) (e : Ending) (w' : World) : Prop := ∃ v, e = .returned v ∧ w'.ownsRow w.heap.size 33 5 v M.length (cellsC M) ∧ Below w.heap.size w w'
end Go.Proofs.Ytpjfmilokadchaa.Se
