/- A row of expressions that is cut at its head and grows at its end. -/
import Derived.Test.YtpcbcekfakjgkaaEr
import Derived.ArgAppend
namespace Go.Proofs.Ytpcbcekfakjgkaa.Ex
open Go Go.RowKit Go.Proofs.YtpcbcekfakjgkaaW.PrintWords Go.Proofs.YtpcbcekfakjgkaaW.PrintLast Go.Proofs.YtpcbcekfakjgkaaW.PrintMore Go.Proofs.Ytpcbcekfakjgkaa.Mono
set_option linter.unusedVariables false
set_option linter.unusedSimpArgs false
/-- What reads as an expression, whatever is written to blocks that are in X. -/
def EZ (X : Nat → Prop) (w : World) (v : Value) (e : E) : Prop := ∃ S : Nat → Prop, (∀ k, S k → k < w.heap.size ∧ ¬ X k) ∧ ∀ w' : World, (∀ k, S k → w'.heap[k]? = w.heap[k]?) → ER w' v e
theorem EZ.er {X : Nat → Prop} {w : World} {v : Value} {e : E} (h : EZ X w v e) : ER w v e := by
  obtain ⟨S, _, h2⟩ := h
  exact h2 w (fun _ _ => rfl)
theorem EZ.leaf (X : Nat → Prop) (w : World) (op n : Int) : EZ X w (.agg #[.int .i64 op, .int .i64 n, .slice none 0 0]) ⟨op, n, []⟩ := ⟨fun _ => False, fun k hk => hk.elim, fun w' _ => ER.leaf w' op n⟩
theorem EZ.move {X X' : Nat → Prop} {w w2 : World} {v : Value} {e : E} (h : EZ X w v e) (hm : ∀ k, k < w.heap.size → ¬ X k → w2.heap[k]? = w.heap[k]?) (hs : w.heap.size ≤ w2.heap.size) (hx : ∀ k, X' k → X k ∨ w.heap.size ≤ k) : EZ X' w2 v e := by
  obtain ⟨S, h1, h2⟩ := h
  refine ⟨S, fun k hk => ⟨Nat.lt_of_lt_of_le (h1 k hk).1 hs, fun h => ?_⟩, fun w' hw => h2 w' (fun k hk => (hw k hk).trans (hm k (h1 k hk).1 (h1 k hk).2))⟩
  rcases hx k h with h | h
  · exact (h1 k hk).2 h
  · have := (h1 k hk).1; omega
theorem EZ.below {X : Nat → Prop} {w w2 : World} {v : Value} {e : E} (h : EZ X w v e) (hb : Below w.heap.size w w2) : EZ X w2 v e := h.move (fun k hk _ => hb.block k hk) hb.size (fun k hk => .inl hk)
theorem EZ.turn {X X' : Nat → Prop} {w w2 : World} {v : Value} {e : E} (h : EZ X w v e) (hb : Below w.heap.size w w2) (hx : ∀ k, X' k → w.heap.size ≤ k) : EZ X' w2 v e := h.move (fun k hk _ => hb.block k hk) hb.size (fun k hk => .inr (hx k hk))
theorem EZ.set_ {w : World} {v : Value} {e : E} {g : Nat} (h : EZ (fun k => k = g) w v e) (j : Nat) (u : Value) : EZ (fun k => k = g) (w.setCell ⟨g, j, none⟩ u) v e :=
  h.move (fun k hk hn => Below.heap_setCell w _ u k (fun he => hn he)) (by simp) (fun k hk => .inl hk)
theorem two_EZ (X : Nat → Prop) (op : Int) (va vb : Value) (a b : E) (w : World) (ha : EZ X w va a) (hb : EZ X w vb b) (hX : ∀ k, X k → k < w.heap.size) : Calls Try.prog 11 #[.int .i64 op, va, vb] w fun e w' => ∃ v, e = .returned v ∧ EZ X w' v ⟨op, 0, [a, b]⟩ ∧ Below w.heap.size w w' := by
  obtain ⟨S1, h1, k1⟩ := ha
  obtain ⟨S2, h2, k2⟩ := hb
  obtain ⟨A1, c1, rfl, l1, r1⟩ := k1 w (fun _ _ => rfl)
  obtain ⟨A2, c2, rfl, l2, r2⟩ := k2 w (fun _ _ => rfl)
  refine (two_is op _ _ _ _ A1 A2 _ c1 _ c2 w).mono ?_
  rintro e w2 ⟨g, rfl, hge, hg, hbl⟩
  refine ⟨_, rfl, ⟨fun k => S1 k ∨ S2 k ∨ k = g, fun k hk => ?_, fun w' hw => ?_⟩, hbl⟩
  · rcases hk with hk | hk | rfl
    · exact ⟨Nat.lt_of_lt_of_le (h1 k hk).1 hbl.size, (h1 k hk).2⟩
    · exact ⟨Nat.lt_of_lt_of_le (h2 k hk).1 hbl.size, (h2 k hk).2⟩
    · exact ⟨blk_lt hg, fun h => by have := hX k h; omega⟩
  · obtain ⟨A1', c1', e1, l1', r1'⟩ := k1 w' (fun k hk => (hw k (.inl hk)).trans (hbl.block k (h1 k hk).1))
    obtain ⟨A2', c2', e2, l2', r2'⟩ := k2 w' (fun k hk => (hw k (.inr (.inl hk))).trans (hbl.block k (h2 k hk).1))
    injection e1 with e1
    injection e2 with e2
    simp at e1 e2
    obtain ⟨rfl, rfl⟩ := e1
    obtain ⟨rfl, rfl⟩ := e2
    exact ⟨_, 2, rfl, Nat.le_refl _, two_C ((hw g (.inr (.inr rfl))).trans hg) l1' r1' l2' r2'⟩
/-- An expression around one. -/
theorem one_EZ (X : Nat → Prop) (op n : Int) (a : E) (A : Option Addr) (c : Nat) (w : World) (ha : EZ X w (.agg #[.int .i64 a.f0, .int .i64 a.f1, .slice A a.f2.length c]) a) (hX : ∀ k, X k → k < w.heap.size) :
    EZ X (w.alloc (.cells #[.int .i64 a.f0, .int .i64 a.f1, .slice A a.f2.length c] 27)) (.agg #[.int .i64 op, .int .i64 n, .slice (some ⟨w.heap.size, 0, none⟩) 1 1]) ⟨op, n, [a]⟩ := by
  obtain ⟨S1, h1, k1⟩ := ha
  refine ⟨fun k => S1 k ∨ k = w.heap.size, fun k hk => ?_, fun w' hw => ?_⟩
  · rcases hk with hk | rfl
    · exact ⟨by have := (h1 k hk).1; simp; omega, (h1 k hk).2⟩
    · exact ⟨by simp, fun h => by have := hX _ h; omega⟩
  · obtain ⟨A1', c1', e1, l1', r1'⟩ := k1 w' (fun k hk => (hw k (.inl hk)).trans (Below.heap_alloc w _ k (h1 k hk).1))
    injection e1 with e1
    simp at e1
    obtain ⟨rfl, rfl⟩ := e1
    exact ⟨_, 1, rfl, Nat.le_refl _, C_of_blk k27 w' _ 27 [a] _ ((hw _ (.inr rfl)).trans (blk_new w _)) (rep_E a A c (Reps.none _ _) l1' r1') (by simp)⟩
/-- Where the cells of a value lie. -/
def Cell3 (cur : Array Value) (o : Nat) (v : Value) : Prop := ∃ (a b : Int) (A : Option Addr) (n c : Nat), v = .agg #[.int .i64 a, .int .i64 b, .slice A n c] ∧ cur[o]? = some (.int .i64 a) ∧ cur[o + 1]? = some (.int .i64 b) ∧ cur[o + 2]? = some (.slice A n c)
/-- The row: block b from cell off on. -/
structure RW (w0 w : World) (b off cap N : Nat) (L : List E) : Prop where
  row : ∃ cur : Array Value, w.heap[b]? = some (.cells cur 27 (0, 0)) ∧ off + cap * 3 ≤ cur.size ∧ ∀ j e, L[j]? = some e → ∃ v, Cell3 cur (off + j * 3) v ∧ EZ (fun k => k = b) w v e
  len : L.length = N
  le : N ≤ cap
  hb : w0.heap.size ≤ b
  hm : cap ≤ maxLen
  hw : ∀ e ∈ L, wfE e
  bl : Below w0.heap.size w0 w
theorem RW.lt {w0 w : World} {b off cap N : Nat} {L : List E} (h : RW w0 w b off cap N L) : b < w.heap.size := by
  obtain ⟨cur, h1, _⟩ := h.row
  exact blk_lt h1
theorem RW.below {w0 w w2 : World} {b off cap N : Nat} {L : List E} (h : RW w0 w b off cap N L) (hb : Below w.heap.size w w2) : RW w0 w2 b off cap N L := by
  obtain ⟨cur, h1, h2, h3⟩ := h.row
  refine ⟨⟨cur, blk_below h1 hb, h2, fun j e hj => ?_⟩, h.len, h.le, h.hb, h.hm, h.hw, below_step h.bl hb⟩
  obtain ⟨v, c1, c2⟩ := h3 j e hj
  exact ⟨v, c1, c2.below hb⟩
theorem RW.new (w : World) (f : E) (A : Option Addr) (c : Nat) (h : EZ (fun _ => False) w (.agg #[.int .i64 f.f0, .int .i64 f.f1, .slice A f.f2.length c]) f) (hw : wfE f) : RW w (w.alloc (.cells #[.int .i64 f.f0, .int .i64 f.f1, .slice A f.f2.length c] 27)) w.heap.size 0 1 1 [f] := by
  refine ⟨⟨_, blk_new w _, by simp, fun j e hj => ?_⟩, rfl, Nat.le_refl _, Nat.le_refl _, by decide, fun e he => ?_, below_alloc (Below.refl _ _) _⟩
  · cases j with
    | zero =>
      obtain rfl : f = e := by simpa using hj
      exact ⟨_, ⟨_, _, _, _, _, rfl, rfl, rfl, rfl⟩, h.turn (below_alloc (Below.refl _ _) _) (fun k hk => Nat.le_of_eq (show k = w.heap.size from hk).symm)⟩
    | succ j => simp at hj
  · obtain rfl : e = f := by simpa using he
    exact hw
/-- An element. -/
theorem RW.at {w0 w : World} {b off cap N : Nat} {L : List E} (h : RW w0 w b off cap N L) (j : Nat) (e : E) (hj : L[j]? = some e) : ∃ A c, w.cell? ⟨b, off + j * 3, none⟩ = some (.int .i64 e.f0) ∧ w.cell? ⟨b, off + j * 3 + 1, none⟩ = some (.int .i64 e.f1) ∧ w.cell? ⟨b, off + j * 3 + 2, none⟩ = some (.slice A e.f2.length c) ∧
    EZ (fun k => k = b) w (.agg #[.int .i64 e.f0, .int .i64 e.f1, .slice A e.f2.length c]) e := by
  obtain ⟨cur, h1, h2, h3⟩ := h.row
  obtain ⟨v, ⟨a, n, A, m, c, rfl, c1, c2, c3⟩, hz⟩ := h3 j e hj
  obtain ⟨A1, c4, e1, l1, r1⟩ := hz.er
  injection e1 with e1
  simp at e1
  obtain ⟨rfl, rfl, rfl, rfl, rfl⟩ := e1
  exact ⟨A, c, by rw [blk_cell h1]; exact c1, by rw [blk_cell h1]; exact c2, by rw [blk_cell h1]; exact c3, hz⟩
/-- Its head cut off. -/
theorem RW.tail {w0 w : World} {b off cap N : Nat} {x : E} {L : List E} (h : RW w0 w b off cap (N + 1) (x :: L)) : RW w0 w b (if cap - 1 = 0 then off else off + 3) (cap - 1) N L := by
  obtain ⟨cur, h1, h2, h3⟩ := h.row
  have hle := h.le
  have hlen : L.length = N := by have := h.len; simpa using this
  have hm := h.hm
  refine ⟨⟨cur, h1, by split <;> omega, fun j e hj => ?_⟩, hlen, by omega, h.hb, by omega, fun e he => h.hw e (List.mem_cons_of_mem _ he), h.bl⟩
  have hjl : j < L.length := (List.getElem?_eq_some_iff.1 hj).1
  obtain ⟨v, c1, c2⟩ := h3 (j + 1) e (by simpa using hj)
  rw [if_neg (by omega), show off + 3 + j * 3 = off + (j + 1) * 3 by omega]
  exact ⟨v, c1, c2⟩
theorem infoE : (Try.prog.info? 27).map (fun i => (i.zero, i.size, i.bytes)) = some (some (.agg #[.int .i64 0, .int .i64 0, .slice none 0 0]), 3, 40) := by kernel_rfl
/-- An element more, behind the box that the variadic makes. -/
theorem RW.app {w0 w : World} {b off cap N : Nat} {L : List E} (h : RW w0 w b off cap N L) (hN : N ≤ 1000) (e : E) (A : Option Addr) (c : Nat) (he : EZ (fun k => k = b) w (.agg #[.int .i64 e.f0, .int .i64 e.f1, .slice A e.f2.length c]) e) (hwe : wfE e) (ty : TypeId) :
    ∃ (b' off' cap' : Nat) (w' : World), (Builtin.append_ #[25, 25] ty #[.slice (some ⟨b, off, none⟩) N cap, .slice (some ⟨w.heap.size, 0, none⟩) 1 1]).run Try.prog (w.alloc (.cells #[.int .i64 e.f0, .int .i64 e.f1, .slice A e.f2.length c] 27)) = .ok (.slice (some ⟨b', off', none⟩) (N + 1) cap') w' ∧
      RW w0 w' b' off' cap' (N + 1) (L ++ [e]) := by
  obtain ⟨i0, hi, hzz⟩ := Option.map_eq_some_iff.1 infoE
  simp only [Prod.mk.injEq] at hzz
  obtain ⟨hz0, hz1, hz2⟩ := hzz
  have hbl := h.lt
  obtain ⟨cur, h1, h2, h3⟩ := h.row
  obtain ⟨W, hW⟩ : ∃ W, w.alloc (.cells #[.int .i64 e.f0, .int .i64 e.f1, .slice A e.f2.length c] 27) = W := ⟨_, rfl⟩
  have hWs : W.heap.size = w.heap.size + 1 := by rw [← hW]; simp
  have hWb : W.heap[b]? = some (.cells cur 27 (0, 0)) := by rw [← hW]; exact blk_alloc h1 _
  have hWn : W.heap[w.heap.size]? = some (.cells #[.int .i64 e.f0, .int .i64 e.f1, .slice A e.f2.length c] 27 (0, 0)) := by rw [← hW]; exact blk_new _ _
  have hWw : ∀ k, k < w.heap.size → W.heap[k]? = w.heap[k]? := fun k hk => by rw [← hW]; exact Below.heap_alloc w _ k hk
  have hWl : Below w0.heap.size w0 W := by rw [← hW]; exact below_alloc h.bl _
  rw [hW]
  clear hW
  have hws : ∀ x ∈ L ++ [e], wfE x := fun x hx => by
    rcases List.mem_append.1 hx with hx | hx
    · exact h.hw x hx
    · obtain rfl : x = e := by simpa using hx
      exact hwe
  have hlen2 : (L ++ [e]).length = N + 1 := by rw [List.length_append, h.len]; rfl
  have hle := h.le
  have hnews : ∀ (j : Nat) (u : Value), [Value.int .i64 e.f0, .int .i64 e.f1, .slice A e.f2.length c][j]? = some u → W.cell? ((⟨w.heap.size, 0, none⟩ : Addr).add j) = some u := fun j u hu => by
    rw [Addr.add_lit, Nat.zero_add, blk_cell hWn]
    simpa using hu
  by_cases hr : N + 1 ≤ cap
  · have hrun := run_append_room_cells (P := Try.prog) W 25 ty 27 i0 Try.underlying25 hi b off N cap ⟨w.heap.size, 0, none⟩ 1 1 [.int .i64 e.f0, .int .i64 e.f1, .slice A e.f2.length c] (by rw [hz1]; rfl) hnews (by simp [Value.oneCell']) hr
      (fun j hj => by rw [blk_cell hWb, hz1]; simp at hj; rw [Array.getElem?_eq_getElem (by omega)]; rfl) (fun j hj => blk_frozen hWb _)
    rw [hz1] at hrun
    refine ⟨b, off, cap, _, hrun, ?_⟩
    have hb' := blk_set (blk_set (blk_set hWb (off + N * 3) (.int .i64 e.f0)) (off + N * 3 + 1) (.int .i64 e.f1)) (off + N * 3 + 1 + 1) (.slice A e.f2.length c)
    have hfar : ∀ k, k ≠ b → k < w.heap.size → (W.setCells b (off + N * 3) [.int .i64 e.f0, .int .i64 e.f1, .slice A e.f2.length c]).heap[k]? = w.heap[k]? := fun k hk hlt => by
      simp only [World.setCells]
      rw [Below.heap_setCell _ _ _ k hk, Below.heap_setCell _ _ _ k hk, Below.heap_setCell _ _ _ k hk]
      exact hWw k hlt
    have hsz : w.heap.size ≤ (W.setCells b (off + N * 3) [.int .i64 e.f0, .int .i64 e.f1, .slice A e.f2.length c]).heap.size := by simp [World.setCells]; omega
    refine ⟨⟨_, hb', by simpa using h2, fun j x hj => ?_⟩, hlen2, hr, h.hb, h.hm, hws, ?_⟩
    · have hjl : j < N + 1 := by rw [← hlen2]; exact (List.getElem?_eq_some_iff.1 hj).1
      by_cases hjn : j < N
      · rw [List.getElem?_append_left (by rw [h.len]; exact hjn)] at hj
        obtain ⟨v, ⟨a, n, A2, m, c2, rfl, c1, c2, c3⟩, hz⟩ := h3 j x hj
        refine ⟨_, ⟨a, n, A2, m, _, rfl, ?_, ?_, ?_⟩, hz.move (fun k hk hn => hfar k hn hk) hsz (fun k hk => .inl hk)⟩
        · rw [Array.getElem?_setIfInBounds_ne (by omega), Array.getElem?_setIfInBounds_ne (by omega), Array.getElem?_setIfInBounds_ne (by omega)]; exact c1
        · rw [Array.getElem?_setIfInBounds_ne (by omega), Array.getElem?_setIfInBounds_ne (by omega), Array.getElem?_setIfInBounds_ne (by omega)]; exact c2
        · rw [Array.getElem?_setIfInBounds_ne (by omega), Array.getElem?_setIfInBounds_ne (by omega), Array.getElem?_setIfInBounds_ne (by omega)]; exact c3
      · obtain rfl : j = N := by omega
        obtain rfl : e = x := by
          rw [List.getElem?_append_right (by rw [h.len]; omega), h.len, Nat.sub_self] at hj
          simpa using hj
        refine ⟨_, ⟨e.f0, e.f1, A, e.f2.length, c, rfl, ?_, ?_, ?_⟩, he.move (fun k hk hn => hfar k hn hk) hsz (fun k hk => .inl hk)⟩
        · rw [Array.getElem?_setIfInBounds_ne (by omega), Array.getElem?_setIfInBounds_ne (by omega), Array.getElem?_setIfInBounds_self_of_lt (by omega)]
        · rw [Array.getElem?_setIfInBounds_ne (by omega), Array.getElem?_setIfInBounds_self_of_lt (by simp; omega)]
        · rw [Array.getElem?_setIfInBounds_self_of_lt (by simp; omega)]
    · exact below_set (below_set (below_set hWl h.hb) h.hb) h.hb
  · obtain ⟨olds, ho1, ho2⟩ : ∃ olds : List Value, olds.length = N * 3 ∧ ∀ j : Nat, j < N * 3 → olds[j]? = cur[off + j]? := by
      refine ⟨(cur.toList.drop off).take (N * 3), by simp; omega, fun j hj => ?_⟩
      rw [List.getElem?_take_of_lt hj, List.getElem?_drop]
      simp
    obtain ⟨v', w', hrun, hown, hg⟩ := run_append_arg_grows (P := Try.prog) W 25 ty 27 i0 _ 3 40 Try.underlying25 hi hz0 hz1 hz2 rfl (by decide) ⟨b, off, none⟩ N cap olds ho1
      (fun j u hu => by
        have hj : j < N * 3 := by rw [← ho1]; exact (List.getElem?_eq_some_iff.1 hu).1
        rw [Addr.add_lit, blk_cell hWb, ← ho2 j hj]; exact hu) ⟨w.heap.size, 0, none⟩ 1 1 [.int .i64 e.f0, .int .i64 e.f1, .slice A e.f2.length c] rfl hnews (by omega) (by simp only [maxLen]; omega) (by omega)
    obtain ⟨_, hx⟩ := hown
    rcases hx with ⟨_, h0⟩ | ⟨g, cap', cur', rfl, hge, hgb, hnc, hcm, hcs, htk⟩
    · omega
    refine ⟨g, 0, cap', w', hrun, ?_⟩
    have hcell : ∀ j, j < (N + 1) * 3 → cur'[j]? = (olds ++ [Value.int .i64 e.f0, .int .i64 e.f1, .slice A e.f2.length c])[j]? := fun j hj => by
      rw [← htk, List.getElem?_take_of_lt hj]
      simp
    have hfar : ∀ k, k < w.heap.size → w'.heap[k]? = w.heap[k]? := fun k hk => (hg.block k (by omega) (by simp)).trans (hWw k hk)
    have hsz : w.heap.size ≤ w'.heap.size := by have := hg.size; omega
    refine ⟨⟨cur', hgb, by omega, fun j x hj => ?_⟩, hlen2, hnc, by have := h.bl.size; omega, hcm, hws, ⟨hg.os.trans hWl.os, hg.tape.trans hWl.tape, hg.output.trans hWl.output, by have := h.bl.size; omega, fun k hk => (hfar k (by have := h.bl.size; omega)).trans (h.bl.block k hk)⟩⟩
    have hjl : j < N + 1 := by rw [← hlen2]; exact (List.getElem?_eq_some_iff.1 hj).1
    have hXg : ∀ k, k = g → k = b ∨ w.heap.size ≤ k := fun k hk => .inr (by omega)
    rw [Nat.zero_add]
    by_cases hjn : j < N
    · rw [List.getElem?_append_left (by rw [h.len]; exact hjn)] at hj
      obtain ⟨v, ⟨a, n, A2, m, c2, rfl, c1, c2, c3⟩, hz⟩ := h3 j x hj
      refine ⟨_, ⟨a, n, A2, m, _, rfl, ?_, ?_, ?_⟩, hz.move (fun k hk hn => hfar k hk) hsz hXg⟩
      · rw [hcell _ (by omega), List.getElem?_append_left (by omega), ho2 _ (by omega)]; exact c1
      · rw [hcell _ (by omega), List.getElem?_append_left (by omega), ho2 _ (by omega)]; exact c2
      · rw [hcell _ (by omega), List.getElem?_append_left (by omega), ho2 _ (by omega)]; exact c3
    · obtain rfl : j = N := by omega
      obtain rfl : e = x := by
        rw [List.getElem?_append_right (by rw [h.len]; omega), h.len, Nat.sub_self] at hj
        simpa using hj
      refine ⟨_, ⟨e.f0, e.f1, A, e.f2.length, c, rfl, ?_, ?_, ?_⟩, he.move (fun k hk hn => hfar k hk) hsz hXg⟩
      · rw [hcell _ (by omega), List.getElem?_append_right (by omega), ho1, Nat.sub_self]; rfl
      · rw [hcell _ (by omega), List.getElem?_append_right (by omega), ho1, show j * 3 + 1 - j * 3 = 1 by omega]; rfl
      · rw [hcell _ (by omega), List.getElem?_append_right (by omega), ho1, show j * 3 + 2 - j * 3 = 2 by omega]; rfl
section
variable {P : Program} {ops : Array Oper} {rest : List Oper} {o : Oper} {a : Act} {Q : Exit → Act → World → Prop} {Kc : Act → World → Prop}
/-- An append whose run is known, in a region that draws its order. -/
theorem step_run {W w1 : World} {N : Option Tmp} {v1 va xv : Value} (hw : Region.wanted o (yielded ops a.tmps) = true) (s x : Operand) (t : TypeId) (ho : o.op = .call { callee := .builtin .append, args := #[s, x], argTypes := #[t, t] }) (hN : o.dst = N)
    (hs : a.eval s = va) (hx : a.eval x = xv) (hr : (Builtin.append_ #[t, t] o.type #[va, xv]).run P W = .ok v1 w1) (h : Kc (a.put N v1) w1) : if Region.wanted o (yielded ops a.tmps) = true then Oper.wp P o a W Kc Q else Kc (a.put N undef) W := by
  rw [if_pos hw]
  subst hN
  unfold Oper.wp execOp
  simp only [ho, resolve, invoke, builtin, Sem.run_bind, Sem.run_pure, Result.andThen_ok, List.map_toArray, List.map_cons, List.map_nil, hs, hx, hr]
  exact h
/-- The same in a row of operations. -/
theorem list_run {W w1 : World} {v1 va xv : Value} (hgd : o.guard = none) (s x : Operand) (t : TypeId) (ho : o.op = .call { callee := .builtin .append, args := #[s, x], argTypes := #[t, t] })
    (hs : a.eval s = va) (hx : a.eval x = xv) (hr : (Builtin.append_ #[t, t] o.type #[va, xv]).run P W = .ok v1 w1) (h : wpList P ops Q rest (a.put o.dst v1) w1) : wpList P ops Q (o :: rest) a W := by
  refine wpList_plain hgd fun K hK' => ?_
  unfold Oper.wp execOp
  simp only [ho, resolve, invoke, builtin, Sem.run_bind, Sem.run_pure, Result.andThen_ok, List.map_toArray, List.map_cons, List.map_nil, hs, hx, hr]
  exact hK' _ _ h
end
/-! ### the chain -/
def chE : Nat → E
  | 0 => ⟨3, 0, []⟩
  | i + 1 => ⟨14, 0, [chE i]⟩
theorem may_ch : ∀ i : Nat, i < 24 → mayB (chE i) = decide (i < 16) := by decide +kernel
theorem eval_ch : ∀ i : Nat, i < 24 → ((evalOf (chE i) 0 0 0 0).2 == 0) = decide (i < 16) := by decide +kernel
/-- The frame's variable e: a chain of i. -/
structure Ch (w0 w : World) (g : Nat) (i : Nat) : Prop where
  ex : ∃ A c, w.heap[g]? = some (.cells #[.int .i64 (chE i).f0, .int .i64 (chE i).f1, .slice A (chE i).f2.length c] 27 (0, 0)) ∧ EZ (fun k => k = g) w (.agg #[.int .i64 (chE i).f0, .int .i64 (chE i).f1, .slice A (chE i).f2.length c]) (chE i)
  hg : w0.heap.size ≤ g
  bl : Below w0.heap.size w0 w
theorem Ch.step {w0 w w2 : World} {g i : Nat} (h : Ch w0 w g i) (hb : Below w.heap.size w w2) : Ch w0 w2 g i := by
  obtain ⟨A, c, h1, h2⟩ := h.ex
  exact ⟨⟨A, c, blk_below h1 hb, h2.below hb⟩, h.hg, below_step h.bl hb⟩
theorem Ch.next {w0 w : World} {g i : Nat} {A : Option Addr} {c : Nat} (hg : w0.heap.size ≤ g) (bl : Below w0.heap.size w0 w) (hb : w.heap[g]? = some (.cells #[.int .i64 (chE i).f0, .int .i64 (chE i).f1, .slice A (chE i).f2.length c] 27 (0, 0))) (hz : EZ (fun k => k = g) w (.agg #[.int .i64 (chE i).f0, .int .i64 (chE i).f1, .slice A (chE i).f2.length c]) (chE i)) :
    Ch w0 ((((w.alloc (.cells #[.int .i64 (chE i).f0, .int .i64 (chE i).f1, .slice A (chE i).f2.length c] 27)).setCell ⟨g, 0, none⟩ (.int .i64 14)).setCell ⟨g, 1, none⟩ (.int .i64 0)).setCell ⟨g, 2, none⟩ (.slice (some ⟨w.heap.size, 0, none⟩) 1 1)) g (i + 1) :=
  ⟨⟨some ⟨w.heap.size, 0, none⟩, 1, blk_put (blk_set (blk_set (blk_alloc hb _) 0 _) 1 _) 2 _ rfl, (((one_EZ _ 14 0 (chE i) A c w hz (fun k hk => by obtain rfl : k = g := hk; exact blk_lt hb)).set_ 0 _).set_ 1 _).set_ 2 _⟩, hg,
    below_set (below_set (below_set (below_alloc bl _) hg) hg) hg⟩
end Go.Proofs.Ytpcbcekfakjgkaa.Ex
