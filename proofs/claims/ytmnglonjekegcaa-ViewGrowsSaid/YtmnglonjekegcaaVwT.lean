/- (c11) The state in memory: tasks. -/
import Derived.Test.YtmnglonjekegcaaVwS
namespace Go.Proofs.Ytmnglonjekegcaa.Vw
open Go Go.RowKit Go.Maps Go.Proofs.Ytmnglonjekegcaa.Mk Go.Proofs.Ytmnglonjekegcaa.Rp Go.Proofs.YtmnglonjekegcaaW.PrintWords Go.Proofs.YtmnglonjekegcaaW.PrintLast Go.Proofs.YtmnglonjekegcaaW.PrintMore Go.Proofs.Ytmnglonjekegcaa.Rw Go.Proofs.Ytmnglonjekegcaa.Ow
set_option linter.unusedVariables false
set_option linter.unusedSimpArgs false
/-- An open entry in memory: its two rows may be any. -/
structure IT where
  at_ : Int
  x : S47
  A9 : Option Addr
  c9 : Nat
  A10 : Option Addr
  c10 : Nat
def entC (x : S47) (A9 : Option Addr) (c9 : Nat) (A10 : Option Addr) (c10 : Nat) : List Value :=
  [.int .i64 x.f0, .int .i64 x.f1, .int .i64 x.f2, .int .i64 x.f3, .int .i64 x.f4, .int .i64 x.f5.f0, .int .i64 x.f5.f1, .int .i64 x.f5.f2, .bool x.f6, .slice A9 x.f7.length c9, .slice A10 x.f8.length c10]
def itC (i : IT) : List Value := .int .i64 i.at_ :: entC i.x i.A9 i.c9 i.A10 i.c10
def cellsIt (l : List IT) : List Value := l.flatMap itC
theorem cellsIt_append (l m : List IT) : cellsIt (l ++ m) = cellsIt l ++ cellsIt m := by simp [cellsIt]
theorem cellsIt_at {L : List IT} {i : Nat} {p : IT} (h : L[i]? = some p) (j : Nat) (u : Value) (hu : (itC p)[j]? = some u) : (cellsIt L)[i * 12 + j]? = some u := by
  induction L generalizing i with
  | nil => simp at h
  | cons q r ih =>
    have hq : (itC q).length = 12 := rfl
    have e : cellsIt (q :: r) = itC q ++ cellsIt r := by simp [cellsIt]
    rw [e]
    cases i with
    | zero =>
      simp only [List.getElem?_cons_zero, Option.some.injEq] at h
      subst h
      rw [List.getElem?_append_left (by have := (List.getElem?_eq_some_iff.1 hu).1; omega), Nat.zero_mul, Nat.zero_add]
      exact hu
    | succ i =>
      rw [List.getElem?_append_right (by omega), hq, show (i + 1) * 12 + j - 12 = i * 12 + j by omega]
      exact ih (by simpa using h)
theorem infoIT : (Try.prog.info? 75).map (fun i => (i.zero, i.size, i.bytes)) = some (some (.agg #[.int .i64 0, .int .i64 0, .int .i64 0, .int .i64 0, .int .i64 0, .int .i64 0, .int .i64 0, .int .i64 0, .int .i64 0, .bool false, .slice none 0 0, .slice none 0 0]), 12, 128) := by kernel_rfl
theorem TIIT : TInfo 65 75 12 128 := tinfo_of Try.underlying65 infoIT rfl (by omega)
structure TE where
  t : S41
  items : List IT
  g : Nat
  vo : Value
  vq : Value
  vp : Value
def TE.s (e : TE) : TS := ⟨e.t, e.items.map fun i => (i.at_, i.x)⟩
structure TaskAt (w : World) (base : Nat) (e : TE) : Prop where
  gb : base ≤ e.g
  cell : w.heap[e.g]? = some (.cells #[.int .i64 e.t.f0, .int .i64 e.t.f1, .int .i64 e.t.f2, e.vo, e.vq, .int .i64 e.t.f5, e.vp] 67 (0, 0))
  ro : w.ownsRow base 3 1 e.vo e.t.f3.length (cellsI e.t.f3)
  rq : w.ownsRow base 3 1 e.vq e.t.f4.length (cellsI e.t.f4)
  rp : w.ownsRow base 75 12 e.vp e.items.length (cellsIt e.items)
  self : Dis e.vq e.vo
  wf : (Lit.int .i64 e.t.f0).wf = true
structure TasksI (w : World) (base bt : Nat) (M : List TE) : Prop where
  mp : MapP w bt (M.map fun e => (e.t.f0, (e.g : Int)))
  bb : base ≤ bt
  nd : (M.map fun e => e.t.f0).Nodup
  each : ∀ e ∈ M, TaskAt w base e
  dis : ∀ (i j : Nat) (e e' : TE), i ≠ j → M[i]? = some e → M[j]? = some e' → Dis e.vq e'.vq ∧ Dis e.vp e'.vp ∧ Dis e.vq e'.vo
theorem TaskAt.keep {w w' : World} {base : Nat} {e : TE} (h : TaskAt w base e) (ht : ∀ (k : Nat) (T : TypeId) (cs : Array Value), isT T → w.heap[k]? = some (.cells cs T (0, 0)) → w'.heap[k]? = some (.cells cs T (0, 0))) : TaskAt w' base e :=
  ⟨h.gb, ht _ _ _ (.inl rfl) h.cell, own_kept h.ro fun k hk => by obtain ⟨cur, hc⟩ := own_block h.ro hk; rw [ht _ _ _ (.inr (.inr rfl)) hc, hc], own_kept h.rq fun k hk => by obtain ⟨cur, hc⟩ := own_block h.rq hk; rw [ht _ _ _ (.inr (.inr rfl)) hc, hc],
    own_kept h.rp fun k hk => by obtain ⟨cur, hc⟩ := own_block h.rp hk; rw [ht _ _ _ (.inr (.inl rfl)) hc, hc], h.self, h.wf⟩
theorem TasksI.keep {w w' : World} {base bt : Nat} {M : List TE} (h : TasksI w base bt M) (hm : w'.heap[bt]? = w.heap[bt]?) (ht : ∀ (k : Nat) (T : TypeId) (cs : Array Value), isT T → w.heap[k]? = some (.cells cs T (0, 0)) → w'.heap[k]? = some (.cells cs T (0, 0))) : TasksI w' base bt M :=
  ⟨h.mp.move hm, h.bb, h.nd, fun e he => (h.each e he).keep ht, h.dis⟩
theorem TasksI.below {w w' : World} {base bt : Nat} {M : List TE} (h : TasksI w base bt M) (hb : Below w.heap.size w w') : TasksI w' base bt M :=
  h.keep (hb.block bt h.mp.lt) fun k T cs _ hk => blk_below hk hb
theorem lkT_at {M : List TE} {k : Int} {g : Int} (h : lk (M.map fun e : TE => (e.t.f0, (e.g : Int))) k = some g) : ∃ (i : Nat) (e : TE), M[i]? = some e ∧ e.t.f0 = k ∧ g = (e.g : Int) := by
  induction M with
  | nil => cases h
  | cons e M ih =>
    rw [List.map_cons, lk] at h
    simp only at h
    split at h
    · rename_i hk
      injection h with h
      exact ⟨0, e, rfl, hk, h.symm⟩
    · obtain ⟨i, e', h1, h2, h3⟩ := ih h
      exact ⟨i + 1, e', by simpa using h1, h2, h3⟩
theorem lkT_no {M : List TE} {k : Int} (h : lk (M.map fun e : TE => (e.t.f0, (e.g : Int))) k = none) : k ∉ M.map fun e => e.t.f0 := by
  intro hm
  obtain ⟨e, he, rfl⟩ := List.mem_map.1 hm
  exact lk_none.1 h _ (List.mem_map.2 ⟨e, he, rfl⟩) rfl
theorem Dis.none_r {v u : Value} (h : u.ownBlock = none) : Dis v u := fun b _ h2 => by rw [h] at h2; cases h2
theorem Dis.none_l {v u : Value} (h : v.ownBlock = none) : Dis v u := fun b h1 _ => by rw [h] at h1; cases h1
/-- A task more. -/
theorem TasksI.snoc {w w' : World} {base bt : Nat} {M : List TE} {e : TE} (h : TasksI w base bt M) (hm : MapP w' bt ((M.map fun e => (e.t.f0, (e.g : Int))) ++ [(e.t.f0, (e.g : Int))])) (hn : e.t.f0 ∉ M.map fun e => e.t.f0) (he : TaskAt w' base e) (ho : e.vo.ownBlock = none) (hq : e.vq.ownBlock = none) (hp : e.vp.ownBlock = none)
    (ht : ∀ (k : Nat) (T : TypeId) (cs : Array Value), isT T → w.heap[k]? = some (.cells cs T (0, 0)) → w'.heap[k]? = some (.cells cs T (0, 0))) : TasksI w' base bt (M ++ [e]) := by
  refine ⟨by rw [List.map_append]; exact hm, h.bb, by rw [List.map_append]; exact nodup_snoc h.nd hn, fun e' he' => ?_, fun i j a b hij ha hb => ?_⟩
  · rcases List.mem_append.1 he' with h' | h'
    · exact (h.each e' h').keep ht
    · rw [List.mem_singleton] at h'; subst h'; exact he
  · have one : ∀ (i : Nat) (a : TE), (M ++ [e])[i]? = some a → M[i]? = some a ∨ (a = e ∧ i = M.length) := fun i a h1 => by
      by_cases hi : i < M.length
      · rw [List.getElem?_append_left hi] at h1; exact .inl h1
      · have hl := (List.getElem?_eq_some_iff.1 h1).1
        rw [List.length_append, List.length_singleton] at hl
        have : i = M.length := by omega
        subst this
        rw [List.getElem?_append_right (Nat.le_refl _), Nat.sub_self] at h1
        simp at h1
        exact .inr ⟨h1.symm, rfl⟩
    rcases one i a ha with h1 | ⟨rfl, h1⟩
    · rcases one j b hb with h2 | ⟨rfl, h2⟩
      · exact h.dis i j a b hij h1 h2
      · exact ⟨Dis.none_r hq, Dis.none_r hp, Dis.none_r ho⟩
    · exact ⟨Dis.none_l hq, Dis.none_l hp, Dis.none_l hq⟩
def HatN (v v' : Value) (n : Nat) : Prop := v'.ownBlock = none ∨ Hat v v' n
theorem Dis.hatN {v v' u : Value} {n : Nat} (h : Dis v u) (hh : HatN v v' n) (hl : ∀ b, u.ownBlock = some b → b < n) : Dis v' u := by
  rcases hh with e | hh
  · exact Dis.none_l e
  · exact h.hat hh hl
theorem HatN.refl (v : Value) (n : Nat) : HatN v v n := .inr (.inl rfl)
/-- One task is another. -/
theorem TasksI.setAt {w w' : World} {base bt n0 n1 n2 : Nat} {M : List TE} {i : Nat} {e e' : TE} (h : TasksI w base bt M) (hi : M[i]? = some e) (hk : e'.t.f0 = e.t.f0) (hg : e'.g = e.g) (he : TaskAt w' base e') (ho : HatN e.vo e'.vo n0) (hq : HatN e.vq e'.vq n1) (hp : HatN e.vp e'.vp n2) (hn0 : w.heap.size ≤ n0) (hn1 : w.heap.size ≤ n1) (hn2 : w.heap.size ≤ n2)
    (hm : w'.heap[bt]? = w.heap[bt]?) (ht : ∀ (k : Nat) (T : TypeId) (cs : Array Value), isT T → w.heap[k]? = some (.cells cs T (0, 0)) → k ≠ e.g → some k ≠ e.vq.ownBlock → some k ≠ e.vp.ownBlock → w'.heap[k]? = some (.cells cs T (0, 0))) : TasksI w' base bt (M.set i e') := by
  have hl := (List.getElem?_eq_some_iff.1 hi).1
  have one : ∀ (j : Nat) (a : TE), (M.set i e')[j]? = some a → (j = i ∧ a = e') ∨ (j ≠ i ∧ M[j]? = some a) := fun j a h1 => by
    by_cases hj : i = j
    · subst hj
      rw [List.getElem?_set_self hl] at h1
      injection h1 with h1
      exact .inl ⟨rfl, h1.symm⟩
    · rw [List.getElem?_set_ne hj] at h1
      exact .inr ⟨fun h => hj h.symm, h1⟩
  have hmap : (M.set i e').map (fun e => (e.t.f0, (e.g : Int))) = M.map fun e => (e.t.f0, (e.g : Int)) := by
    rw [List.map_set, hk, hg]
    refine List.ext_getElem? fun j => ?_
    by_cases hj : i = j
    · subst hj
      rw [List.getElem?_set_self (by simpa using hl), List.getElem?_map, hi]
      rfl
    · rw [List.getElem?_set_ne hj]
  have hmap2 : (M.set i e').map (fun e => e.t.f0) = M.map fun e => e.t.f0 := by
    have := congrArg (List.map Prod.fst) hmap
    rw [List.map_map, List.map_map] at this
    exact this
  have lt : ∀ (v : Value) (T : TypeId) (n : Nat) (xs : List Value) (z m : Nat), w.heap.size ≤ m → w.ownsRow base T z v n xs → ∀ b, v.ownBlock = some b → b < m := fun v T n xs z m hm h b hb => Nat.lt_of_lt_of_le (Ow.own_lt h b hb).2 hm
  have hE := h.each e (List.mem_of_getElem? hi)
  refine ⟨by rw [hmap]; exact h.mp.move hm, h.bb, by rw [hmap2]; exact h.nd, fun a ha => ?_, fun j k a b hjk ha hb => ?_⟩
  · obtain ⟨j, hj, ej⟩ := List.getElem_of_mem ha
    rcases one j a (by rw [List.getElem?_eq_getElem hj, ej]) with ⟨_, rfl⟩ | ⟨hne, hja⟩
    · exact he
    · have hA := h.each a (List.mem_of_getElem? hja)
      have hd := h.dis j i a e hne hja hi
      have hd2 := h.dis i j e a (fun h => hne h.symm) hi hja
      have hag : a.g ≠ e.g := by
        intro eg
        have c1 := hA.cell
        rw [eg, hE.cell] at c1
        injection c1 with c1
        injection c1 with c1
        have c2 : Value.int .i64 e.t.f0 = .int .i64 a.t.f0 := by
          have := congrArg (fun x : Array Value => x[0]?) c1
          simpa using this
        injection c2 with _ c2
        have nd := List.pairwise_iff_getElem.1 h.nd
        obtain ⟨hj2, ej2⟩ := List.getElem?_eq_some_iff.1 hja
        obtain ⟨hi2, ei2⟩ := List.getElem?_eq_some_iff.1 hi
        rcases Nat.lt_or_gt_of_ne hne with hlt | hlt
        · exact nd j i (by simpa using hj2) (by simpa using hi2) hlt (by simp [ej2, ei2, c2])
        · exact nd i j (by simpa using hi2) (by simpa using hj2) hlt (by simp [ej2, ei2, c2])
      refine ⟨hA.gb, ht _ _ _ (.inl rfl) hA.cell hag (fun hh => ?_) (fun hh => ?_), own_kept hA.ro fun b hb => ?_, own_kept hA.rq fun b hb => ?_, own_kept hA.rp fun b hb => ?_, hA.self, hA.wf⟩
      · obtain ⟨cur, hc⟩ := own_block hE.rq hh
        exact blk_types hA.cell hc (by decide) rfl
      · obtain ⟨cur, hc⟩ := own_block hE.rp hh
        exact blk_types hA.cell hc (by decide) rfl
      · obtain ⟨cur, hc⟩ := own_block hA.ro hb
        rw [ht _ _ _ (.inr (.inr rfl)) hc (blk_types hc hE.cell (by decide)) (fun hh => hd2.2.2 b hh.symm hb.symm) (fun hh => by
          obtain ⟨cur2, hc2⟩ := own_block hE.rp hh
          exact blk_types hc hc2 (by decide) rfl), hc]
      · obtain ⟨cur, hc⟩ := own_block hA.rq hb
        rw [ht _ _ _ (.inr (.inr rfl)) hc (blk_types hc hE.cell (by decide)) (fun hh => hd.1 b hb.symm hh.symm) (fun hh => by
          obtain ⟨cur2, hc2⟩ := own_block hE.rp hh
          exact blk_types hc hc2 (by decide) rfl), hc]
      · obtain ⟨cur, hc⟩ := own_block hA.rp hb
        rw [ht _ _ _ (.inr (.inl rfl)) hc (blk_types hc hE.cell (by decide)) (fun hh => by
          obtain ⟨cur2, hc2⟩ := own_block hE.rq hh
          exact blk_types hc hc2 (by decide) rfl) (fun hh => hd.2.1 b hb.symm hh.symm), hc]
  · rcases one j a ha with ⟨ej, rfl⟩ | ⟨hj, hja⟩
    · rcases one k b hb with ⟨ek, rfl⟩ | ⟨hk2, hkb⟩
      · omega
      · have hd2 := h.dis i k e b (fun h => hk2 h.symm) hi hkb
        have hB := h.each b (List.mem_of_getElem? hkb)
        exact ⟨hd2.1.hatN hq (lt _ _ _ _ _ _ hn1 hB.rq), hd2.2.1.hatN hp (lt _ _ _ _ _ _ hn2 hB.rp), hd2.2.2.hatN hq (lt _ _ _ _ _ _ hn1 hB.ro)⟩
    · rcases one k b hb with ⟨ek, rfl⟩ | ⟨hk2, hkb⟩
      · have hd2 := h.dis i j e a (fun h => hj h.symm) hi hja
        have hd3 := h.dis j i a e hj hja hi
        have hA := h.each a (List.mem_of_getElem? hja)
        exact ⟨(hd2.1.hatN hq (lt _ _ _ _ _ _ hn1 hA.rq)).symm, (hd2.2.1.hatN hp (lt _ _ _ _ _ _ hn2 hA.rp)).symm, (hd3.2.2.symm.hatN ho (lt _ _ _ _ _ _ hn0 hA.rq)).symm⟩
      · exact h.dis j k a b hjk hja hkb
/-- The whole state. -/
structure VS (w : World) (base bs : Nat) (L : List LE) (T : List TE) : Prop where
  st : ∃ bl bt, w.heap[bs]? = some (.cells #[.map (some bl), .map (some bt)] 62 (0, 0)) ∧ LogsI w base bl L ∧ TasksI w base bt T ∧ bl ≠ bt
  bb : base ≤ bs
theorem VS.below {w w' : World} {base bs : Nat} {L : List LE} {T : List TE} (h : VS w base bs L T) (hb : Below w.heap.size w w') : VS w' base bs L T := by
  obtain ⟨⟨bl, bt, h1, h2, h3, h4⟩, h5⟩ := h
  exact ⟨⟨bl, bt, blk_below h1 hb, h2.below hb, h3.below hb, h4⟩, h5⟩
end Go.Proofs.Ytmnglonjekegcaa.Vw
