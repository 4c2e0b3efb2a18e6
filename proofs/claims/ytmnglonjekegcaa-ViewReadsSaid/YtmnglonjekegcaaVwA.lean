/- (c11) The state in memory: tasks. -/
import Derived.Test.YtmnglonjekegcaaVwS
import Derived.Test.YtmnglonjekegcaaMono
namespace Go.Proofs.Ytmnglonjekegcaa.Vw
open Go Go.RowKit Go.Maps Go.Proofs.Ytmnglonjekegcaa.Mk Go.Proofs.Ytmnglonjekegcaa.Rp Go.Proofs.YtmnglonjekegcaaW.PrintWords Go.Proofs.YtmnglonjekegcaaW.PrintLast Go.Proofs.YtmnglonjekegcaaW.PrintMore Go.Proofs.Ytmnglonjekegcaa.Rw Go.Proofs.Ytmnglonjekegcaa.Ow
set_option linter.unusedVariables false
set_option linter.unusedSimpArgs false
/-- An open entry in memory: its two rows may be any. -/
structure IT where
  at_ : Int
  x : S47
  A9 : Option Addr
  c9 : Nat
  A10 : Option Addr
  c10 : Nat
def entC (x : S47) (A9 : Option Addr) (c9 : Nat) (A10 : Option Addr) (c10 : Nat) : List Value :=
  [.int .i64 x.f0, .int .i64 x.f1, .int .i64 x.f2, .int .i64 x.f3, .int .i64 x.f4, .int .i64 x.f5.f0, .int .i64 x.f5.f1, .int .i64 x.f5.f2, .bool x.f6, .slice A9 x.f7.length c9, .slice A10 x.f8.length c10]
def itC (i : IT) : List Value := .int .i64 i.at_ :: entC i.x i.A9 i.c9 i.A10 i.c10
def cellsIt (l : List IT) : List Value := l.flatMap itC
theorem cellsIt_append (l m : List IT) : cellsIt (l ++ m) = cellsIt l ++ cellsIt m := by simp [cellsIt]
theorem cellsIt_at {L : List IT} {i : Nat} {p : IT} (h : L[i]? = some p) (j : Nat) (u : Value) (hu : (itC p)[j]? = some u) : (cellsIt L)[i * 12 + j]? = some u := by
  induction L generalizing i with
  | nil => simp at h
  | cons q r ih =>
    have hq : (itC q).length = 12 := rfl
    have e : cellsIt (q :: r) = itC q ++ cellsIt r := by simp [cellsIt]
    rw [e]
    cases i with
    | zero =>
      simp only [List.getElem?_cons_zero, Option.some.injEq] at h
      subst h
      rw [List.getElem?_append_left (by have := (List.getElem?_eq_some_iff.1 hu).1; omega), Nat.zero_mul, Nat.zero_add]
      exact hu
    | succ i =>
      rw [List.getElem?_append_right (by omega), hq, show (i + 1) * 12 + j - 12 = i * 12 + j by omega]
      exact ih (by simpa using h)
theorem infoIT : (Try.prog.info? 75).map (fun i => (i.zero, i.size, i.bytes)) = some (some (.agg #[.int .i64 0, .int .i64 0, .int .i64 0, .int .i64 0, .int .i64 0, .int .i64 0, .int .i64 0, .int .i64 0, .int .i64 0, .bool false, .slice none 0 0, .slice none 0 0]), 12, 128) := by kernel_rfl
theorem TIIT : TInfo 65 75 12 128 := tinfo_of Try.underlying65 infoIT rfl (by omega)
structure TE where
  t : S41
  items : List IT
  g : Nat
  vo : Value
  vq : Value
  vp : Value
def TE.s (e : TE) : TS := ⟨e.t, e.items.map fun i => (i.at_, i.x)⟩
structure TaskAt (w : World) (base : Nat) (e : TE) : Prop where
  gb : base ≤ e.g
  cell : w.heap[e.g]? = some (.cells #[.int .i64 e.t.f0, .int .i64 e.t.f1, .int .i64 e.t.f2, e.vo, e.vq, .int .i64 e.t.f5, e.vp] 67 (0, 0))
  ro : w.ownsRow base 3 1 e.vo e.t.f3.length (cellsI e.t.f3)
  rq : w.ownsRow base 3 1 e.vq e.t.f4.length (cellsI e.t.f4)
  rp : w.ownsRow base 75 12 e.vp e.items.length (cellsIt e.items)
  self : Dis e.vq e.vo
  wf : (Lit.int .i64 e.t.f0).wf = true
structure TasksI (w : World) (base bt : Nat) (M : List TE) : Prop where
  mp : MapP w bt (M.map fun e => (e.t.f0, (e.g : Int)))
  bb : base ≤ bt
  nd : (M.map fun e => e.t.f0).Nodup
  each : ∀ e ∈ M, TaskAt w base e
  dis : ∀ (i j : Nat) (e e' : TE), i ≠ j → M[i]? = some e → M[j]? = some e' → Dis e.vq e'.vq ∧ Dis e.vp e'.vp ∧ Dis e.vq e'.vo
theorem TaskAt.keep {w w' : World} {base : Nat} {e : TE} (h : TaskAt w base e) (ht : ∀ (k : Nat) (T : TypeId) (cs : Array Value), isT T → w.heap[k]? = some (.cells cs T (0, 0)) → w'.heap[k]? = some (.cells cs T (0, 0))) : TaskAt w' base e :=
  ⟨h.gb, ht _ _ _ (.inl rfl) h.cell, own_kept h.ro fun k hk => by obtain ⟨cur, hc⟩ := own_block h.ro hk; rw [ht _ _ _ (.inr (.inr rfl)) hc, hc], own_kept h.rq fun k hk => by obtain ⟨cur, hc⟩ := own_block h.rq hk; rw [ht _ _ _ (.inr (.inr rfl)) hc, hc],
    own_kept h.rp fun k hk => by obtain ⟨cur, hc⟩ := own_block h.rp hk; rw [ht _ _ _ (.inr (.inl rfl)) hc, hc], h.self, h.wf⟩
theorem TasksI.keep {w w' : World} {base bt : Nat} {M : List TE} (h : TasksI w base bt M) (hm : w'.heap[bt]? = w.heap[bt]?) (ht : ∀ (k : Nat) (T : TypeId) (cs : Array Value), isT T → w.heap[k]? = some (.cells cs T (0, 0)) → w'.heap[k]? = some (.cells cs T (0, 0))) : TasksI w' base bt M :=
  ⟨h.mp.move hm, h.bb, h.nd, fun e he => (h.each e he).keep ht, h.dis⟩
theorem TasksI.below {w w' : World} {base bt : Nat} {M : List TE} (h : TasksI w base bt M) (hb : Below w.heap.size w w') : TasksI w' base bt M :=
  h.keep (hb.block bt h.mp.lt) fun k T cs _ hk => blk_below hk hb
theorem lkT_at {M : List TE} {k : Int} {g : Int} (h : lk (M.map fun e : TE => (e.t.f0, (e.g : Int))) k = some g) : ∃ (i : Nat) (e : TE), M[i]? = some e ∧ e.t.f0 = k ∧ g = (e.g : Int) := by
  induction M with
  | nil => cases h
  | cons e M ih =>
    rw [List.map_cons, lk] at h
    simp only at h
    split at h
    · rename_i hk
      injection h with h
      exact ⟨0, e, rfl, hk, h.symm⟩
    · obtain ⟨i, e', h1, h2, h3⟩ := ih h
      exact ⟨i + 1, e', by simpa using h1, h2, h3⟩
theorem lkT_no {M : List TE} {k : Int} (h : lk (M.map fun e : TE => (e.t.f0, (e.g : Int))) k = none) : k ∉ M.map fun e => e.t.f0 := by
  intro hm
  obtain ⟨e, he, rfl⟩ := List.mem_map.1 hm
  exact lk_none.1 h _ (List.mem_map.2 ⟨e, he, rfl⟩) rfl
theorem Dis.none_r {v u : Value} (h : u.ownBlock = none) : Dis v u := fun b _ h2 => by rw [h] at h2; cases h2
theorem Dis.none_l {v u : Value} (h : v.ownBlock = none) : Dis v u := fun b h1 _ => by rw [h] at h1; cases h1
/-- A task more. -/
theorem TasksI.snoc {w w' : World} {base bt : Nat} {M : List TE} {e : TE} (h : TasksI w base bt M) (hm : MapP w' bt ((M.map fun e => (e.t.f0, (e.g : Int))) ++ [(e.t.f0, (e.g : Int))])) (hn : e.t.f0 ∉ M.map fun e => e.t.f0) (he : TaskAt w' base e) (ho : e.vo.ownBlock = none) (hq : e.vq.ownBlock = none) (hp : e.vp.ownBlock = none)
    (ht : ∀ (k : Nat) (T : TypeId) (cs : Array Value), isT T → w.heap[k]? = some (.cells cs T (0, 0)) → w'.heap[k]? = some (.cells cs T (0, 0))) : TasksI w' base bt (M ++ [e]) := by
  refine ⟨by rw [List.map_append]; exact hm, h.bb, by rw [List.map_append]; exact nodup_snoc h.nd hn, fun e' he' => ?_, fun i j a b hij ha hb => ?_⟩
  · rcases List.mem_append.1 he' with h' | h'
    · exact (h.each e' h').keep ht
    · rw [List.mem_singleton] at h'; subst h'; exact he
  · have one : ∀ (i : Nat) (a : TE), (M ++ [e])[i]? = some a → M[i]? = some a ∨ (a = e ∧ i = M.length) := fun i a h1 => by
      by_cases hi : i < M.length
      · rw [List.getElem?_append_left hi] at h1; exact .inl h1
      · have hl := (List.getElem?_eq_some_iff.1 h1).1
        rw [List.length_append, List.length_singleton] at hl
        have : i = M.length := by omega
        subst this
        rw [List.getElem?_append_right (Nat.le_refl _), Nat.sub_self] at h1
        simp at h1
        exact .inr ⟨h1.symm, rfl⟩
    rcases one i a ha with h1 | ⟨rfl, h1⟩
    · rcases one j b hb with h2 | ⟨rfl, h2⟩
      · exact h.dis i j a b hij h1 h2
      · exact ⟨Dis.none_r hq, Dis.none_r hp, Dis.none_r ho⟩
    · exact ⟨Dis.none_l hq, Dis.none_l hp, Dis.none_l hq⟩
def HatN (v v' : Value) (n : Nat) : Prop := v'.ownBlock = none ∨ Hat v v' n
theorem Dis.hatN {v v' u : Value} {n : Nat} (h : Dis v u) (hh : HatN v v' n) (hl : ∀ b, u.ownBlock = some b → b < n) : Dis v' u := by
  rcases hh with e | hh
  · exact Dis.none_l e
  · exact h.hat hh hl
theorem HatN.refl (v : Value) (n : Nat) : HatN v v n := .inr (.inl rfl)
/-- One task is another. -/
theorem TasksI.setAt {w w' : World} {base bt n0 n1 n2 : Nat} {M : List TE} {i : Nat} {e e' : TE} (h : TasksI w base bt M) (hi : M[i]? = some e) (hk : e'.t.f0 = e.t.f0) (hg : e'.g = e.g) (he : TaskAt w' base e') (ho : HatN e.vo e'.vo n0) (hq : HatN e.vq e'.vq n1) (hp : HatN e.vp e'.vp n2) (hn0 : w.heap.size ≤ n0) (hn1 : w.heap.size ≤ n1) (hn2 : w.heap.size ≤ n2)
    (hm : w'.heap[bt]? = w.heap[bt]?) (ht : ∀ (k : Nat) (T : TypeId) (cs : Array Value), isT T → w.heap[k]? = some (.cells cs T (0, 0)) → k ≠ e.g → some k ≠ e.vq.ownBlock → some k ≠ e.vp.ownBlock → w'.heap[k]? = some (.cells cs T (0, 0))) : TasksI w' base bt (M.set i e') := by
  have hl := (List.getElem?_eq_some_iff.1 hi).1
  have one : ∀ (j : Nat) (a : TE), (M.set i e')[j]? = some a → (j = i ∧ a = e') ∨ (j ≠ i ∧ M[j]? = some a) := fun j a h1 => by
    by_cases hj : i = j
    · subst hj
      rw [List.getElem?_set_self hl] at h1
      injection h1 with h1
      exact .inl ⟨rfl, h1.symm⟩
    · rw [List.getElem?_set_ne hj] at h1
      exact .inr ⟨fun h => hj h.symm, h1⟩
  have hmap : (M.set i e').map (fun e => (e.t.f0, (e.g : Int))) = M.map fun e => (e.t.f0, (e.g : Int)) := by
    rw [List.map_set, hk, hg]
    refine List.ext_getElem? fun j => ?_
    by_cases hj : i = j
    · subst hj
      rw [List.getElem?_set_self (by simpa using hl), List.getElem?_map, hi]
      rfl
    · rw [List.getElem?_set_ne hj]
  have hmap2 : (M.set i e').map (fun e => e.t.f0) = M.map fun e => e.t.f0 := by
    have := congrArg (List.map Prod.fst) hmap
    rw [List.map_map, List.map_map] at this
    exact this
  have lt : ∀ (v : Value) (T : TypeId) (n : Nat) (xs : List Value) (z m : Nat), w.heap.size ≤ m → w.ownsRow base T z v n xs → ∀ b, v.ownBlock = some b → b < m := fun v T n xs z m hm h b hb => Nat.lt_of_lt_of_le (Ow.own_lt h b hb).2 hm
  have hE := h.each e (List.mem_of_getElem? hi)
  refine ⟨by rw [hmap]; exact h.mp.move hm, h.bb, by rw [hmap2]; exact h.nd, fun a ha => ?_, fun j k a b hjk ha hb => ?_⟩
  · obtain ⟨j, hj, ej⟩ := List.getElem_of_mem ha
    rcases one j a (by rw [List.getElem?_eq_getElem hj, ej]) with ⟨_, rfl⟩ | ⟨hne, hja⟩
    · exact he
    · have hA := h.each a (List.mem_of_getElem? hja)
      have hd := h.dis j i a e hne hja hi
      have hd2 := h.dis i j e a (fun h => hne h.symm) hi hja
      have hag : a.g ≠ e.g := by
        intro eg
        have c1 := hA.cell
        rw [eg, hE.cell] at c1
        injection c1 with c1
        injection c1 with c1
        have c2 : Value.int .i64 e.t.f0 = .int .i64 a.t.f0 := by
          have := congrArg (fun x : Array Value => x[0]?) c1
          simpa using this
        injection c2 with _ c2
        have nd := List.pairwise_iff_getElem.1 h.nd
        obtain ⟨hj2, ej2⟩ := List.getElem?_eq_some_iff.1 hja
        obtain ⟨hi2, ei2⟩ := List.getElem?_eq_some_iff.1 hi
        rcases Nat.lt_or_gt_of_ne hne with hlt | hlt
        · exact nd j i (by simpa using hj2) (by simpa using hi2) hlt (by simp [ej2, ei2, c2])
        · exact nd i j (by simpa using hi2) (by simpa using hj2) hlt (by simp [ej2, ei2, c2])
      refine ⟨hA.gb, ht _ _ _ (.inl rfl) hA.cell hag (fun hh => ?_) (fun hh => ?_), own_kept hA.ro fun b hb => ?_, own_kept hA.rq fun b hb => ?_, own_kept hA.rp fun b hb => ?_, hA.self, hA.wf⟩
      · obtain ⟨cur, hc⟩ := own_block hE.rq hh
        exact blk_types hA.cell hc (by decide) rfl
      · obtain ⟨cur, hc⟩ := own_block hE.rp hh
        exact blk_types hA.cell hc (by decide) rfl
      · obtain ⟨cur, hc⟩ := own_block hA.ro hb
        rw [ht _ _ _ (.inr (.inr rfl)) hc (blk_types hc hE.cell (by decide)) (fun hh => hd2.2.2 b hh.symm hb.symm) (fun hh => by
          obtain ⟨cur2, hc2⟩ := own_block hE.rp hh
          exact blk_types hc hc2 (by decide) rfl), hc]
      · obtain ⟨cur, hc⟩ := own_block hA.rq hb
        rw [ht _ _ _ (.inr (.inr rfl)) hc (blk_types hc hE.cell (by decide)) (fun hh => hd.1 b hb.symm hh.symm) (fun hh => by
          obtain ⟨cur2, hc2⟩ := own_block hE.rp hh
          exact blk_types hc hc2 (by decide) rfl), hc]
      · obtain ⟨cur, hc⟩ := own_block hA.rp hb
        rw [ht _ _ _ (.inr (.inl rfl)) hc (blk_types hc hE.cell (by decide)) (fun hh => by
          obtain ⟨cur2, hc2⟩ := own_block hE.rq hh
          exact blk_types hc hc2 (by decide) rfl) (fun hh => hd.2.1 b hb.symm hh.symm), hc]
  · rcases one j a ha with ⟨ej, rfl⟩ | ⟨hj, hja⟩
    · rcases one k b hb with ⟨ek, rfl⟩ | ⟨hk2, hkb⟩
      · omega
      · have hd2 := h.dis i k e b (fun h => hk2 h.symm) hi hkb
        have hB := h.each b (List.mem_of_getElem? hkb)
        exact ⟨hd2.1.hatN hq (lt _ _ _ _ _ _ hn1 hB.rq), hd2.2.1.hatN hp (lt _ _ _ _ _ _ hn2 hB.rp), hd2.2.2.hatN hq (lt _ _ _ _ _ _ hn1 hB.ro)⟩
    · rcases one k b hb with ⟨ek, rfl⟩ | ⟨hk2, hkb⟩
      · have hd2 := h.dis i j e a (fun h => hj h.symm) hi hja
        have hd3 := h.dis j i a e hj hja hi
        have hA := h.each a (List.mem_of_getElem? hja)
        exact ⟨(hd2.1.hatN hq (lt _ _ _ _ _ _ hn1 hA.rq)).symm, (hd2.2.1.hatN hp (lt _ _ _ _ _ _ hn2 hA.rp)).symm, (hd3.2.2.symm.hatN ho (lt _ _ _ _ _ _ hn0 hA.rq)).symm⟩
      · exact h.dis j k a b hjk hja hkb
/-- The whole state. -/
structure VS (w : World) (base bs : Nat) (L : List LE) (T : List TE) : Prop where
  st : ∃ bl bt, w.heap[bs]? = some (.cells #[.map (some bl), .map (some bt)] 62 (0, 0)) ∧ LogsI w base bl L ∧ TasksI w base bt T ∧ bl ≠ bt
  bb : base ≤ bs
theorem VS.below {w w' : World} {base bs : Nat} {L : List LE} {T : List TE} (h : VS w base bs L T) (hb : Below w.heap.size w w') : VS w' base bs L T := by
  obtain ⟨⟨bl, bt, h1, h2, h3, h4⟩, h5⟩ := h
  exact ⟨⟨bl, bt, blk_below h1 hb, h2.below hb, h3.below hb, h4⟩, h5⟩
end Go.Proofs.Ytmnglonjekegcaa.Vw
namespace Go.Proofs.Ytmnglonjekegcaa.Vw
open Go Go.RowKit Go.Maps Go.Proofs.Ytmnglonjekegcaa.Mk Go.Proofs.Ytmnglonjekegcaa.Rp Go.Proofs.YtmnglonjekegcaaW.PrintWords Go.Proofs.YtmnglonjekegcaaW.PrintLast Go.Proofs.YtmnglonjekegcaaW.PrintMore Go.Proofs.Ytmnglonjekegcaa.Rw Go.Proofs.Ytmnglonjekegcaa.Ow
set_option linter.unusedVariables false
set_option linter.unusedSimpArgs false
theorem append_exec {P : Program} {w w1 : World} {ρ : Operand → Value} {o : Oper} {v1 va xv : Value} (s x : Operand) (t : TypeId) (ho : o.op = .call { callee := .builtin .append, args := #[s, x], argTypes := #[t, t] }) (hs : ρ s = va) (hx : ρ x = xv)
    (hr : (Builtin.append_ #[t, t] o.type #[va, xv]).run P w = .ok v1 w1) : (execOp ρ o).run P w = .ok (.value v1) w1 := by
  unfold execOp
  simp only [ho, resolve, invoke, builtin, Sem.run_bind, Sem.run_pure, Result.andThen_ok, List.map_toArray, List.map_cons, List.map_nil, hs, hx, hr]
theorem upd_exec {P : Program} {w w1 : World} {ρ : Operand → Value} {o : Oper} {vm vx vv : Value} (m x v : Operand) (t : TypeId) (ho : o.op = .mapUpdate t m x v) (h1 : ρ m = vm) (h2 : ρ x = vx) (h3 : ρ v = vv)
    (hr : (Instr.mapUpdate t vm vx vv).run P w = .ok () w1) : (execOp ρ o).run P w = .ok .skip w1 := by
  unfold execOp
  simp only [ho, Sem.run_bind, Sem.run_pure, Result.andThen_ok, h1, h2, h3, hr]
/-- A pointer to a block's head, or none. -/
def pv : Option Nat → Value
  | some g => .pointer (some ⟨g, 0, none⟩)
  | none => .pointer none
theorem lk_nat {L : List (Int × Int)} (h : ∀ p ∈ L, 0 ≤ p.2) (k : Int) : ∃ o : Option Nat, lk L k = o.map fun g : Nat => (g : Int) := by
  cases hq : lk L k with
  | none => exact ⟨none, rfl⟩
  | some g =>
    have : 0 ≤ g := by
      induction L with
      | nil => cases hq
      | cons p L ih =>
        rw [lk] at hq
        split at hq
        · injection hq with hq
          rw [← hq]; exact h p (by simp)
        · exact ih (fun p hp => h p (by simp [hp])) hq
    exact ⟨some g.toNat, by simp [Int.toNat_of_nonneg this]⟩

theorem MapP.atL {w : World} {bm : Nat} {L : List (Int × Int)} (h : MapP w bm L) {k : Int} (hk : (Lit.int .i64 k).wf = true) {o : Option Nat} (ho : lk L k = o.map fun g : Nat => (g : Int)) :
    (Instr.lookup 59 (.map (some bm)) (.int .i64 k) false).run Try.prog w = .ok (pv o) w := by
  cases o with
  | none => exact (h.lookL hk).2 ho
  | some g => exact (h.lookL hk).1 g ho


theorem MapP.atT {w : World} {bm : Nat} {L : List (Int × Int)} (h : MapP w bm L) {k : Int} (hk : (Lit.int .i64 k).wf = true) {o : Option Nat} (ho : lk L k = o.map fun g : Nat => (g : Int)) :
    (Instr.lookup 60 (.map (some bm)) (.int .i64 k) false).run Try.prog w = .ok (pv o) w := by
  cases o with
  | none => exact (h.lookT hk).2 ho
  | some g => exact (h.lookT hk).1 g ho

theorem set_mod {α : Type} (key : α → Int) {M : List α} (nd : (M.map key).Nodup) {i : Nat} {e : α} (hi : M[i]? = some e) (f : α → α) : M.set i (f e) = M.map fun a => if key a = key e then f a else a := by
  induction M generalizing i with
  | nil => cases hi
  | cons a M ih =>
    rw [List.map_cons, List.nodup_cons] at nd
    cases i with
    | zero =>
      simp at hi
      subst hi
      rw [List.set_cons_zero, List.map_cons, if_pos rfl]
      congr 1
      refine (List.map_congr_left (g := id) fun b hb => ?_).trans (List.map_id _) |>.symm
      rw [if_neg]
      · rfl
      · exact fun h => nd.1 (List.mem_map.2 ⟨b, hb, h⟩)
    | succ i =>
      have hi2 : M[i]? = some e := by simpa using hi
      rw [List.set_cons_succ, List.map_cons, ih nd.2 hi2, if_neg]
      exact fun h => nd.1 (List.mem_map.2 ⟨e, List.mem_of_getElem? hi2, h.symm⟩)
/-- On the way: the log's block and the entry's stay; its two rows grow. -/
structure PutI (wc W : World) (base g3 : Nat) (ent : Array Value) (e : LE) (vr : Value) (r : List S45) (vd : Value) (d : List Bool) : Prop where
  cg : Chg wc W (fun k => some k = e.vr.ownBlock ∨ some k = e.vd.ownBlock)
  bb : base ≤ W.heap.size
  ent : W.heap[g3]? = some (.cells ent 47 (0, 0))
  log : W.heap[e.g]? = some (.cells #[.int .i64 e.l.f0, e.vr, e.vd] 36 (0, 0))
  rr : W.ownsRow base 45 3 vr r.length (cellsR r)
  rd : W.ownsRow base 4 1 vd d.length (cellsB d)
  hr : ∃ n, wc.heap.size ≤ n ∧ Hat e.vr vr n
  hd : ∃ n, wc.heap.size ≤ n ∧ Hat e.vd vd n
theorem PutI.start {wc : World} {base g3 : Nat} {ent : Array Value} {e : LE} (h : LogAt wc base e) (hb : base ≤ wc.heap.size) (he : wc.heap[g3]? = some (.cells ent 47 (0, 0))) : PutI wc wc base g3 ent e e.vr e.l.f1 e.vd e.l.f2 :=
  ⟨Chg.refl _ _, hb, he, h.cell, h.rr, h.rd, ⟨_, Nat.le_refl _, .inl rfl⟩, ⟨_, Nat.le_refl _, .inl rfl⟩⟩
theorem PutI.below {wc W W' : World} {base g3 : Nat} {ent : Array Value} {e : LE} {vr : Value} {r : List S45} {vd : Value} {d : List Bool} (h : PutI wc W base g3 ent e vr r vd d) (hb : Below W.heap.size W W') : PutI wc W' base g3 ent e vr r vd d :=
  ⟨h.cg.trans (Chg.of_below hb), Nat.le_trans h.bb hb.size, blk_below h.ent hb, blk_below h.log hb, own_below h.rr hb, own_below h.rd hb, h.hr, h.hd⟩
theorem PutI.appR {wc W : World} {base g3 : Nat} {ent : Array Value} {e : LE} {r : List S45} {vd : Value} {d : List Bool} (h : PutI wc W base g3 ent e e.vr r vd d) (ty : TypeId) (hty : ty = 33) (x : S45) (gl : Nat) (hgl : W.heap[gl]? = some (.cells #[.int .i64 x.f0, .int .i64 x.f1, .int .i64 x.f2] 45 (0, 0))) (hn : r.length ≤ 1000000) :
    ∃ v' W', (Builtin.append_ #[33, 33] ty #[e.vr, .slice (some ⟨gl, 0, none⟩) 1 1]).run Try.prog W = .ok v' W' ∧ PutI wc W' base g3 ent e v' (r ++ [x]) vd d ∧ (∀ (k : Nat) (T : TypeId) (cs : Array Value), T ≠ 45 → W.heap[k]? = some (.cells cs T (0, 0)) → W'.heap[k]? = some (.cells cs T (0, 0))) ∧ ∃ A c', v' = .slice A (r.length + 1) c' := by
  obtain ⟨v', W', hr, ho, hg, hat, hA⟩ := app_one TIR ty hty W base r.length e.vr (cellsR r) h.rr gl 1 [.int .i64 x.f0, .int .i64 x.f1, .int .i64 x.f2] hgl rfl (by simp [Value.oneCell']) hn (by decide) h.bb
  have hk : ∀ (k : Nat) (T : TypeId) (cs : Array Value), T ≠ 45 → W.heap[k]? = some (.cells cs T (0, 0)) → W'.heap[k]? = some (.cells cs T (0, 0)) := fun k T cs hT hk => blk_grown hk hg fun hh => by
    obtain ⟨cur, hc⟩ := own_block h.rr hh
    exact blk_types hk hc hT rfl
  refine ⟨v', W', hr, ⟨h.cg.trans ((Chg.of_grown hg).mono fun i hi => .inl hi), Nat.le_trans h.bb hg.size, hk _ _ _ (by decide) h.ent, hk _ _ _ (by decide) h.log, by rw [cellsR_append, List.length_append]; exact ho, own_kept h.rd fun k hk2 => ?_, ⟨_, h.cg.size, hat⟩, h.hd⟩, hk, hA⟩
  obtain ⟨cur, hc⟩ := own_block h.rd hk2
  rw [hk _ _ _ (by decide) hc, hc]
theorem PutI.appD {wc W : World} {base g3 : Nat} {ent : Array Value} {e : LE} {vr : Value} {r : List S45} {d : List Bool} (h : PutI wc W base g3 ent e vr r e.vd d) (ty : TypeId) (hty : ty = 34) (x : Bool) (gl : Nat) (hgl : W.heap[gl]? = some (.cells #[.bool x] 4 (0, 0))) (hn : d.length ≤ 1000000) :
    ∃ v' W', (Builtin.append_ #[34, 34] ty #[e.vd, .slice (some ⟨gl, 0, none⟩) 1 1]).run Try.prog W = .ok v' W' ∧ PutI wc W' base g3 ent e vr r v' (d ++ [x]) ∧ (∀ (k : Nat) (T : TypeId) (cs : Array Value), T ≠ 4 → W.heap[k]? = some (.cells cs T (0, 0)) → W'.heap[k]? = some (.cells cs T (0, 0))) ∧ ∃ A c', v' = .slice A (d.length + 1) c' := by
  obtain ⟨v', W', hr, ho, hg, hat, hA⟩ := app_one TIB ty hty W base d.length e.vd (cellsB d) h.rd gl 1 [.bool x] hgl rfl (by simp [Value.oneCell']) hn (by decide) h.bb
  have hk : ∀ (k : Nat) (T : TypeId) (cs : Array Value), T ≠ 4 → W.heap[k]? = some (.cells cs T (0, 0)) → W'.heap[k]? = some (.cells cs T (0, 0)) := fun k T cs hT hk => blk_grown hk hg fun hh => by
    obtain ⟨cur, hc⟩ := own_block h.rd hh
    exact blk_types hk hc hT rfl
  refine ⟨v', W', hr, ⟨h.cg.trans ((Chg.of_grown hg).mono fun i hi => .inr hi), Nat.le_trans h.bb hg.size, hk _ _ _ (by decide) h.ent, hk _ _ _ (by decide) h.log, own_kept h.rr fun k hk2 => ?_, by rw [cellsB_append, List.length_append]; exact ho, h.hr, ⟨_, h.cg.size, hat⟩⟩, hk, hA⟩
  obtain ⟨cur, hc⟩ := own_block h.rr hk2
  rw [hk _ _ _ (by decide) hc, hc]
/-- Blocks of other types stay. -/
def KeepX (P : TypeId → Prop) (w w' : World) : Prop := ∀ (k : Nat) (T : TypeId) (cs : Array Value), ¬ P T → w.heap[k]? = some (.cells cs T (0, 0)) → w'.heap[k]? = some (.cells cs T (0, 0))
theorem KeepX.refl (P : TypeId → Prop) (w : World) : KeepX P w w := fun _ _ _ _ h => h
theorem KeepX.trans {P : TypeId → Prop} {a b c : World} (h : KeepX P a b) (k : KeepX P b c) : KeepX P a c := fun i T cs hT hi => k i T cs hT (h i T cs hT hi)
theorem KeepX.below {P : TypeId → Prop} {a b c : World} (h : KeepX P a b) (k : Below b.heap.size b c) : KeepX P a c := fun i T cs hT hi => blk_below (h i T cs hT hi) k
theorem KeepX.mono {P Q : TypeId → Prop} {a b : World} (h : KeepX P a b) (hQ : ∀ T, P T → Q T) : KeepX Q a b := fun i T cs hT hi => h i T cs (fun e => hT (hQ T e)) hi
/-- Both rows grown, the two stored. -/
theorem put_end {wc W : World} {base bs bl bt g3 i : Nat} {ent : Array Value} {M : List LE} {T : List TE} {e : LE} {vr vd : Value} {x : S47} (hst : wc.heap[bs]? = some (.cells #[.map (some bl), .map (some bt)] 62 (0, 0))) (hL : LogsI wc base bl M) (hT : TasksI wc base bt T) (hne : bl ≠ bt) (hbb : base ≤ bs) (hi : M[i]? = some e) (hk : e.l.f0 = x.f4)
    (h : PutI wc W base g3 ent e vr (e.l.f1 ++ [x.f5]) vd (e.l.f2 ++ [x.f6])) {w0 : World} (hB : Below base w0 wc) (hb : base ≤ wc.heap.size) :
    VS ((W.setCell ⟨e.g, 1, none⟩ vr).setCell ⟨e.g, 2, none⟩ vd) base bs (M.set i ⟨addL x e.l, e.g, vr, vd⟩) T ∧ Below base w0 ((W.setCell ⟨e.g, 1, none⟩ vr).setCell ⟨e.g, 2, none⟩ vd) ∧ (M.set i ⟨addL x e.l, e.g, vr, vd⟩).map (·.l) = modL (M.map (·.l)) x.f4 (addL x) ∧ KeepX isL wc ((W.setCell ⟨e.g, 1, none⟩ vr).setCell ⟨e.g, 2, none⟩ vd) := by
  have hE := hL.each e (List.mem_of_getElem? hi)
  have hC : Chg wc ((W.setCell ⟨e.g, 1, none⟩ vr).setCell ⟨e.g, 2, none⟩ vd) (fun k => k = e.g ∨ some k = e.vr.ownBlock ∨ some k = e.vd.ownBlock) := ((h.cg.mono fun k hk => .inr hk).set (p := ⟨e.g, 1, none⟩) (.inl rfl) _).set (p := ⟨e.g, 2, none⟩) (.inl rfl) _
  have hcell : ((W.setCell ⟨e.g, 1, none⟩ vr).setCell ⟨e.g, 2, none⟩ vd).heap[e.g]? = some (.cells #[.int .i64 e.l.f0, vr, vd] 36 (0, 0)) := blk_put (blk_put h.log 1 vr (rfl : _ = (#[.int .i64 e.l.f0, vr, e.vd] : Array Value))) 2 vd rfl
  have kp : ∀ (v : Value) (T : TypeId) (z n : Nat) (xs : List Value), T ≠ 36 → W.ownsRow base T z v n xs → ((W.setCell ⟨e.g, 1, none⟩ vr).setCell ⟨e.g, 2, none⟩ vd).ownsRow base T z v n xs := fun v T z n xs hT ho => own_kept ho fun k hk => by
    obtain ⟨cur, hc⟩ := own_block ho hk
    have hne := blk_types hc h.log hT
    rw [Below.heap_setCell _ _ _ k hne, Below.heap_setCell _ _ _ k hne]
  have keep : ∀ (k : Nat) (T : TypeId) (cs : Array Value), ¬ isL T → wc.heap[k]? = some (.cells cs T (0, 0)) → ((W.setCell ⟨e.g, 1, none⟩ vr).setCell ⟨e.g, 2, none⟩ vd).heap[k]? = some (.cells cs T (0, 0)) := fun k T cs hT hk => (hC.block k (blk_lt hk) fun hh => by
    rcases hh with rfl | hh | hh
    · exact blk_types hk hE.cell (fun e => hT (.inl e)) rfl
    · obtain ⟨cur, hc⟩ := own_block hE.rr hh
      exact blk_types hk hc (fun e => hT (.inr (.inl e))) rfl
    · obtain ⟨cur, hc⟩ := own_block hE.rd hh
      exact blk_types hk hc (fun e => hT (.inr (.inr e))) rfl).trans hk
  have kM : ∀ (k : Nat) (L : List (Int × Int)), MapP wc k L → ((W.setCell ⟨e.g, 1, none⟩ vr).setCell ⟨e.g, 2, none⟩ vd).heap[k]? = wc.heap[k]? := fun k L hm => by
    obtain ⟨es, clock, hb⟩ := hm.isMap
    refine hC.block k hm.lt fun hh => ?_
    rcases hh with rfl | hh | hh
    · rw [hE.cell] at hb; cases hb
    · obtain ⟨cur, hc⟩ := own_block hE.rr hh
      rw [hc] at hb; cases hb
    · obtain ⟨cur, hc⟩ := own_block hE.rd hh
      rw [hc] at hb; cases hb
  obtain ⟨n1, hn1, hr⟩ := h.hr
  obtain ⟨n2, hn2, hd⟩ := h.hd
  refine ⟨⟨⟨bl, bt, keep bs _ _ (by unfold isL; decide) hst, ?_, ?_, hne⟩, hbb⟩, ?_, ?_, keep⟩
  · refine hL.setAt hi (e' := ⟨addL x e.l, e.g, vr, vd⟩) rfl rfl ⟨hE.gb, hcell, kp _ _ _ _ _ (by decide) h.rr, kp _ _ _ _ _ (by decide) h.rd, hE.wf⟩ hr hd hn1 hn2 (kM bl _ hL.mp) fun k T cs hT hk h1 h2 h3 => (hC.block k (blk_lt hk) fun hh => ?_).trans hk
    rcases hh with hh | hh | hh
    · exact h1 hh
    · exact h2 hh
    · exact h3 hh
  · refine hT.keep (kM bt _ hT.mp) fun k T cs hTT hk => keep k T cs ?_ hk
    rcases hTT with rfl | rfl | rfl <;> unfold isL <;> decide
  · refine Chg.below hB hC hb fun k hk => ?_
    rcases hk with rfl | hk | hk
    · exact hE.gb
    · exact (Ow.own_lt hE.rr k hk.symm).1
    · exact (Ow.own_lt hE.rd k hk.symm).1
  · have h1 : (M.map (·.l)).set i (addL x e.l) = modL (M.map (·.l)) x.f4 (addL x) := by
      have := set_mod (fun l : S36 => l.f0) (M := M.map (·.l)) (by rw [List.map_map]; exact hL.nd) (e := e.l) (i := i) (by rw [List.getElem?_map, hi]; rfl) (addL x)
      rw [this, hk]
      rfl
    rw [List.map_set]
    exact h1
/-- The log that a key names is there: the same, or one more. -/
theorem ens_old {M : List LE} {k : Int} {i : Nat} {e : LE} (hi : M[i]? = some e) (hk : e.l.f0 = k) : ensL (M.map (·.l)) k = M.map (·.l) := by
  unfold ensL
  rw [if_pos]
  exact hasL_iff.2 (by rw [List.map_map]; exact List.mem_map.2 ⟨e, List.mem_of_getElem? hi, hk⟩)
theorem ens_new {M : List LE} {k : Int} {g : Nat} (hn : k ∉ M.map fun e => e.l.f0) : ensL (M.map (·.l)) k = (M ++ [(⟨⟨k, [], []⟩, g, .slice none 0 0, .slice none 0 0⟩ : LE)]).map (·.l) := by
  unfold ensL
  rw [if_neg]
  · simp
  · intro h
    have := hasL_iff.1 h
    rw [List.map_map] at this
    exact hn this
/-- A new log's block, and its place in the map. -/
theorem put_new {w1 w2 : World} {base bs bl bt g : Nat} {M : List LE} {T : List TE} {k : Int} (hst : w1.heap[bs]? = some (.cells #[.map (some bl), .map (some bt)] 62 (0, 0))) (hL : LogsI w1 base bl M) (hT : TasksI w1 base bt T) (hne : bl ≠ bt) (hn : k ∉ M.map fun e => e.l.f0) (hwf : (Lit.int .i64 k).wf = true) (hg : w1.heap[g]? = some (.cells #[.int .i64 k, .slice none 0 0, .slice none 0 0] 36 (0, 0))) (hgb : base ≤ g)
    (hm : MapP w2 bl ((M.map fun e => (e.l.f0, (e.g : Int))) ++ [(k, (g : Int))])) (hgr : w1.grownBy w2 (some bl)) :
    w2.heap[bs]? = some (.cells #[.map (some bl), .map (some bt)] 62 (0, 0)) ∧ LogsI w2 base bl (M ++ [⟨⟨k, [], []⟩, g, .slice none 0 0, .slice none 0 0⟩]) ∧ TasksI w2 base bt T ∧ Chg w1 w2 (fun j => j = bl) ∧ (∀ (k : Nat) (T : TypeId) (cs : Array Value), w1.heap[k]? = some (.cells cs T (0, 0)) → w2.heap[k]? = some (.cells cs T (0, 0))) := by
  obtain ⟨es, clock, hmb⟩ := hL.mp.isMap
  have keep : ∀ (k : Nat) (T : TypeId) (cs : Array Value), w1.heap[k]? = some (.cells cs T (0, 0)) → w2.heap[k]? = some (.cells cs T (0, 0)) := fun k T cs hk => blk_grown hk hgr fun hh => by
    injection hh with hh
    subst hh
    rw [hk] at hmb
    cases hmb
  refine ⟨keep _ _ _ hst, hL.snoc hm hn ⟨hgb, keep _ _ _ hg, World.ownsRow_nil _ _ _ _, World.ownsRow_nil _ _ _ _, hwf⟩ rfl rfl fun k T cs _ hk => keep k T cs hk, hT.keep (hgr.block bt hT.mp.lt fun hh => by injection hh with hh; exact hne hh.symm) fun k T cs _ hk => keep k T cs hk, (Chg.of_grown hgr).mono fun j hj => by injection hj, keep⟩
theorem list_upd {P : Program} {ops : Array Oper} {rest : List Oper} {o : Oper} {a : Act} {Q : Exit → Act → World → Prop} {w w1 : World} (hgd : o.guard = none) (hdn : o.dst = none) (m x v : Operand) (t : TypeId) (ho : o.op = .mapUpdate t m x v) (hr : (Instr.mapUpdate t (a.eval m) (a.eval x) (a.eval v)).run P w = .ok () w1) (h : wpList P ops Q rest a w1) : wpList P ops Q (o :: rest) a w := by
  refine wpList_plain hgd fun K hK => ?_
  unfold Oper.wp execOp
  simp only [ho, Sem.run_bind, Sem.run_pure, Result.andThen_ok, hr]
  show K (a.put o.dst undef) _
  rw [hdn]
  exact hK _ _ h
theorem below_on {base : Nat} {w0 a b : World} (h : Below base w0 a) (hb : base ≤ a.heap.size) (k : Below a.heap.size a b) : Below base w0 b := Chg.below h (Chg.of_below (S := fun _ => False) k) hb fun _ h => h.elim
theorem ensT_old {T : List TE} {k : Int} {i : Nat} {e : TE} (hi : T[i]? = some e) (hk : e.t.f0 = k) : ensT (T.map TE.s) k = T.map TE.s := by
  unfold ensT
  rw [if_pos]
  exact hasT_iff.2 (by rw [List.map_map]; exact List.mem_map.2 ⟨e, List.mem_of_getElem? hi, hk⟩)
def newE (k : Int) (g : Nat) : TE := ⟨⟨k, 0, 0, [], [], 0⟩, [], g, .slice none 0 0, .slice none 0 0, .slice none 0 0⟩
theorem ensT_new {T : List TE} {k : Int} {g : Nat} (hn : k ∉ T.map fun e => e.t.f0) : ensT (T.map TE.s) k = (T ++ [newE k g]).map TE.s := by
  unfold ensT
  rw [if_neg]
  · simp [newE, newT, TE.s]
  · intro h
    have := hasT_iff.1 h
    rw [List.map_map] at this
    exact hn this
/-- A new task's block, and its place in the map. -/
theorem task_new {w1 w2 : World} {base bs bl bt g : Nat} {M : List LE} {T : List TE} {k : Int} (hst : w1.heap[bs]? = some (.cells #[.map (some bl), .map (some bt)] 62 (0, 0))) (hL : LogsI w1 base bl M) (hT : TasksI w1 base bt T) (hne : bl ≠ bt) (hbb : base ≤ bs) (hn : k ∉ T.map fun e => e.t.f0) (hwf : (Lit.int .i64 k).wf = true) (hg : w1.heap[g]? = some (.cells #[.int .i64 k, .int .i64 0, .int .i64 0, .slice none 0 0, .slice none 0 0, .int .i64 0, .slice none 0 0] 67 (0, 0))) (hgb : base ≤ g)
    (hm : MapP w2 bt ((T.map fun e => (e.t.f0, (e.g : Int))) ++ [(k, (g : Int))])) (hgr : w1.grownBy w2 (some bt)) :
    VS w2 base bs M (T ++ [newE k g]) ∧ Chg w1 w2 (fun j => j = bt) ∧ KeepX (fun _ => False) w1 w2 := by
  obtain ⟨es, clock, hmb⟩ := hT.mp.isMap
  have keep : ∀ (k : Nat) (T : TypeId) (cs : Array Value), w1.heap[k]? = some (.cells cs T (0, 0)) → w2.heap[k]? = some (.cells cs T (0, 0)) := fun k T cs hk => blk_grown hk hgr fun hh => by
    injection hh with hh
    subst hh
    rw [hk] at hmb
    cases hmb
  refine ⟨⟨⟨bl, bt, keep _ _ _ hst, hL.keep (hgr.block bl hL.mp.lt fun hh => by injection hh with hh; exact hne hh) fun k T cs _ hk => keep k T cs hk, hT.snoc hm hn ⟨hgb, keep _ _ _ hg, World.ownsRow_nil _ _ _ _, World.ownsRow_nil _ _ _ _, World.ownsRow_nil _ _ _ _, Dis.none_l rfl, hwf⟩ rfl rfl rfl fun k T cs _ hk => keep k T cs hk, hne⟩, hbb⟩, (Chg.of_grown hgr).mono fun j hj => (by injection hj), fun k T cs _ h => keep k T cs h⟩
end Go.Proofs.Ytmnglonjekegcaa.Vw
