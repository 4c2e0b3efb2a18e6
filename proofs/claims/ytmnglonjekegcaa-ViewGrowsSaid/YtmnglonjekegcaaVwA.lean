/- (c11) Towards state.put: plain steps. -/
import Derived.Test.YtmnglonjekegcaaVwT
import Derived.Test.YtmnglonjekegcaaMono
namespace Go.Proofs.Ytmnglonjekegcaa.Vw
open Go Go.RowKit Go.Maps Go.Proofs.Ytmnglonjekegcaa.Mk Go.Proofs.Ytmnglonjekegcaa.Rp Go.Proofs.YtmnglonjekegcaaW.PrintWords Go.Proofs.YtmnglonjekegcaaW.PrintLast Go.Proofs.YtmnglonjekegcaaW.PrintMore Go.Proofs.Ytmnglonjekegcaa.Rw Go.Proofs.Ytmnglonjekegcaa.Ow
set_option linter.unusedVariables false
set_option linter.unusedSimpArgs false
theorem append_exec {P : Program} {w w1 : World} {ρ : Operand → Value} {o : Oper} {v1 va xv : Value} (s x : Operand) (t : TypeId) (ho : o.op = .call { callee := .builtin .append, args := #[s, x], argTypes := #[t, t] }) (hs : ρ s = va) (hx : ρ x = xv)
    (hr : (Builtin.append_ #[t, t] o.type #[va, xv]).run P w = .ok v1 w1) : (execOp ρ o).run P w = .ok (.value v1) w1 := by
  unfold execOp
  simp only [ho, resolve, invoke, builtin, Sem.run_bind, Sem.run_pure, Result.andThen_ok, List.map_toArray, List.map_cons, List.map_nil, hs, hx, hr]
theorem upd_exec {P : Program} {w w1 : World} {ρ : Operand → Value} {o : Oper} {vm vx vv : Value} (m x v : Operand) (t : TypeId) (ho : o.op = .mapUpdate t m x v) (h1 : ρ m = vm) (h2 : ρ x = vx) (h3 : ρ v = vv)
    (hr : (Instr.mapUpdate t vm vx vv).run P w = .ok () w1) : (execOp ρ o).run P w = .ok .skip w1 := by
  unfold execOp
  simp only [ho, Sem.run_bind, Sem.run_pure, Result.andThen_ok, h1, h2, h3, hr]
/-- A pointer to a block's head, or none. -/
def pv : Option Nat → Value
  | some g => .pointer (some ⟨g, 0, none⟩)
  | none => .pointer none
theorem lk_nat {L : List (Int × Int)} (h : ∀ p ∈ L, 0 ≤ p.2) (k : Int) : ∃ o : Option Nat, lk L k = o.map fun g : Nat => (g : Int) := by
  cases hq : lk L k with
  | none => exact ⟨none, rfl⟩
  | some g =>
    have : 0 ≤ g := by
      induction L with
      | nil => cases hq
      | cons p L ih =>
        rw [lk] at hq
        split at hq
        · injection hq with hq
          rw [← hq]; exact h p (by simp)
        · exact ih (fun p hp => h p (by simp [hp])) hq
    exact ⟨some g.toNat, by simp [Int.toNat_of_nonneg this]⟩

theorem MapP.atL {w : World} {bm : Nat} {L : List (Int × Int)} (h : MapP w bm L) {k : Int} (hk : (Lit.int .i64 k).wf = true) {o : Option Nat} (ho : lk L k = o.map fun g : Nat => (g : Int)) :
    (Instr.lookup 59 (.map (some bm)) (.int .i64 k) false).run Try.prog w = .ok (pv o) w := by
  cases o with
  | none => exact (h.lookL hk).2 ho
  | some g => exact (h.lookL hk).1 g ho


theorem MapP.atT {w : World} {bm : Nat} {L : List (Int × Int)} (h : MapP w bm L) {k : Int} (hk : (Lit.int .i64 k).wf = true) {o : Option Nat} (ho : lk L k = o.map fun g : Nat => (g : Int)) :
    (Instr.lookup 60 (.map (some bm)) (.int .i64 k) false).run Try.prog w = .ok (pv o) w := by
  cases o with
  | none => exact (h.lookT hk).2 ho
  | some g => exact (h.lookT hk).1 g ho

theorem set_mod {α : Type} (key : α → Int) {M : List α} (nd : (M.map key).Nodup) {i : Nat} {e : α} (hi : M[i]? = some e) (f : α → α) : M.set i (f e) = M.map fun a => if key a = key e then f a else a := by
  induction M generalizing i with
  | nil => cases hi
  | cons a M ih =>
    rw [List.map_cons, List.nodup_cons] at nd
    cases i with
    | zero =>
      simp at hi
      subst hi
      rw [List.set_cons_zero, List.map_cons, if_pos rfl]
      congr 1
      refine (List.map_congr_left (g := id) fun b hb => ?_).trans (List.map_id _) |>.symm
      rw [if_neg]
      · rfl
      · exact fun h => nd.1 (List.mem_map.2 ⟨b, hb, h⟩)
    | succ i =>
      have hi2 : M[i]? = some e := by simpa using hi
      rw [List.set_cons_succ, List.map_cons, ih nd.2 hi2, if_neg]
      exact fun h => nd.1 (List.mem_map.2 ⟨e, List.mem_of_getElem? hi2, h.symm⟩)
/-- On the way: the log's block and the entry's stay; its two rows grow. -/
structure PutI (wc W : World) (base g3 : Nat) (ent : Array Value) (e : LE) (vr : Value) (r : List S45) (vd : Value) (d : List Bool) : Prop where
  cg : Chg wc W (fun k => some k = e.vr.ownBlock ∨ some k = e.vd.ownBlock)
  bb : base ≤ W.heap.size
  ent : W.heap[g3]? = some (.cells ent 47 (0, 0))
  log : W.heap[e.g]? = some (.cells #[.int .i64 e.l.f0, e.vr, e.vd] 36 (0, 0))
  rr : W.ownsRow base 45 3 vr r.length (cellsR r)
  rd : W.ownsRow base 4 1 vd d.length (cellsB d)
  hr : ∃ n, wc.heap.size ≤ n ∧ Hat e.vr vr n
  hd : ∃ n, wc.heap.size ≤ n ∧ Hat e.vd vd n
theorem PutI.start {wc : World} {base g3 : Nat} {ent : Array Value} {e : LE} (h : LogAt wc base e) (hb : base ≤ wc.heap.size) (he : wc.heap[g3]? = some (.cells ent 47 (0, 0))) : PutI wc wc base g3 ent e e.vr e.l.f1 e.vd e.l.f2 :=
  ⟨Chg.refl _ _, hb, he, h.cell, h.rr, h.rd, ⟨_, Nat.le_refl _, .inl rfl⟩, ⟨_, Nat.le_refl _, .inl rfl⟩⟩
theorem PutI.below {wc W W' : World} {base g3 : Nat} {ent : Array Value} {e : LE} {vr : Value} {r : List S45} {vd : Value} {d : List Bool} (h : PutI wc W base g3 ent e vr r vd d) (hb : Below W.heap.size W W') : PutI wc W' base g3 ent e vr r vd d :=
  ⟨h.cg.trans (Chg.of_below hb), Nat.le_trans h.bb hb.size, blk_below h.ent hb, blk_below h.log hb, own_below h.rr hb, own_below h.rd hb, h.hr, h.hd⟩
theorem PutI.appR {wc W : World} {base g3 : Nat} {ent : Array Value} {e : LE} {r : List S45} {vd : Value} {d : List Bool} (h : PutI wc W base g3 ent e e.vr r vd d) (ty : TypeId) (hty : ty = 33) (x : S45) (gl : Nat) (hgl : W.heap[gl]? = some (.cells #[.int .i64 x.f0, .int .i64 x.f1, .int .i64 x.f2] 45 (0, 0))) (hn : r.length ≤ 1000000) :
    ∃ v' W', (Builtin.append_ #[33, 33] ty #[e.vr, .slice (some ⟨gl, 0, none⟩) 1 1]).run Try.prog W = .ok v' W' ∧ PutI wc W' base g3 ent e v' (r ++ [x]) vd d ∧ (∀ (k : Nat) (T : TypeId) (cs : Array Value), T ≠ 45 → W.heap[k]? = some (.cells cs T (0, 0)) → W'.heap[k]? = some (.cells cs T (0, 0))) ∧ ∃ A c', v' = .slice A (r.length + 1) c' := by
  obtain ⟨v', W', hr, ho, hg, hat, hA⟩ := app_one TIR ty hty W base r.length e.vr (cellsR r) h.rr gl 1 [.int .i64 x.f0, .int .i64 x.f1, .int .i64 x.f2] hgl rfl (by simp [Value.oneCell']) hn (by decide) h.bb
  have hk : ∀ (k : Nat) (T : TypeId) (cs : Array Value), T ≠ 45 → W.heap[k]? = some (.cells cs T (0, 0)) → W'.heap[k]? = some (.cells cs T (0, 0)) := fun k T cs hT hk => blk_grown hk hg fun hh => by
    obtain ⟨cur, hc⟩ := own_block h.rr hh
    exact blk_types hk hc hT rfl
  refine ⟨v', W', hr, ⟨h.cg.trans ((Chg.of_grown hg).mono fun i hi => .inl hi), Nat.le_trans h.bb hg.size, hk _ _ _ (by decide) h.ent, hk _ _ _ (by decide) h.log, by rw [cellsR_append, List.length_append]; exact ho, own_kept h.rd fun k hk2 => ?_, ⟨_, h.cg.size, hat⟩, h.hd⟩, hk, hA⟩
  obtain ⟨cur, hc⟩ := own_block h.rd hk2
  rw [hk _ _ _ (by decide) hc, hc]
theorem PutI.appD {wc W : World} {base g3 : Nat} {ent : Array Value} {e : LE} {vr : Value} {r : List S45} {d : List Bool} (h : PutI wc W base g3 ent e vr r e.vd d) (ty : TypeId) (hty : ty = 34) (x : Bool) (gl : Nat) (hgl : W.heap[gl]? = some (.cells #[.bool x] 4 (0, 0))) (hn : d.length ≤ 1000000) :
    ∃ v' W', (Builtin.append_ #[34, 34] ty #[e.vd, .slice (some ⟨gl, 0, none⟩) 1 1]).run Try.prog W = .ok v' W' ∧ PutI wc W' base g3 ent e vr r v' (d ++ [x]) ∧ (∀ (k : Nat) (T : TypeId) (cs : Array Value), T ≠ 4 → W.heap[k]? = some (.cells cs T (0, 0)) → W'.heap[k]? = some (.cells cs T (0, 0))) ∧ ∃ A c', v' = .slice A (d.length + 1) c' := by
  obtain ⟨v', W', hr, ho, hg, hat, hA⟩ := app_one TIB ty hty W base d.length e.vd (cellsB d) h.rd gl 1 [.bool x] hgl rfl (by simp [Value.oneCell']) hn (by decide) h.bb
  have hk : ∀ (k : Nat) (T : TypeId) (cs : Array Value), T ≠ 4 → W.heap[k]? = some (.cells cs T (0, 0)) → W'.heap[k]? = some (.cells cs T (0, 0)) := fun k T cs hT hk => blk_grown hk hg fun hh => by
    obtain ⟨cur, hc⟩ := own_block h.rd hh
    exact blk_types hk hc hT rfl
  refine ⟨v', W', hr, ⟨h.cg.trans ((Chg.of_grown hg).mono fun i hi => .inr hi), Nat.le_trans h.bb hg.size, hk _ _ _ (by decide) h.ent, hk _ _ _ (by decide) h.log, own_kept h.rr fun k hk2 => ?_, by rw [cellsB_append, List.length_append]; exact ho, h.hr, ⟨_, h.cg.size, hat⟩⟩, hk, hA⟩
  obtain ⟨cur, hc⟩ := own_block h.rr hk2
  rw [hk _ _ _ (by decide) hc, hc]
/-- Blocks of other types stay. -/
def KeepX (P : TypeId → Prop) (w w' : World) : Prop := ∀ (k : Nat) (T : TypeId) (cs : Array Value), ¬ P T → w.heap[k]? = some (.cells cs T (0, 0)) → w'.heap[k]? = some (.cells cs T (0, 0))
theorem KeepX.refl (P : TypeId → Prop) (w : World) : KeepX P w w := fun _ _ _ _ h => h
theorem KeepX.trans {P : TypeId → Prop} {a b c : World} (h : KeepX P a b) (k : KeepX P b c) : KeepX P a c := fun i T cs hT hi => k i T cs hT (h i T cs hT hi)
theorem KeepX.below {P : TypeId → Prop} {a b c : World} (h : KeepX P a b) (k : Below b.heap.size b c) : KeepX P a c := fun i T cs hT hi => blk_below (h i T cs hT hi) k
theorem KeepX.mono {P Q : TypeId → Prop} {a b : World} (h : KeepX P a b) (hQ : ∀ T, P T → Q T) : KeepX Q a b := fun i T cs hT hi => h i T cs (fun e => hT (hQ T e)) hi
/-- Both rows grown, the two stored. -/
theorem put_end {wc W : World} {base bs bl bt g3 i : Nat} {ent : Array Value} {M : List LE} {T : List TE} {e : LE} {vr vd : Value} {x : S47} (hst : wc.heap[bs]? = some (.cells #[.map (some bl), .map (some bt)] 62 (0, 0))) (hL : LogsI wc base bl M) (hT : TasksI wc base bt T) (hne : bl ≠ bt) (hbb : base ≤ bs) (hi : M[i]? = some e) (hk : e.l.f0 = x.f4)
    (h : PutI wc W base g3 ent e vr (e.l.f1 ++ [x.f5]) vd (e.l.f2 ++ [x.f6])) {w0 : World} (hB : Below base w0 wc) (hb : base ≤ wc.heap.size) :
    VS ((W.setCell ⟨e.g, 1, none⟩ vr).setCell ⟨e.g, 2, none⟩ vd) base bs (M.set i ⟨addL x e.l, e.g, vr, vd⟩) T ∧ Below base w0 ((W.setCell ⟨e.g, 1, none⟩ vr).setCell ⟨e.g, 2, none⟩ vd) ∧ (M.set i ⟨addL x e.l, e.g, vr, vd⟩).map (·.l) = modL (M.map (·.l)) x.f4 (addL x) ∧ KeepX isL wc ((W.setCell ⟨e.g, 1, none⟩ vr).setCell ⟨e.g, 2, none⟩ vd) := by
  have hE := hL.each e (List.mem_of_getElem? hi)
  have hC : Chg wc ((W.setCell ⟨e.g, 1, none⟩ vr).setCell ⟨e.g, 2, none⟩ vd) (fun k => k = e.g ∨ some k = e.vr.ownBlock ∨ some k = e.vd.ownBlock) := ((h.cg.mono fun k hk => .inr hk).set (p := ⟨e.g, 1, none⟩) (.inl rfl) _).set (p := ⟨e.g, 2, none⟩) (.inl rfl) _
  have hcell : ((W.setCell ⟨e.g, 1, none⟩ vr).setCell ⟨e.g, 2, none⟩ vd).heap[e.g]? = some (.cells #[.int .i64 e.l.f0, vr, vd] 36 (0, 0)) := blk_put (blk_put h.log 1 vr (rfl : _ = (#[.int .i64 e.l.f0, vr, e.vd] : Array Value))) 2 vd rfl
  have kp : ∀ (v : Value) (T : TypeId) (z n : Nat) (xs : List Value), T ≠ 36 → W.ownsRow base T z v n xs → ((W.setCell ⟨e.g, 1, none⟩ vr).setCell ⟨e.g, 2, none⟩ vd).ownsRow base T z v n xs := fun v T z n xs hT ho => own_kept ho fun k hk => by
    obtain ⟨cur, hc⟩ := own_block ho hk
    have hne := blk_types hc h.log hT
    rw [Below.heap_setCell _ _ _ k hne, Below.heap_setCell _ _ _ k hne]
  have keep : ∀ (k : Nat) (T : TypeId) (cs : Array Value), ¬ isL T → wc.heap[k]? = some (.cells cs T (0, 0)) → ((W.setCell ⟨e.g, 1, none⟩ vr).setCell ⟨e.g, 2, none⟩ vd).heap[k]? = some (.cells cs T (0, 0)) := fun k T cs hT hk => (hC.block k (blk_lt hk) fun hh => by
    rcases hh with rfl | hh | hh
    · exact blk_types hk hE.cell (fun e => hT (.inl e)) rfl
    · obtain ⟨cur, hc⟩ := own_block hE.rr hh
      exact blk_types hk hc (fun e => hT (.inr (.inl e))) rfl
    · obtain ⟨cur, hc⟩ := own_block hE.rd hh
      exact blk_types hk hc (fun e => hT (.inr (.inr e))) rfl).trans hk
  have kM : ∀ (k : Nat) (L : List (Int × Int)), MapP wc k L → ((W.setCell ⟨e.g, 1, none⟩ vr).setCell ⟨e.g, 2, none⟩ vd).heap[k]? = wc.heap[k]? := fun k L hm => by
    obtain ⟨es, clock, hb⟩ := hm.isMap
    refine hC.block k hm.lt fun hh => ?_
    rcases hh with rfl | hh | hh
    · rw [hE.cell] at hb; cases hb
    · obtain ⟨cur, hc⟩ := own_block hE.rr hh
      rw [hc] at hb; cases hb
    · obtain ⟨cur, hc⟩ := own_block hE.rd hh
      rw [hc] at hb; cases hb
  obtain ⟨n1, hn1, hr⟩ := h.hr
  obtain ⟨n2, hn2, hd⟩ := h.hd
  refine ⟨⟨⟨bl, bt, keep bs _ _ (by unfold isL; decide) hst, ?_, ?_, hne⟩, hbb⟩, ?_, ?_, keep⟩
  · refine hL.setAt hi (e' := ⟨addL x e.l, e.g, vr, vd⟩) rfl rfl ⟨hE.gb, hcell, kp _ _ _ _ _ (by decide) h.rr, kp _ _ _ _ _ (by decide) h.rd, hE.wf⟩ hr hd hn1 hn2 (kM bl _ hL.mp) fun k T cs hT hk h1 h2 h3 => (hC.block k (blk_lt hk) fun hh => ?_).trans hk
    rcases hh with hh | hh | hh
    · exact h1 hh
    · exact h2 hh
    · exact h3 hh
  · refine hT.keep (kM bt _ hT.mp) fun k T cs hTT hk => keep k T cs ?_ hk
    rcases hTT with rfl | rfl | rfl <;> unfold isL <;> decide
  · refine Chg.below hB hC hb fun k hk => ?_
    rcases hk with rfl | hk | hk
    · exact hE.gb
    · exact (Ow.own_lt hE.rr k hk.symm).1
    · exact (Ow.own_lt hE.rd k hk.symm).1
  · have h1 : (M.map (·.l)).set i (addL x e.l) = modL (M.map (·.l)) x.f4 (addL x) := by
      have := set_mod (fun l : S36 => l.f0) (M := M.map (·.l)) (by rw [List.map_map]; exact hL.nd) (e := e.l) (i := i) (by rw [List.getElem?_map, hi]; rfl) (addL x)
      rw [this, hk]
      rfl
    rw [List.map_set]
    exact h1
/-- The log that a key names is there: the same, or one more. -/
theorem ens_old {M : List LE} {k : Int} {i : Nat} {e : LE} (hi : M[i]? = some e) (hk : e.l.f0 = k) : ensL (M.map (·.l)) k = M.map (·.l) := by
  unfold ensL
  rw [if_pos]
  exact hasL_iff.2 (by rw [List.map_map]; exact List.mem_map.2 ⟨e, List.mem_of_getElem? hi, hk⟩)
theorem ens_new {M : List LE} {k : Int} {g : Nat} (hn : k ∉ M.map fun e => e.l.f0) : ensL (M.map (·.l)) k = (M ++ [(⟨⟨k, [], []⟩, g, .slice none 0 0, .slice none 0 0⟩ : LE)]).map (·.l) := by
  unfold ensL
  rw [if_neg]
  · simp
  · intro h
    have := hasL_iff.1 h
    rw [List.map_map] at this
    exact hn this
/-- A new log's block, and its place in the map. -/
theorem put_new {w1 w2 : World} {base bs bl bt g : Nat} {M : List LE} {T : List TE} {k : Int} (hst : w1.heap[bs]? = some (.cells #[.map (some bl), .map (some bt)] 62 (0, 0))) (hL : LogsI w1 base bl M) (hT : TasksI w1 base bt T) (hne : bl ≠ bt) (hn : k ∉ M.map fun e => e.l.f0) (hwf : (Lit.int .i64 k).wf = true) (hg : w1.heap[g]? = some (.cells #[.int .i64 k, .slice none 0 0, .slice none 0 0] 36 (0, 0))) (hgb : base ≤ g)
    (hm : MapP w2 bl ((M.map fun e => (e.l.f0, (e.g : Int))) ++ [(k, (g : Int))])) (hgr : w1.grownBy w2 (some bl)) :
    w2.heap[bs]? = some (.cells #[.map (some bl), .map (some bt)] 62 (0, 0)) ∧ LogsI w2 base bl (M ++ [⟨⟨k, [], []⟩, g, .slice none 0 0, .slice none 0 0⟩]) ∧ TasksI w2 base bt T ∧ Chg w1 w2 (fun j => j = bl) ∧ (∀ (k : Nat) (T : TypeId) (cs : Array Value), w1.heap[k]? = some (.cells cs T (0, 0)) → w2.heap[k]? = some (.cells cs T (0, 0))) := by
  obtain ⟨es, clock, hmb⟩ := hL.mp.isMap
  have keep : ∀ (k : Nat) (T : TypeId) (cs : Array Value), w1.heap[k]? = some (.cells cs T (0, 0)) → w2.heap[k]? = some (.cells cs T (0, 0)) := fun k T cs hk => blk_grown hk hgr fun hh => by
    injection hh with hh
    subst hh
    rw [hk] at hmb
    cases hmb
  refine ⟨keep _ _ _ hst, hL.snoc hm hn ⟨hgb, keep _ _ _ hg, World.ownsRow_nil _ _ _ _, World.ownsRow_nil _ _ _ _, hwf⟩ rfl rfl fun k T cs _ hk => keep k T cs hk, hT.keep (hgr.block bt hT.mp.lt fun hh => by injection hh with hh; exact hne hh.symm) fun k T cs _ hk => keep k T cs hk, (Chg.of_grown hgr).mono fun j hj => by injection hj, keep⟩
theorem list_upd {P : Program} {ops : Array Oper} {rest : List Oper} {o : Oper} {a : Act} {Q : Exit → Act → World → Prop} {w w1 : World} (hgd : o.guard = none) (hdn : o.dst = none) (m x v : Operand) (t : TypeId) (ho : o.op = .mapUpdate t m x v) (hr : (Instr.mapUpdate t (a.eval m) (a.eval x) (a.eval v)).run P w = .ok () w1) (h : wpList P ops Q rest a w1) : wpList P ops Q (o :: rest) a w := by
  refine wpList_plain hgd fun K hK => ?_
  unfold Oper.wp execOp
  simp only [ho, Sem.run_bind, Sem.run_pure, Result.andThen_ok, hr]
  show K (a.put o.dst undef) _
  rw [hdn]
  exact hK _ _ h
theorem below_on {base : Nat} {w0 a b : World} (h : Below base w0 a) (hb : base ≤ a.heap.size) (k : Below a.heap.size a b) : Below base w0 b := Chg.below h (Chg.of_below (S := fun _ => False) k) hb fun _ h => h.elim
/-! ### tasks -/
theorem ensT_old {T : List TE} {k : Int} {i : Nat} {e : TE} (hi : T[i]? = some e) (hk : e.t.f0 = k) : ensT (T.map TE.s) k = T.map TE.s := by
  unfold ensT
  rw [if_pos]
  exact hasT_iff.2 (by rw [List.map_map]; exact List.mem_map.2 ⟨e, List.mem_of_getElem? hi, hk⟩)
def newE (k : Int) (g : Nat) : TE := ⟨⟨k, 0, 0, [], [], 0⟩, [], g, .slice none 0 0, .slice none 0 0, .slice none 0 0⟩
theorem ensT_new {T : List TE} {k : Int} {g : Nat} (hn : k ∉ T.map fun e => e.t.f0) : ensT (T.map TE.s) k = (T ++ [newE k g]).map TE.s := by
  unfold ensT
  rw [if_neg]
  · simp [newE, newT, TE.s]
  · intro h
    have := hasT_iff.1 h
    rw [List.map_map] at this
    exact hn this
/-- A new task's block, and its place in the map. -/
theorem task_new {w1 w2 : World} {base bs bl bt g : Nat} {M : List LE} {T : List TE} {k : Int} (hst : w1.heap[bs]? = some (.cells #[.map (some bl), .map (some bt)] 62 (0, 0))) (hL : LogsI w1 base bl M) (hT : TasksI w1 base bt T) (hne : bl ≠ bt) (hbb : base ≤ bs) (hn : k ∉ T.map fun e => e.t.f0) (hwf : (Lit.int .i64 k).wf = true) (hg : w1.heap[g]? = some (.cells #[.int .i64 k, .int .i64 0, .int .i64 0, .slice none 0 0, .slice none 0 0, .int .i64 0, .slice none 0 0] 67 (0, 0))) (hgb : base ≤ g)
    (hm : MapP w2 bt ((T.map fun e => (e.t.f0, (e.g : Int))) ++ [(k, (g : Int))])) (hgr : w1.grownBy w2 (some bt)) :
    VS w2 base bs M (T ++ [newE k g]) ∧ Chg w1 w2 (fun j => j = bt) ∧ KeepX (fun _ => False) w1 w2 := by
  obtain ⟨es, clock, hmb⟩ := hT.mp.isMap
  have keep : ∀ (k : Nat) (T : TypeId) (cs : Array Value), w1.heap[k]? = some (.cells cs T (0, 0)) → w2.heap[k]? = some (.cells cs T (0, 0)) := fun k T cs hk => blk_grown hk hgr fun hh => by
    injection hh with hh
    subst hh
    rw [hk] at hmb
    cases hmb
  refine ⟨⟨⟨bl, bt, keep _ _ _ hst, hL.keep (hgr.block bl hL.mp.lt fun hh => by injection hh with hh; exact hne hh) fun k T cs _ hk => keep k T cs hk, hT.snoc hm hn ⟨hgb, keep _ _ _ hg, World.ownsRow_nil _ _ _ _, World.ownsRow_nil _ _ _ _, World.ownsRow_nil _ _ _ _, Dis.none_l rfl, hwf⟩ rfl rfl rfl fun k T cs _ hk => keep k T cs hk, hne⟩, hbb⟩, (Chg.of_grown hgr).mono fun j hj => (by injection hj), fun k T cs _ h => keep k T cs h⟩
end Go.Proofs.Ytmnglonjekegcaa.Vw
