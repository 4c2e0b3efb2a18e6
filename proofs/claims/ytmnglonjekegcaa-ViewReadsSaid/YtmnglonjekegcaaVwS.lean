/- (c11) Maps of pointers: by their keys, the blocks. -/
import Derived.Test.YtmnglonjekegcaaOw
import Derived.Test.YtmnglonjekegcaaMkPure
import Derived.Carry
import Derived.Maps.OwnOps
import Derived.Maps.OwnSet
import Derived.Maps.RangeWalk
import Derived.Test.YtmnglonjekegcaaVwP
namespace Go.Proofs.Ytmnglonjekegcaa.Vw
open Go Go.RowKit Go.Maps Go.Proofs.Ytmnglonjekegcaa.Mk Go.Proofs.YtmnglonjekegcaaW.PrintWords Go.Proofs.YtmnglonjekegcaaW.PrintLast Go.Proofs.YtmnglonjekegcaaW.PrintMore Go.Proofs.Ytmnglonjekegcaa.Rw Go.Proofs.Ytmnglonjekegcaa.Ow
set_option linter.unusedVariables false
set_option linter.unusedSimpArgs false
set_option maxRecDepth 100000
theorem KI : Keyed Try.prog 3 := int_keyed Try.underlying3
/-- How a pointer to a block's head reads: as that block's number; none as -1. -/
def ptrE (v : Value) : Option (DataW Unit × List MemPlace) :=
  match v with
  | .pointer (some a) => if a = ⟨a.block, 0, none⟩ then some (.lit (.int .i64 (a.block : Int)), []) else none
  | .pointer none => some (.lit (.int .i64 (-1)), [])
  | _ => none
theorem ptrE_mk (b : Nat) : ptrE (.pointer (some ⟨b, 0, none⟩)) = some (.lit (.int .i64 (b : Int)), []) := by simp [ptrE]
theorem ptrE_inv {v : Value} {z : DataW Unit × List MemPlace} (h : ptrE v = some z) : (v = .pointer none ∧ z = (.lit (.int .i64 (-1)), [])) ∨ ∃ b : Nat, v = .pointer (some ⟨b, 0, none⟩) ∧ z = (.lit (.int .i64 (b : Int)), []) := by
  unfold ptrE at h
  cases v with
  | pointer p =>
    cases p with
    | none => injection h with h; exact .inl ⟨rfl, h.symm⟩
    | some a =>
      simp at h
      obtain ⟨e, rfl⟩ := h
      exact .inr ⟨a.block, by rw [e], rfl⟩
  | _ => cases h
/-- Block bm is a map that has just those keys, each with a pointer to its block. -/
def MapP (w : World) (bm : Nat) (L : List (Int × Int)) : Prop := ∃ D : DataW Unit, w.ownsMap Try.prog 3 ptrE bm L.length D ∧ View D L
theorem tightP {w : World} {bm n : Nat} {D : DataW Unit} (h : w.ownsMap Try.prog 3 ptrE bm n D) {m : Nat} (hm : Maps.size D ≤ m) : w.ownsMap Try.prog 3 ptrE bm m D := by
  obtain ⟨es, clock, hb, F, hs, rfl⟩ := h
  refine ⟨es, clock, hb, F, ?_, rfl⟩
  have e1 := length_read (P := Try.prog) (k := 3) (R0 := ptrE) es
  rw [size_eq] at hm
  omega
theorem MapP.lt {w : World} {bm : Nat} {L : List (Int × Int)} (h : MapP w bm L) : bm < w.heap.size := h.elim fun _ h => h.1.lt
theorem MapP.move {w w' : World} {bm : Nat} {L : List (Int × Int)} (h : MapP w bm L) (hm : w'.heap[bm]? = w.heap[bm]?) : MapP w' bm L := by
  obtain ⟨D, ⟨es, clock, hb, r⟩, hv⟩ := h
  exact ⟨D, ⟨es, clock, hm.trans hb, r⟩, hv⟩
theorem MapP.isMap {w : World} {bm : Nat} {L : List (Int × Int)} (h : MapP w bm L) : ∃ es clock, w.heap[bm]? = some (.map es clock) := by
  obtain ⟨D, ⟨es, clock, hb, _⟩, _⟩ := h
  exact ⟨es, clock, hb⟩
theorem MapP.new (w : World) : MapP (w.alloc (.map #[] 0)) w.heap.size [] := ⟨_, World.ownsMap_made w _ _ _, view_nil⟩
theorem wfI {a : Int} (h0 : -9223372036854775808 ≤ a) (h1 : a ≤ 9223372036854775807) : (Lit.int .i64 a).wf = true := by
  have e1 : IntKind.i64.min = -9223372036854775808 := by decide
  have e2 : IntKind.i64.max = 9223372036854775807 := by decide
  simp only [Lit.wf, e1, e2, Bool.and_eq_true, decide_eq_true_eq]
  omega
theorem keyI {a : Int} (hw : (Lit.int .i64 a).wf = true) : keyOf Try.prog 3 (.int .i64 a) = some (.int .i64 a) := keyOf_int_mk Try.underlying3 hw

theorem zeroL (w : World) : (zeroValue 58).run Try.prog w = .ok (.pointer none) w := by kernel_rfl
theorem MapP.lookL {w : World} {bm : Nat} {L : List (Int × Int)} (h : MapP w bm L) {k : Int} (hk : (Lit.int .i64 k).wf = true) :
    (∀ g : Nat, lk L k = some (g : Int) → (Instr.lookup 59 (.map (some bm)) (.int .i64 k) false).run Try.prog w = .ok (.pointer (some ⟨g, 0, none⟩)) w) ∧
    (lk L k = none → (Instr.lookup 59 (.map (some bm)) (.int .i64 k) false).run Try.prog w = .ok (.pointer none) w) := by
  obtain ⟨D, ho, hv⟩ := h
  obtain ⟨v, ps, hrun, hR⟩ := ho.lookup KI Try.underlying59 (zeroL w) (zd := .lit (.int .i64 (-1))) (zp := []) (by simp [ptrE]) (keyI hk)
  refine ⟨fun g hg => ?_, fun hn => ?_⟩
  · rw [hv.at_ k g hg] at hR
    rcases ptrE_inv hR with ⟨rfl, e⟩ | ⟨b, rfl, e⟩
    · simp at e
    · simp at e
      have : g = b := by omega
      rw [this]; exact hrun
  · have hat : D.atKey (.int .i64 k) (.lit (.int .i64 (-1))) = .lit (.int .i64 (-1)) := Maps.atKey_of_not_has (by rw [hv.has, hn]; rfl) _
    rw [hat] at hR
    rcases ptrE_inv hR with ⟨rfl, e⟩ | ⟨b, rfl, e⟩
    · exact hrun
    · simp at e
theorem MapP.putL {w : World} {bm : Nat} {L : List (Int × Int)} (h : MapP w bm L) {k : Int} (hk : (Lit.int .i64 k).wf = true) (hn : lk L k = none) (g : Nat) (hl : L.length < 1000000) :
    ∃ w', (Instr.mapUpdate 59 (.map (some bm)) (.int .i64 k) (.pointer (some ⟨g, 0, none⟩))).run Try.prog w = .ok () w' ∧ MapP w' bm (L ++ [(k, (g : Int))]) ∧ w.grownBy w' (some bm) := by
  obtain ⟨D, ho, hv⟩ := h
  obtain ⟨w', hrun, r1, r2⟩ := ho.update KI Try.underlying59 (Nat.lt_trans hl (by decide)) (keyI hk) (ptrE_mk g)
  have hv1 := hv.snoc (g : Int) hn
  exact ⟨w', hrun, ⟨_, tightP r1 (by rw [hv1.size]; exact Nat.le_refl _), hv1⟩, r2⟩


theorem zeroT (w : World) : (zeroValue 64).run Try.prog w = .ok (.pointer none) w := by kernel_rfl
theorem MapP.lookT {w : World} {bm : Nat} {L : List (Int × Int)} (h : MapP w bm L) {k : Int} (hk : (Lit.int .i64 k).wf = true) :
    (∀ g : Nat, lk L k = some (g : Int) → (Instr.lookup 60 (.map (some bm)) (.int .i64 k) false).run Try.prog w = .ok (.pointer (some ⟨g, 0, none⟩)) w) ∧
    (lk L k = none → (Instr.lookup 60 (.map (some bm)) (.int .i64 k) false).run Try.prog w = .ok (.pointer none) w) := by
  obtain ⟨D, ho, hv⟩ := h
  obtain ⟨v, ps, hrun, hR⟩ := ho.lookup KI Try.underlying60 (zeroT w) (zd := .lit (.int .i64 (-1))) (zp := []) (by simp [ptrE]) (keyI hk)
  refine ⟨fun g hg => ?_, fun hn => ?_⟩
  · rw [hv.at_ k g hg] at hR
    rcases ptrE_inv hR with ⟨rfl, e⟩ | ⟨b, rfl, e⟩
    · simp at e
    · simp at e
      have : g = b := by omega
      rw [this]; exact hrun
  · have hat : D.atKey (.int .i64 k) (.lit (.int .i64 (-1))) = .lit (.int .i64 (-1)) := Maps.atKey_of_not_has (by rw [hv.has, hn]; rfl) _
    rw [hat] at hR
    rcases ptrE_inv hR with ⟨rfl, e⟩ | ⟨b, rfl, e⟩
    · exact hrun
    · simp at e
theorem MapP.putT {w : World} {bm : Nat} {L : List (Int × Int)} (h : MapP w bm L) {k : Int} (hk : (Lit.int .i64 k).wf = true) (hn : lk L k = none) (g : Nat) (hl : L.length < 1000000) :
    ∃ w', (Instr.mapUpdate 60 (.map (some bm)) (.int .i64 k) (.pointer (some ⟨g, 0, none⟩))).run Try.prog w = .ok () w' ∧ MapP w' bm (L ++ [(k, (g : Int))]) ∧ w.grownBy w' (some bm) := by
  obtain ⟨D, ho, hv⟩ := h
  obtain ⟨w', hrun, r1, r2⟩ := ho.update KI Try.underlying60 (Nat.lt_trans hl (by decide)) (keyI hk) (ptrE_mk g)
  have hv1 := hv.snoc (g : Int) hn
  exact ⟨w', hrun, ⟨_, tightP r1 (by rw [hv1.size]; exact Nat.le_refl _), hv1⟩, r2⟩

end Go.Proofs.Ytmnglonjekegcaa.Vw
namespace Go.Proofs.Ytmnglonjekegcaa.Vw
open Go Go.RowKit Go.Maps Go.Proofs.Ytmnglonjekegcaa.Mk Go.Proofs.Ytmnglonjekegcaa.Rp Go.Proofs.YtmnglonjekegcaaW.PrintWords Go.Proofs.YtmnglonjekegcaaW.PrintLast Go.Proofs.YtmnglonjekegcaaW.PrintMore Go.Proofs.Ytmnglonjekegcaa.Rw Go.Proofs.Ytmnglonjekegcaa.Ow
set_option linter.unusedVariables false
set_option linter.unusedSimpArgs false
/-- What was turned: nothing but the blocks S, and those that are new. -/
structure Chg (w w' : World) (S : Nat → Prop) : Prop where
  os : w'.os = w.os
  tape : w'.tape = w.tape
  output : w'.output = w.output
  size : w.heap.size ≤ w'.heap.size
  block : ∀ k, k < w.heap.size → ¬ S k → w'.heap[k]? = w.heap[k]?
theorem Chg.refl (w : World) (S : Nat → Prop) : Chg w w S := ⟨rfl, rfl, rfl, Nat.le_refl _, fun _ _ _ => rfl⟩
theorem Chg.trans {a b c : World} {S : Nat → Prop} (h : Chg a b S) (k : Chg b c S) : Chg a c S :=
  ⟨k.os.trans h.os, k.tape.trans h.tape, k.output.trans h.output, Nat.le_trans h.size k.size, fun i hi hs => (k.block i (Nat.lt_of_lt_of_le hi h.size) hs).trans (h.block i hi hs)⟩
theorem Chg.mono {a b : World} {S T : Nat → Prop} (h : Chg a b S) (hT : ∀ i, S i → T i) : Chg a b T := ⟨h.os, h.tape, h.output, h.size, fun i hi hs => h.block i hi fun hh => hs (hT i hh)⟩
theorem Chg.of_below {a b : World} {S : Nat → Prop} (h : Below a.heap.size a b) : Chg a b S := ⟨h.os, h.tape, h.output, h.size, fun k hk _ => h.block k hk⟩
theorem Chg.of_grown {a b : World} {row : Option Nat} (h : a.grownBy b row) : Chg a b fun k => some k = row := ⟨h.os, h.tape, h.output, h.size, fun k hk hs => h.block k hk hs⟩
theorem Chg.below {base : Nat} {w0 a b : World} {S : Nat → Prop} (h0 : Below base w0 a) (h : Chg a b S) (hb : base ≤ a.heap.size) (hS : ∀ k, S k → base ≤ k) : Below base w0 b :=
  ⟨h.os.trans h0.os, h.tape.trans h0.tape, h.output.trans h0.output, Nat.le_trans h0.size h.size, fun k hk => (h.block k (by omega) (fun hs => by have := hS k hs; omega)).trans (h0.block k hk)⟩
theorem Chg.set {a b : World} {S : Nat → Prop} (h : Chg a b S) {p : Addr} (hp : S p.block) (u : Value) : Chg a (b.setCell p u) S :=
  ⟨h.os, h.tape, h.output, by simpa using h.size, fun k hk hs => (Below.heap_setCell b p u k (fun e => hs (by rw [e]; exact hp))).trans (h.block k hk hs)⟩
def Dis (v v' : Value) : Prop := ∀ b, v.ownBlock = some b → v'.ownBlock ≠ some b
theorem Dis.symm {v v' : Value} (h : Dis v v') : Dis v' v := fun b h1 h2 => h b h2 h1
/-- One of them has grown: it lies where it lay, or in a new block. -/
theorem Dis.hat {v v' u : Value} {n : Nat} (h : Dis v u) (hh : Hat v v' n) (hl : ∀ b, u.ownBlock = some b → b < n) : Dis v' u := by
  intro b h1 h2
  rcases hh with e | e
  · exact h b (e ▸ h1) h2
  · rw [e] at h1
    injection h1 with h1
    have := hl b h2
    omega
def cellsR (l : List S45) : List Value := l.flatMap fun r => [.int .i64 r.f0, .int .i64 r.f1, .int .i64 r.f2]
def cellsB (l : List Bool) : List Value := l.map .bool
def cellsI (l : List Int) : List Value := l.map (.int .i64)
theorem cellsR_append (l m : List S45) : cellsR (l ++ m) = cellsR l ++ cellsR m := by simp [cellsR]
theorem cellsB_append (l m : List Bool) : cellsB (l ++ m) = cellsB l ++ cellsB m := by simp [cellsB]
theorem cellsI_append (l m : List Int) : cellsI (l ++ m) = cellsI l ++ cellsI m := by simp [cellsI]
theorem TIR : TInfo 33 45 3 24 := tinfo_of Try.underlying33 info45 rfl (by omega)
theorem TIB : TInfo 34 4 1 1 := tinfo_of Try.underlying34 info4 rfl (by omega)
theorem TII : TInfo 39 3 1 8 := tinfo_of Try.underlying39 info3 rfl (by omega)
structure LE where
  l : S36
  g : Nat
  vr : Value
  vd : Value
structure LogAt (w : World) (base : Nat) (e : LE) : Prop where
  gb : base ≤ e.g
  cell : w.heap[e.g]? = some (.cells #[.int .i64 e.l.f0, e.vr, e.vd] 36 (0, 0))
  rr : w.ownsRow base 45 3 e.vr e.l.f1.length (cellsR e.l.f1)
  rd : w.ownsRow base 4 1 e.vd e.l.f2.length (cellsB e.l.f2)
  wf : (Lit.int .i64 e.l.f0).wf = true
def isL (T : TypeId) : Prop := T = 36 ∨ T = 45 ∨ T = 4
def isT (T : TypeId) : Prop := T = 67 ∨ T = 75 ∨ T = 3
structure LogsI (w : World) (base bl : Nat) (M : List LE) : Prop where
  mp : MapP w bl (M.map fun e => (e.l.f0, (e.g : Int)))
  bb : base ≤ bl
  nd : (M.map fun e => e.l.f0).Nodup
  each : ∀ e ∈ M, LogAt w base e
  dis : ∀ (i j : Nat) (e e' : LE), i ≠ j → M[i]? = some e → M[j]? = some e' → Dis e.vr e'.vr ∧ Dis e.vd e'.vd
theorem LogAt.keep {w w' : World} {base : Nat} {e : LE} (h : LogAt w base e) (ht : ∀ (k : Nat) (T : TypeId) (cs : Array Value), isL T → w.heap[k]? = some (.cells cs T (0, 0)) → w'.heap[k]? = some (.cells cs T (0, 0))) : LogAt w' base e :=
  ⟨h.gb, ht _ _ _ (.inl rfl) h.cell, own_kept h.rr fun k hk => by obtain ⟨cur, hc⟩ := own_block h.rr hk; rw [ht _ _ _ (.inr (.inl rfl)) hc, hc], own_kept h.rd fun k hk => by obtain ⟨cur, hc⟩ := own_block h.rd hk; rw [ht _ _ _ (.inr (.inr rfl)) hc, hc], h.wf⟩
theorem LogsI.keep {w w' : World} {base bl : Nat} {M : List LE} (h : LogsI w base bl M) (hm : w'.heap[bl]? = w.heap[bl]?) (ht : ∀ (k : Nat) (T : TypeId) (cs : Array Value), isL T → w.heap[k]? = some (.cells cs T (0, 0)) → w'.heap[k]? = some (.cells cs T (0, 0))) : LogsI w' base bl M :=
  ⟨h.mp.move hm, h.bb, h.nd, fun e he => (h.each e he).keep ht, h.dis⟩
theorem LogsI.below {w w' : World} {base bl : Nat} {M : List LE} (h : LogsI w base bl M) (hb : Below w.heap.size w w') : LogsI w' base bl M :=
  h.keep (hb.block bl h.mp.lt) fun k T cs _ hk => blk_below hk hb
theorem lk_at {M : List LE} {k : Int} {g : Int} (h : lk (M.map fun e : LE => (e.l.f0, (e.g : Int))) k = some g) : ∃ (i : Nat) (e : LE), M[i]? = some e ∧ e.l.f0 = k ∧ g = (e.g : Int) := by
  induction M with
  | nil => cases h
  | cons e M ih =>
    rw [List.map_cons, lk] at h
    simp only at h
    split at h
    · rename_i hk
      injection h with h
      exact ⟨0, e, rfl, hk, h.symm⟩
    · obtain ⟨i, e', h1, h2, h3⟩ := ih h
      exact ⟨i + 1, e', by simpa using h1, h2, h3⟩
theorem lk_no {M : List LE} {k : Int} (h : lk (M.map fun e => (e.l.f0, (e.g : Int))) k = none) : k ∉ M.map fun e => e.l.f0 := by
  intro hm
  obtain ⟨e, he, rfl⟩ := List.mem_map.1 hm
  exact lk_none.1 h _ (List.mem_map.2 ⟨e, he, rfl⟩) rfl
/-- A log more. -/
theorem LogsI.snoc {w w' : World} {base bl : Nat} {M : List LE} {e : LE} (h : LogsI w base bl M) (hm : MapP w' bl ((M.map fun e => (e.l.f0, (e.g : Int))) ++ [(e.l.f0, (e.g : Int))])) (hn : e.l.f0 ∉ M.map fun e => e.l.f0) (he : LogAt w' base e) (hr : e.vr.ownBlock = none) (hd : e.vd.ownBlock = none)
    (ht : ∀ (k : Nat) (T : TypeId) (cs : Array Value), isL T → w.heap[k]? = some (.cells cs T (0, 0)) → w'.heap[k]? = some (.cells cs T (0, 0))) : LogsI w' base bl (M ++ [e]) := by
  refine ⟨by rw [List.map_append]; exact hm, h.bb, by rw [List.map_append]; exact nodup_snoc h.nd hn, fun e' he' => ?_, fun i j a b hij ha hb => ?_⟩
  · rcases List.mem_append.1 he' with h' | h'
    · exact (h.each e' h').keep ht
    · rw [List.mem_singleton] at h'; subst h'; exact he
  · have key : ∀ v : Value, Dis v e.vr ∧ Dis v e.vd := fun v => ⟨(fun b _ h2 => by rw [hr] at h2; cases h2), (fun b _ h2 => by rw [hd] at h2; cases h2)⟩
    have one : ∀ (i : Nat) (a : LE), (M ++ [e])[i]? = some a → M[i]? = some a ∨ (a = e ∧ i = M.length) := fun i a h1 => by
      by_cases hi : i < M.length
      · rw [List.getElem?_append_left hi] at h1; exact .inl h1
      · have hl := (List.getElem?_eq_some_iff.1 h1).1
        rw [List.length_append, List.length_singleton] at hl
        have : i = M.length := by omega
        subst this
        rw [List.getElem?_append_right (Nat.le_refl _), Nat.sub_self] at h1
        simp at h1
        exact .inr ⟨h1.symm, rfl⟩
    rcases one i a ha with h1 | ⟨rfl, h1⟩
    · rcases one j b hb with h2 | ⟨rfl, h2⟩
      · exact h.dis i j a b hij h1 h2
      · exact ⟨(key a.vr).1, (key a.vd).2⟩
    · rcases one j b hb with h2 | ⟨rfl, h2⟩
      · exact ⟨(key b.vr).1.symm, (key b.vd).2.symm⟩
      · omega
/-- One log is another. -/
theorem LogsI.setAt {w w' : World} {base bl n1 n2 : Nat} {M : List LE} {i : Nat} {e e' : LE} (h : LogsI w base bl M) (hi : M[i]? = some e) (hk : e'.l.f0 = e.l.f0) (hg : e'.g = e.g) (he : LogAt w' base e') (hr : Hat e.vr e'.vr n1) (hd : Hat e.vd e'.vd n2) (hn1 : w.heap.size ≤ n1) (hn2 : w.heap.size ≤ n2)
    (hm : w'.heap[bl]? = w.heap[bl]?) (ht : ∀ (k : Nat) (T : TypeId) (cs : Array Value), isL T → w.heap[k]? = some (.cells cs T (0, 0)) → k ≠ e.g → some k ≠ e.vr.ownBlock → some k ≠ e.vd.ownBlock → w'.heap[k]? = some (.cells cs T (0, 0))) : LogsI w' base bl (M.set i e') := by
  have hl := (List.getElem?_eq_some_iff.1 hi).1
  have one : ∀ (j : Nat) (a : LE), (M.set i e')[j]? = some a → (j = i ∧ a = e') ∨ (j ≠ i ∧ M[j]? = some a) := fun j a h1 => by
    by_cases hj : i = j
    · subst hj
      rw [List.getElem?_set_self hl] at h1
      injection h1 with h1
      exact .inl ⟨rfl, h1.symm⟩
    · rw [List.getElem?_set_ne hj] at h1
      exact .inr ⟨fun h => hj h.symm, h1⟩
  have hmap : (M.set i e').map (fun e => (e.l.f0, (e.g : Int))) = M.map fun e => (e.l.f0, (e.g : Int)) := by
    rw [List.map_set, hk, hg]
    refine List.ext_getElem? fun j => ?_
    by_cases hj : i = j
    · subst hj
      rw [List.getElem?_set_self (by simpa using hl), List.getElem?_map, hi]
      rfl
    · rw [List.getElem?_set_ne hj]
  have hmap2 : (M.set i e').map (fun e => e.l.f0) = M.map fun e => e.l.f0 := by
    have := congrArg (List.map Prod.fst) hmap
    rw [List.map_map, List.map_map] at this
    exact this
  have lt : ∀ (v : Value) (T : TypeId) (n : Nat) (xs : List Value) (z : Nat), w.ownsRow base T z v n xs → ∀ b, v.ownBlock = some b → b < w.heap.size := fun v T n xs z h b hb => (Ow.own_lt h b hb).2
  refine ⟨by rw [hmap]; exact h.mp.move hm, h.bb, by rw [hmap2]; exact h.nd, fun a ha => ?_, fun j k a b hjk ha hb => ?_⟩
  · obtain ⟨j, hj, ej⟩ := List.getElem_of_mem ha
    rcases one j a (by rw [List.getElem?_eq_getElem hj, ej]) with ⟨_, rfl⟩ | ⟨hne, hja⟩
    · exact he
    · have hA := h.each a (List.mem_of_getElem? hja)
      have hE := h.each e (List.mem_of_getElem? hi)
      have hd := h.dis j i a e hne hja hi
      have hag : a.g ≠ e.g := by
        intro eg
        have c1 := hA.cell
        rw [eg, hE.cell] at c1
        injection c1 with c1
        injection c1 with c1
        have c2 : Value.int .i64 e.l.f0 = .int .i64 a.l.f0 := by
          have := congrArg (fun x : Array Value => x[0]?) c1
          simpa using this
        injection c2 with _ c2
        have nd := List.pairwise_iff_getElem.1 h.nd
        obtain ⟨hj2, ej2⟩ := List.getElem?_eq_some_iff.1 hja
        obtain ⟨hi2, ei2⟩ := List.getElem?_eq_some_iff.1 hi
        rcases Nat.lt_or_gt_of_ne hne with hlt | hlt
        · exact nd j i (by simpa using hj2) (by simpa using hi2) hlt (by simp [ej2, ei2, c2])
        · exact nd i j (by simpa using hi2) (by simpa using hj2) hlt (by simp [ej2, ei2, c2])
      refine ⟨hA.gb, ht _ _ _ (.inl rfl) hA.cell hag (fun hh => ?_) (fun hh => ?_), own_kept hA.rr fun b hb => ?_, own_kept hA.rd fun b hb => ?_, hA.wf⟩
      · obtain ⟨cur, hc⟩ := own_block hE.rr hh
        exact blk_types hA.cell hc (by decide) rfl
      · obtain ⟨cur, hc⟩ := own_block hE.rd hh
        exact blk_types hA.cell hc (by decide) rfl
      · obtain ⟨cur, hc⟩ := own_block hA.rr hb
        rw [ht _ _ _ (.inr (.inl rfl)) hc (blk_types hc hE.cell (by decide)) (fun hh => hd.1 b hb.symm hh.symm) (fun hh => by
          obtain ⟨cur2, hc2⟩ := own_block hE.rd hh
          exact blk_types hc hc2 (by decide) rfl), hc]
      · obtain ⟨cur, hc⟩ := own_block hA.rd hb
        rw [ht _ _ _ (.inr (.inr rfl)) hc (blk_types hc hE.cell (by decide)) (fun hh => by
          obtain ⟨cur2, hc2⟩ := own_block hE.rr hh
          exact blk_types hc hc2 (by decide) rfl) (fun hh => hd.2 b hb.symm hh.symm), hc]
  · rcases one j a ha with ⟨ej, rfl⟩ | ⟨hj, hja⟩
    · rcases one k b hb with ⟨ek, rfl⟩ | ⟨hk2, hkb⟩
      · omega
      · have hd2 := h.dis i k e b (fun h => hk2 h.symm) hi hkb
        have hB := h.each b (List.mem_of_getElem? hkb)
        exact ⟨hd2.1.hat hr fun c hc => Nat.lt_of_lt_of_le (lt _ _ _ _ _ hB.rr c hc) hn1, hd2.2.hat hd fun c hc => Nat.lt_of_lt_of_le (lt _ _ _ _ _ hB.rd c hc) hn2⟩
    · rcases one k b hb with ⟨ek, rfl⟩ | ⟨hk2, hkb⟩
      · have hd2 := h.dis i j e a (fun h => hj h.symm) hi hja
        have hA := h.each a (List.mem_of_getElem? hja)
        exact ⟨(hd2.1.hat hr fun c hc => Nat.lt_of_lt_of_le (lt _ _ _ _ _ hA.rr c hc) hn1).symm, (hd2.2.hat hd fun c hc => Nat.lt_of_lt_of_le (lt _ _ _ _ _ hA.rd c hc) hn2).symm⟩
      · exact h.dis j k a b hjk hja hkb
end Go.Proofs.Ytmnglonjekegcaa.Vw
