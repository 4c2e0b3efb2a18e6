/- (c11) Maps of pointers: by their keys, the blocks. -/
import Derived.Test.YtmnglonjekegcaaOw
import Derived.Test.YtmnglonjekegcaaMkPure
import Derived.Carry
import Derived.Maps.OwnOps
import Derived.Maps.OwnSet
import Derived.Maps.RangeWalk
namespace Go.Proofs.Ytmnglonjekegcaa.Vw
open Go Go.RowKit Go.Maps Go.Proofs.Ytmnglonjekegcaa.Mk Go.Proofs.YtmnglonjekegcaaW.PrintWords Go.Proofs.YtmnglonjekegcaaW.PrintLast Go.Proofs.YtmnglonjekegcaaW.PrintMore Go.Proofs.Ytmnglonjekegcaa.Rw Go.Proofs.Ytmnglonjekegcaa.Ow
set_option linter.unusedVariables false
set_option linter.unusedSimpArgs false
set_option maxRecDepth 100000
theorem KI : Keyed Try.prog 3 := int_keyed Try.underlying3
/-- How a pointer to a block's head reads: as that block's number; none as -1. -/
def ptrE (v : Value) : Option (DataW Unit × List MemPlace) :=
  match v with
  | .pointer (some a) => if a = ⟨a.block, 0, none⟩ then some (.lit (.int .i64 (a.block : Int)), []) else none
  | .pointer none => some (.lit (.int .i64 (-1)), [])
  | _ => none
theorem ptrE_mk (b : Nat) : ptrE (.pointer (some ⟨b, 0, none⟩)) = some (.lit (.int .i64 (b : Int)), []) := by simp [ptrE]
theorem ptrE_inv {v : Value} {z : DataW Unit × List MemPlace} (h : ptrE v = some z) : (v = .pointer none ∧ z = (.lit (.int .i64 (-1)), [])) ∨ ∃ b : Nat, v = .pointer (some ⟨b, 0, none⟩) ∧ z = (.lit (.int .i64 (b : Int)), []) := by
  unfold ptrE at h
  cases v with
  | pointer p =>
    cases p with
    | none => injection h with h; exact .inl ⟨rfl, h.symm⟩
    | some a =>
      simp at h
      obtain ⟨e, rfl⟩ := h
      exact .inr ⟨a.block, by rw [e], rfl⟩
  | _ => cases h
/-- Block bm is a map that has just those keys, each with a pointer to its block. -/
def MapP (w : World) (bm : Nat) (L : List (Int × Int)) : Prop := ∃ D : DataW Unit, w.ownsMap Try.prog 3 ptrE bm L.length D ∧ View D L
theorem tightP {w : World} {bm n : Nat} {D : DataW Unit} (h : w.ownsMap Try.prog 3 ptrE bm n D) {m : Nat} (hm : Maps.size D ≤ m) : w.ownsMap Try.prog 3 ptrE bm m D := by
  obtain ⟨es, clock, hb, F, hs, rfl⟩ := h
  refine ⟨es, clock, hb, F, ?_, rfl⟩
  have e1 := length_read (P := Try.prog) (k := 3) (R0 := ptrE) es
  rw [size_eq] at hm
  omega
theorem MapP.lt {w : World} {bm : Nat} {L : List (Int × Int)} (h : MapP w bm L) : bm < w.heap.size := h.elim fun _ h => h.1.lt
theorem MapP.move {w w' : World} {bm : Nat} {L : List (Int × Int)} (h : MapP w bm L) (hm : w'.heap[bm]? = w.heap[bm]?) : MapP w' bm L := by
  obtain ⟨D, ⟨es, clock, hb, r⟩, hv⟩ := h
  exact ⟨D, ⟨es, clock, hm.trans hb, r⟩, hv⟩
theorem MapP.isMap {w : World} {bm : Nat} {L : List (Int × Int)} (h : MapP w bm L) : ∃ es clock, w.heap[bm]? = some (.map es clock) := by
  obtain ⟨D, ⟨es, clock, hb, _⟩, _⟩ := h
  exact ⟨es, clock, hb⟩
theorem MapP.new (w : World) : MapP (w.alloc (.map #[] 0)) w.heap.size [] := ⟨_, World.ownsMap_made w _ _ _, view_nil⟩
theorem wfI {a : Int} (h0 : -9223372036854775808 ≤ a) (h1 : a ≤ 9223372036854775807) : (Lit.int .i64 a).wf = true := by
  have e1 : IntKind.i64.min = -9223372036854775808 := by decide
  have e2 : IntKind.i64.max = 9223372036854775807 := by decide
  simp only [Lit.wf, e1, e2, Bool.and_eq_true, decide_eq_true_eq]
  omega
theorem keyI {a : Int} (hw : (Lit.int .i64 a).wf = true) : keyOf Try.prog 3 (.int .i64 a) = some (.int .i64 a) := keyOf_int_mk Try.underlying3 hw

theorem zeroL (w : World) : (zeroValue 58).run Try.prog w = .ok (.pointer none) w := by kernel_rfl
theorem MapP.lookL {w : World} {bm : Nat} {L : List (Int × Int)} (h : MapP w bm L) {k : Int} (hk : (Lit.int .i64 k).wf = true) :
    (∀ g : Nat, lk L k = some (g : Int) → (Instr.lookup 59 (.map (some bm)) (.int .i64 k) false).run Try.prog w = .ok (.pointer (some ⟨g, 0, none⟩)) w) ∧
    (lk L k = none → (Instr.lookup 59 (.map (some bm)) (.int .i64 k) false).run Try.prog w = .ok (.pointer none) w) := by
  obtain ⟨D, ho, hv⟩ := h
  obtain ⟨v, ps, hrun, hR⟩ := ho.lookup KI Try.underlying59 (zeroL w) (zd := .lit (.int .i64 (-1))) (zp := []) (by simp [ptrE]) (keyI hk)
  refine ⟨fun g hg => ?_, fun hn => ?_⟩
  · rw [hv.at_ k g hg] at hR
    rcases ptrE_inv hR with ⟨rfl, e⟩ | ⟨b, rfl, e⟩
    · simp at e
    · simp at e
      have : g = b := by omega
      rw [this]; exact hrun
  · have hat : D.atKey (.int .i64 k) (.lit (.int .i64 (-1))) = .lit (.int .i64 (-1)) := Maps.atKey_of_not_has (by rw [hv.has, hn]; rfl) _
    rw [hat] at hR
    rcases ptrE_inv hR with ⟨rfl, e⟩ | ⟨b, rfl, e⟩
    · exact hrun
    · simp at e
theorem MapP.putL {w : World} {bm : Nat} {L : List (Int × Int)} (h : MapP w bm L) {k : Int} (hk : (Lit.int .i64 k).wf = true) (hn : lk L k = none) (g : Nat) (hl : L.length < 1000000) :
    ∃ w', (Instr.mapUpdate 59 (.map (some bm)) (.int .i64 k) (.pointer (some ⟨g, 0, none⟩))).run Try.prog w = .ok () w' ∧ MapP w' bm (L ++ [(k, (g : Int))]) ∧ w.grownBy w' (some bm) := by
  obtain ⟨D, ho, hv⟩ := h
  obtain ⟨w', hrun, r1, r2⟩ := ho.update KI Try.underlying59 (Nat.lt_trans hl (by decide)) (keyI hk) (ptrE_mk g)
  have hv1 := hv.snoc (g : Int) hn
  exact ⟨w', hrun, ⟨_, tightP r1 (by rw [hv1.size]; exact Nat.le_refl _), hv1⟩, r2⟩


theorem zeroT (w : World) : (zeroValue 64).run Try.prog w = .ok (.pointer none) w := by kernel_rfl
theorem MapP.lookT {w : World} {bm : Nat} {L : List (Int × Int)} (h : MapP w bm L) {k : Int} (hk : (Lit.int .i64 k).wf = true) :
    (∀ g : Nat, lk L k = some (g : Int) → (Instr.lookup 60 (.map (some bm)) (.int .i64 k) false).run Try.prog w = .ok (.pointer (some ⟨g, 0, none⟩)) w) ∧
    (lk L k = none → (Instr.lookup 60 (.map (some bm)) (.int .i64 k) false).run Try.prog w = .ok (.pointer none) w) := by
  obtain ⟨D, ho, hv⟩ := h
  obtain ⟨v, ps, hrun, hR⟩ := ho.lookup KI Try.underlying60 (zeroT w) (zd := .lit (.int .i64 (-1))) (zp := []) (by simp [ptrE]) (keyI hk)
  refine ⟨fun g hg => ?_, fun hn => ?_⟩
  · rw [hv.at_ k g hg] at hR
    rcases ptrE_inv hR with ⟨rfl, e⟩ | ⟨b, rfl, e⟩
    · simp at e
    · simp at e
      have : g = b := by omega
      rw [this]; exact hrun
  · have hat : D.atKey (.int .i64 k) (.lit (.int .i64 (-1))) = .lit (.int .i64 (-1)) := Maps.atKey_of_not_has (by rw [hv.has, hn]; rfl) _
    rw [hat] at hR
    rcases ptrE_inv hR with ⟨rfl, e⟩ | ⟨b, rfl, e⟩
    · exact hrun
    · simp at e
theorem MapP.putT {w : World} {bm : Nat} {L : List (Int × Int)} (h : MapP w bm L) {k : Int} (hk : (Lit.int .i64 k).wf = true) (hn : lk L k = none) (g : Nat) (hl : L.length < 1000000) :
    ∃ w', (Instr.mapUpdate 60 (.map (some bm)) (.int .i64 k) (.pointer (some ⟨g, 0, none⟩))).run Try.prog w = .ok () w' ∧ MapP w' bm (L ++ [(k, (g : Int))]) ∧ w.grownBy w' (some bm) := by
  obtain ⟨D, ho, hv⟩ := h
  obtain ⟨w', hrun, r1, r2⟩ := ho.update KI Try.underlying60 (Nat.lt_trans hl (by decide)) (keyI hk) (ptrE_mk g)
  have hv1 := hv.snoc (g : Int) hn
  exact ⟨w', hrun, ⟨_, tightP r1 (by rw [hv1.size]; exact Nat.le_refl _), hv1⟩, r2⟩

end Go.Proofs.Ytmnglonjekegcaa.Vw
