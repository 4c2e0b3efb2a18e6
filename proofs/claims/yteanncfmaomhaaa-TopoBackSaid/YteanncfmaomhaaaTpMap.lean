/- The map of those that were seen: kinds and numbers. -/
import Derived.Test.YteanncfmaomhaaaTpFn
import Derived.DeepKeys4
import Derived.Maps.Own
import Derived.Maps.OwnSet
import Derived.Maps.Views
namespace Go.Proofs.Yteanncfmaomhaaa.Ex
open Go Go.RowKit Go.Maps Go.Proofs.YteanncfmaomhaaaW.PrintWords Go.Proofs.YteanncfmaomhaaaW.PrintLast Go.Proofs.YteanncfmaomhaaaW.PrintMore
set_option maxRecDepth 100000
set_option linter.unusedVariables false
set_option linter.unusedSimpArgs false
theorem laidK : laidOutB Try.prog = true := by kernel_rfl
theorem rowK : (76 : TypeId) < Try.prog.types.size := of_decide_eq_true (by kernel_rfl)
theorem wideK : (match Try.prog.underlying 76 with | some (.array _ _) | some (.struct _) => true | _ => false) = true := by kernel_rfl
theorem lawK : WideMaps.KeyLaw Try.prog 76 := deep_law_laid laidK (m := 2) (by omega) rowK (by kernel_rfl) wideK
theorem keyedK : Keyed Try.prog 76 := Keyed.of_law lawK
theorem zeroB4 (w : World) : (zeroValue 4).run Try.prog w = .ok (.bool false) w := by kernel_rfl
def keyV (p : Int × Int) : Value := .agg #[.int .i64 p.1, .int .i64 p.2]
def okK (p : Int × Int) : Prop := I64 p.1 ∧ I64 p.2
theorem wf_of {a : Int} (h : I64 a) : (Lit.int .i64 a).wf = true := by
  have e1 : IntKind.i64.min = -9223372036854775808 := by decide
  have e2 : IntKind.i64.max = 9223372036854775807 := by decide
  unfold I64 at h
  simp only [Lit.wf, e1, e2, Bool.and_eq_true, decide_eq_true_eq]
  omega
theorem key_lit {p : Int × Int} (h : okK p) : ∃ L, keyOf Try.prog 76 (keyV p) = some L := by
  have h1 := wf_of h.1
  have h2 := wf_of h.2
  refine ⟨.string (keyBytes [.int .i64 p.1, .int .i64 p.2]), ?_⟩
  have hk : Try.prog.keyType 76 = true := by kernel_rfl
  have hf : (keyV p).formed Try.prog 76 = true := by kernel_rfl
  have hl : Try.prog.keyLits (Try.prog.types.size + 1) 76 (keyV p).cells.toList = some [.int .i64 p.1, .int .i64 p.2] := by
    obtain ⟨m, hm⟩ : ∃ m, Try.prog.types.size = m + 1 := ⟨Try.prog.types.size - 1, by have : (76 : Nat) < Try.prog.types.size := rowK; omega⟩
    have c1 : Try.prog.cellsOf 76 = 2 := by kernel_rfl
    have c2 : Try.prog.cellsOf 3 = 1 := by kernel_rfl
    have c3 : Try.prog.cellsOf 2 = 1 := by kernel_rfl
    rw [hm]
    simp [Program.keyLits, Try.underlying76, Try.underlying3, Try.underlying2, keyV, Value.cells, c1, c2, c3, h1, h2]
  unfold keyOf
  rw [Try.underlying76]
  simp only [hk, hf, hl]
  rfl
/-- Block bm is a map that has just those of ks, each with true. -/
structure SView (D : DataW Unit) (ks : List (Int × Int)) : Prop where
  isMap : IsMap D
  at_ : ∀ p L, okK p → keyOf Try.prog 76 (keyV p) = some L → D.atKey L (.lit (.bool false)) = .lit (.bool (decide (p ∈ ks)))
def SV (w : World) (bm n : Nat) (ks : List (Int × Int)) : Prop := ∃ D : DataW Unit, w.ownsMap Try.prog 76 (plainElem Try.prog 4) bm n D ∧ SView D ks
theorem SV.kept {w w' : World} {bm n : Nat} {ks : List (Int × Int)} {row : Option Nat} (h : SV w bm n ks) (hg : w.grownBy w' row) (hne : some bm ≠ row) : SV w' bm n ks := by
  obtain ⟨D, ho, hv⟩ := h
  exact ⟨D, ho.kept hg hne, hv⟩
theorem SV.below {w w' : World} {bm n : Nat} {ks : List (Int × Int)} (h : SV w bm n ks) (hb : Below w.heap.size w w') : SV w' bm n ks := by
  obtain ⟨D, ho, hv⟩ := h
  have hlt := ho.lt
  obtain ⟨es, clock, hbb, F, hs, rfl⟩ := ho
  exact ⟨_, ⟨es, clock, (hb.block bm hlt).trans hbb, F, hs, rfl⟩, hv⟩
theorem SV.lt {w : World} {bm n : Nat} {ks : List (Int × Int)} (h : SV w bm n ks) : bm < w.heap.size := by
  obtain ⟨D, ho, _⟩ := h
  exact ho.lt
theorem SV.new (w : World) : SV (w.alloc (.map #[] 0)) w.heap.size 0 [] :=
  ⟨.map [], World.ownsMap_made _ _ _ _, ⟨isMap_empty, fun p L _ _ => rfl⟩⟩
theorem keyL_lit {p : Int × Int} {L : Lit} (hk : keyOf Try.prog 76 (keyV p) = some L) : WideAt.IsKeyLit L := keyedK.key hk
theorem keyV_inj {p q : Int × Int} (h : keyV p = keyV q) : p = q := by
  unfold keyV at h
  injection h with h
  simp at h
  exact Prod.ext h.1 h.2
theorem SView.put {D : DataW Unit} {ks : List (Int × Int)} (h : SView D ks) {p : Int × Int} (hp : okK p) {L : Lit} (hL : keyOf Try.prog 76 (keyV p) = some L) : SView (D.put L (.lit (.bool true))) (p :: ks) := by
  refine ⟨h.isMap.put _ _, fun q L2 hq hL2 => ?_⟩
  by_cases e : q = p
  · subst e
    rw [hL] at hL2
    injection hL2 with hL2
    subst hL2
    rw [atKey_put_same h.isMap (keyL_lit hL)]
    simp
  · have hne : L2 ≠ L := fun e2 => e (keyV_inj (keyedK.inj hL2 (e2 ▸ hL)))
    rw [atKey_put_other hne, h.at_ q L2 hq hL2]
    simp [e]
theorem plain_bool_inv {v : Value} {z : DataW Unit × List MemPlace} (h : plainElem Try.prog 4 v = some z) : ∃ b, v = .bool b ∧ z = (.lit (.bool b), []) := by
  unfold plainElem at h
  rw [Try.underlying4] at h
  cases v <;> simp at h
  exact ⟨_, rfl, h.symm⟩
theorem SV.look {w : World} {bm n : Nat} {ks : List (Int × Int)} (h : SV w bm n ks) {p : Int × Int} (hp : okK p) : (Instr.lookup 52 (.map (some bm)) (keyV p) false).run Try.prog w = .ok (.bool (decide (p ∈ ks))) w := by
  obtain ⟨D, ho, hv⟩ := h
  obtain ⟨L, hL⟩ := key_lit hp
  obtain ⟨v, ps, hrun, hR⟩ := ho.lookup keyedK Try.underlying52 (zeroB4 w) (plainElem_bool Try.underlying4 false) hL
  obtain ⟨b, rfl, hz⟩ := plain_bool_inv hR
  rw [hv.at_ p L hp hL] at hz
  simp at hz
  rw [hrun, hz.1]
theorem SV.put {w : World} {bm n : Nat} {ks : List (Int × Int)} (h : SV w bm n ks) {p : Int × Int} (hp : okK p) (hn : n < maxLen) : ∃ w', (Instr.mapUpdate 52 (.map (some bm)) (keyV p) (.bool true)).run Try.prog w = .ok () w' ∧ SV w' bm (n + 1) (p :: ks) ∧ w.grownBy w' (some bm) := by
  obtain ⟨D, ho, hv⟩ := h
  obtain ⟨L, hL⟩ := key_lit hp
  obtain ⟨w', hrun, r1, r2⟩ := ho.update keyedK Try.underlying52 hn hL (plainElem_bool (H := Unit) Try.underlying4 true)
  exact ⟨w', hrun, ⟨_, r1, hv.put hp hL⟩, r2⟩
section
variable {P : Program} {ops : Array Oper} {rest : List Oper} {o : Oper} {a : Act} {Q : Exit → Act → World → Prop}
theorem list_upd {w w1 : World} (hgd : o.guard = none) (hdn : o.dst = none) (m x v : Operand) (t : TypeId) (ho : o.op = .mapUpdate t m x v) (hr : (Instr.mapUpdate t (a.eval m) (a.eval x) (a.eval v)).run P w = .ok () w1) (h : wpList P ops Q rest a w1) : wpList P ops Q (o :: rest) a w := by
  refine wpList_plain hgd fun K hK => ?_
  unfold Oper.wp execOp
  simp only [ho, Sem.run_bind, Sem.run_pure, Result.andThen_ok, hr]
  show K (a.put o.dst undef) _
  rw [hdn]
  exact hK _ _ h
end
end Go.Proofs.Yteanncfmaomhaaa.Ex
