/- rec.ToEntry in the form of the printer's own contracts. -/
import Derived.Test.YtedbgkbjbfdnlaaRcTe
namespace Go.Proofs.Ytedbgkbjbfdnlaa.Rp
open Go Go.RowKit Go.Proofs.YtedbgkbjbfdnlaaW.PrintWords Go.Proofs.YtedbgkbjbfdnlaaW.PrintLast Go.Proofs.YtedbgkbjbfdnlaaW.PrintMore
set_option linter.unusedVariables false
set_option linter.unusedSimpArgs false
def rec_ToEntry.f (l0 : List Int) : Option (Int × Int × Int × Int × Int × Int × Int × Int × Bool × List Int × List Int × Int) := if Rc.bytesB l0 = true then some ((Rc.toEnt l0).1.kind, (Rc.toEnt l0).1.task, (Rc.toEnt l0).1.epoch, (Rc.toEnt l0).1.txn, (Rc.toEnt l0).1.log, (Rc.toEnt l0).1.key, (Rc.toEnt l0).1.val, (Rc.toEnt l0).1.time, (Rc.toEnt l0).1.del, (Rc.toEnt l0).1.offs, (Rc.toEnt l0).1.order, (Rc.toEnt l0).2) else none
theorem rec_ToEntry.calls (A0 : Option Addr) (c0 : Nat) (l0 : List Int) (r1 r2 r3 r4 r5 r6 r7 r8 : Int) (r9 : Bool) (r10 r11 : List Int) (r12 : Int) (w : World) (hr0 : Kd.C (Kd.int .u8) w A0 l0.length l0) (hc0 : l0.length ≤ c0) (h : rec_ToEntry.f l0 = some (r1, r2, r3, r4, r5, r6, r7, r8, r9, r10, r11, r12)) :
    Calls Try.prog 18 #[.slice A0 l0.length c0] w fun e w' => ∃ v9 v10 : Value, e = .returned (.tuple #[.agg #[.int .i64 r1, .int .i64 r2, .int .i64 r3, .int .i64 r4, .int .i64 r5, .int .i64 r6, .int .i64 r7, .int .i64 r8, .bool r9, v9, v10], .int .i64 r12]) ∧ Kd.R (Kd.int .i64) 3 w' w.heap.size (fun _ => True) v9 r10 ∧ Kd.R (Kd.int .i64) 3 w' w.heap.size (fun _ => True) v10 r11 ∧ Below w.heap.size w w' := by
  unfold rec_ToEntry.f at h
  by_cases hB : Rc.bytesB l0 = true
  · rw [if_pos hB] at h
    simp only [Option.some.injEq, Prod.mk.injEq] at h
    obtain ⟨rfl, rfl, rfl, rfl, rfl, rfl, rfl, rfl, rfl, rfl, rfl, rfl⟩ := h
    exact Rc.toEnt_ok A0 c0 l0 w hr0 (Rc.bytesB_iff.1 hB).2 (Rc.bytesB_iff.1 hB).1
  · rw [if_neg hB] at h
    cases h
end Go.Proofs.Ytedbgkbjbfdnlaa.Rp
