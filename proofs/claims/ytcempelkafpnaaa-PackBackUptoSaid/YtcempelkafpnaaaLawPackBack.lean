/- The statement PackBack: for every input of bulk at most 1048576 the call returns true, and each argument reads as it did. No further condition. -/
import Derived.Test.YtcempelkafpnaaaRows
import Derived.Test.YtcempelkafpnaaaLawF
import Derived.WalkKit
import Derived.ProofKit
import Derived.OpenShut
import Derived.ShutString
import Derived.ChangeOld
import Derived.Below
import Derived.SizedLaws
import Derived.JoinedCond
namespace Go.Proofs.Ytcempelkafpnaaa.packBack
open Go.ChangeShapes Go.WideShapes Go.ChangeAt Go.RowKit Go.Proofs.YtcempelkafpnaaaW.PrintWords Go.Proofs.Ytcempelkafpnaaa.Pk
set_option linter.unusedVariables false
set_option linter.unusedSimpArgs false
theorem own : ownKnob Try.prog.godebug = none := by kernel_rfl
theorem laidOut : laidOutB Try.prog = true := by kernel_rfl
def IsRow (k : IntKind) (w : World) (a : Option Addr) (len cap : Nat) (zs : List Int) : Prop :=
  (a = none ∧ len = 0 ∧ cap = 0 ∧ zs = []) ∨
  ∃ x, a = some x ∧ len ≤ cap ∧ cap ≤ maxLen ∧ zs.length = cap ∧ (∀ i, i < zs.length → w.cell? (x.add i) = some (.int k (zs.getD i 0))) ∧ ∀ n ∈ zs, (Lit.int k n).wf = true
theorem lits_bulk {H : Type} (k : IntKind) (l : List Int) : Rows.uptoBulkAll (H := H) (lits k l) = l.length := by
  induction l with
  | nil => rfl
  | cons x l ih =>
    have e : Rows.uptoBulkAll (H := H) (lits k (x :: l)) = 1 + Rows.uptoBulkAll (lits k l) := rfl
    rw [e, ih, List.length_cons]
    omega
theorem part_le {H : Type} {d : DataW H} {l : List (DataW H)} (h : d ∈ l) : Rows.uptoBulk d ≤ Rows.uptoBulkAll l := by
  induction l with
  | nil => cases h
  | cons x r ih =>
    simp only [Rows.uptoBulkAll]
    rcases List.mem_cons.1 h with rfl | e
    · omega
    · have := ih e
      omega
set_option maxRecDepth 100000 in
theorem lifted (os : Os) (started : os.Started) (H : Type) (enc : TypeId × Value → H) (F : Stop.Interp) :
    ReturnsInHanded {} Try.checked os 10 .any ((Rows.OpenSpec.upto Rows.packBackSpec).pre6 enc Try.prog Try.f10 Rows.packBackUptoRow.domain false) (((Rows.OpenSpec.upto Rows.packBackSpec).at F).post enc Try.prog Try.f10 false true false false) := by
  refine returnsInHanded_of_cond (C := Try.checked) (s := Rows.OpenSpec.upto Rows.packBackSpec) (k := Rows.uptoSmall) rfl own started (by kernel_rfl) Try.func10
    (OpenSpec.witness (enc := enc) (C := Try.checked) (s := Rows.OpenSpec.upto Rows.packBackSpec) (k := Rows.uptoSmall) rfl false ⟨#[], #[.int .u64 0, .int .i64 0, .slice none 0 0, .slice none 0 0], []⟩ 8 (by kernel_rfl) (by kernel_rfl) (by kernel_rfl)
      (x := ([.lit (.int .u64 0), .lit (.int .i64 0), .nil, .nil], [], [])) (by kernel_rfl) rfl (by kernel_rfl)) ?_
  intro W base args ds gs before hval0 hW _ hk0 _
  have hk : Rows.uptoBulkAll (ds ++ gs) ≤ 1048576 := of_decide_eq_true hk0
  clear hk0
  have hval : ∀ (j : Nat) t v, Try.f10.params[j]? = some t → args[j]? = some v → Value.okWide Try.prog W .any base t v := hval0
  have hW2 := hW
  obtain ⟨p, q, hA0, hV, rfl, hfz, hnd⟩ := hW
  have hA : DataW.TrodAll enc Try.prog W 0 (fun _ => true) true Try.f10.params.toList args.toList ds p := hA0
  rw [Try.params10] at hA hval
  obtain ⟨v0, vs0, d0, ds0, p0, q0, hargs, rfl, rfl, h0, r0⟩ := trodAll_cons hA
  obtain ⟨v1, vs1, d1, ds1, p1, q1, rfl, rfl, rfl, h1, r1⟩ := trodAll_cons r0
  obtain ⟨v2, vs2, d2, ds2, p2, q2, rfl, rfl, rfl, h2, r2⟩ := trodAll_cons r1
  obtain ⟨v3, vs3, d3, ds3, p3, q3, rfl, rfl, rfl, h3, r3⟩ := trodAll_cons r2
  obtain ⟨rfl, rfl, rfl⟩ := trodAll_nil r3
  obtain rfl : args = #[v0, v1, v2, v3] := by cases args; simp_all
  obtain ⟨rfl, rfl⟩ := trodVars_none hV
  obtain ⟨a0, rfl, rfl, rfl, w0⟩ := open_int Try.underlying23 (hval 0 23 v0 rfl rfl) h0
  obtain ⟨a1, rfl, rfl, rfl, w1⟩ := open_int Try.underlying2 (hval 1 2 v1 rfl rfl) h1
  obtain ⟨A2, len2, c2, rfl⟩ := okWide_slice Try.underlying22 (hval 2 22 v2 rfl rfl)
  have k2 := h2
  have lt2 : ∀ x ∈ p2, x.block < W.heap.size := by obtain ⟨m, hm⟩ := k2; exact DataW.trod_lt m _ _ _ hm
  have hb2 : Rows.uptoBulk d2 ≤ 1048576 := Nat.le_trans (part_le (by simp)) hk
  obtain ⟨z2, w2, hu2⟩ : ∃ zs, IsRow .u8 W A2 len2 c2 zs ∧ len2 ≤ 1048576 := by
    obtain ⟨fuel, hf⟩ := h2
    rcases open_ints Try.underlying22 Try.underlying5 (by kernel_rfl) hf with ⟨hcs, _⟩ | ⟨x, l, c, zs, hcs, _, hl, hm, hz, hx, hcell, hwz⟩
    · simp [Value.cells] at hcs
      obtain ⟨rfl, rfl, rfl⟩ := hcs
      exact ⟨[], .inl ⟨rfl, rfl, rfl, rfl⟩, by omega⟩
    · simp [Value.cells] at hcs
      obtain ⟨rfl, rfl, rfl⟩ := hcs
      have hd := congrArg Prod.fst hx
      simp only at hd
      rw [hd] at hb2
      simp only [Rows.uptoBulk, lits_bulk, List.length_take] at hb2
      have hz2 : zs.length = c2 := by simpa using hz
      exact ⟨zs, .inr ⟨_, rfl, hl, hm, hz2, hcell, hwz⟩, by omega⟩
  obtain ⟨l2, rfl, hri2, hm2, hw2, hc2⟩ := ReadsInt.ofRowC w2
  have hr2 : (Kd.int .u8).C W A2 l2.length l2 := Kd.C_of_reads (d := (0 : Int)) (h1 := fun _ => rfl) hri2
  obtain ⟨A3, len3, c3, rfl⟩ := okWide_slice Try.underlying59 (hval 3 59 v3 rfl rfl)
  have k3 := h3
  have lt3 : ∀ x ∈ p3, x.block < W.heap.size := by obtain ⟨m, hm⟩ := k3; exact DataW.trod_lt m _ _ _ hm
  have hb3 : Rows.uptoBulk d3 ≤ 1048576 := Nat.le_trans (part_le (by simp)) hk
  obtain ⟨z3, w3, hu3⟩ : ∃ zs, IsRow .i32 W A3 len3 c3 zs ∧ len3 ≤ 1048576 := by
    obtain ⟨fuel, hf⟩ := h3
    rcases open_ints Try.underlying59 Try.underlying21 (by kernel_rfl) hf with ⟨hcs, _⟩ | ⟨x, l, c, zs, hcs, _, hl, hm, hz, hx, hcell, hwz⟩
    · simp [Value.cells] at hcs
      obtain ⟨rfl, rfl, rfl⟩ := hcs
      exact ⟨[], .inl ⟨rfl, rfl, rfl, rfl⟩, by omega⟩
    · simp [Value.cells] at hcs
      obtain ⟨rfl, rfl, rfl⟩ := hcs
      have hd := congrArg Prod.fst hx
      simp only at hd
      rw [hd] at hb3
      simp only [Rows.uptoBulk, lits_bulk, List.length_take] at hb3
      have hz2 : zs.length = c3 := by simpa using hz
      exact ⟨zs, .inr ⟨_, rfl, hl, hm, hz2, hcell, hwz⟩, by omega⟩
  obtain ⟨l3, rfl, hri3, hm3, hw3, hc3⟩ := ReadsInt.ofRowC w3
  have hr3 : (Kd.int .i32).C W A3 l3.length l3 := Kd.C_of_reads (d := (0 : Int)) (h1 := fun _ => rfl) hri3
  clear hA0 hval0
  refine (back_ok a0 a1 A2 c2 l2 A3 c3 l3 W (wfr_u64 w0).1 (wfr_u64 w0).2 (wfr_i64 w1).1 (wfr_i64 w1).2 hr2 hc2 hu2 (fun x hx => wfr_u8 (hw2 x hx)) hr3 hc3 hu3 (fun x hx => wfr_i32 (hw3 x hx))).mono fun e W2 ⟨he, bel⟩ => ?_
  subst he
  exact ⟨_, rfl, _, _, _, [], _, [], hW2, trodAll_mk1 (shut_bool Try.underlying4 _), (trodAll_cons_mk (shut_int Try.underlying23 w0) (trodAll_cons_mk (shut_int Try.underlying2 w1) (trodAll_cons_mk (Below.trod laidOut (by kernel_rfl) (of_decide_eq_true (by kernel_rfl)) k2 bel lt2) (trodAll_cons_mk (Below.trod laidOut (by kernel_rfl) (of_decide_eq_true (by kernel_rfl)) k3 bel lt3) trodAll_mk0)))), rfl, bel.frame _, fun h => by cases h⟩
theorem proved : Rows.PackBackUptoSaid :=
  OpenClaim.holds_of_cond 10 Try.f10 rfl rfl rfl rfl rfl rfl rfl ⟨rfl, rfl, rfl, rfl, rfl⟩ rfl rfl rfl rfl rfl (by kernel_rfl) Try.func10 (by kernel_rfl)
    (of_decide_eq_true (by kernel_rfl)) (by unfold Func.isWrapper; first | (rw [if_pos (by decide +kernel)]; kernel_rfl) | (rw [if_neg (by decide +kernel)]; exact ⟨rfl, rfl⟩))
    (fun os started H enc _ F => lifted os started H enc F)
#print axioms proved
end Go.Proofs.Ytcempelkafpnaaa.packBack
