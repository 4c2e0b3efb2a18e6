/- The contract of expr.Eval: a deferred closure recovers a division by 0. -/
import Derived.Test.YtpcbcekfakjgkaaExVal
import Derived.Test.YtpcbcekfakjgkaaExMay
import Derived.Defers
import Derived.Recover
import Derived.Laws.Pointers
namespace Go.Proofs.Ytpcbcekfakjgkaa.Ex
open Go Go.RowKit Go.Proofs.YtpcbcekfakjgkaaW.PrintWords Go.Proofs.YtpcbcekfakjgkaaW.PrintLast Go.Proofs.YtpcbcekfakjgkaaW.PrintMore Go.Proofs.Ytpcbcekfakjgkaa.Gw
set_option linter.unusedVariables false
set_option linter.unusedSimpArgs false
set_option maxHeartbeats 2000000
set_option maxRecDepth 100000
def evalOf (e : E) (ky vl tm ac : Int) : Int × Int :=
  if mayB e = true then (match valOf 16 ky vl tm ac e with
    | some n => (n, 0)
    | none => (0, 10))
  else (0, 1)
def expr_Eval.f (a0_0 a0_1 : Int) (l0_2 : List E) (a1_0 a1_1 a1_2 a2 : Int) : Option (Int × Int) := some (evalOf ⟨a0_0, a0_1, l0_2⟩ a1_0 a1_1 a1_2 a2)
theorem assert_yes (v : Value) (W : World) : (Instr.typeAssert (.iface 29 v) 20 29 true).run Try.prog W = .ok (.tuple #[v, .bool true]) W := by rfl
theorem assert_no (W : World) : (Instr.typeAssert .nilIface 20 29 true).run Try.prog W = .ok (.tuple #[.int .i64 0, .bool false]) W := by rfl
theorem catch_panicking (p q : Addr) (x y n : Int) (older : List PanicEntry) (w : World) (hc : w.cell? p = some (.int .i64 x)) (hz : w.frozen? p = false) (hc2 : (w.setCell p (.int .i64 0)).cell? q = some (.int .i64 y)) (hz2 : (w.setCell p (.int .i64 0)).frozen? q = false) :
    CallsD Try.prog 26 #[.pointer (some p), .pointer (some q)] (.panicking ({ v := .iface 29 (.int .i64 n), recovered := false } :: older)) w fun e u' w' =>
      e = .returned (.tuple #[]) ∧ u' = .panicking ({ v := .iface 29 (.int .i64 n), recovered := true } :: older) ∧ w' = (w.setCell p (.int .i64 0)).setCell q (.int .i64 n) := by
  have hta := assert_yes (.int .i64 n)
  refine callsD_of_wpS Try.func26 rfl fun c₀ cs hu => ?_
  apply wpS_seq
  apply wpS_region
  simp [wpOpsS, go_sem, recoverD, hu, Try.ntmps26, Exit.thenS, hta]
  apply wpS_seq
  apply wpS_region
  simp [wpOpsS, go_sem, recoverD, hu, Try.ntmps26, Exit.thenS, hta]
  refine wpS_cond (t := true) (by simp [Act.eval, Array.replicate]) ?_
  simp only [if_true]
  apply wpS_region
  simp [wpOpsS, go_sem, hc, hz, hc2, hz2, bodyPostS, results, Try.results26]
theorem catch_idle (p q : Addr) (w : World) :
    CallsD Try.prog 26 #[.pointer (some p), .pointer (some q)] .returning w fun e u' w' => e = .returned (.tuple #[]) ∧ u' = .returning ∧ w' = w := by
  have hta := assert_no
  refine callsD_of_wpS Try.func26 rfl fun c₀ cs hu => ?_
  apply wpS_seq
  apply wpS_region
  simp [wpOpsS, go_sem, recoverD, hu, Try.ntmps26, Exit.thenS, hta]
  apply wpS_seq
  apply wpS_region
  simp [wpOpsS, go_sem, recoverD, hu, Try.ntmps26, Exit.thenS, hta]
  refine wpS_cond (t := false) (by simp [Act.eval, Array.replicate]) ?_
  simp only [Bool.false_eq_true, if_false]
  refine wpS_of_wp (wp_skip ?_)
  cases c₀
  simp_all [bodyPostS, results, Try.results26]
structure Four (w0 w : World) (op n : Int) (A : Option Addr) (m c : Nat) (l : List E) (ky vl tm p q : Int) : Prop where
  b1 : w.heap[w0.heap.size]? = some (.cells #[.int .i64 op, .int .i64 n, .slice A m c] 27 (0, 0))
  b2 : w.heap[w0.heap.size + 1]? = some (.cells #[.int .i64 ky, .int .i64 vl, .int .i64 tm] 24 (0, 0))
  b3 : w.heap[w0.heap.size + 1 + 1]? = some (.cells #[.int .i64 p] 2 (0, 0))
  b4 : w.heap[w0.heap.size + 1 + 1 + 1]? = some (.cells #[.int .i64 q] 29 (0, 0))
  bl : Below w0.heap.size w0 w
  rd : Kd.C k27 w A m l
theorem Four.step {w0 w w2 : World} {op n : Int} {A : Option Addr} {m c : Nat} {l : List E} {ky vl tm p q : Int} (h : Four w0 w op n A m c l ky vl tm p q) (hb : Below w.heap.size w w2) : Four w0 w2 op n A m c l ky vl tm p q :=
  ⟨blk_below h.b1 hb, blk_below h.b2 hb, blk_below h.b3 hb, blk_below h.b4 hb, below_step h.bl hb, Kd.C_below h.rd hb⟩
theorem Four.cells {w0 w : World} {op n : Int} {A : Option Addr} {m c : Nat} {l : List E} {ky vl tm p q : Int} (h : Four w0 w op n A m c l ky vl tm p q) :
    (w.cell? ⟨w0.heap.size, 0, none⟩ = some (.int .i64 op) ∧ w.cell? ⟨w0.heap.size, 1, none⟩ = some (.int .i64 n) ∧ w.cell? ⟨w0.heap.size, 2, none⟩ = some (.slice A m c)) ∧
    (w.cell? ⟨w0.heap.size + 1, 0, none⟩ = some (.int .i64 ky) ∧ w.cell? ⟨w0.heap.size + 1, 1, none⟩ = some (.int .i64 vl) ∧ w.cell? ⟨w0.heap.size + 1, 2, none⟩ = some (.int .i64 tm)) ∧
    (w.cell? ⟨w0.heap.size + 1 + 1, 0, none⟩ = some (.int .i64 p) ∧ w.frozen? ⟨w0.heap.size + 1 + 1, 0, none⟩ = false) ∧ (w.cell? ⟨w0.heap.size + 1 + 1 + 1, 0, none⟩ = some (.int .i64 q) ∧ w.frozen? ⟨w0.heap.size + 1 + 1 + 1, 0, none⟩ = false) :=
  ⟨⟨(blk_cell h.b1 0).trans rfl, (blk_cell h.b1 1).trans rfl, (blk_cell h.b1 2).trans rfl⟩, ⟨(blk_cell h.b2 0).trans rfl, (blk_cell h.b2 1).trans rfl, (blk_cell h.b2 2).trans rfl⟩, ⟨(blk_cell h.b3 0).trans rfl, blk_frozen h.b3 0⟩, ⟨(blk_cell h.b4 0).trans rfl, blk_frozen h.b4 0⟩⟩
theorem Four.end_ {w0 w : World} {op n : Int} {A : Option Addr} {m c : Nat} {l : List E} {ky vl tm p q : Int} (h : Four w0 w op n A m c l ky vl tm p q) (p2 q2 : Int) :
    ((w.setCell ⟨w0.heap.size + 1 + 1, 0, none⟩ (.int .i64 p2)).setCell ⟨w0.heap.size + 1 + 1 + 1, 0, none⟩ (.int .i64 q2)).cell? ⟨w0.heap.size + 1 + 1, 0, none⟩ = some (.int .i64 p2) ∧
    ((w.setCell ⟨w0.heap.size + 1 + 1, 0, none⟩ (.int .i64 p2)).setCell ⟨w0.heap.size + 1 + 1 + 1, 0, none⟩ (.int .i64 q2)).cell? ⟨w0.heap.size + 1 + 1 + 1, 0, none⟩ = some (.int .i64 q2) ∧
    Below w0.heap.size w0 ((w.setCell ⟨w0.heap.size + 1 + 1, 0, none⟩ (.int .i64 p2)).setCell ⟨w0.heap.size + 1 + 1 + 1, 0, none⟩ (.int .i64 q2)) := by
  have h3 := blk_set (i := 0) (u := .int .i64 p2) h.b3
  have h4 := blk_far (p := ⟨w0.heap.size + 1 + 1, 0, none⟩) h.b4 (by simp) (.int .i64 p2)
  have h3' := blk_far (p := ⟨w0.heap.size + 1 + 1 + 1, 0, none⟩) h3 (by simp) (.int .i64 q2)
  have h4' := blk_set (i := 0) (u := .int .i64 q2) h4
  exact ⟨(blk_cell h3' 0).trans rfl, (blk_cell h4' 0).trans rfl, below_set (below_set h.bl (by omega)) (by omega)⟩
theorem Four.start (w : World) (op n : Int) (A : Option Addr) (m c : Nat) (l : List E) (ky vl tm : Int) (hC : Kd.C k27 w A m l) :
    Four w ((((w.alloc (.cells #[.int .i64 op, .int .i64 n, .slice A m c] 27)).alloc (.cells #[.int .i64 ky, .int .i64 vl, .int .i64 tm] 24)).alloc (.cells #[.int .i64 0] 2)).alloc (.cells #[.int .i64 0] 29)) op n A m c l ky vl tm 0 0 := by
  have e1 : (w.alloc (.cells #[.int .i64 op, .int .i64 n, .slice A m c] 27)).heap.size = w.heap.size + 1 := by simp
  have e2 : ((w.alloc (.cells #[.int .i64 op, .int .i64 n, .slice A m c] 27)).alloc (.cells #[.int .i64 ky, .int .i64 vl, .int .i64 tm] 24)).heap.size = w.heap.size + 1 + 1 := by simp
  have e3 : (((w.alloc (.cells #[.int .i64 op, .int .i64 n, .slice A m c] 27)).alloc (.cells #[.int .i64 ky, .int .i64 vl, .int .i64 tm] 24)).alloc (.cells #[.int .i64 0] 2)).heap.size = w.heap.size + 1 + 1 + 1 := by simp
  refine ⟨blk_alloc (blk_alloc (blk_alloc (blk_new _ _) _) _) _, ?_, ?_, ?_, below_alloc (below_alloc (below_alloc (below_alloc (Below.refl _ _) _) _) _) _, Kd.C_alloc (Kd.C_alloc (Kd.C_alloc (Kd.C_alloc hC _) _) _) _⟩
  · rw [← e1]; exact blk_alloc (blk_alloc (blk_new _ _) _) _
  · rw [← e2]; exact blk_alloc (blk_new _ _) _
  · rw [← e3]; exact blk_new _ _
theorem eval_any (op n : Int) (A : Option Addr) (c : Nat) (l : List E) (ky vl tm ac : Int) (b : Bool) (v : Option Int) (w : World) (hC : Kd.C k27 w A l.length l) (hc : l.length ≤ c) (hb : mayB ⟨op, n, l⟩ = b) (hv : b = true → valOf 16 ky vl tm ac ⟨op, n, l⟩ = v) :
    Calls Try.prog 12 #[.agg #[.int .i64 op, .int .i64 n, .slice A l.length c], .agg #[.int .i64 ky, .int .i64 vl, .int .i64 tm], .int .i64 ac] w fun e w' => e = .returned (.tuple #[.int .i64 (if b = true then v.getD 0 else 0), .int .i64 (if b = true then (if v.isSome then 0 else 10) else 1)]) ∧ Below w.heap.size w w' := by
  have hmf : ∀ (fn : Fn) (first cap : Array Value) (w : World), (Instr.makeFunc fn first cap).run Try.prog w = .ok (.func fn first cap) w := fun _ _ _ _ => rfl
  have HV := Aside0.mk hv
  have HB := Aside0.mk hb
  have HT : Aside0 (Four w ((((w.alloc (.cells #[.int .i64 op, .int .i64 n, .slice A l.length c] 27)).alloc (.cells #[.int .i64 ky, .int .i64 vl, .int .i64 tm] 24)).alloc (.cells #[.int .i64 0] 2)).alloc (.cells #[.int .i64 0] 29)) op n A l.length c l ky vl tm 0 0) := ⟨Four.start w op n A l.length c l ky vl tm hC⟩
  clear hv hb hC
  go_enter_defers Try.func12, Try.ntmps12
  go_upto_region 1 with fail
  generalize (((w.alloc (.cells #[.int .i64 op, .int .i64 n, .slice A l.length c] 27)).alloc (.cells #[.int .i64 ky, .int .i64 vl, .int .i64 tm] 24)).alloc (.cells #[.int .i64 0] 2)).alloc (.cells #[.int .i64 0] 29) = w1 at HT ⊢
  obtain ⟨⟨c1, c2, c3⟩, ⟨c4, c5, c6⟩, ⟨c7, c8⟩, ⟨c9, c10⟩⟩ := HT.out.cells
  obtain ⟨k, hk⟩ := (May_ev ⟨op, n, l⟩).rounds
  rw [HB.out] at hk
  have HK := Aside0.mk hk
  clear hk
  go_wp2_with fail
  refine (expr_May.calls k op n A c l b _ HT.out.rd hc HK.out).mono ?_
  rintro e w2 ⟨rfl, hb_⟩
  clear c1 c2 c3 c4 c5 c6 c7 c8 c9 c10
  replace HT := Aside0.mk (HT.out.step hb_)
  clear hb_ HK
  cases b with
  | false =>
    obtain ⟨⟨c1, c2, c3⟩, ⟨c4, c5, c6⟩, ⟨c7, c8⟩, ⟨c9, c10⟩⟩ := HT.out.cells
    obtain ⟨z1, z2, z3⟩ := HT.out.end_ 0 1
    go_wp2
    simp [bodyPostD, Leaves, settle, results, Try.results12, go_sem, z1, z2]
    exact z3
  | true =>
    have HV2 := HV.out rfl
    have HO := Aside0.mk (okB_fits _ _ (mayB_ok HB.out))
    obtain ⟨⟨c1, c2, c3⟩, ⟨c4, c5, c6⟩, ⟨c7, c8⟩, ⟨c9, c10⟩⟩ := HT.out.cells
    go_wp2_with fail
    refine (value_all 16 ⟨op, n, l⟩ A c ky vl tm ac v _ HO.out HT.out.rd hc HV2).mono ?_
    rintro e w3 ⟨he_, hb_⟩
    clear c1 c2 c3 c4 c5 c6 c7 c8 c9 c10
    replace HT := Aside0.mk (HT.out.step hb_)
    clear hb_
    obtain ⟨⟨c1, c2, c3⟩, ⟨c4, c5, c6⟩, ⟨c7, c8⟩, ⟨c9, c10⟩⟩ := HT.out.cells
    cases v with
    | none =>
      obtain rfl : e = .panicked divBy0 := he_
      obtain ⟨z1, z2, z3⟩ := HT.out.end_ 0 10
      refine leaves_cons (f := 26) (args := #[.pointer (some ⟨w.heap.size + 1 + 1, 0, none⟩), .pointer (some ⟨w.heap.size + 1 + 1 + 1, 0, none⟩)]) (by simp) (by simp [go_sem]) ?_
      refine (catch_panicking ⟨w.heap.size + 1 + 1, 0, none⟩ ⟨w.heap.size + 1 + 1 + 1, 0, none⟩ 0 0 10 [] _ ?_ ?_ ?_ ?_).mono ?_
      · simp [go_sem, c7]
      · simp [go_sem, c8]
      · simp [go_sem, c9]
      · simp [go_sem, c10]
      rintro e u2 w4 ⟨rfl, rfl, rfl⟩
      simp [Leaves, settle, results, Try.results12, go_sem, z1, z2]
      exact z3
    | some m =>
      obtain rfl : e = .returned (.int .i64 m) := he_
      obtain ⟨z1, z2, z3⟩ := HT.out.end_ m 0
      go_wp2
      refine leaves_cons (f := 26) (args := #[.pointer (some ⟨w.heap.size + 1 + 1, 0, none⟩), .pointer (some ⟨w.heap.size + 1 + 1 + 1, 0, none⟩)]) (by simp) (by simp [go_sem]) ?_
      refine (catch_idle ⟨w.heap.size + 1 + 1, 0, none⟩ ⟨w.heap.size + 1 + 1 + 1, 0, none⟩ _).mono ?_
      rintro e u2 w4 ⟨rfl, rfl, rfl⟩
      simp [Leaves, settle, results, Try.results12, go_sem, z1, z2]
      exact z3
theorem expr_Eval.calls (a0_0 : Int) (a0_1 : Int) (A0_2 : Option Addr) (c0_2 : Nat) (l0_2 : List E) (a1_0 : Int) (a1_1 : Int) (a1_2 : Int) (a2 : Int) (r1 : Int) (r2 : Int) (w : World) (hr0_2 : Kd.C k27 w A0_2 l0_2.length l0_2) (hc0_2 : l0_2.length ≤ c0_2) (h : expr_Eval.f a0_0 a0_1 l0_2 a1_0 a1_1 a1_2 a2 = some (r1, r2)) :
    Calls Try.prog 12 #[.agg #[.int .i64 a0_0, .int .i64 a0_1, .slice A0_2 l0_2.length c0_2], .agg #[.int .i64 a1_0, .int .i64 a1_1, .int .i64 a1_2], .int .i64 a2] w fun e w' => e = .returned (.tuple #[.int .i64 r1, .int .i64 r2]) ∧ Below w.heap.size w w' := by
  refine (eval_any a0_0 a0_1 A0_2 c0_2 l0_2 a1_0 a1_1 a1_2 a2 _ _ w hr0_2 hc0_2 rfl (fun _ => rfl)).mono ?_
  rintro e w2 ⟨rfl, hb⟩
  refine ⟨?_, hb⟩
  unfold expr_Eval.f evalOf at h
  injection h with h
  by_cases hm : mayB ⟨a0_0, a0_1, l0_2⟩ = true
  · rw [if_pos hm] at h ⊢
    cases hv : valOf 16 a1_0 a1_1 a1_2 a2 ⟨a0_0, a0_1, l0_2⟩ with
    | none => rw [hv] at h; injection h with h1 h2; subst h1 h2; simp [hm]
    | some m => rw [hv] at h; injection h with h1 h2; subst h1 h2; simp [hm]
  · rw [if_neg hm] at h ⊢
    injection h with h1 h2
    subst h1 h2
    simp [hm]
end Go.Proofs.Ytpcbcekfakjgkaa.Ex
