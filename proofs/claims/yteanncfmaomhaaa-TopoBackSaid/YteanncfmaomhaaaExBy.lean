/- (c04) Plain laws of the printed texts: an expression's bytes; expressions that are the same. -/
import Derived.Test.YteanncfmaomhaaaExByP
import Derived.Test.YteanncfmaomhaaaExUi
import Derived.Test.YteanncfmaomhaaaExOf
import Derived.Test.YteanncfmaomhaaaEx4
import Derived.Test.YteanncfmaomhaaaEx4
import Derived.Test.YteanncfmaomhaaaEx7
namespace Go.Proofs.Yteanncfmaomhaaa.Ex
open Go Go.RowKit Go.Proofs.Yteanncfmaomhaaa.Pk Go.Proofs.YteanncfmaomhaaaW.PrintWords Go.Proofs.YteanncfmaomhaaaW.PrintLast Go.Proofs.YteanncfmaomhaaaW.PrintMore
set_option linter.unusedVariables false
set_option linter.unusedSimpArgs false
theorem expr_put_l0 (d : Nat) (l : List E) (x0 x1 : Int) (hl : l.length ≤ 3) (hf : ∀ x ∈ l, ∀ acc : List Int, acc.length + 20 * cnt d x ≤ 1000000 → Ev (fun k => expr_put.f k acc x.f0 x.f1 x.f2) (acc ++ putD d x)) (hb : ∀ x ∈ l, (putD d x).length ≤ 20 * cnt d x) :
    ∀ (r i : Nat) (acc : List Int), i + r = l.length → acc.length + 20 * cntL (cnt d) (l.drop i) ≤ 1000000 → Ev (fun k => expr_put.l0 k acc l (l.length : Int) (i : Int)) (acc ++ (l.drop i).flatMap (putD d)) := by
  intro r
  induction r with
  | zero =>
    intro i acc hi _
    rw [List.drop_of_length_le (by omega), List.flatMap_nil, List.append_nil]
    refine Ev.step (f := fun _ => some acc) (fun k => ?_) (Ev.now _)
    simp only [expr_put.l0]
    rw [if_neg (by omega)]
  | succ r ih =>
    intro i acc hi hlen
    have hlt : i < l.length := by omega
    rw [drop_rd hlt] at hlen ⊢
    have hm := rd_mem hlt
    have h1 := hb _ hm
    rw [show cntL (cnt d) (rd_T38 l (i : Int) :: l.drop (i + 1)) = cnt d (rd_T38 l (i : Int)) + cntL (cnt d) (l.drop (i + 1)) from rfl] at hlen
    rw [List.flatMap_cons, ← List.append_assoc]
    refine Ev.step (f := fun k => (expr_put.f k acc (rd_T38 l (i : Int)).f0 (rd_T38 l (i : Int)).f1 (rd_T38 l (i : Int)).f2).bind fun t => expr_put.l0 k t l (l.length : Int) ((i + 1 : Nat) : Int)) (fun k => ?_) ?_
    · simp only [expr_put.l0]
      rw [if_pos (by omega), if_pos (by omega), if_pos (by omega), wsucc (by omega)]
    · exact Ev.bind (hf _ hm acc (by omega)) (ih (i + 1) _ (by omega) (by rw [List.length_append]; omega))
theorem expr_put_ev : ∀ d e, okB d e = true → wfE e → ∀ acc : List Int, acc.length + 20 * cnt d e ≤ 1000000 → Ev (fun k => expr_put.f k acc e.f0 e.f1 e.f2) (acc ++ putD d e) := by
  intro d
  induction d with
  | zero => intro e h; simp [okB] at h
  | succ d ih =>
    intro e h hw acc hlen
    have hs := okB_succ h
    have hwo := hw.out
    have hk := kidsOf_le e.f0
    rw [show cnt (d + 1) e = 1 + cntL (cnt d) e.f2 from rfl] at hlen
    have h2 := enc_len (n := e.f0) (by omega)
    have hu := uns_range hwo.2.1.1 hwo.2.1.2
    have h3 := enc_len hu.2
    have hl0 := fun (acc2 : List Int) (ha : acc2.length + 20 * cntL (cnt d) e.f2 ≤ 1000000) => expr_put_l0 d e.f2 e.f0 e.f1 (by omega) (fun x hx acc h => ih x (hs.2 x hx) (hwo.2.2.2 x hx) acc h) (fun x hx => by
      have hx1 := hs.2 x hx
      cases d with
      | zero => simp [okB] at hx1
      | succ d => exact putD_len (d + 1) x (hwo.2.2.2 x hx) (okB_succ hx1).1.1 hx1) e.f2.length 0 acc2 (by omega) (by rw [List.drop_zero]; exact ha)
    have hj0 : ∀ acc2 : List Int, acc2.length + 20 * cntL (cnt d) e.f2 ≤ 1000000 → Ev (fun k => expr_put.j0 k acc2 e.f0 e.f1 e.f2) (acc2 ++ e.f2.flatMap (putD d)) := fun acc2 ha => by
      have := hl0 acc2 ha
      rw [List.drop_zero] at this
      refine Ev.step (fun k => ?_) this
      simp only [expr_put.j0]
      rfl
    have hwr : IntKind.u64.wrap e.f0 = e.f0 := wrap_u64 (by omega) (by omega)
    have hU : Ev (fun k => pack_Uint.f k acc (IntKind.u64.wrap e.f0)) (acc ++ enc e.f0) := by
      rw [hwr]
      exact Ev.of (fun k => pack_Uint.mono _ _ k) (uintFk 10 acc e.f0 (by omega) (by omega) (by omega) (by omega))
    unfold putD
    by_cases h1 : e.f0 = 1
    · rw [if_pos h1, ← List.append_assoc, ← List.append_assoc]
      refine Ev.step (f := fun k => (pack_Uint.f k acc (IntKind.u64.wrap e.f0)).bind fun t => (pack_Int.f k t e.f1).bind fun t2 => expr_put.j0 k t2 e.f0 e.f1 e.f2) (fun k => ?_) ?_
      · simp only [expr_put.f, if_pos h1]
      · refine Ev.bind hU (Ev.bind ?_ (hj0 _ (by rw [List.length_append, List.length_append]; omega)))
        exact Ev.of (fun k => pack_Int.mono _ _ k) (intFk 10 (acc ++ enc e.f0) e.f1 (by omega) hwo.2.1.1 hwo.2.1.2 (by rw [List.length_append]; omega))
    · rw [if_neg h1, List.nil_append, ← List.append_assoc]
      refine Ev.step (f := fun k => (pack_Uint.f k acc (IntKind.u64.wrap e.f0)).bind fun t => expr_put.j0 k t e.f0 e.f1 e.f2) (fun k => ?_) (Ev.bind hU (hj0 _ (by rw [List.length_append]; omega)))
      simp only [expr_put.f, if_neg h1]
theorem bytes_ev (e : E) (hw : wfE e) : Ev (fun k => expr_Bytes.f k e.f0 e.f1 e.f2) (if mayB e = true then (putD 16 e, 0) else ([], 1)) := by
  unfold expr_Bytes.f
  refine Ev.bind (May_ev e) ?_
  by_cases h : mayB e = true
  · rw [if_pos h, h]
    simp only [if_true]
    have h2 := mayB_iff e
    rw [h] at h2
    have h3 := Bool.and_eq_true_iff.1 h2.symm
    have := expr_put_ev 16 e h3.1 hw [] (by have := of_decide_eq_true h3.2; simp; omega)
    rw [List.nil_append] at this
    exact Ev.bind this (Ev.now _)
  · have h' : mayB e = false := by simpa using h
    rw [h']
    simp only [Bool.false_eq_true, if_false]
    exact Ev.now _
theorem same_of (l : List E) (x0 x1 y0 y1 : Int) (hl : l.length ≤ 9223372036854775807) (hf : ∀ x ∈ l, Ev (fun k => tidemillref04_Same.f k x.f0 x.f1 x.f2 x.f0 x.f1 x.f2) true) :
    ∀ (r i : Nat), i + r = l.length → Ev (fun k => tidemillref04_Same.l0 k (i : Int) x0 x1 l y0 y1 l) true := by
  intro r
  induction r with
  | zero =>
    intro i hi
    refine Ev.step (f := fun _ => some true) (fun k => ?_) (Ev.now _)
    simp only [tidemillref04_Same.l0]
    rw [if_neg (by omega)]
  | succ r ih =>
    intro i hi
    have hlt : i < l.length := by omega
    refine Ev.step (f := fun k => (tidemillref04_Same.f k (rd_T38 l (i : Int)).f0 (rd_T38 l (i : Int)).f1 (rd_T38 l (i : Int)).f2 (rd_T38 l (i : Int)).f0 (rd_T38 l (i : Int)).f1 (rd_T38 l (i : Int)).f2).bind fun t => if t = true then tidemillref04_Same.l0 k ((i + 1 : Nat) : Int) x0 x1 l y0 y1 l else some false) (fun k => ?_) ?_
    · simp only [tidemillref04_Same.l0]
      rw [if_pos (by omega), if_pos (by omega), if_pos (by omega), wsucc (by omega)]
    · refine Ev.bind (hf _ (rd_mem hlt)) ?_
      simp only [if_true]
      exact ih (i + 1) (by omega)
theorem same_ev : ∀ e : E, wfE e → Ev (fun k => tidemillref04_Same.f k e.f0 e.f1 e.f2 e.f0 e.f1 e.f2) true := by
  refine E_ind (fun e ih hw => ?_)
  have h := hw.out
  refine Ev.step (f := fun k => tidemillref04_Same.j0 k ((e.f2.length : Int) != (e.f2.length : Int)) e.f0 e.f1 e.f2 e.f0 e.f1 e.f2) (fun k => by simp only [tidemillref04_Same.f, if_true]) ?_
  rw [show ((e.f2.length : Int) != (e.f2.length : Int)) = false by simp]
  refine Ev.step (f := fun k => tidemillref04_Same.l0 k ((0 : Nat) : Int) e.f0 e.f1 e.f2 e.f0 e.f1 e.f2) (fun k => by simp only [tidemillref04_Same.j0, Bool.false_eq_true, if_false]; rfl) ?_
  exact same_of e.f2 e.f0 e.f1 e.f0 e.f1 h.2.2.1 (fun x hx => ih x hx (h.2.2.2 x hx)) e.f2.length 0 (by omega)
end Go.Proofs.Yteanncfmaomhaaa.Ex
