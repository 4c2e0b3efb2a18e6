/- The document's example. KvNobody, KvFull. -/
import Derived.Test.YtlnpnlacalppjaaKvSt
namespace Go.Proofs.Ytlnpnlacalppjaa.Kv
open Go Go.RowKit Go.Proofs.YtlnpnlacalppjaaW.PrintWords Go.Proofs.YtlnpnlacalppjaaW.PrintLast Go.Proofs.YtlnpnlacalppjaaW.PrintMore Go.Proofs.Ytlnpnlacalppjaa.Rw Go.Proofs.Ytlnpnlacalppjaa.Ex
set_option linter.unusedVariables false
set_option linter.unusedSimpArgs false
theorem In64.of {n : Int} (h0 : -9223372036854775808 ≤ n) (h1 : n ≤ 9223372036854775807) : In64 n := ⟨h0, h1⟩
theorem C_one (w : World) (p : S30) (T : TypeId) : Kd.C k30 (w.alloc (.cells #[.int .i64 p.f0, .int .i64 p.f1, .int .i64 p.f2, .int .i64 p.f3, .bool p.f4] T)) (some ⟨w.heap.size, 0, none⟩) 1 [p] := by
  refine ⟨rfl, by omega, fun _ => ⟨_, rfl, fun j q hj => ?_⟩⟩
  have hj0 : j = 0 := by have := (List.getElem?_eq_some_iff.1 hj).1; simp at this; exact this
  subst hj0
  simp only [List.getElem?_cons_zero, Option.some.injEq] at hj
  subst hj
  refine ⟨_, rfl, k30_mk _ p, fun i u hu => ?_⟩
  rw [Addr.add_lit, cell_row (heap_alloc_new w _) rfl]
  simpa using hu
set_option maxHeartbeats 2000000 in
theorem shown_ok (w : World) : Calls Try.prog 9 #[] w fun e w' => e = .returned (.bool true) ∧ Below w.heap.size w w' := by
  have HB := Aside0.mk (Below.refl w.heap.size w)
  go_enter Try.func9, Try.ntmps9
  go_wp2_with fail
  refine (new1 2 w _ HB.out (by omega) (by omega)).mono ?_
  rintro e w1 ⟨b, rfl, hs_, _⟩
  have HS := Aside0.mk hs_
  clear hs_ HB
  go_wp2_with fail
  refine ((HS.out.below (by repeat (first | exact Below.refl _ _ | apply below_alloc | (refine below_set ?_ (Nat.le_refl _))))).put 2 7 ⟨by omega, by omega⟩ ⟨by omega, by omega⟩ (by decide)).mono ?_
  rintro e w2 ⟨rfl, hs_⟩
  replace HS := Aside0.mk hs_
  clear hs_

  go_wp2_with fail
  refine ((HS.out.below (by repeat (first | exact Below.refl _ _ | apply below_alloc | (refine below_set ?_ (Nat.le_refl _))))).put 1 8 ⟨by omega, by omega⟩ ⟨by omega, by omega⟩ (by decide)).mono ?_
  rintro e w3 ⟨rfl, hs_⟩
  replace HS := Aside0.mk hs_
  clear hs_

  go_wp2_with fail
  refine ((HS.out.below (by repeat (first | exact Below.refl _ _ | apply below_alloc | (refine below_set ?_ (Nat.le_refl _))))).putN 3 9 ⟨by omega, by omega⟩ ⟨by omega, by omega⟩ (by decide)).mono ?_
  rintro e w4 ⟨rfl, hs_⟩
  replace HS := Aside0.mk hs_
  clear hs_

  go_wp2_with fail
  refine ((HS.out.below (by repeat (first | exact Below.refl _ _ | apply below_alloc | (refine below_set ?_ (Nat.le_refl _))))).del 2 (by decide)).mono ?_
  rintro e w5 ⟨rfl, hs_⟩
  replace HS := Aside0.mk hs_
  clear hs_

  rw [show del (put (put [] 2 7) 1 8) 2 = [(1, 8)] by decide] at HS
  go_wp2_with fail
  refine ((HS.out.below (by repeat (first | exact Below.refl _ _ | apply below_alloc | (refine below_set ?_ (Nat.le_refl _))))).list).mono ?_
  rintro e w6 ⟨v0, rfl, hr_, hb_⟩
  have HB := Aside0.mk ((HS.out.below (below_step (by repeat (first | exact Below.refl _ _ | apply below_alloc | (refine below_set ?_ (Nat.le_refl _)))) hb_)).bl)
  obtain ⟨A0, c0, rfl⟩ := Kd.R_slice hr_
  have HR := Aside0.mk hr_
  clear hr_ hb_ HS
  have hc0 := (Kd.R_reads' HR.out).2.1
  go_wp2_with fail
  refine (changes_same [chgOf (1, 8)] (by decide) A0 c0 _ 1 _ (Kd.C_below (Kd.R_reads' HR.out).2.2 (by repeat (first | exact Below.refl _ _ | apply below_alloc | (refine below_set ?_ (Nat.le_refl _))))) hc0 (C_one _ (chgOf (1, 8)) _) (Nat.le_refl _)).mono ?_
  rintro e w7 ⟨rfl, hb_⟩
  replace HB := Aside0.mk (below_step (below_step HB.out (by repeat (first | exact Below.refl _ _ | apply below_alloc | (refine below_set ?_ (Nat.le_refl _))))) hb_)
  clear hb_ hc0
  go_wp2_with fail
  go_ret
  exact ⟨rfl, HB.out⟩
end Go.Proofs.Ytlnpnlacalppjaa.Kv
