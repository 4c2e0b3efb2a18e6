/- (c14) The document's example; SessNobody. -/
import Derived.Test.YtpjfmilokadchaaSeSt
namespace Go.Proofs.Ytpjfmilokadchaa.Se
open Go Go.RowKit Go.Proofs.YtpjfmilokadchaaW.PrintWords Go.Proofs.YtpjfmilokadchaaW.PrintLast Go.Proofs.YtpjfmilokadchaaW.PrintMore Go.Proofs.Ytpjfmilokadchaa.Rw Go.Proofs.Ytpjfmilokadchaa.Ex
set_option linter.unusedVariables false
set_option linter.unusedSimpArgs false
theorem lit_own (w : World) (M : List S33) (hm : M.length ≤ 1000) : (w.alloc (.cells (cellsC M).toArray 33)).ownsRow 0 33 5 (.slice (some ⟨w.heap.size, 0, none⟩) M.length M.length) M.length (cellsC M) :=
  own_mk (rest := []) (Nat.zero_le _) (heap_alloc_new w _) (Nat.le_refl _) (Nat.le_trans hm (by decide)) (cellsC_len M) (by simp) (by simp)
def shM : List S33 := [⟨1, 10, 10, 0, true⟩, ⟨1, 20, 20, 0, true⟩, ⟨1, 10, 20, 9, false⟩]
theorem sh1 : putL 9 5 [] 1 10 7 = [⟨1, 10, 10, 7⟩] := by rfl
theorem sh2 : putL 9 5 [⟨1, 10, 10, 7⟩] 1 20 8 = [⟨1, 10, 10, 7⟩, ⟨1, 20, 20, 8⟩] := by rfl
theorem sh3 : putL 9 5 [⟨1, 10, 10, 7⟩, ⟨1, 20, 20, 8⟩] 1 15 9 = [⟨1, 10, 20, 9⟩] := by rfl
theorem sh4 : putM 9 5 [⟨1, 10, 10, 7⟩, ⟨1, 20, 20, 8⟩] 1 15 9 = shM := by rfl
theorem sh5 : putE 9 5 [⟨1, 10, 10, 7⟩, ⟨1, 20, 20, 8⟩] 1 15 = 0 := by rfl
set_option maxHeartbeats 2000000 in
theorem shown_ok (w : World) : Calls Try.prog 8 #[] w fun e w' => e = .returned (.bool true) ∧ Below w.heap.size w w' := by
  have HB := Aside0.mk (Below.refl w.heap.size w)
  go_enter Try.func8, Try.ntmps8
  go_wp2_with fail
  refine (new1 9 5 w _ HB.out (by omega) (by omega) (by omega) (by omega)).mono ?_
  rintro e w1 ⟨b, rfl, hs_, _⟩
  have HS := Aside0.mk hs_
  clear hs_ HB
  go_wp2_with fail
  refine ((HS.out.below (by repeat (first | exact Below.refl _ _ | apply below_alloc | (refine below_set ?_ (Nat.le_refl _))))).put 1 10 7 ⟨by omega, by omega⟩ ⟨by omega, by omega⟩).mono ?_
  rintro e w2 ⟨⟨A_, c_, rfl, ho_⟩, hs_, hk_⟩
  rw [sh1] at hs_
  replace HS := Aside0.mk hs_
  clear hs_ hk_ ho_

  go_wp2_with fail
  refine ((HS.out.below (by repeat (first | exact Below.refl _ _ | apply below_alloc | (refine below_set ?_ (Nat.le_refl _))))).put 1 20 8 ⟨by omega, by omega⟩ ⟨by omega, by omega⟩).mono ?_
  rintro e w3 ⟨⟨A_, c_, rfl, ho_⟩, hs_, hk_⟩
  rw [sh2] at hs_
  replace HS := Aside0.mk hs_
  clear hs_ hk_ ho_

  go_wp2_with fail
  refine ((HS.out.below (by repeat (first | exact Below.refl _ _ | apply below_alloc | (refine below_set ?_ (Nat.le_refl _))))).put 1 15 9 ⟨by omega, by omega⟩ ⟨by omega, by omega⟩).mono ?_
  rintro e w4 ⟨⟨A_, c_, rfl, ho_⟩, hs_, hk_⟩
  rw [sh3] at hs_
  rw [sh4] at ho_ ⊢
  rw [sh5]
  replace HS := Aside0.mk hs_
  clear hs_ hk_

  have h3 : shM.length = 3 := rfl
  rw [h3] at ho_ ⊢
  have HO := Aside0.mk (own_lower ho_ (Nat.zero_le _))
  have HL := Aside0.mk (lit_own w4 shM (by rw [h3]; omega))
  rw [h3] at HL
  clear ho_ h3
  go_wp2_with fail
  refine (changes_same shM 3 rfl (by omega) A_ c_ _ 3 _ (Kd.C_below (C_own HO.out).1 (by repeat (first | exact Below.refl _ _ | apply below_alloc | (refine below_set ?_ (Nat.le_refl _))))) (C_own HO.out).2 (C_own HL.out).1 (Nat.le_refl _)).mono ?_
  rintro e w5 ⟨rfl, hb_⟩
  replace HS := Aside0.mk (HS.out.below (below_step (by repeat (first | exact Below.refl _ _ | apply below_alloc | (refine below_set ?_ (Nat.le_refl _)))) hb_))
  clear hb_
  go_wp2_with fail
  refine (HS.out.len).mono ?_
  rintro e w6 ⟨rfl, rfl⟩
  rw [show ([⟨1, 10, 20, 9⟩] : List Ses).length = 1 from rfl]
  go_wp2_with fail
  go_ret
  exact ⟨rfl, HS.out.bl⟩
end Go.Proofs.Ytpjfmilokadchaa.Se
