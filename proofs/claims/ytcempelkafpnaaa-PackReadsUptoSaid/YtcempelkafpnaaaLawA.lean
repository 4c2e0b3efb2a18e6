/- The statements' head: the document's examples hold. -/
import Derived.Outline
import Derived.Test.YtcempelkafpnaaaPkC
namespace Go.Proofs.Ytcempelkafpnaaa.Pk
open Go Go.RowKit Go.Proofs.YtcempelkafpnaaaW.PrintWords Go.Proofs.YtcempelkafpnaaaW.PrintLast Go.Proofs.YtcempelkafpnaaaW.PrintMore
set_option linter.unusedVariables false
set_option linter.unusedSimpArgs false
set_option maxHeartbeats 1000000 in
set_option maxRecDepth 100000 in
theorem shown_ok (w : World) : Calls Try.prog 11 #[] w fun e w' => e = .returned (.bool true) ∧ Below w.heap.size w w' := by
  have HB := Aside0.mk (Below.refl w.heap.size w)
  go_enter Try.func11, Try.ntmps11
  go_wp2_with fail
  refine (puint_nil 300 _ (by omega) (by omega)).mono ?_
  rintro e w1 ⟨v1, rfl, hr_, hb_⟩
  have HV1 := Aside0.mk (Kd.R_lower hr_ (below_size HB.out))
  have n0_ := Aside0.mk (below_step HB.out hb_); clear HB; have HB := n0_; clear n0_; clear hr_ hb_
  go_wp2_with fail
  refine (pint_nil (-1) _ (by omega) (by omega)).mono ?_
  rintro e w2 ⟨v2, rfl, hr_, hb_⟩
  have HV2 := Aside0.mk (Kd.R_lower hr_ (below_size HB.out))
  have n0_ := Aside0.mk (below_step HB.out hb_); have n1_ := Aside0.mk (Kd.R_below HV1.out hb_); clear HB; clear HV1; have HB := n0_; have HV1 := n1_; clear n0_ n1_; clear hr_ hb_
  go_wp2_with fail
  refine (from_any _ _ [128, 0] _ (C_lit .u8 _ _ _ _ rfl (by simp)) (by simp) (by intro x hx; simp at hx; omega)).mono ?_
  rintro e w3 ⟨b1, rfl, hr_, hb_⟩
  replace hb_ := below_step (below_alloc (Below.refl _ _) _) hb_
  have HR1 := Aside0.mk (hr_.lower (below_size (below_alloc HB.out _)))
  have n0_ := Aside0.mk (below_step HB.out hb_); have n1_ := Aside0.mk (Kd.R_below HV1.out hb_); have n2_ := Aside0.mk (Kd.R_below HV2.out hb_); clear HB; clear HV1; clear HV2; have HB := n0_; have HV1 := n1_; have HV2 := n2_; clear n0_ n1_ n2_; clear hr_ hb_
  go_wp2_with fail
  refine (from_any _ _ [128] _ (C_lit .u8 _ _ _ _ rfl (by simp)) (by simp) (by intro x hx; simp at hx; omega)).mono ?_
  rintro e w4 ⟨b2, rfl, hr_, hb_⟩
  have hne1 : b1 ≠ b2 := by have h1 := HR1.out.lt; have h2 := hr_.1; simp at h2; omega
  have hne2 : b2 ≠ b1 := fun h => hne1 h.symm
  replace hb_ := below_step (below_alloc (Below.refl _ _) _) hb_
  have HR2 := Aside0.mk (hr_.lower (below_size (below_alloc HB.out _)))
  have n0_ := Aside0.mk (below_step HB.out hb_); have n1_ := Aside0.mk (Kd.R_below HV1.out hb_); have n2_ := Aside0.mk (Kd.R_below HV2.out hb_); have n3_ := Aside0.mk (HR1.out.below hb_); clear HB; clear HV1; clear HV2; clear HR1; have HB := n0_; have HV1 := n1_; have HV2 := n2_; have HR1 := n3_; clear n0_ n1_ n2_ n3_; clear hr_ hb_
  go_wp2_with fail
  refine (uint_some b1 _ _ _ HR1.out).mono ?_
  rintro e w5 ⟨he_, hn_, hg_⟩
  rw [show rdU [128, 0] = (0, 5, [128, 0]) by decide +kernel] at he_ hn_
  subst he_
  have n0_ := Aside0.mk (HR1.out.from HB.out (below_size HB.out) hg_); have n1_ := Aside0.mk (R_read (by simp [Kd.int, Kd.scalar]) HV1.out HR1.out hg_); have n2_ := Aside0.mk (R_read (by simp [Kd.int, Kd.scalar]) HV2.out HR1.out hg_); have n3_ := Aside0.mk (HR2.out.other HR1.out (by omega) hg_); have n4_ := Aside0.mk (hn_); clear HB; clear HV1; clear HV2; clear HR2; clear HR1; have HB := n0_; have HV1 := n1_; have HV2 := n2_; have HR2 := n3_; have HR1 := n4_; clear n0_ n1_ n2_ n3_ n4_; clear hn_ hg_
  go_wp2_with fail
  refine (uint_some b2 _ _ _ HR2.out).mono ?_
  rintro e w6 ⟨he_, hn_, hg_⟩
  rw [show rdU [128] = (0, 4, [128]) by decide +kernel] at he_ hn_
  subst he_
  have n0_ := Aside0.mk (HR2.out.from HB.out (below_size HB.out) hg_); have n1_ := Aside0.mk (R_read (by simp [Kd.int, Kd.scalar]) HV1.out HR2.out hg_); have n2_ := Aside0.mk (R_read (by simp [Kd.int, Kd.scalar]) HV2.out HR2.out hg_); have n3_ := Aside0.mk (HR1.out.other HR2.out (by omega) hg_); have n4_ := Aside0.mk (hn_); clear HB; clear HV1; clear HV2; clear HR1; clear HR2; have HB := n0_; have HV1 := n1_; have HV2 := n2_; have HR1 := n3_; have HR2 := n4_; clear n0_ n1_ n2_ n3_ n4_; clear hn_ hg_
  have hs1 := R_str HV1.out
  have hs2 := R_str HV2.out
  rw [show enc 300 = [172, 2] by rw [enc_ge (by omega), enc_lt (by omega) (by omega)]; rfl, show strOfNums [172, 2] = ⟨#[172, 2]⟩ by rfl] at hs1
  rw [show uns (-1) = 1 by decide, enc_lt (by omega) (by omega), show strOfNums [1] = ⟨#[1]⟩ by rfl] at hs2
  go_wp2_with fail
  refine (left_some b1 _ _ _ HR1.out).mono ?_
  rintro e w7 ⟨rfl, rfl⟩
  go_wp2
  go_ret
  exact ⟨rfl, HB.out⟩
end Go.Proofs.Ytcempelkafpnaaa.Pk
