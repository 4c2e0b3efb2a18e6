/- The statements PackOrder, PackNobody, PackSigns, PackOnes: their bodies, walked. -/
import Derived.Test.YtcempelkafpnaaaLawA
namespace Go.Proofs.Ytcempelkafpnaaa.Pk
open Go Go.RowKit Go.Proofs.YtcempelkafpnaaaW.PrintWords Go.Proofs.YtcempelkafpnaaaW.PrintLast Go.Proofs.YtcempelkafpnaaaW.PrintMore
set_option linter.unusedVariables false
set_option linter.unusedSimpArgs false
set_option maxHeartbeats 1000000 in
set_option maxRecDepth 100000 in
theorem nobody_ok (m : Int) (w : World) : Calls Try.prog 9 #[.int .i64 m] w fun e w' => e = .returned (.bool true) ∧ Below w.heap.size w w' := by
  have HB := Aside0.mk (Below.refl w.heap.size w)
  go_enter Try.func9, Try.ntmps9
  go_wp2_with fail
  refine (shown_ok _).mono ?_
  rintro e w1 ⟨rfl, hb_⟩
  have n0_ := Aside0.mk (below_step HB.out hb_); clear HB; have HB := n0_; clear n0_; clear hb_
  go_wp2_with fail
  refine (uint_none _).mono ?_
  rintro e w2 ⟨rfl, rfl⟩
  go_wp2_with fail
  refine (int_none _).mono ?_
  rintro e w2 ⟨rfl, rfl⟩
  go_wp2_with fail
  refine (bytes_none _).mono ?_
  rintro e w2 ⟨rfl, rfl⟩
  go_wp2_with fail
  refine (ints_none _ _).mono ?_
  rintro e w2 ⟨rfl, rfl⟩
  go_wp2_with fail
  refine (left_none _).mono ?_
  rintro e w2 ⟨rfl, rfl⟩
  go_wp2
  go_ret
  exact ⟨rfl, HB.out⟩

set_option maxHeartbeats 1000000 in
set_option maxRecDepth 100000 in
theorem order_ok (n m c : Int) (w : World) (n0 : 0 ≤ n) (n1 : n < 18446744073709551616) (m0 : 0 ≤ m) (m1 : m < 18446744073709551616) (c0 : 0 ≤ c) (c1 : c < 256) :
    Calls Try.prog 4 #[.int .u64 n, .int .u64 m, .int .u8 c] w fun e w' => e = .returned (.bool true) ∧ Below w.heap.size w w' := by
  have HB := Aside0.mk (Below.refl w.heap.size w)
  go_enter Try.func4, Try.ntmps4
  go_wp2_with fail
  refine (shown_ok _).mono ?_
  rintro e w1 ⟨rfl, hb_⟩
  have n0_ := Aside0.mk (below_step HB.out hb_); clear HB; have HB := n0_; clear n0_; clear hb_
  go_wp2_with fail
  refine (puint_nil n _ n0 n1).mono ?_
  rintro e w2 ⟨v2, rfl, hr_, hb_⟩
  obtain ⟨A2, k2, rfl, _, _⟩ := Kd.R_reads hr_
  have n0_ := Aside0.mk (below_step HB.out hb_); clear HB; have HB := n0_; clear n0_; clear hr_ hb_
  go_wp2_with fail
  refine (puint_nil m _ m0 m1).mono ?_
  rintro e w3 ⟨v3, rfl, hr_, hb_⟩
  obtain ⟨A3, k3, rfl, _, _⟩ := Kd.R_reads hr_
  have n0_ := Aside0.mk (below_step HB.out hb_); clear HB; have HB := n0_; clear n0_; clear hr_ hb_
  go_wp2_with fail
  refine (puint_nil (c % 128) _ (by omega) (by omega)).mono ?_
  rintro e w4 ⟨v4, rfl, hr_, hb_⟩
  rw [enc_lt (by omega) (by omega)] at hr_
  have hs1 := R_str hr_
  have hs2 : ∀ W : World, (convert 22 9 (.slice (some ⟨W.heap.size, 0, none⟩) 1 1)).run Try.prog (W.alloc (.cells #[.int .u8 (c % 128)] 5)) = .ok (.string (strOfNums [c % 128])) (W.alloc (.cells #[.int .u8 (c % 128)] 5)) :=
    fun W => C_str (C_lit .u8 5 W [c % 128] _ rfl (by simp))
  have n0_ := Aside0.mk (below_step HB.out hb_); clear HB; have HB := n0_; clear n0_; clear hr_ hb_
  have hp := enc_pos n
  have h3 : decide (1 ≤ (enc n).length) = true := decide_eq_true hp
  have h12 : decide (m < n) = true ∨ (decide (m < n) = false ∧ decide ((enc n).length ≤ (enc m).length) = true) := by
    by_cases h : m < n
    · exact .inl (decide_eq_true h)
    · exact .inr ⟨decide_eq_false h, decide_eq_true (enc_mono (by omega))⟩
  generalize strOfNums [c % 128] = s at *
  rcases h12 with h1 | ⟨h1, h2⟩
  all_goals
    go_wp2
    go_ret
    exact ⟨rfl, below_alloc HB.out _⟩

set_option maxHeartbeats 1000000 in
set_option maxRecDepth 100000 in
theorem signs_ok (n : Int) (w : World) (n0 : -9223372036854775808 ≤ n) (n1 : n ≤ 9223372036854775807) :
    Calls Try.prog 6 #[.int .i64 n] w fun e w' => e = .returned (.bool true) ∧ Below w.heap.size w w' := by
  obtain ⟨p, hp, hp0, hp1⟩ : ∃ p : Int, (n < 0 ∧ p = -(n + 1) ∨ ¬ n < 0 ∧ p = n) ∧ 0 ≤ p ∧ p ≤ 9223372036854775807 := by
    by_cases h : n < 0
    · exact ⟨_, .inl ⟨h, rfl⟩, by omega, by omega⟩
    · exact ⟨_, .inr ⟨h, rfl⟩, by omega, by omega⟩
  have hu1 : uns p = 2 * p := by unfold uns; rw [if_neg (by omega)]
  have hu2 : uns (-p - 1) = 2 * p + 1 := by unfold uns; rw [if_pos (by omega)]; omega
  have hl : (enc (uns (p / 2))).length ≤ (enc (uns p)).length := by
    rw [hu1]
    unfold uns
    rw [if_neg (by omega)]
    exact enc_mono (by omega)
  have HU1 := Aside0.mk hu1
  have HU2 := Aside0.mk hu2
  have HLE := Aside0.mk hl
  clear hu1 hu2 hl
  have hpp : (n < 0 ∧ Aside0 (p = -(n + 1))) ∨ ¬ n < 0 ∧ p = n := by
    rcases hp with ⟨h, h'⟩ | ⟨h, h'⟩
    · exact .inl ⟨h, ⟨h'⟩⟩
    · exact .inr ⟨h, h'⟩
  clear hp
  have HB := Aside0.mk (Below.refl w.heap.size w)
  go_enter Try.func6, Try.ntmps6
  go_wp2_with fail
  refine (shown_ok _).mono ?_
  rintro e w1 ⟨rfl, hb_⟩
  have n0_ := Aside0.mk (below_step HB.out hb_); clear HB; have HB := n0_; clear n0_; clear hb_
  have hw1 : IntKind.u64.wrap p = p := wrap_u64 (by omega) (by omega)
  have hw2 : IntKind.u64.wrap (2 * p) = 2 * p := wrap_u64 (by omega) (by omega)
  have hw3 : IntKind.u64.wrap (2 * p + 1) = 2 * p + 1 := wrap_u64 (by omega) (by omega)
  have HL1 := Aside0.mk (enc_len (n := 2 * p) (by omega))
  have HL2 := Aside0.mk (enc_len (n := 2 * p + 1) (by omega))
  have HE1 := Aside0.mk (rdU_enc1 (n := 2 * p) (by omega) (by omega))
  have HE2 := Aside0.mk (rdU_enc1 (n := 2 * p + 1) (by omega) (by omega))
  rcases hpp with ⟨hn, hp⟩ | ⟨hn, rfl⟩
  all_goals
    try have e1 : -(n + 1) = p := hp.out.symm
    go_wp2_with fail
    refine (pint_nil p _ (by omega) (by omega)).mono ?_
    rw [HU1.out]
    rintro e w2 ⟨v2, rfl, hr_, hb_⟩
    obtain ⟨A2, k2, rfl, _, hc_⟩ := Kd.R_reads hr_
    have HC := Aside0.mk hc_
    have n0_ := Aside0.mk (below_step HB.out hb_); clear HB; have HB := n0_; clear n0_; clear hr_ hb_ hc_
    go_wp2_with fail
    refine (from_any A2 k2 (enc (2 * p)) _ HC.out (by have := HL1.out; omega) (enc_byt _)).mono ?_
    rintro e w3 ⟨b1, rfl, hr_, hb_⟩
    have HR1 := Aside0.mk (hr_.lower (below_size HB.out))
    have n0_ := Aside0.mk (below_step HB.out hb_); clear HB; have HB := n0_; clear n0_; clear hr_ hb_
    go_wp2_with fail
    refine (pint_nil (-p - 1) _ (by omega) (by omega)).mono ?_
    rw [HU2.out]
    rintro e w4 ⟨v4, rfl, hr_, hb_⟩
    obtain ⟨A4, k4, rfl, _, hc_⟩ := Kd.R_reads hr_
    have HC4 := Aside0.mk hc_
    have n0_ := Aside0.mk (below_step HB.out hb_); have n1_ := Aside0.mk (HR1.out.below hb_); clear HB; clear HR1; have HB := n0_; have HR1 := n1_; clear n0_ n1_; clear hr_ hb_ hc_
    go_wp2_with fail
    refine (from_any A4 k4 (enc (2 * p + 1)) _ HC4.out (by have := HL2.out; omega) (enc_byt _)).mono ?_
    rintro e w5 ⟨b2, rfl, hr_, hb_⟩
    have hne1 : b1 ≠ b2 := by have h1 := HR1.out.lt; have h2 := hr_.1; omega
    have hne2 : b2 ≠ b1 := fun h => hne1 h.symm
    have HR2 := Aside0.mk (hr_.lower (below_size HB.out))
    have n0_ := Aside0.mk (below_step HB.out hb_); have n1_ := Aside0.mk (HR1.out.below hb_); clear HB; clear HR1; have HB := n0_; have HR1 := n1_; clear n0_ n1_; clear hr_ hb_
    go_wp2_with fail
    refine (uint_some b1 _ _ _ HR1.out).mono ?_
    rintro e w6 ⟨he_, hn_, hg_⟩
    rw [HE1.out] at he_ hn_
    subst he_
    have n0_ := Aside0.mk (HR1.out.from HB.out (below_size HB.out) hg_); have n1_ := Aside0.mk (HR2.out.other HR1.out (by omega) hg_); have n2_ := Aside0.mk (hn_); clear HB; clear HR2; clear HR1; have HB := n0_; have HR2 := n1_; have HR1 := n2_; clear n0_ n1_ n2_; clear hn_ hg_
    go_wp2_with fail
    refine (uint_some b2 _ _ _ HR2.out).mono ?_
    rintro e w7 ⟨he_, hn_, hg_⟩
    rw [HE2.out] at he_ hn_
    subst he_
    have n0_ := Aside0.mk (HR2.out.from HB.out (below_size HB.out) hg_); have n1_ := Aside0.mk (HR1.out.other HR2.out (by omega) hg_); have n2_ := Aside0.mk (hn_); clear HB; clear HR1; clear HR2; have HB := n0_; have HR1 := n1_; have HR2 := n2_; clear n0_ n1_ n2_; clear hn_ hg_
    have hle : decide ((enc (uns (p / 2))).length ≤ (enc (2 * p)).length) = true := by rw [← HU1.out]; exact decide_eq_true HLE.out
    go_wp2_with fail
    refine (pint_nil (p / 2) _ (by omega) (by omega)).mono ?_
    rintro e w8 ⟨v8, rfl, hr_, hb_⟩
    obtain ⟨A8, k8, rfl, _, hc_⟩ := Kd.R_reads hr_
    have n0_ := Aside0.mk (below_step HB.out hb_); clear HB; have HB := n0_; clear n0_; clear hr_ hb_ hc_
    go_wp2_with fail
    refine (pint_nil p _ (by omega) (by omega)).mono ?_
    rw [HU1.out]
    rintro e w9 ⟨v9, rfl, hr_, hb_⟩
    obtain ⟨A9, k9, rfl, _, hc_⟩ := Kd.R_reads hr_
    have n0_ := Aside0.mk (below_step HB.out hb_); clear HB; have HB := n0_; clear n0_; clear hr_ hb_ hc_
    go_wp2
    go_ret
    exact ⟨rfl, HB.out⟩
end Go.Proofs.Ytcempelkafpnaaa.Pk
