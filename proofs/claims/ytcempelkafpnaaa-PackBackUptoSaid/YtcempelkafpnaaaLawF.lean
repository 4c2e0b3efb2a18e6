/- The statement PackBack: its body, walked. -/
import Derived.Test.YtcempelkafpnaaaLawA
import Derived.Test.YtcempelkafpnaaaPkD
import Derived.Test.YtcempelkafpnaaaPkS
namespace Go.Proofs.Ytcempelkafpnaaa.Pk
open Go Go.RowKit Go.Proofs.YtcempelkafpnaaaW.PrintWords Go.Proofs.YtcempelkafpnaaaW.PrintLast Go.Proofs.YtcempelkafpnaaaW.PrintMore
set_option linter.unusedVariables false
set_option linter.unusedSimpArgs false
set_option maxHeartbeats 4000000 in
set_option maxRecDepth 100000 in
theorem back_ok (a0 a1 : Int) (A2 : Option Addr) (c2 : Nat) (l2 : List Int) (A3 : Option Addr) (c3 : Nat) (l3 : List Int) (w : World) (n0 : 0 ≤ a0) (n1 : a0 < 18446744073709551616) (m0 : -9223372036854775808 ≤ a1) (m1 : a1 ≤ 9223372036854775807)
    (hr2 : (Kd.int .u8).C w A2 l2.length l2) (hc2 : l2.length ≤ c2) (hl2 : l2.length ≤ 1048576) (hb2 : Byt l2) (hr3 : (Kd.int .i32).C w A3 l3.length l3) (hc3 : l3.length ≤ c3) (hl3 : l3.length ≤ 1048576)
    (hi : ∀ n ∈ l3, -2147483648 ≤ n ∧ n ≤ 2147483647) :
    Calls Try.prog 10 #[.int .u64 a0, .int .i64 a1, .slice A2 l2.length c2, .slice A3 l3.length c3] w fun e w' => e = .returned (.bool true) ∧ Below w.heap.size w w' := by
  have HC2 := Aside0.mk hr2
  have HC3 := Aside0.mk hr3
  have HI := Aside0.mk hi
  have HI64 : Aside0 (∀ n ∈ l3, -9223372036854775808 ≤ n ∧ n ≤ 9223372036854775807) := ⟨fun n hn => by have := hi n hn; omega⟩
  have HB2 := Aside0.mk hb2
  clear hr2 hr3 hi hb2
  have HB := Aside0.mk (Below.refl w.heap.size w)
  go_enter Try.func10, Try.ntmps10
  go_wp2_with fail
  refine (shown_ok _).mono ?_
  rintro e w1 ⟨rfl, hb_⟩
  have n0_ := Aside0.mk (below_step HB.out hb_); clear HB; have HB := n0_; clear n0_; clear hb_
  go_wp2_with fail
  go_loopw [10, 11] (fun v10 v11 wr => ∃ k : Nat, k ≤ l3.length ∧ v11 = .int .i64 (k : Int) ∧ Aside0 ((Kd.int .i64).R 3 wr w.heap.size (fun _ => True) v10 (l3.take k)) ∧ Aside0 (Below w.heap.size w wr)) (fun _ v11 _ => l3.length - (intOf v11).toNat)
  case atStart => exact ⟨0, by omega, rfl, ⟨by rw [List.take_zero]; exact Kd.R_nil _ _ _ _ _⟩, HB⟩
  case round =>
    clear HB
    obtain ⟨k, hk, rfl, HO, HB⟩ := hrel
    by_cases hlt : k < l3.length
    · have h1 : decide ((k : Int) < (l3.length : Int)) = true := by simp; omega
      have h1b : decide (k < l3.length) = true := by simp; omega
      obtain ⟨ad, rfl, hx⟩ := Kd.at_int (Kd.C_below HC3.out HB.out) k (by omega) (by omega)
      have hx2 : wr.cell? (ad.add k) = some (.int .i32 (rd l3 k)) := hx
      have HT : Aside0 (l3.take (k + 1) = l3.take k ++ [rd l3 k]) := ⟨by rw [List.take_succ_eq_append_getElem hlt]; unfold rd; rw [Int.toNat_natCast, List.getD_eq_getElem?_getD, List.getElem?_eq_getElem hlt]; rfl⟩
      obtain ⟨x0, x1⟩ := HI.out _ (rd_mem hlt)
      clear hx
      generalize rd l3 k = x at *
      go_wp2_with (((with_reducible refine gate_builtin (b := .append) (xs := #[.tmp 28, .tmp 34]) rfl ?_); at_builtin; refine Kd.R_append (Kd.int .i64) (w0 := wr) w.heap.size rfl (.tmp 28) (.tmp 34) 38 3 (.int .i64 0) 8 rfl Try.underlying38 infoInt rfl (by decide) (by omega) u10 (l3.take k) x [.int .i64 x] (fun _ => True) (fun _ => False) rfl rfl ?aP (fun _ hk => hk.elim) (fun _ _ => trivial) ?aO ?aB ?aS ?aL ?_; (try (case aP => exact rfl)); (case aB => exact (Below.refl _ _)); (case aO => exact (by (with_reducible repeat (first | apply Kd.R_alloc | apply Kd.R_drewN | apply Kd.R_drew)); exact HO.out)); (case aS => exact (below_size HB.out)); (case aL => rw [List.length_take]; omega); intro v35 w35 ho_ hb hg hat; have n0_ := Aside0.mk (ho_); clear HO; have HO := n0_; clear n0_; have HB3 := Aside0.mk (HB.out.trans hb); clear ho_ hb hg hat))
      go_roundw
      case rel => exact ⟨k + 1, by omega, by go_num, ⟨by rw [HT.out]; exact HO.out⟩, HB3⟩
      case measure => simp [intOf]; omega
    · obtain rfl : k = l3.length := by omega
      rw [List.take_length] at HO
      obtain ⟨A10, c10, rfl, hc10, _⟩ := Kd.R_reads HO.out
      have HE := Aside0.mk (show (enc a0).length ≤ 10 ∧ (enc (uns a1)).length ≤ 10 ∧ (enc (l2.length : Int)).length ≤ 10 ∧ (enc (l3.length : Int)).length ≤ 10 ∧ (uenc l3).length ≤ 10 * l3.length from ⟨enc_len n1, enc_len (uns_range m0 m1).2, enc_len (n := (l2.length : Int)) (by omega), enc_len (n := (l3.length : Int)) (by omega), uenc_len HI64.out⟩)
      go_wp2_with fail
      refine (puint_nil a0 _ n0 n1).mono ?_
      rintro e w2 ⟨v2, rfl, hr_, hb_⟩
      obtain ⟨y2, HY2⟩ : ∃ y, Aside0 (enc a0 = y) := ⟨_, ⟨rfl⟩⟩
      rw [HY2.out] at hr_
      obtain ⟨A5, c5, rfl, hc5, hC_⟩ := Kd.R_reads hr_
      have HC5 := Aside0.mk hC_
      have n0_ := Aside0.mk (below_step HB.out hb_); have n1_ := Aside0.mk (Kd.R_below HO.out hb_); clear HB; clear HO; have HB := n0_; have HO := n1_; clear n0_ n1_; clear hr_ hb_ hC_
      go_wp2_with fail
      refine (pint A5 c5 y2 a1 _ HC5.out hc5 m0 m1 (by have := HE.out; rw [← HY2.out]; omega)).mono ?_
      rintro e w3 ⟨v3, rfl, hr_, hb_⟩
      obtain ⟨y3, HY3⟩ : ∃ y, Aside0 (y2 ++ enc (uns a1) = y) := ⟨_, ⟨rfl⟩⟩
      rw [HY3.out] at hr_
      obtain ⟨A6, c6, rfl, hc6, hC_⟩ := Kd.R_reads hr_
      have HC6 := Aside0.mk hC_
      have n0_ := Aside0.mk (below_step HB.out hb_); have n1_ := Aside0.mk (Kd.R_below HO.out hb_); clear HB; clear HO; have HB := n0_; have HO := n1_; clear n0_ n1_; clear hr_ hb_ hC_
      go_wp2_with fail
      refine (pbytes A6 c6 y3 A2 c2 l2 _ HC6.out hc6 (Kd.C_below HC2.out HB.out) hc2 (by have := HE.out; rw [← HY3.out, ← HY2.out]; simp only [List.length_append]; omega)).mono ?_
      rintro e w4 ⟨v4, rfl, hr_, hb_⟩
      obtain ⟨y4, HY4⟩ : ∃ y, Aside0 (y3 ++ (enc l2.length ++ l2) = y) := ⟨_, ⟨rfl⟩⟩
      rw [HY4.out] at hr_
      obtain ⟨A7, c7, rfl, hc7, hC_⟩ := Kd.R_reads hr_
      have HC7 := Aside0.mk hC_
      have n0_ := Aside0.mk (below_step HB.out hb_); have n1_ := Aside0.mk (Kd.R_below HO.out hb_); clear HB; clear HO; have HB := n0_; have HO := n1_; clear n0_ n1_; clear hr_ hb_ hC_
      go_wp2_with fail
      refine (pints A7 c7 y4 A10 c10 l3 _ HC7.out hc7 (Kd.Q_reads' (Kd.Q_of_R HO.out)).2.2 hc10 HI64.out (by omega) (by have := HE.out; rw [← HY4.out, ← HY3.out, ← HY2.out]; simp only [List.length_append]; omega)).mono ?_
      rintro e w5 ⟨v5, rfl, hr_, hb_⟩
      obtain ⟨y5, HY5⟩ : ∃ y, Aside0 (y4 ++ (enc l3.length ++ uenc l3) = y) := ⟨_, ⟨rfl⟩⟩
      rw [HY5.out] at hr_
      obtain ⟨A8, c8, rfl, hc8, hC_⟩ := Kd.R_reads hr_
      have HC8 := Aside0.mk hC_
      have n0_ := Aside0.mk (below_step HB.out hb_); have n1_ := Aside0.mk (Kd.R_below HO.out hb_); clear HB; clear HO; have HB := n0_; have HO := n1_; clear n0_ n1_; clear hr_ hb_ hC_
      go_wp2_with fail
      refine (from_any A8 c8 y5 _ HC8.out (by have := HE.out; rw [← HY5.out, ← HY4.out, ← HY3.out, ← HY2.out]; simp only [List.length_append]; omega) (by
        rw [← HY5.out, ← HY4.out, ← HY3.out, ← HY2.out]
        repeat' first | exact HB2.out | exact enc_byt _ | exact uenc_byt _ | refine Byt.append ?_ ?_)).mono ?_
      rintro e w6 ⟨b, rfl, hr_, hb_⟩
      have HR := Aside0.mk (hr_.lower (below_size HB.out))
      have n0_ := Aside0.mk (below_step HB.out hb_); have n1_ := Aside0.mk (Kd.R_below HO.out hb_); clear HB; clear HO; have HB := n0_; have HO := n1_; clear n0_ n1_; clear hr_ hb_
      obtain ⟨t3, HT3⟩ : ∃ y, Aside0 (enc l3.length ++ uenc l3 = y) := ⟨_, ⟨rfl⟩⟩
      obtain ⟨t2, HT2⟩ : ∃ y, Aside0 (enc l2.length ++ (l2 ++ t3) = y) := ⟨_, ⟨rfl⟩⟩
      obtain ⟨t1, HT1⟩ : ∃ y, Aside0 (enc (uns a1) ++ t2 = y) := ⟨_, ⟨rfl⟩⟩
      have HF0 : Aside0 (rdU y5 = (a0, 0, t1)) := ⟨by
        rw [show y5 = enc a0 ++ t1 by rw [← HY5.out, ← HY4.out, ← HY3.out, ← HY2.out, ← HT1.out, ← HT2.out, ← HT3.out]; simp only [List.append_assoc]]
        exact rdU_enc n0 n1 t1⟩
      have HF1 : Aside0 (rdU t1 = (uns a1, 0, t2)) := ⟨by rw [← HT1.out]; exact rdU_uenc m0 m1 t2⟩
      have HF2 : Aside0 (rdB t2 = (l2, 0, t3)) := ⟨by rw [← HT2.out]; exact rdB_enc l2 t3 (by omega)⟩
      have HF3 : Aside0 (rdL (l3.length : Int) t3 = (l3, 0, [])) := ⟨by
        have h := rdL_enc HI.out (by omega) (Int.le_refl _) []
        rw [List.append_nil] at h
        rw [← HT3.out]
        exact h⟩
      have HL3 : Aside0 (t3.length < 8796093022208 ∧ t2.length < 8796093022208) := ⟨by
        have := HE.out
        rw [← HT2.out, ← HT3.out]
        simp only [List.length_append]
        omega⟩
      go_wp2_with fail
      refine (uint_some b _ _ _ HR.out).mono ?_
      rintro e w7 ⟨he_, hn_, hg_⟩
      rw [HF0.out] at he_ hn_
      subst he_
      have n0_ := Aside0.mk (HR.out.from HB.out (below_size HB.out) hg_); have n1_ := Aside0.mk (R_read (by simp [Kd.int, Kd.scalar]) HO.out HR.out hg_); have n2_ := Aside0.mk (hn_); clear HB; clear HO; clear HR; have HB := n0_; have HO := n1_; have HR := n2_; clear n0_ n1_ n2_; clear hn_ hg_
      go_wp2_with fail
      refine (int_some b _ _ _ HR.out).mono ?_
      rintro e w8 ⟨he_, hn_, hg_⟩
      rw [HF1.out] at he_ hn_
      rw [sgn_uns] at he_
      subst he_
      have n0_ := Aside0.mk (HR.out.from HB.out (below_size HB.out) hg_); have n1_ := Aside0.mk (R_read (by simp [Kd.int, Kd.scalar]) HO.out HR.out hg_); have n2_ := Aside0.mk (hn_); clear HB; clear HO; clear HR; have HB := n0_; have HO := n1_; have HR := n2_; clear n0_ n1_ n2_; clear hn_ hg_
      go_wp2_with fail
      refine (bytes_some b _ _ _ HR.out (by have := HL3.out; omega)).mono ?_
      rintro e w9 ⟨v9, he_, hr_, hn_, hg_⟩
      rw [HF2.out] at he_ hr_ hn_
      subst he_
      obtain ⟨A17, c17, rfl, hc17, _⟩ := Kd.R_reads hr_
      have HX := Aside0.mk (Kd.R_lower hr_ (below_size HB.out))
      have n0_ := Aside0.mk (HR.out.from HB.out (below_size HB.out) hg_); have n1_ := Aside0.mk (R_read (by simp [Kd.int, Kd.scalar]) HO.out HR.out hg_); have n2_ := Aside0.mk (hn_); clear HB; clear HO; clear HR; have HB := n0_; have HO := n1_; have HR := n2_; clear n0_ n1_ n2_; clear hn_ hg_ hr_
      go_wp2_with fail
      refine (ints_some b (l3.length : Int) _ _ _ HR.out (by have := HL3.out; omega) (by omega) (by omega)).mono ?_
      rintro e w10 ⟨v10, he_, hr_, hn_, hg_⟩
      rw [HF3.out] at he_ hr_ hn_
      subst he_
      obtain ⟨A19, c19, rfl, hc19, hC_⟩ := Kd.R_reads hr_
      have HC19 := Aside0.mk hC_
      have n0_ := Aside0.mk (HR.out.from HB.out (below_size HB.out) hg_); have n1_ := Aside0.mk (R_read (by simp [Kd.int, Kd.scalar]) HO.out HR.out hg_); have n2_ := Aside0.mk (R_read (by simp [Kd.int, Kd.scalar]) HX.out HR.out hg_); have n3_ := Aside0.mk (hn_); clear HB; clear HO; clear HX; clear HR; have HB := n0_; have HO := n1_; have HX := n2_; have HR := n3_; clear n0_ n1_ n2_ n3_; clear hn_ hg_ hr_ hC_
      have hs1 := R_str HX.out
      have hs2 := C_str (c := c2) (Kd.C_below HC2.out HB.out)
      go_wp2_with fail
      refine (same_any A19 c19 l3 A10 c10 l3 _ HC19.out hc19 (Kd.Q_reads' (Kd.Q_of_R HO.out)).2.2 hc10).mono ?_
      rintro e w11 ⟨rfl, hb_⟩
      have n0_ := Aside0.mk (below_step HB.out hb_); have n1_ := Aside0.mk (HR.out.below hb_); clear HB; clear HR; have HB := n0_; have HR := n1_; clear n0_ n1_; clear hb_
      go_wp2_with fail
      refine (left_some b _ _ _ HR.out).mono ?_
      rintro e w12 ⟨rfl, rfl⟩
      go_wp2
      go_ret
      exact ⟨rfl, HB.out⟩
end Go.Proofs.Ytcempelkafpnaaa.Pk
