/- The statement PackReads: its body, walked. -/
import Derived.Outline
import Derived.Test.YtcempelkafpnaaaLawA
import Derived.Test.YtcempelkafpnaaaPkRe
namespace Go.Proofs.Ytcempelkafpnaaa.Pk
open Go Go.RowKit Go.Proofs.YtcempelkafpnaaaW.PrintWords Go.Proofs.YtcempelkafpnaaaW.PrintLast Go.Proofs.YtcempelkafpnaaaW.PrintMore
set_option linter.unusedVariables false
set_option linter.unusedSimpArgs false
theorem rd_at2 {l : List Int} {k : Nat} (h : k < l.length) : l[k]? = some (rd l k) := by
  unfold rd
  rw [List.getElem?_eq_getElem h, List.getD_eq_getElem?_getD, List.getElem?_eq_getElem (by simpa using h)]
  simp
structure GRel (w : World) (l0 : List Int) (b : Nat) (rest : List Int) (A : Option Addr) (c : Nat) (wr : World) : Prop where
  reads : (Kd.int .u8).C w A rest.length rest
  room : rest.length ≤ c
  len : rest.length ≤ l0.length
  rdr : Rdr wr w.heap.size b rest
  below : Below w.heap.size w wr
set_option maxHeartbeats 8000000 in
set_option maxRecDepth 100000 in
theorem reads_ok (A0 : Option Addr) (c0 : Nat) (l0 : List Int) (A1 : Option Addr) (c1 : Nat) (l1 : List Int) (m : Int) (w : World) (hr0 : (Kd.int .u8).C w A0 l0.length l0) (hc0 : l0.length ≤ c0) (hl0 : l0.length ≤ 1048576) (hb0 : Byt l0)
    (hr1 : (Kd.int .u8).C w A1 l1.length l1) (hc1 : l1.length ≤ c1) (hl1 : l1.length ≤ 1048576) (hb1 : Byt l1) (m0 : -9223372036854775808 ≤ m) (m1 : m ≤ 9223372036854775807) :
    Calls Try.prog 8 #[.slice A0 l0.length c0, .slice A1 l1.length c1, .int .i64 m] w fun e w' => e = .returned (.bool true) ∧ Below w.heap.size w w' := by
  have HC0 := Aside0.mk hr0
  have HC1 := Aside0.mk hr1
  have HBY0 := Aside0.mk hb0
  have HBY1 := Aside0.mk hb1
  clear hr0 hr1 hb0 hb1
  obtain ⟨N, HN⟩ : ∃ N, Aside0 (N = min l1.length 200) := ⟨_, ⟨rfl⟩⟩
  have hN2 : N ≤ 200 := by rw [HN.out]; omega
  have hNl : N ≤ l1.length := by rw [HN.out]; omega
  have HNE : Aside0 (N = l1.length ∨ N = 200) := ⟨by rw [HN.out]; omega⟩
  have HB := Aside0.mk (Below.refl w.heap.size w)
  go_enter Try.func8, Try.ntmps8
  go_wp2_with fail
  refine (shown_ok _).mono ?_
  rintro e w1 ⟨rfl, hb_⟩
  have n0_ := Aside0.mk (below_step HB.out hb_); clear HB; have HB := n0_; clear n0_; clear hb_
  go_wp2_with fail
  refine (from_any A0 c0 l0 _ (Kd.C_below HC0.out HB.out) (by omega) HBY0.out).mono ?_
  rintro e w2 ⟨b, rfl, hr_, hb_⟩
  have HR := Aside0.mk (hr_.lower (below_size HB.out))
  have n0_ := Aside0.mk (below_step HB.out hb_); clear HB; have HB := n0_; clear n0_; clear hr_ hb_
  go_wp2_with fail
  go_loopw [9, 10] (fun v9 v10 wr => ∃ (k : Nat) (rest : List Int) (A9 : Option Addr) (c9 : Nat), v9 = .slice A9 rest.length c9 ∧ k ≤ N ∧ v10 = .int .i64 (k : Int) ∧ Aside0 (GRel w l0 b rest A9 c9 wr)) (fun _ v10 _ => N - (intOf v10).toNat)
  case atStart => exact ⟨0, l0, A0, c0, rfl, by omega, rfl, ⟨⟨HC0.out, hc0, Nat.le_refl _, HR.out, HB.out⟩⟩⟩
  case round =>
    clear HB HR
    obtain ⟨k, rest, A9, c9, rfl, hk, rfl, HG⟩ := hrel
    have HB := Aside0.mk HG.out.below
    have HR := Aside0.mk HG.out.rdr
    have hroom := HG.out.room
    have HM := Aside0.mk HG.out.reads.2.1
    by_cases hlt : k < N
    · have h1 : decide ((k : Int) < (l1.length : Int)) = true := by simp; omega
      have h1b : decide (k < l1.length) = true := by simp; omega
      have h2 : decide ((k : Int) < 200) = true := by simp; omega
      obtain ⟨ad, rfl, hx⟩ := Kd.at_int (Kd.C_below HC1.out HB.out) k (by omega) (by omega)
      have hx2 : wr.cell? (ad.add k) = some (.int .u8 (rd l1 k)) := hx
      obtain ⟨q0, q1⟩ := HBY1.out _ (List.mem_of_getElem? (rd_at2 (l := l1) (k := k) (by omega)))
      clear hx
      generalize rd l1 k = q at *
      have hq : q % 4 = 0 ∨ q % 4 = 1 ∨ q % 4 = 2 ∨ q % 4 = 3 := by omega
      rcases hq with hq | hq | hq | hq
      · obtain ⟨n, hn⟩ : ∃ n, Aside0 ((rdU rest).1 = n) := ⟨_, ⟨rfl⟩⟩
        obtain ⟨e, he⟩ : ∃ n, Aside0 ((rdU rest).2.1 = n) := ⟨_, ⟨rfl⟩⟩
        obtain ⟨r, hr⟩ : ∃ n, Aside0 ((rdU rest).2.2 = n) := ⟨_, ⟨rfl⟩⟩
        have HXL := Aside0.mk (rdU_len rest)
        have HX := Aside0.mk (rdU_range HG.out.rdr.byt)
        rw [hr.out] at HXL
        rw [hn.out] at HX
        go_wp2_with fail
        refine (uint_some b _ _ _ HR.out).mono ?_
        rintro e1 w2 ⟨he_, hn_, hg_⟩
        rw [hn.out, he.out] at he_
        rw [hr.out] at hn_
        subst he_
        have n0_ := Aside0.mk (HR.out.from HB.out (below_size HB.out) hg_); have n1_ := Aside0.mk (hn_); clear HB; clear HR; have HB := n0_; have HR := n1_; clear n0_ n1_; clear hn_ hg_
        go_wp2_with fail
        refine (refuint w A9 c9 rest _ HG.out.reads hroom HG.out.rdr.byt HB.out).mono ?_
        rintro e2 w3 ⟨A2, c2, he2, hC2, hc2, hb_⟩
        rw [hn.out, he.out, hr.out] at he2
        rw [hr.out] at hC2 hc2
        subst he2
        have HC2 := Aside0.mk hC2
        clear hC2
        have n0_ := Aside0.mk (below_step HB.out hb_); have n1_ := Aside0.mk (HR.out.below hb_); clear HB; clear HR; have HB := n0_; have HR := n1_; clear n0_ n1_; clear hb_
        have hb_ := below_alloc (Below.refl w3.heap.size w3) (.cells #[.int .u64 n, .slice A2 r.length c2, .int .i64 e] 43)
        have n0_ := Aside0.mk (below_step HB.out hb_); have n1_ := Aside0.mk (HR.out.below hb_); clear HB; clear HR; have HB := n0_; have HR := n1_; clear n0_ n1_; clear hb_
        go_wp2_with fail
        refine (left_some b _ _ _ HR.out).mono ?_
        rintro e9 w9 ⟨rfl, rfl⟩
        go_wp2_with fail
        go_roundw
        case rel => exact ⟨k + 1, r, _, _, rfl, by omega, by go_num, ⟨⟨HC2.out, hc2, by have := HXL.out; have := HG.out.len; omega, HR.out, HB.out⟩⟩⟩
        case measure => simp [intOf]; omega
      · obtain ⟨n, hn⟩ : ∃ n, Aside0 ((rdU rest).1 = n) := ⟨_, ⟨rfl⟩⟩
        obtain ⟨e, he⟩ : ∃ n, Aside0 ((rdU rest).2.1 = n) := ⟨_, ⟨rfl⟩⟩
        obtain ⟨r, hr⟩ : ∃ n, Aside0 ((rdU rest).2.2 = n) := ⟨_, ⟨rfl⟩⟩
        have HXL := Aside0.mk (rdU_len rest)
        have HX := Aside0.mk (rdU_range HG.out.rdr.byt)
        rw [hr.out] at HXL
        rw [hn.out] at HX
        go_wp2_with fail
        refine (int_some b _ _ _ HR.out).mono ?_
        rintro e1 w2 ⟨he_, hn_, hg_⟩
        rw [hn.out, he.out] at he_
        rw [hr.out] at hn_
        subst he_
        have n0_ := Aside0.mk (HR.out.from HB.out (below_size HB.out) hg_); have n1_ := Aside0.mk (hn_); clear HB; clear HR; have HB := n0_; have HR := n1_; clear n0_ n1_; clear hn_ hg_
        go_wp2_with fail
        refine (refuint w A9 c9 rest _ HG.out.reads hroom HG.out.rdr.byt HB.out).mono ?_
        rintro e2 w3 ⟨A2, c2, he2, hC2, hc2, hb_⟩
        rw [hn.out, he.out, hr.out] at he2
        rw [hr.out] at hC2 hc2
        subst he2
        have HC2 := Aside0.mk hC2
        clear hC2
        have n0_ := Aside0.mk (below_step HB.out hb_); have n1_ := Aside0.mk (HR.out.below hb_); clear HB; clear HR; have HB := n0_; have HR := n1_; clear n0_ n1_; clear hb_
        go_wp2_with fail
        refine (signed_any n _ HX.out.1 HX.out.2).mono ?_
        rintro e4 w4 ⟨rfl, hb_⟩
        replace hb_ := below_step (below_alloc (Below.refl _ _) _) hb_
        have n0_ := Aside0.mk (below_step HB.out hb_); have n1_ := Aside0.mk (HR.out.below hb_); clear HB; clear HR; have HB := n0_; have HR := n1_; clear n0_ n1_; clear hb_
        go_wp2_with fail
        refine (left_some b _ _ _ HR.out).mono ?_
        rintro e9 w9 ⟨rfl, rfl⟩
        go_wp2_with fail
        go_roundw
        case rel => exact ⟨k + 1, r, _, _, rfl, by omega, by go_num, ⟨⟨HC2.out, hc2, by have := HXL.out; have := HG.out.len; omega, HR.out, HB.out⟩⟩⟩
        case measure => simp [intOf]; omega
      · obtain ⟨x, hxx⟩ : ∃ n, Aside0 ((rdB rest).1 = n) := ⟨_, ⟨rfl⟩⟩
        obtain ⟨e, he⟩ : ∃ n, Aside0 ((rdB rest).2.1 = n) := ⟨_, ⟨rfl⟩⟩
        obtain ⟨r, hr⟩ : ∃ n, Aside0 ((rdB rest).2.2 = n) := ⟨_, ⟨rfl⟩⟩
        have HXL := Aside0.mk (rdB_len rest)
        rw [hr.out] at HXL
        have hgl := HG.out.len
        go_wp2_with fail
        refine (bytes_some b _ _ _ HR.out (by omega)).mono ?_
        rintro e1 w2 ⟨v1, he_, hr_, hn_, hg_⟩
        rw [he.out] at he_
        rw [hr.out] at hn_
        rw [hxx.out] at hr_
        subst he_
        have HV := Aside0.mk (Kd.R_lower hr_ (below_size HB.out))
        have n0_ := Aside0.mk (HR.out.from HB.out (below_size HB.out) hg_); have n1_ := Aside0.mk (hn_); clear HB; clear HR; have HB := n0_; have HR := n1_; clear n0_ n1_; clear hn_ hg_ hr_
        go_wp2_with fail
        refine (refbytes w A9 c9 rest _ HG.out.reads hroom HG.out.rdr.byt HB.out).mono ?_
        rintro e2 w3 ⟨A1b, c1b, A2, c2, he2, hC1, hC2, hc2, hb_⟩
        rw [he.out, hr.out, hxx.out] at he2
        rw [hr.out] at hC2 hc2
        rw [hxx.out] at hC1
        subst he2
        have HC2 := Aside0.mk hC2
        have n0_ := Aside0.mk (below_step HB.out hb_); have n1_ := Aside0.mk (HR.out.below hb_); have n2_ := Aside0.mk (Kd.R_below HV.out hb_); clear HB; clear HR; clear HV; have HB := n0_; have HR := n1_; have HV := n2_; clear n0_ n1_ n2_; clear hb_ hC2
        have hs1 := R_str HV.out
        have hs2 := C_str (c := c1b) (Kd.C_below hC1 HB.out)
        clear hC1
        go_wp2_with fail
        refine (left_some b _ _ _ HR.out).mono ?_
        rintro e9 w9 ⟨rfl, rfl⟩
        go_wp2_with fail
        go_roundw
        case rel => exact ⟨k + 1, r, _, _, rfl, by omega, by go_num, ⟨⟨HC2.out, hc2, by have := HXL.out; have := HG.out.len; omega, HR.out, HB.out⟩⟩⟩
        case measure => simp [intOf]; omega
      · obtain ⟨x, hxx⟩ : ∃ n, Aside0 ((rdL m rest).1 = n) := ⟨_, ⟨rfl⟩⟩
        obtain ⟨e, he⟩ : ∃ n, Aside0 ((rdL m rest).2.1 = n) := ⟨_, ⟨rfl⟩⟩
        obtain ⟨r, hr⟩ : ∃ n, Aside0 ((rdL m rest).2.2 = n) := ⟨_, ⟨rfl⟩⟩
        have HXL := Aside0.mk (rdL_len m rest)
        rw [hr.out] at HXL
        have hgl := HG.out.len
        go_wp2_with fail
        refine (ints_some b m _ _ _ HR.out (by omega) m0 m1).mono ?_
        rintro e1 w2 ⟨v1, he_, hr_, hn_, hg_⟩
        rw [he.out] at he_
        rw [hr.out] at hn_
        rw [hxx.out] at hr_
        subst he_
        have HV := Aside0.mk (Kd.R_lower hr_ (below_size HB.out))
        have n0_ := Aside0.mk (HR.out.from HB.out (below_size HB.out) hg_); have n1_ := Aside0.mk (hn_); clear HB; clear HR; have HB := n0_; have HR := n1_; clear n0_ n1_; clear hn_ hg_ hr_
        go_wp2_with fail
        refine (refints w A9 c9 rest m _ HG.out.reads hroom HG.out.rdr.byt HB.out (by omega) m0 m1).mono ?_
        rintro e2 w3 ⟨v2, A2, c2, he2, hr_, hC2, hc2, hb_⟩
        rw [he.out, hr.out] at he2
        rw [hr.out] at hC2 hc2
        rw [hxx.out] at hr_
        subst he2
        have HC2 := Aside0.mk hC2
        have HV2 := Aside0.mk (Kd.R_lower hr_ (below_size HB.out))
        have n0_ := Aside0.mk (below_step HB.out hb_); have n1_ := Aside0.mk (HR.out.below hb_); have n2_ := Aside0.mk (Kd.R_below HV.out hb_); clear HB; clear HR; clear HV; have HB := n0_; have HR := n1_; have HV := n2_; clear n0_ n1_ n2_; clear hb_ hC2 hr_
        obtain ⟨A22, c22, rfl, hc22, hC22⟩ := Kd.R_reads HV.out
        obtain ⟨A24, c24, rfl, hc24, hC24⟩ := Kd.R_reads HV2.out
        have HC22 := Aside0.mk hC22
        have HC24 := Aside0.mk hC24
        clear hC22 hC24
        go_wp2_with fail
        refine (same_any A22 c22 x A24 c24 x _ HC22.out hc22 HC24.out hc24).mono ?_
        rintro e4 w4 ⟨rfl, hb_⟩
        rw [show decide (x = x) = true by simp]
        have n0_ := Aside0.mk (below_step HB.out hb_); have n1_ := Aside0.mk (HR.out.below hb_); clear HB; clear HR; have HB := n0_; have HR := n1_; clear n0_ n1_; clear hb_
        go_wp2_with fail
        refine (left_some b _ _ _ HR.out).mono ?_
        rintro e9 w9 ⟨rfl, rfl⟩
        go_wp2_with fail
        go_roundw
        case rel => exact ⟨k + 1, r, _, _, rfl, by omega, by go_num, ⟨⟨HC2.out, hc2, by have := HXL.out; have := HG.out.len; omega, HR.out, HB.out⟩⟩⟩
        case measure => simp [intOf]; omega
    · obtain rfl : k = N := by omega
      have h12 : (decide ((k : Int) < (l1.length : Int)) = false ∧ decide (k < l1.length) = false) ∨ (decide ((k : Int) < (l1.length : Int)) = true ∧ decide (k < l1.length) = true ∧ decide ((k : Int) < 200) = false) := by
        rcases HNE.out with h | h
        · exact .inl ⟨by simp; omega, by simp; omega⟩
        · by_cases h' : k < l1.length
          · exact .inr ⟨by simp; omega, by simp; omega, by simp; omega⟩
          · exact .inl ⟨by simp; omega, by simp; omega⟩
      rcases h12 with ⟨h1, h1b⟩ | ⟨h1, h1b, h2⟩
      all_goals
        go_wp2
        go_ret
        exact ⟨rfl, HB.out⟩
end Go.Proofs.Ytcempelkafpnaaa.Pk
