/- (c16) The statement CutApart. -/
import Derived.Test.YtlandgbhbfdekaaCtApP
import Derived.Test.YtlandgbhbfdekaaOpT
import Derived.Deep.QuietTactic
import Derived.BigQuiet
import Derived.Deep.RegionWith
namespace Go.Proofs.Ytlandgbhbfdekaa.Ex
open Go Go.RowKit Go.Proofs.YtlandgbhbfdekaaW.PrintWords Go.Proofs.YtlandgbhbfdekaaW.PrintLast Go.Proofs.YtlandgbhbfdekaaW.PrintMore
set_option linter.unusedVariables false
set_option linter.unusedSimpArgs false
theorem stronger_ {P : Program} {ops : Array Oper} {Q : Exit → Act → World → Prop} {md : Region.Mode} {S : World → Prop} (S' : World → Prop) (hS : ∀ w, S' w → S w) : ∀ {fuel : Nat} {l : Array Bool} {a : Act} {w : World},
    S' w → wpAnyLast P md ops Q S' [] fuel l a w → wpAnyLast P md ops Q S [] fuel l a w
  | 0, _, _, _, _, h => h
  | fuel + 1, l, a, w, h0, h => ⟨h.1, fun i hi => wpOp_mono (fun a' w' h' => ⟨fun hn _ => hS w' (h'.1 hn h0), stronger_ S' hS (h'.1 (by simp) h0) h'.2⟩) (h.2 i hi)⟩
theorem any_step (r f : Bool) (g : Int → Bool) {us : List Int} {j : Nat} (hj : j < us.length) {u : Int} (hu : rd us (j : Int) = u) : (r || (f && (us.take (j + 1)).any g)) = ((r || (f && (us.take j).any g)) || (f && g u)) := by
  have e : us[j] = u := by rw [← hu]; unfold rd; rw [Int.toNat_natCast, List.getD_eq_getElem?_getD, List.getElem?_eq_getElem hj]; rfl
  rw [List.take_succ_eq_append_getElem hj, e, List.any_append]
  cases r <;> cases f <;> simp
theorem open_T {w : World} {t : List Vx × Int} {cs : List Value} (h : (Kd.pair (Kd.slice 37 k37) (Kd.int .i64)).K w t cs) : ∃ A c, cs = [.slice A t.1.length c, .int .i64 t.2] ∧ t.1.length ≤ c ∧ Kd.C k37 w A t.1.length t.1 := by
  obtain ⟨_, _, rfl, ⟨A, c, rfl, l1, g1⟩, rfl⟩ := h
  exact ⟨A, c, rfl, l1, g1⟩
set_option maxHeartbeats 8000000 in
set_option maxRecDepth 1000000 in
theorem apart_ok (A0 : Option Addr) (c0 : Nat) (l : List Vx) (p : Int) (w : World) (hC : Kd.C k37 w A0 l.length l) (hc : l.length ≤ c0) (hv : ∀ v ∈ l, vxOk v) (hl : l.length ≤ 1759218604441) :
    Calls Try.prog 8 #[.agg #[.slice A0 l.length c0, .int .i64 p]] w fun e w' => e = .returned (.bool true) ∧ Below w.heap.size w w' := by
  have HI : Aside0 (∀ v ∈ l, I64 v.f3) := ⟨fun v h => (hv v h).2.2.2⟩
  have hmx : maxLen ≤ 9223372036854775807 := by decide
  have HM : Aside0 (∀ v ∈ l, v.f1.length ≤ 9223372036854775807) := ⟨fun v h => Nat.le_trans (hv v h).2.1.1 hmx⟩
  have HC := Aside0.mk hC
  have HCC := Aside0.mk hc
  have HLL := Aside0.mk hl
  obtain ⟨bs, hbs⟩ := ctSmall l p (fun v h => (hv v h).2.2.1) hl
  obtain ⟨ks, hks⟩ := Ev.rounds hbs
  have HKS := Aside0.mk hks
  have HB := Aside0.mk (Below.refl w.heap.size w)
  clear hC hc hv hl hbs hks hmx
  obtain ⟨ce, HCE⟩ : ∃ y, Aside0 ((checkOf l p).2 = y) := ⟨_, ⟨rfl⟩⟩
  have HPF := Aside0.mk (ctParts HI.out p)
  rw [HCE.out] at HPF
  go_enter Try.func8, Try.ntmps8
  go_upto_region 1 with fail
  have BT := Aside0.mk (heap_alloc_new w (.cells #[.slice A0 l.length c0, .int .i64 p] 24 (0, 0)))
  have hb_ := below_alloc (Below.refl w.heap.size w) (.cells #[.slice A0 l.length c0, .int .i64 p] 24 (0, 0))
  have hs_ : (w.alloc (.cells #[.slice A0 l.length c0, .int .i64 p] 24 (0, 0))).heap.size = w.heap.size + 1 := by simp
  generalize w.alloc (.cells #[.slice A0 l.length c0, .int .i64 p] 24 (0, 0)) = w1 at BT hb_ hs_ ⊢
  replace HB := Aside0.mk (below_step HB.out hb_)
  clear hb_
  clear hs_
  obtain ⟨gt, HG1⟩ : ∃ g, Aside0 (w.heap.size = g) := ⟨_, ⟨rfl⟩⟩
  rw [HG1.out] at BT ⊢
  clear HG1
  go_wp2_with fail
  refine (tidemilllaw16_shown.calls 40 true _ ctShown40).mono ?_
  rintro e_ w4 ⟨rfl, hb_⟩
  replace BT := Aside0.mk (blk_below BT.out hb_)
  replace HB := Aside0.mk (below_step HB.out hb_)
  clear hb_
  have t0_ := (blk_cell BT.out 0).trans (rfl : _ = some (.slice A0 l.length c0 : Value))
  have t1_ := (blk_cell BT.out 1).trans (rfl : _ = some (.int .i64 p : Value))
  go_wp2_with fail
  refine (tidemilllaw16_small.calls ks A0 c0 l p bs _ (Kd.C_below HC.out HB.out) HCC.out HKS.out).mono ?_
  rintro e_ w5 ⟨rfl, hb_⟩
  clear t0_ t1_
  replace BT := Aside0.mk (blk_below BT.out hb_)
  replace HB := Aside0.mk (below_step HB.out hb_)
  clear hb_
  cases bs with
  | false =>
    go_wp2_with fail
    go_ret
    exact ⟨rfl, HB.out⟩
  | true =>
    skip
    have t0_ := (blk_cell BT.out 0).trans (rfl : _ = some (.slice A0 l.length c0 : Value))
    have t1_ := (blk_cell BT.out 1).trans (rfl : _ = some (.int .i64 p : Value))
    go_wp2_with fail
    refine (cut_Parts.calls A0 c0 l p _ _ _ (Kd.C_below HC.out HB.out) HCC.out HPF.out).mono ?_
    rintro e_ w6 ⟨v4, rfl, hR_, hb_⟩
    clear t0_ t1_
    obtain ⟨A4, c4, rfl⟩ := Kd.R_slice hR_
    have HP := Aside0.mk (Kd.R_reads' hR_).2.2
    clear hR_
    replace BT := Aside0.mk (blk_below BT.out hb_)
    replace HB := Aside0.mk (below_step HB.out hb_)
    clear hb_
    have t0_ := (blk_cell BT.out 0).trans (rfl : _ = some (.slice A0 l.length c0 : Value))
    have t1_ := (blk_cell BT.out 1).trans (rfl : _ = some (.int .i64 p : Value))
    by_cases he : ce = 0
    · subst he
      have HCK := HCE
      rw [if_pos rfl] at HP ⊢
      have HPL := Aside0.mk (parts_len HCK.out)
      rw [HPL.out] at HP ⊢
      have hp4 := ctPos HCK.out
      have h24 := hp4.2.2.2
      obtain ⟨ad, hA⟩ : ∃ ad, A0 = some ad := by
        obtain ⟨ad, _, _, _, _, e, _⟩ := at_T37 HC.out 0 (by omega) (by omega)
        exact ⟨ad, e⟩
      subst hA
      go_wp2_with fail
      obtain ⟨ap, hAP, _⟩ := Kd.at_int HP.out 0 (by omega) (by omega)
      subst hAP
      clear t0_ t1_
      go_loopw [6, 7] (fun v6 v7 wr => ∃ i : Nat, i ≤ l.length ∧ v6 = .int .i64 (manyTo l i : Int) ∧ v7 = .int .i64 (i : Int) ∧ Aside0 (wr.heap[gt]? = some (.cells #[.slice (some ad) l.length c0, .int .i64 p] 24 (0, 0))) ∧ Aside0 (Below w.heap.size w wr) ∧ Aside0 ((Kd.int .i64).C wr (some ap) l.length (partsOf l))) (fun _ v7 _ => l.length - (intOf v7).toNat)
      case atStart => exact ⟨0, by omega, by rw [many_zero]; rfl, rfl, BT, HB, HP⟩
      case round =>
        clear BT HB HP
        obtain ⟨i, hi, rfl, rfl, BT, HB, HP⟩ := hrel
        by_cases hlt : i < l.length
        · have h3 : decide ((i : Int) < (l.length : Int)) = true := by simp; omega
          have h3b : decide (i < l.length) = true := by simp; omega
          obtain ⟨M, HMM⟩ : ∃ M, Aside0 (manyTo l i = M) := ⟨_, ⟨rfl⟩⟩
          have HSTEP := Aside0.mk (part_step HCK.out hlt)
          have hM24 := many_le HCK.out i hi
          rw [HMM.out] at HSTEP hM24 ⊢
          obtain ⟨ad2, A1, c1, A4', c4', hA2, _, x1, _, _, _, _, _, r1, _, _⟩ := at_T37 HC.out (i : Int) (by omega) (by omega)
          injection hA2 with hA2
          subst hA2
          obtain ⟨v, HVV⟩ : ∃ v, Aside0 (rd_T37 l (i : Int) = v) := ⟨_, ⟨rfl⟩⟩
          rw [HVV.out] at x1 r1
          simp only [Int.toNat_natCast] at x1
          have R1 := Aside0.mk r1
          have X1 := Aside0.mk x1
          clear r1 x1
          go_wp2_with fail
          clear h3 h3b
          go_loopw [8] (fun v8 wr => ∃ k : Nat, k ≤ v.f1.length ∧ v8 = .int .i64 (k : Int) ∧ Aside0 (wr.heap[gt]? = some (.cells #[.slice (some ad) l.length c0, .int .i64 p] 24 (0, 0))) ∧ Aside0 (Below w.heap.size w wr) ∧ Aside0 ((Kd.int .i64).C wr (some ap) l.length (partsOf l))) (fun v8 _ => v.f1.length - (intOf v8).toNat)
          case atStart => exact ⟨0, by omega, rfl, BT, HB, HP⟩
          case round =>
            clear BT HB HP
            obtain ⟨k, hk, rfl, BT, HB, HP⟩ := hrel
            have t0_ := (blk_cell BT.out 0).trans (rfl : _ = some (.slice (some ad) l.length c0 : Value))
            have t1_ := (blk_cell BT.out 1).trans (rfl : _ = some (.int .i64 p : Value))
            have x1 := pw_cell_below HB.out X1.out
            have hiL : (i : Int) < (l.length : Int) := by omega
            by_cases hkl : k < v.f1.length
            · have h4 : decide ((k : Int) < (v.f1.length : Int)) = true := by simp; omega
              have h4b : decide (k < v.f1.length) = true := by simp; omega
              have hm1 : v.f1.length ≤ 9223372036854775807 := R1.out.2.1
              obtain ⟨a1, hA1, y0⟩ := Kd.at_int (Kd.C_below R1.out HB.out) (k : Int) (by omega) (by omega)
              obtain ⟨x, HX⟩ : ∃ x, Aside0 (rd v.f1 (k : Int) = x) := ⟨_, ⟨rfl⟩⟩
              rw [HX.out] at y0
              simp only [Int.toNat_natCast] at y0
              subst hA1
              have HXM : Aside0 (x ∈ (vAt l (i : Int)).f1) := ⟨by
                rw [show vAt l (i : Int) = v from HVV.out, ← HX.out]
                unfold rd
                rw [Int.toNat_natCast, List.getD_eq_getElem?_getD, List.getElem?_eq_getElem hkl]
                exact List.getElem_mem _⟩
              have HXR := Aside0.mk (at_from HCK.out hlt HXM.out)
              have HED := Aside0.mk (part_edge HCK.out hlt HXM.out)
              go_upto_region 17 with fail
              clear h4 h4b y0 x1
              have x0_ := HXR.out.1
              have x1_ := HXR.out.2
              have x1b_ : decide (x < (l.length : Int)) = true := by simpa using x1_
              have x0b_ : decide (0 ≤ x) = true := by simpa using x0_
              obtain ⟨ap2, hAP2, yi⟩ := Kd.at_int HP.out (i : Int) (by omega) (by omega)
              injection hAP2 with hAP2
              subst hAP2
              obtain ⟨ap3, hAP3, yx⟩ := Kd.at_int HP.out x x0_ x1_
              injection hAP3 with hAP3
              subst hAP3
              simp only [Int.toNat_natCast] at yi
              obtain ⟨a, HA⟩ : ∃ a, Aside0 (rd (partsOf l) x = a) := ⟨_, ⟨rfl⟩⟩
              obtain ⟨b, HBV⟩ : ∃ b, Aside0 (rd (partsOf l) (i : Int) = b) := ⟨_, ⟨rfl⟩⟩
              rw [HA.out] at yx
              rw [HBV.out] at yi
              obtain ⟨ad3, _, _, _, _, hA3, z0, _⟩ := at_T37 HC.out x x0_ x1_
              injection hA3 with hA3
              subst hA3
              replace z0 := pw_cell_below HB.out z0
              obtain ⟨kf, HKF⟩ : ∃ kf, Aside0 ((vAt l x).f0 = kf) := ⟨_, ⟨rfl⟩⟩
              rw [show (rd_T37 l x).f0 = kf from HKF.out] at z0
              have HED2 : Aside0 (kf = 5 ∨ a = b) := ⟨by
                have h1 := HED.out
                rw [HKF.out] at h1
                rcases h1 with h1 | h1
                · exact .inl h1
                · right
                  rw [← HA.out, ← HBV.out]
                  unfold rd
                  rw [Int.toNat_natCast]
                  exact h1⟩
              by_cases hab : a = b
              · have habb : (a != b) = false := by simpa using hab
                clear hab
                go_quiet (fail)
                have hb_ : Below wr.heap.size wr (wr.drewN nq) := pw_below_drewN (Below.refl wr.heap.size wr) nq
                replace BT := Aside0.mk (blk_below BT.out hb_)
                replace HB := Aside0.mk (below_step HB.out hb_)
                replace HP := Aside0.mk (Kd.C_below HP.out hb_)
                generalize wr.drewN nq = wq at BT HB HP ⊢
                clear hb_
                go_wp2_with fail
                go_roundw
                case rel => exact ⟨k + 1, by omega, by go_num, BT, HB, HP⟩
                case measure => simp [intOf]; omega
              · have habb : (a != b) = true := by simpa using hab
                have h5 : kf = 5 := HED2.out.resolve_right hab
                have h5b : (kf != 5) = false := by simpa using h5
                clear hab h5
                go_quiet (fail)
                have hb_ : Below wr.heap.size wr (wr.drewN nq) := pw_below_drewN (Below.refl wr.heap.size wr) nq
                replace BT := Aside0.mk (blk_below BT.out hb_)
                replace HB := Aside0.mk (below_step HB.out hb_)
                replace HP := Aside0.mk (Kd.C_below HP.out hb_)
                generalize wr.drewN nq = wq at BT HB HP ⊢
                clear hb_
                go_wp2_with fail
                go_roundw
                case rel => exact ⟨k + 1, by omega, by go_num, BT, HB, HP⟩
                case measure => simp [intOf]; omega
            · obtain rfl : v.f1.length = k := by omega
              have h4 : decide ((v.f1.length : Int) < (v.f1.length : Int)) = false := by simp
              obtain ⟨ap2, hAP2, yi⟩ := Kd.at_int HP.out (i : Int) (by omega) (by omega)
              injection hAP2 with hAP2
              subst hAP2
              simp only [Int.toNat_natCast] at yi
              obtain ⟨b, HBV⟩ : ∃ b, Aside0 ((partsOf l).getD i 0 = b) := ⟨_, ⟨rfl⟩⟩
              rw [show rd (partsOf l) (i : Int) = b by unfold rd; rw [Int.toNat_natCast]; exact HBV.out] at yi
              rw [HBV.out] at HSTEP
              have hb1 : decide (b > (M : Int)) = false := by have := HSTEP.out; simp; omega
              have hb2 : decide (b < 0) = false := by have := HSTEP.out; simp; omega
              by_cases hbM : b = (M : Int)
              · have hbb : (b == (M : Int)) = true := by simpa using hbM
                have HN : Aside0 (manyTo l (i + 1) = M + 1) := ⟨by have := HSTEP.out.2.2; rwa [if_pos hbM] at this⟩
                clear hbM
                go_wp2_with fail
                go_roundw
                case rel => exact ⟨i + 1, by omega, by rw [HN.out]; go_num, by go_num, BT, HB, HP⟩
                case measure => simp [intOf]; omega
              · have hbb : (b == (M : Int)) = false := by simpa using hbM
                have HN : Aside0 (manyTo l (i + 1) = M) := ⟨by have := HSTEP.out.2.2; rwa [if_neg hbM] at this⟩
                clear hbM
                go_wp2_with fail
                go_roundw
                case rel => exact ⟨i + 1, by omega, by rw [HN.out], by go_num, BT, HB, HP⟩
                case measure => simp [intOf]; omega
        · obtain rfl : l.length = i := by omega
          have h3 : decide ((l.length : Int) < (l.length : Int)) = false := by simp
          obtain ⟨M, HMM⟩ : ∃ M, Aside0 (manyTo l l.length = M) := ⟨_, ⟨rfl⟩⟩
          have hM24 := many_le HCK.out l.length (Nat.le_refl _)
          rw [HMM.out] at hM24 ⊢
          go_wp2_with fail
          clear h3
          go_loopw [10] (fun v10 wr => ∃ m : Nat, m ≤ M ∧ v10 = .int .i64 (m : Int) ∧ Aside0 (wr.heap[gt]? = some (.cells #[.slice (some ad) l.length c0, .int .i64 p] 24 (0, 0))) ∧ Aside0 (Below w.heap.size w wr) ∧ Aside0 ((Kd.int .i64).C wr (some ap) l.length (partsOf l))) (fun v10 _ => M - (intOf v10).toNat)
          case atStart => exact ⟨0, by omega, rfl, BT, HB, HP⟩
          case round =>
            clear BT HB HP
            obtain ⟨m, hm, rfl, BT, HB, HP⟩ := hrel
            have t0_ := (blk_cell BT.out 0).trans (rfl : _ = some (.slice (some ad) l.length c0 : Value))
            have t1_ := (blk_cell BT.out 1).trans (rfl : _ = some (.int .i64 p : Value))
            by_cases hml : m < M
            · have h6 : decide ((m : Int) < (M : Int)) = true := by simp; omega
              have h6b : decide (m < M) = true := by simp; omega
              have HIF := Aside0.mk (inputs_f (l := l) HCK.out HI.out (m : Int))
              have HIN : Aside0 (∀ x ∈ inputsOf l (partsOf l) (m : Int), 0 ≤ x ∧ x < (l.length : Int) ∧ readsB l (partsOf l) (m : Int) x = true) := ⟨fun x hx => inputs_read HCK.out hx⟩
              have hpos := inputs_some HCK.out (m := m) (by rw [HMM.out]; exact hml)
              obtain ⟨il, HIL⟩ : ∃ y, Aside0 (inputsOf l (partsOf l) (m : Int) = y) := ⟨_, ⟨rfl⟩⟩
              rw [HIL.out] at HIF HIN hpos
              go_wp2_with fail
              refine (cut_Inputs.calls (some ad) c0 l p (m : Int) il _ (Kd.C_below HC.out HB.out) HCC.out HIF.out).mono ?_
              rintro e_ w7 ⟨v11, rfl, hR_, hb_⟩
              clear t0_ t1_ h6 h6b
              obtain ⟨A11, c11, rfl⟩ := Kd.R_slice hR_
              have HL := Aside0.mk (Kd.R_reads' hR_).2.2
              clear hR_
              replace BT := Aside0.mk (blk_below BT.out hb_)
              replace HB := Aside0.mk (below_step HB.out hb_)
              replace HP := Aside0.mk (Kd.C_below HP.out hb_)
              clear hb_
              have hml1 : il.length ≤ 9223372036854775807 := HL.out.2.1
              obtain ⟨al, hAL, _⟩ := Kd.at_int HL.out 0 (by omega) (by omega)
              subst hAL
              have hl0 : ((il.length : Int) == 0) = false := beq_eq_false_iff_ne.2 (by omega)
              have hl0b : (il.length == 0) = false := beq_eq_false_iff_ne.2 (by omega)
              go_wp2_with fail
              clear hl0 hl0b
              go_loopw [12] (fun v12 wr => ∃ k : Nat, k ≤ il.length ∧ v12 = .int .i64 (k : Int) ∧ Aside0 (wr.heap[gt]? = some (.cells #[.slice (some ad) l.length c0, .int .i64 p] 24 (0, 0))) ∧ Aside0 (Below w.heap.size w wr) ∧ Aside0 ((Kd.int .i64).C wr (some ap) l.length (partsOf l)) ∧ Aside0 ((Kd.int .i64).C wr (some al) il.length il)) (fun v12 _ => il.length - (intOf v12).toNat)
              case atStart => exact ⟨0, by omega, rfl, BT, HB, HP, HL⟩
              case round =>
                clear BT HB HP HL
                obtain ⟨k, hk, rfl, BT, HB, HP, HL⟩ := hrel
                by_cases hkl : k < il.length
                · have h4 : decide ((k : Int) < (il.length : Int)) = true := by simp; omega
                  have h4b : decide (k < il.length) = true := by simp; omega
                  obtain ⟨al2, hAL2, yl⟩ := Kd.at_int HL.out (k : Int) (by omega) (by omega)
                  injection hAL2 with hAL2
                  subst hAL2
                  obtain ⟨x, HX⟩ : ∃ x, Aside0 (rd il (k : Int) = x) := ⟨_, ⟨rfl⟩⟩
                  rw [HX.out] at yl
                  simp only [Int.toNat_natCast] at yl
                  have HXI := Aside0.mk (HIN.out x (by
                    rw [← HX.out]
                    unfold rd
                    rw [Int.toNat_natCast, List.getD_eq_getElem?_getD, List.getElem?_eq_getElem hkl]
                    exact List.getElem_mem _))
                  have x0_ := HXI.out.1
                  have x1_ := HXI.out.2.1
                  have x1b_ : decide (x < (l.length : Int)) = true := by simpa using x1_
                  have x0b_ : decide (0 ≤ x) = true := by simpa using x0_
                  obtain ⟨ap3, hAP3, yx⟩ := Kd.at_int HP.out x x0_ x1_
                  injection hAP3 with hAP3
                  subst hAP3
                  obtain ⟨a, HA⟩ : ∃ a, Aside0 (rd (partsOf l) x = a) := ⟨_, ⟨rfl⟩⟩
                  rw [HA.out] at yx
                  obtain ⟨ad3, _, _, _, _, hA3, z0, _⟩ := at_T37 HC.out x x0_ x1_
                  injection hA3 with hA3
                  subst hA3
                  have ZX := Aside0.mk z0
                  replace z0 := pw_cell_below HB.out z0
                  obtain ⟨kf, HKF⟩ : ∃ kf, Aside0 ((vAt l x).f0 = kf) := ⟨_, ⟨rfl⟩⟩
                  rw [show (rd_T37 l x).f0 = kf from HKF.out] at z0 ZX
                  have t0_ := (blk_cell BT.out 0).trans (rfl : _ = some (.slice (some ad) l.length c0 : Value))
                  have t1_ := (blk_cell BT.out 1).trans (rfl : _ = some (.int .i64 p : Value))
                  obtain ⟨ku, hku⟩ := apUsers l p x HLL.out HM.out
                  obtain ⟨us, HUS⟩ : ∃ y, Aside0 (usersOf x 0 l = y) := ⟨_, ⟨rfl⟩⟩
                  rw [HUS.out] at hku
                  have HKU := Aside0.mk hku
                  clear hku
                  have HUR : Aside0 (∀ u ∈ us, 0 ≤ u ∧ u < (l.length : Int)) := ⟨by
                    rw [← HUS.out]
                    intro u hu
                    have := users_range l 0 u hu
                    omega⟩
                  obtain ⟨r0, HR0⟩ : ∃ r, Aside0 ((kf == 1 && a == (m : Int)) = r) := ⟨_, ⟨rfl⟩⟩
                  have HRD : Aside0 ((r0 || ((kf == 5) && us.any (fun u => (partsOf l).getD u.toNat 0 == (m : Int)))) = true) := ⟨by
                    have := HXI.out.2.2
                    unfold readsB at this
                    rw [HKF.out, HUS.out, show (partsOf l).getD x.toNat 0 = a from HA.out, HR0.out] at this
                    exact this⟩
                  go_upto_region 32 with fail
                  clear h4 h4b
                  by_cases hk1 : kf = 1
                  · have hk1b : (kf == 1) = true := by simpa using hk1
                    by_cases ham : a = (m : Int)
                    · have hamb : (a == (m : Int)) = true := by simpa using ham
                      have hr0 : r0 = true := by rw [← HR0.out, hk1b, hamb]; rfl
                      subst hr0
                      clear hk1 ham
                      go_quiet (fail)
                      have hb_ : Below wr.heap.size wr (wr.drewN nq) := pw_below_drewN (Below.refl wr.heap.size wr) nq
                      replace yl := pw_cell_below hb_ yl
                      replace BT := Aside0.mk (blk_below BT.out hb_)
                      replace HB := Aside0.mk (below_step HB.out hb_)
                      replace HP := Aside0.mk (Kd.C_below HP.out hb_)
                      replace HL := Aside0.mk (Kd.C_below HL.out hb_)
                      generalize wr.drewN nq = wq at BT HB HP HL yl ⊢
                      clear hb_ z0 yx t0_ t1_
                      have YL := Aside0.mk yl
                      clear yl
                      go_upto_region 33 with fail
                      refine start_ (n := 7) (S := fun w' => Below wq.heap.size wq w') (ds := []) #[false, false, false, false, false, false, false] (by kernel_rfl) rfl rfl (below_drew (Below.refl _ _)) (fun hHeld => ?_)
                      refine pure_ (i := 1) (N := some 149) (v := ?_) (a' := ?_) #[false, true, false, false, false, false, false] rfl rfl (by kernel_rfl) (fun _ _ _ h => h) (Or.inl ⟨by rfl, ?_⟩) ?_ ?_
                      rotate_left
                      · intro w'
                        go_simp
                        with_reducible rfl
                      rotate_left
                      · simp only [Act.put, List.setIfInBounds_toArray, List.set_cons_zero, List.set_cons_succ, i64_w, i32_w]
                        rfl
                      refine pure_ (i := 2) (N := some 150) (v := ?_) (a' := ?_) #[false, true, true, false, false, false, false] rfl rfl (by kernel_rfl) (fun _ _ _ h => h) (Or.inl ⟨by rfl, ?_⟩) ?_ ?_
                      rotate_left
                      · intro w'
                        go_simp
                        with_reducible rfl
                      rotate_left
                      · simp only [Act.put, List.setIfInBounds_toArray, List.set_cons_zero, List.set_cons_succ, i64_w, i32_w]
                        rfl
                      refine pure_ (i := 3) (N := some 151) (v := ?_) (a' := ?_) #[false, true, true, true, false, false, false] rfl rfl (by kernel_rfl) (fun _ _ _ h => h) (Or.inl ⟨by rfl, ?_⟩) ?_ ?_
                      rotate_left
                      · intro w'
                        go_simp
                        with_reducible rfl
                      rotate_left
                      · simp only [Act.put, List.setIfInBounds_toArray, List.set_cons_zero, List.set_cons_succ, i64_w, i32_w]
                        rfl
                      refine take_ (i := 0) (N := some 148) (v := ?_) (a' := ?_) #[true, true, true, true, false, false, false] rfl rfl (by kernel_rfl) (fun _ _ _ h => h) (Or.inl ⟨by rfl, ?_⟩) hHeld ?_ ?_
                      rotate_left
                      · intro w' hS
                        have t0_ := (blk_cell (blk_below BT.out hS) 0).trans (rfl : _ = some (.slice (some ad) l.length c0 : Value))
                        have t1_ := (blk_cell (blk_below BT.out hS) 1).trans (rfl : _ = some (.int .i64 p : Value))
                        go_simp
                        with_reducible rfl
                      rotate_left
                      · simp only [Act.put, List.setIfInBounds_toArray, List.set_cons_zero, List.set_cons_succ, i64_w, i32_w]
                        rfl
                      refine take_ (i := 4) (N := some 152) (v := ?_) (a' := ?_) #[true, true, true, true, true, false, false] rfl rfl (by kernel_rfl) (fun _ _ _ h => h) (Or.inl ⟨by rfl, ?_⟩) hHeld ?_ ?_
                      rotate_left
                      · intro w' hS
                        have yl_ := pw_cell_below hS YL.out
                        go_simp
                        with_reducible rfl
                      rotate_left
                      · simp only [Act.put, List.setIfInBounds_toArray, List.set_cons_zero, List.set_cons_succ, i64_w, i32_w]
                        rfl
                      refine one_ (i := 5) (N := some 153) #[true, true, true, true, true, true, false] rfl rfl (by kernel_rfl) (by simp) (fun K hK => ?_)
                      refine goes_ Try.func25 (by kernel_rfl) rfl #[.agg #[.slice (some ad) l.length c0, .int .i64 p], .int .i64 x] (by rfl) rfl rfl (by simp only [List.map_toArray, List.map_cons, List.map_nil]; rfl) ?_
                      with_reducible refine (topo_Users.calls ku (some ad) c0 l p x us _ (Kd.C_below HC.out (below_step HB.out hHeld)) HCC.out HKU.out).mono ?_
                      rintro e_ wu ⟨v14, rfl, hU_, hb_⟩
                      refine ⟨_, rfl, ?_⟩
                      replace hb_ := below_step hHeld hb_
                      refine hK.out _ _ hb_ (fun _ => ?_)
                      clear hK K hHeld
                      refine norm_ (a' := ?_) ?_ ?_
                      rotate_left
                      · show Act.put _ (some 153) _ = _
                        simp only [Act.put, List.setIfInBounds_toArray, List.set_cons_zero, List.set_cons_succ, i64_w, i32_w]
                        rfl
                      refine stronger_ (S' := fun w' => Below wu.heap.size wu w') (fun w' h => below_step hb_ h) (Below.refl _ _) ?_
                      have hHeld := Below.refl wu.heap.size wu
                      replace BT := Aside0.mk (blk_below BT.out hb_)
                      replace HB := Aside0.mk (below_step HB.out hb_)
                      replace HP := Aside0.mk (Kd.C_below HP.out hb_)
                      replace HL := Aside0.mk (Kd.C_below HL.out hb_)
                      obtain ⟨A14, c14, rfl⟩ := Kd.R_slice hU_
                      have HU := Aside0.mk (Kd.R_reads' hU_).2.2
                      clear hU_
                      clear hb_
                      refine pure_ (i := 6) (N := some 14) (v := ?_) (a' := ?_) #[true, true, true, true, true, true, true] rfl rfl (by kernel_rfl) (fun _ _ _ h => h) (Or.inl ⟨by rfl, ?_⟩) ?_ ?_
                      rotate_left
                      · intro w'
                        go_simp
                        with_reducible rfl
                      rotate_left
                      · simp only [Act.put, List.setIfInBounds_toArray, List.set_cons_zero, List.set_cons_succ, i64_w, i32_w]
                        rfl
                      refine done_ (by kernel_rfl) ?_
                      go_wp2_with fail
                      clear x0_ x1_ x1b_ x0b_
                      go_loopw [13, 15] (fun v13 v15 wr => ∃ j : Nat, j ≤ us.length ∧ v13 = .bool (true || ((kf == 5) && (us.take j).any (fun u => (partsOf l).getD u.toNat 0 == (m : Int)))) ∧ v15 = .int .i64 (j : Int) ∧ Aside0 (wr.heap[gt]? = some (.cells #[.slice (some ad) l.length c0, .int .i64 p] 24 (0, 0))) ∧ Aside0 (Below w.heap.size w wr) ∧ Aside0 ((Kd.int .i64).C wr (some ap) l.length (partsOf l)) ∧ Aside0 ((Kd.int .i64).C wr (some al) il.length il) ∧ Aside0 ((Kd.int .i64).C wr A14 us.length us)) (fun _ v15 _ => us.length - (intOf v15).toNat)
                      case atStart => exact ⟨0, by omega, by simp, rfl, BT, HB, HP, HL, HU⟩
                      case round =>
                        clear BT HB HP HL HU
                        obtain ⟨j, hj, rfl, rfl, BT, HB, HP, HL, HU⟩ := hrel
                        by_cases hjl : j < us.length
                        · have h4 : decide ((j : Int) < (us.length : Int)) = true := by simp; omega
                          have h4b : decide (j < us.length) = true := by simp; omega
                          have hmu : us.length ≤ 9223372036854775807 := HU.out.2.1
                          obtain ⟨au, hAU, yu⟩ := Kd.at_int HU.out (j : Int) (by omega) (by omega)
                          subst hAU
                          obtain ⟨u, HUX⟩ : ∃ u, Aside0 (rd us (j : Int) = u) := ⟨_, ⟨rfl⟩⟩
                          rw [HUX.out] at yu
                          simp only [Int.toNat_natCast] at yu
                          have HURX := Aside0.mk (HUR.out u (by
                            rw [← HUX.out]
                            unfold rd
                            rw [Int.toNat_natCast, List.getD_eq_getElem?_getD, List.getElem?_eq_getElem hjl]
                            exact List.getElem_mem _))
                          have u0_ := HURX.out.1
                          have u1_ := HURX.out.2
                          have u1b_ : decide (u < (l.length : Int)) = true := by simpa using u1_
                          have u0b_ : decide (0 ≤ u) = true := by simpa using u0_
                          have x0_ := HXI.out.1
                          have x1_ := HXI.out.2.1
                          have x1b_ : decide (x < (l.length : Int)) = true := by simpa using x1_
                          have x0b_ : decide (0 ≤ x) = true := by simpa using x0_
                          obtain ⟨al2, hAL2, yl⟩ := Kd.at_int HL.out (k : Int) (by omega) (by omega)
                          injection hAL2 with hAL2
                          subst hAL2
                          rw [HX.out] at yl
                          simp only [Int.toNat_natCast] at yl
                          obtain ⟨ap4, hAP4, yp⟩ := Kd.at_int HP.out u u0_ u1_
                          injection hAP4 with hAP4
                          subst hAP4
                          obtain ⟨b, HBU⟩ : ∃ b, Aside0 (rd (partsOf l) u = b) := ⟨_, ⟨rfl⟩⟩
                          rw [HBU.out] at yp
                          have z0 := pw_cell_below HB.out ZX.out
                          have t0_ := (blk_cell BT.out 0).trans (rfl : _ = some (.slice (some ad) l.length c0 : Value))
                          have hST := any_step true (kf == 5) (fun u => (partsOf l).getD u.toNat 0 == (m : Int)) hjl HUX.out
                          obtain ⟨rv, hrv⟩ : ∃ r, (true || ((kf == 5) && (us.take j).any (fun u => (partsOf l).getD u.toNat 0 == (m : Int)))) = r := ⟨_, rfl⟩
                          rw [hrv] at hST ⊢
                          rw [show (partsOf l).getD u.toNat 0 = b from HBU.out] at hST
                          clear hrv
                          have HST := Aside0.mk hST
                          clear hST
                          have hmL : (k : Int) < (il.length : Int) := by omega
                          cases rv with
                          | true =>
                            have HS2 : Aside0 ((true || ((kf == 5) && (us.take (j + 1)).any (fun u => (partsOf l).getD u.toNat 0 == (m : Int)))) = true) := ⟨by rw [HST.out]; rfl⟩
                            go_upto_region 37 with fail
                            clear h4 h4b
                            go_quiet (fail)
                            have hb_ : Below wr.heap.size wr (wr.drewN nq) := pw_below_drewN (Below.refl wr.heap.size wr) nq
                            replace BT := Aside0.mk (blk_below BT.out hb_)
                            replace HB := Aside0.mk (below_step HB.out hb_)
                            replace HP := Aside0.mk (Kd.C_below HP.out hb_)
                            replace HL := Aside0.mk (Kd.C_below HL.out hb_)
                            replace HU := Aside0.mk (Kd.C_below HU.out hb_)
                            generalize wr.drewN nq = wq at BT HB HP HL HU ⊢
                            clear hb_
                            go_wp2_with fail
                            go_roundw
                            case rel => exact ⟨j + 1, by omega, by rw [HS2.out], by go_num, BT, HB, HP, HL, HU⟩
                            case measure => simp [intOf]; omega
                          | false =>
                            by_cases h5 : kf = 5
                            · have h5b : (kf == 5) = true := by simpa using h5
                              obtain ⟨s, hs⟩ : ∃ s, (b == (m : Int)) = s := ⟨_, rfl⟩
                              have HS2 : Aside0 ((true || ((kf == 5) && (us.take (j + 1)).any (fun u => (partsOf l).getD u.toNat 0 == (m : Int)))) = s) := ⟨by rw [HST.out, h5b, hs]; rfl⟩
                              clear h5
                              go_upto_region 37 with fail
                              clear h4 h4b
                              go_quiet (fail)
                              have hb_ : Below wr.heap.size wr (wr.drewN nq) := pw_below_drewN (Below.refl wr.heap.size wr) nq
                              replace BT := Aside0.mk (blk_below BT.out hb_)
                              replace HB := Aside0.mk (below_step HB.out hb_)
                              replace HP := Aside0.mk (Kd.C_below HP.out hb_)
                              replace HL := Aside0.mk (Kd.C_below HL.out hb_)
                              replace HU := Aside0.mk (Kd.C_below HU.out hb_)
                              generalize wr.drewN nq = wq at BT HB HP HL HU ⊢
                              clear hb_
                              go_wp2_with fail
                              go_roundw
                              case rel => exact ⟨j + 1, by omega, by rw [HS2.out], by go_num, BT, HB, HP, HL, HU⟩
                              case measure => simp [intOf]; omega
                            · have h5b : (kf == 5) = false := by simpa using h5
                              have HS2 : Aside0 ((true || ((kf == 5) && (us.take (j + 1)).any (fun u => (partsOf l).getD u.toNat 0 == (m : Int)))) = false) := ⟨by rw [HST.out, h5b]; rfl⟩
                              clear h5
                              go_upto_region 37 with fail
                              clear h4 h4b
                              go_quiet (fail)
                              have hb_ : Below wr.heap.size wr (wr.drewN nq) := pw_below_drewN (Below.refl wr.heap.size wr) nq
                              replace BT := Aside0.mk (blk_below BT.out hb_)
                              replace HB := Aside0.mk (below_step HB.out hb_)
                              replace HP := Aside0.mk (Kd.C_below HP.out hb_)
                              replace HL := Aside0.mk (Kd.C_below HL.out hb_)
                              replace HU := Aside0.mk (Kd.C_below HU.out hb_)
                              generalize wr.drewN nq = wq at BT HB HP HL HU ⊢
                              clear hb_
                              go_wp2_with fail
                              go_roundw
                              case rel => exact ⟨j + 1, by omega, by rw [HS2.out], by go_num, BT, HB, HP, HL, HU⟩
                              case measure => simp [intOf]; omega
                        · obtain rfl : us.length = j := by omega
                          have h4 : decide ((us.length : Int) < (us.length : Int)) = false := by simp
                          rw [List.take_length, HRD.out]
                          go_wp2_with fail
                          go_roundw
                          case rel => exact ⟨k + 1, by omega, by go_num, BT, HB, HP, HL⟩
                          case measure => simp [intOf]; omega
                    · have hamb : (a == (m : Int)) = false := by simpa using ham
                      have hr0 : r0 = false := by rw [← HR0.out, hk1b, hamb]; rfl
                      subst hr0
                      clear hk1 ham
                      go_quiet (fail)
                      have hb_ : Below wr.heap.size wr (wr.drewN nq) := pw_below_drewN (Below.refl wr.heap.size wr) nq
                      replace yl := pw_cell_below hb_ yl
                      replace BT := Aside0.mk (blk_below BT.out hb_)
                      replace HB := Aside0.mk (below_step HB.out hb_)
                      replace HP := Aside0.mk (Kd.C_below HP.out hb_)
                      replace HL := Aside0.mk (Kd.C_below HL.out hb_)
                      generalize wr.drewN nq = wq at BT HB HP HL yl ⊢
                      clear hb_ z0 yx t0_ t1_
                      have YL := Aside0.mk yl
                      clear yl
                      go_upto_region 33 with fail
                      refine start_ (n := 7) (S := fun w' => Below wq.heap.size wq w') (ds := []) #[false, false, false, false, false, false, false] (by kernel_rfl) rfl rfl (below_drew (Below.refl _ _)) (fun hHeld => ?_)
                      refine pure_ (i := 1) (N := some 149) (v := ?_) (a' := ?_) #[false, true, false, false, false, false, false] rfl rfl (by kernel_rfl) (fun _ _ _ h => h) (Or.inl ⟨by rfl, ?_⟩) ?_ ?_
                      rotate_left
                      · intro w'
                        go_simp
                        with_reducible rfl
                      rotate_left
                      · simp only [Act.put, List.setIfInBounds_toArray, List.set_cons_zero, List.set_cons_succ, i64_w, i32_w]
                        rfl
                      refine pure_ (i := 2) (N := some 150) (v := ?_) (a' := ?_) #[false, true, true, false, false, false, false] rfl rfl (by kernel_rfl) (fun _ _ _ h => h) (Or.inl ⟨by rfl, ?_⟩) ?_ ?_
                      rotate_left
                      · intro w'
                        go_simp
                        with_reducible rfl
                      rotate_left
                      · simp only [Act.put, List.setIfInBounds_toArray, List.set_cons_zero, List.set_cons_succ, i64_w, i32_w]
                        rfl
                      refine pure_ (i := 3) (N := some 151) (v := ?_) (a' := ?_) #[false, true, true, true, false, false, false] rfl rfl (by kernel_rfl) (fun _ _ _ h => h) (Or.inl ⟨by rfl, ?_⟩) ?_ ?_
                      rotate_left
                      · intro w'
                        go_simp
                        with_reducible rfl
                      rotate_left
                      · simp only [Act.put, List.setIfInBounds_toArray, List.set_cons_zero, List.set_cons_succ, i64_w, i32_w]
                        rfl
                      refine take_ (i := 0) (N := some 148) (v := ?_) (a' := ?_) #[true, true, true, true, false, false, false] rfl rfl (by kernel_rfl) (fun _ _ _ h => h) (Or.inl ⟨by rfl, ?_⟩) hHeld ?_ ?_
                      rotate_left
                      · intro w' hS
                        have t0_ := (blk_cell (blk_below BT.out hS) 0).trans (rfl : _ = some (.slice (some ad) l.length c0 : Value))
                        have t1_ := (blk_cell (blk_below BT.out hS) 1).trans (rfl : _ = some (.int .i64 p : Value))
                        go_simp
                        with_reducible rfl
                      rotate_left
                      · simp only [Act.put, List.setIfInBounds_toArray, List.set_cons_zero, List.set_cons_succ, i64_w, i32_w]
                        rfl
                      refine take_ (i := 4) (N := some 152) (v := ?_) (a' := ?_) #[true, true, true, true, true, false, false] rfl rfl (by kernel_rfl) (fun _ _ _ h => h) (Or.inl ⟨by rfl, ?_⟩) hHeld ?_ ?_
                      rotate_left
                      · intro w' hS
                        have yl_ := pw_cell_below hS YL.out
                        go_simp
                        with_reducible rfl
                      rotate_left
                      · simp only [Act.put, List.setIfInBounds_toArray, List.set_cons_zero, List.set_cons_succ, i64_w, i32_w]
                        rfl
                      refine one_ (i := 5) (N := some 153) #[true, true, true, true, true, true, false] rfl rfl (by kernel_rfl) (by simp) (fun K hK => ?_)
                      refine goes_ Try.func25 (by kernel_rfl) rfl #[.agg #[.slice (some ad) l.length c0, .int .i64 p], .int .i64 x] (by rfl) rfl rfl (by simp only [List.map_toArray, List.map_cons, List.map_nil]; rfl) ?_
                      with_reducible refine (topo_Users.calls ku (some ad) c0 l p x us _ (Kd.C_below HC.out (below_step HB.out hHeld)) HCC.out HKU.out).mono ?_
                      rintro e_ wu ⟨v14, rfl, hU_, hb_⟩
                      refine ⟨_, rfl, ?_⟩
                      replace hb_ := below_step hHeld hb_
                      refine hK.out _ _ hb_ (fun _ => ?_)
                      clear hK K hHeld
                      refine norm_ (a' := ?_) ?_ ?_
                      rotate_left
                      · show Act.put _ (some 153) _ = _
                        simp only [Act.put, List.setIfInBounds_toArray, List.set_cons_zero, List.set_cons_succ, i64_w, i32_w]
                        rfl
                      refine stronger_ (S' := fun w' => Below wu.heap.size wu w') (fun w' h => below_step hb_ h) (Below.refl _ _) ?_
                      have hHeld := Below.refl wu.heap.size wu
                      replace BT := Aside0.mk (blk_below BT.out hb_)
                      replace HB := Aside0.mk (below_step HB.out hb_)
                      replace HP := Aside0.mk (Kd.C_below HP.out hb_)
                      replace HL := Aside0.mk (Kd.C_below HL.out hb_)
                      obtain ⟨A14, c14, rfl⟩ := Kd.R_slice hU_
                      have HU := Aside0.mk (Kd.R_reads' hU_).2.2
                      clear hU_
                      clear hb_
                      refine pure_ (i := 6) (N := some 14) (v := ?_) (a' := ?_) #[true, true, true, true, true, true, true] rfl rfl (by kernel_rfl) (fun _ _ _ h => h) (Or.inl ⟨by rfl, ?_⟩) ?_ ?_
                      rotate_left
                      · intro w'
                        go_simp
                        with_reducible rfl
                      rotate_left
                      · simp only [Act.put, List.setIfInBounds_toArray, List.set_cons_zero, List.set_cons_succ, i64_w, i32_w]
                        rfl
                      refine done_ (by kernel_rfl) ?_
                      go_wp2_with fail
                      clear x0_ x1_ x1b_ x0b_
                      go_loopw [13, 15] (fun v13 v15 wr => ∃ j : Nat, j ≤ us.length ∧ v13 = .bool (false || ((kf == 5) && (us.take j).any (fun u => (partsOf l).getD u.toNat 0 == (m : Int)))) ∧ v15 = .int .i64 (j : Int) ∧ Aside0 (wr.heap[gt]? = some (.cells #[.slice (some ad) l.length c0, .int .i64 p] 24 (0, 0))) ∧ Aside0 (Below w.heap.size w wr) ∧ Aside0 ((Kd.int .i64).C wr (some ap) l.length (partsOf l)) ∧ Aside0 ((Kd.int .i64).C wr (some al) il.length il) ∧ Aside0 ((Kd.int .i64).C wr A14 us.length us)) (fun _ v15 _ => us.length - (intOf v15).toNat)
                      case atStart => exact ⟨0, by omega, by simp, rfl, BT, HB, HP, HL, HU⟩
                      case round =>
                        clear BT HB HP HL HU
                        obtain ⟨j, hj, rfl, rfl, BT, HB, HP, HL, HU⟩ := hrel
                        by_cases hjl : j < us.length
                        · have h4 : decide ((j : Int) < (us.length : Int)) = true := by simp; omega
                          have h4b : decide (j < us.length) = true := by simp; omega
                          have hmu : us.length ≤ 9223372036854775807 := HU.out.2.1
                          obtain ⟨au, hAU, yu⟩ := Kd.at_int HU.out (j : Int) (by omega) (by omega)
                          subst hAU
                          obtain ⟨u, HUX⟩ : ∃ u, Aside0 (rd us (j : Int) = u) := ⟨_, ⟨rfl⟩⟩
                          rw [HUX.out] at yu
                          simp only [Int.toNat_natCast] at yu
                          have HURX := Aside0.mk (HUR.out u (by
                            rw [← HUX.out]
                            unfold rd
                            rw [Int.toNat_natCast, List.getD_eq_getElem?_getD, List.getElem?_eq_getElem hjl]
                            exact List.getElem_mem _))
                          have u0_ := HURX.out.1
                          have u1_ := HURX.out.2
                          have u1b_ : decide (u < (l.length : Int)) = true := by simpa using u1_
                          have u0b_ : decide (0 ≤ u) = true := by simpa using u0_
                          have x0_ := HXI.out.1
                          have x1_ := HXI.out.2.1
                          have x1b_ : decide (x < (l.length : Int)) = true := by simpa using x1_
                          have x0b_ : decide (0 ≤ x) = true := by simpa using x0_
                          obtain ⟨al2, hAL2, yl⟩ := Kd.at_int HL.out (k : Int) (by omega) (by omega)
                          injection hAL2 with hAL2
                          subst hAL2
                          rw [HX.out] at yl
                          simp only [Int.toNat_natCast] at yl
                          obtain ⟨ap4, hAP4, yp⟩ := Kd.at_int HP.out u u0_ u1_
                          injection hAP4 with hAP4
                          subst hAP4
                          obtain ⟨b, HBU⟩ : ∃ b, Aside0 (rd (partsOf l) u = b) := ⟨_, ⟨rfl⟩⟩
                          rw [HBU.out] at yp
                          have z0 := pw_cell_below HB.out ZX.out
                          have t0_ := (blk_cell BT.out 0).trans (rfl : _ = some (.slice (some ad) l.length c0 : Value))
                          have hST := any_step false (kf == 5) (fun u => (partsOf l).getD u.toNat 0 == (m : Int)) hjl HUX.out
                          obtain ⟨rv, hrv⟩ : ∃ r, (false || ((kf == 5) && (us.take j).any (fun u => (partsOf l).getD u.toNat 0 == (m : Int)))) = r := ⟨_, rfl⟩
                          rw [hrv] at hST ⊢
                          rw [show (partsOf l).getD u.toNat 0 = b from HBU.out] at hST
                          clear hrv
                          have HST := Aside0.mk hST
                          clear hST
                          have hmL : (k : Int) < (il.length : Int) := by omega
                          cases rv with
                          | true =>
                            have HS2 : Aside0 ((false || ((kf == 5) && (us.take (j + 1)).any (fun u => (partsOf l).getD u.toNat 0 == (m : Int)))) = true) := ⟨by rw [HST.out]; rfl⟩
                            go_upto_region 37 with fail
                            clear h4 h4b
                            go_quiet (fail)
                            have hb_ : Below wr.heap.size wr (wr.drewN nq) := pw_below_drewN (Below.refl wr.heap.size wr) nq
                            replace BT := Aside0.mk (blk_below BT.out hb_)
                            replace HB := Aside0.mk (below_step HB.out hb_)
                            replace HP := Aside0.mk (Kd.C_below HP.out hb_)
                            replace HL := Aside0.mk (Kd.C_below HL.out hb_)
                            replace HU := Aside0.mk (Kd.C_below HU.out hb_)
                            generalize wr.drewN nq = wq at BT HB HP HL HU ⊢
                            clear hb_
                            go_wp2_with fail
                            go_roundw
                            case rel => exact ⟨j + 1, by omega, by rw [HS2.out], by go_num, BT, HB, HP, HL, HU⟩
                            case measure => simp [intOf]; omega
                          | false =>
                            by_cases h5 : kf = 5
                            · have h5b : (kf == 5) = true := by simpa using h5
                              obtain ⟨s, hs⟩ : ∃ s, (b == (m : Int)) = s := ⟨_, rfl⟩
                              have HS2 : Aside0 ((false || ((kf == 5) && (us.take (j + 1)).any (fun u => (partsOf l).getD u.toNat 0 == (m : Int)))) = s) := ⟨by rw [HST.out, h5b, hs]; rfl⟩
                              clear h5
                              go_upto_region 37 with fail
                              clear h4 h4b
                              go_quiet (fail)
                              have hb_ : Below wr.heap.size wr (wr.drewN nq) := pw_below_drewN (Below.refl wr.heap.size wr) nq
                              replace BT := Aside0.mk (blk_below BT.out hb_)
                              replace HB := Aside0.mk (below_step HB.out hb_)
                              replace HP := Aside0.mk (Kd.C_below HP.out hb_)
                              replace HL := Aside0.mk (Kd.C_below HL.out hb_)
                              replace HU := Aside0.mk (Kd.C_below HU.out hb_)
                              generalize wr.drewN nq = wq at BT HB HP HL HU ⊢
                              clear hb_
                              go_wp2_with fail
                              go_roundw
                              case rel => exact ⟨j + 1, by omega, by rw [HS2.out], by go_num, BT, HB, HP, HL, HU⟩
                              case measure => simp [intOf]; omega
                            · have h5b : (kf == 5) = false := by simpa using h5
                              have HS2 : Aside0 ((false || ((kf == 5) && (us.take (j + 1)).any (fun u => (partsOf l).getD u.toNat 0 == (m : Int)))) = false) := ⟨by rw [HST.out, h5b]; rfl⟩
                              clear h5
                              go_upto_region 37 with fail
                              clear h4 h4b
                              go_quiet (fail)
                              have hb_ : Below wr.heap.size wr (wr.drewN nq) := pw_below_drewN (Below.refl wr.heap.size wr) nq
                              replace BT := Aside0.mk (blk_below BT.out hb_)
                              replace HB := Aside0.mk (below_step HB.out hb_)
                              replace HP := Aside0.mk (Kd.C_below HP.out hb_)
                              replace HL := Aside0.mk (Kd.C_below HL.out hb_)
                              replace HU := Aside0.mk (Kd.C_below HU.out hb_)
                              generalize wr.drewN nq = wq at BT HB HP HL HU ⊢
                              clear hb_
                              go_wp2_with fail
                              go_roundw
                              case rel => exact ⟨j + 1, by omega, by rw [HS2.out], by go_num, BT, HB, HP, HL, HU⟩
                              case measure => simp [intOf]; omega
                        · obtain rfl : us.length = j := by omega
                          have h4 : decide ((us.length : Int) < (us.length : Int)) = false := by simp
                          rw [List.take_length, HRD.out]
                          go_wp2_with fail
                          go_roundw
                          case rel => exact ⟨k + 1, by omega, by go_num, BT, HB, HP, HL⟩
                          case measure => simp [intOf]; omega
                  · have hk1b : (kf == 1) = false := by simpa using hk1
                    have hr0 : r0 = false := by rw [← HR0.out, hk1b]; rfl
                    subst hr0
                    clear hk1
                    go_quiet (fail)
                    have hb_ : Below wr.heap.size wr (wr.drewN nq) := pw_below_drewN (Below.refl wr.heap.size wr) nq
                    replace yl := pw_cell_below hb_ yl
                    replace BT := Aside0.mk (blk_below BT.out hb_)
                    replace HB := Aside0.mk (below_step HB.out hb_)
                    replace HP := Aside0.mk (Kd.C_below HP.out hb_)
                    replace HL := Aside0.mk (Kd.C_below HL.out hb_)
                    generalize wr.drewN nq = wq at BT HB HP HL yl ⊢
                    clear hb_ z0 yx t0_ t1_
                    have YL := Aside0.mk yl
                    clear yl
                    go_upto_region 33 with fail
                    refine start_ (n := 7) (S := fun w' => Below wq.heap.size wq w') (ds := []) #[false, false, false, false, false, false, false] (by kernel_rfl) rfl rfl (below_drew (Below.refl _ _)) (fun hHeld => ?_)
                    refine pure_ (i := 1) (N := some 149) (v := ?_) (a' := ?_) #[false, true, false, false, false, false, false] rfl rfl (by kernel_rfl) (fun _ _ _ h => h) (Or.inl ⟨by rfl, ?_⟩) ?_ ?_
                    rotate_left
                    · intro w'
                      go_simp
                      with_reducible rfl
                    rotate_left
                    · simp only [Act.put, List.setIfInBounds_toArray, List.set_cons_zero, List.set_cons_succ, i64_w, i32_w]
                      rfl
                    refine pure_ (i := 2) (N := some 150) (v := ?_) (a' := ?_) #[false, true, true, false, false, false, false] rfl rfl (by kernel_rfl) (fun _ _ _ h => h) (Or.inl ⟨by rfl, ?_⟩) ?_ ?_
                    rotate_left
                    · intro w'
                      go_simp
                      with_reducible rfl
                    rotate_left
                    · simp only [Act.put, List.setIfInBounds_toArray, List.set_cons_zero, List.set_cons_succ, i64_w, i32_w]
                      rfl
                    refine pure_ (i := 3) (N := some 151) (v := ?_) (a' := ?_) #[false, true, true, true, false, false, false] rfl rfl (by kernel_rfl) (fun _ _ _ h => h) (Or.inl ⟨by rfl, ?_⟩) ?_ ?_
                    rotate_left
                    · intro w'
                      go_simp
                      with_reducible rfl
                    rotate_left
                    · simp only [Act.put, List.setIfInBounds_toArray, List.set_cons_zero, List.set_cons_succ, i64_w, i32_w]
                      rfl
                    refine take_ (i := 0) (N := some 148) (v := ?_) (a' := ?_) #[true, true, true, true, false, false, false] rfl rfl (by kernel_rfl) (fun _ _ _ h => h) (Or.inl ⟨by rfl, ?_⟩) hHeld ?_ ?_
                    rotate_left
                    · intro w' hS
                      have t0_ := (blk_cell (blk_below BT.out hS) 0).trans (rfl : _ = some (.slice (some ad) l.length c0 : Value))
                      have t1_ := (blk_cell (blk_below BT.out hS) 1).trans (rfl : _ = some (.int .i64 p : Value))
                      go_simp
                      with_reducible rfl
                    rotate_left
                    · simp only [Act.put, List.setIfInBounds_toArray, List.set_cons_zero, List.set_cons_succ, i64_w, i32_w]
                      rfl
                    refine take_ (i := 4) (N := some 152) (v := ?_) (a' := ?_) #[true, true, true, true, true, false, false] rfl rfl (by kernel_rfl) (fun _ _ _ h => h) (Or.inl ⟨by rfl, ?_⟩) hHeld ?_ ?_
                    rotate_left
                    · intro w' hS
                      have yl_ := pw_cell_below hS YL.out
                      go_simp
                      with_reducible rfl
                    rotate_left
                    · simp only [Act.put, List.setIfInBounds_toArray, List.set_cons_zero, List.set_cons_succ, i64_w, i32_w]
                      rfl
                    refine one_ (i := 5) (N := some 153) #[true, true, true, true, true, true, false] rfl rfl (by kernel_rfl) (by simp) (fun K hK => ?_)
                    refine goes_ Try.func25 (by kernel_rfl) rfl #[.agg #[.slice (some ad) l.length c0, .int .i64 p], .int .i64 x] (by rfl) rfl rfl (by simp only [List.map_toArray, List.map_cons, List.map_nil]; rfl) ?_
                    with_reducible refine (topo_Users.calls ku (some ad) c0 l p x us _ (Kd.C_below HC.out (below_step HB.out hHeld)) HCC.out HKU.out).mono ?_
                    rintro e_ wu ⟨v14, rfl, hU_, hb_⟩
                    refine ⟨_, rfl, ?_⟩
                    replace hb_ := below_step hHeld hb_
                    refine hK.out _ _ hb_ (fun _ => ?_)
                    clear hK K hHeld
                    refine norm_ (a' := ?_) ?_ ?_
                    rotate_left
                    · show Act.put _ (some 153) _ = _
                      simp only [Act.put, List.setIfInBounds_toArray, List.set_cons_zero, List.set_cons_succ, i64_w, i32_w]
                      rfl
                    refine stronger_ (S' := fun w' => Below wu.heap.size wu w') (fun w' h => below_step hb_ h) (Below.refl _ _) ?_
                    have hHeld := Below.refl wu.heap.size wu
                    replace BT := Aside0.mk (blk_below BT.out hb_)
                    replace HB := Aside0.mk (below_step HB.out hb_)
                    replace HP := Aside0.mk (Kd.C_below HP.out hb_)
                    replace HL := Aside0.mk (Kd.C_below HL.out hb_)
                    obtain ⟨A14, c14, rfl⟩ := Kd.R_slice hU_
                    have HU := Aside0.mk (Kd.R_reads' hU_).2.2
                    clear hU_
                    clear hb_
                    refine pure_ (i := 6) (N := some 14) (v := ?_) (a' := ?_) #[true, true, true, true, true, true, true] rfl rfl (by kernel_rfl) (fun _ _ _ h => h) (Or.inl ⟨by rfl, ?_⟩) ?_ ?_
                    rotate_left
                    · intro w'
                      go_simp
                      with_reducible rfl
                    rotate_left
                    · simp only [Act.put, List.setIfInBounds_toArray, List.set_cons_zero, List.set_cons_succ, i64_w, i32_w]
                      rfl
                    refine done_ (by kernel_rfl) ?_
                    go_wp2_with fail
                    clear x0_ x1_ x1b_ x0b_
                    go_loopw [13, 15] (fun v13 v15 wr => ∃ j : Nat, j ≤ us.length ∧ v13 = .bool (false || ((kf == 5) && (us.take j).any (fun u => (partsOf l).getD u.toNat 0 == (m : Int)))) ∧ v15 = .int .i64 (j : Int) ∧ Aside0 (wr.heap[gt]? = some (.cells #[.slice (some ad) l.length c0, .int .i64 p] 24 (0, 0))) ∧ Aside0 (Below w.heap.size w wr) ∧ Aside0 ((Kd.int .i64).C wr (some ap) l.length (partsOf l)) ∧ Aside0 ((Kd.int .i64).C wr (some al) il.length il) ∧ Aside0 ((Kd.int .i64).C wr A14 us.length us)) (fun _ v15 _ => us.length - (intOf v15).toNat)
                    case atStart => exact ⟨0, by omega, by simp, rfl, BT, HB, HP, HL, HU⟩
                    case round =>
                      clear BT HB HP HL HU
                      obtain ⟨j, hj, rfl, rfl, BT, HB, HP, HL, HU⟩ := hrel
                      by_cases hjl : j < us.length
                      · have h4 : decide ((j : Int) < (us.length : Int)) = true := by simp; omega
                        have h4b : decide (j < us.length) = true := by simp; omega
                        have hmu : us.length ≤ 9223372036854775807 := HU.out.2.1
                        obtain ⟨au, hAU, yu⟩ := Kd.at_int HU.out (j : Int) (by omega) (by omega)
                        subst hAU
                        obtain ⟨u, HUX⟩ : ∃ u, Aside0 (rd us (j : Int) = u) := ⟨_, ⟨rfl⟩⟩
                        rw [HUX.out] at yu
                        simp only [Int.toNat_natCast] at yu
                        have HURX := Aside0.mk (HUR.out u (by
                          rw [← HUX.out]
                          unfold rd
                          rw [Int.toNat_natCast, List.getD_eq_getElem?_getD, List.getElem?_eq_getElem hjl]
                          exact List.getElem_mem _))
                        have u0_ := HURX.out.1
                        have u1_ := HURX.out.2
                        have u1b_ : decide (u < (l.length : Int)) = true := by simpa using u1_
                        have u0b_ : decide (0 ≤ u) = true := by simpa using u0_
                        have x0_ := HXI.out.1
                        have x1_ := HXI.out.2.1
                        have x1b_ : decide (x < (l.length : Int)) = true := by simpa using x1_
                        have x0b_ : decide (0 ≤ x) = true := by simpa using x0_
                        obtain ⟨al2, hAL2, yl⟩ := Kd.at_int HL.out (k : Int) (by omega) (by omega)
                        injection hAL2 with hAL2
                        subst hAL2
                        rw [HX.out] at yl
                        simp only [Int.toNat_natCast] at yl
                        obtain ⟨ap4, hAP4, yp⟩ := Kd.at_int HP.out u u0_ u1_
                        injection hAP4 with hAP4
                        subst hAP4
                        obtain ⟨b, HBU⟩ : ∃ b, Aside0 (rd (partsOf l) u = b) := ⟨_, ⟨rfl⟩⟩
                        rw [HBU.out] at yp
                        have z0 := pw_cell_below HB.out ZX.out
                        have t0_ := (blk_cell BT.out 0).trans (rfl : _ = some (.slice (some ad) l.length c0 : Value))
                        have hST := any_step false (kf == 5) (fun u => (partsOf l).getD u.toNat 0 == (m : Int)) hjl HUX.out
                        obtain ⟨rv, hrv⟩ : ∃ r, (false || ((kf == 5) && (us.take j).any (fun u => (partsOf l).getD u.toNat 0 == (m : Int)))) = r := ⟨_, rfl⟩
                        rw [hrv] at hST ⊢
                        rw [show (partsOf l).getD u.toNat 0 = b from HBU.out] at hST
                        clear hrv
                        have HST := Aside0.mk hST
                        clear hST
                        have hmL : (k : Int) < (il.length : Int) := by omega
                        cases rv with
                        | true =>
                          have HS2 : Aside0 ((false || ((kf == 5) && (us.take (j + 1)).any (fun u => (partsOf l).getD u.toNat 0 == (m : Int)))) = true) := ⟨by rw [HST.out]; rfl⟩
                          go_upto_region 37 with fail
                          clear h4 h4b
                          go_quiet (fail)
                          have hb_ : Below wr.heap.size wr (wr.drewN nq) := pw_below_drewN (Below.refl wr.heap.size wr) nq
                          replace BT := Aside0.mk (blk_below BT.out hb_)
                          replace HB := Aside0.mk (below_step HB.out hb_)
                          replace HP := Aside0.mk (Kd.C_below HP.out hb_)
                          replace HL := Aside0.mk (Kd.C_below HL.out hb_)
                          replace HU := Aside0.mk (Kd.C_below HU.out hb_)
                          generalize wr.drewN nq = wq at BT HB HP HL HU ⊢
                          clear hb_
                          go_wp2_with fail
                          go_roundw
                          case rel => exact ⟨j + 1, by omega, by rw [HS2.out], by go_num, BT, HB, HP, HL, HU⟩
                          case measure => simp [intOf]; omega
                        | false =>
                          by_cases h5 : kf = 5
                          · have h5b : (kf == 5) = true := by simpa using h5
                            obtain ⟨s, hs⟩ : ∃ s, (b == (m : Int)) = s := ⟨_, rfl⟩
                            have HS2 : Aside0 ((false || ((kf == 5) && (us.take (j + 1)).any (fun u => (partsOf l).getD u.toNat 0 == (m : Int)))) = s) := ⟨by rw [HST.out, h5b, hs]; rfl⟩
                            clear h5
                            go_upto_region 37 with fail
                            clear h4 h4b
                            go_quiet (fail)
                            have hb_ : Below wr.heap.size wr (wr.drewN nq) := pw_below_drewN (Below.refl wr.heap.size wr) nq
                            replace BT := Aside0.mk (blk_below BT.out hb_)
                            replace HB := Aside0.mk (below_step HB.out hb_)
                            replace HP := Aside0.mk (Kd.C_below HP.out hb_)
                            replace HL := Aside0.mk (Kd.C_below HL.out hb_)
                            replace HU := Aside0.mk (Kd.C_below HU.out hb_)
                            generalize wr.drewN nq = wq at BT HB HP HL HU ⊢
                            clear hb_
                            go_wp2_with fail
                            go_roundw
                            case rel => exact ⟨j + 1, by omega, by rw [HS2.out], by go_num, BT, HB, HP, HL, HU⟩
                            case measure => simp [intOf]; omega
                          · have h5b : (kf == 5) = false := by simpa using h5
                            have HS2 : Aside0 ((false || ((kf == 5) && (us.take (j + 1)).any (fun u => (partsOf l).getD u.toNat 0 == (m : Int)))) = false) := ⟨by rw [HST.out, h5b]; rfl⟩
                            clear h5
                            go_upto_region 37 with fail
                            clear h4 h4b
                            go_quiet (fail)
                            have hb_ : Below wr.heap.size wr (wr.drewN nq) := pw_below_drewN (Below.refl wr.heap.size wr) nq
                            replace BT := Aside0.mk (blk_below BT.out hb_)
                            replace HB := Aside0.mk (below_step HB.out hb_)
                            replace HP := Aside0.mk (Kd.C_below HP.out hb_)
                            replace HL := Aside0.mk (Kd.C_below HL.out hb_)
                            replace HU := Aside0.mk (Kd.C_below HU.out hb_)
                            generalize wr.drewN nq = wq at BT HB HP HL HU ⊢
                            clear hb_
                            go_wp2_with fail
                            go_roundw
                            case rel => exact ⟨j + 1, by omega, by rw [HS2.out], by go_num, BT, HB, HP, HL, HU⟩
                            case measure => simp [intOf]; omega
                      · obtain rfl : us.length = j := by omega
                        have h4 : decide ((us.length : Int) < (us.length : Int)) = false := by simp
                        rw [List.take_length, HRD.out]
                        go_wp2_with fail
                        go_roundw
                        case rel => exact ⟨k + 1, by omega, by go_num, BT, HB, HP, HL⟩
                        case measure => simp [intOf]; omega
                · obtain rfl : il.length = k := by omega
                  have h4 : decide ((il.length : Int) < (il.length : Int)) = false := by simp
                  go_wp2_with fail
                  go_roundw
                  case rel => exact ⟨m + 1, by omega, by go_num, BT, HB, HP⟩
                  case measure => simp [intOf]; omega
            · obtain rfl : M = m := by omega
              have h6 : decide ((M : Int) < (M : Int)) = false := by simp
              obtain ⟨T, HT⟩ : ∃ T, Aside0 ((M : Int) * p = T) := ⟨_, ⟨rfl⟩⟩
              have HTF : Aside0 (cut_Tasks.f l p = some T) := ⟨by rw [tasks_many HCK.out HI.out, HMM.out, HT.out]⟩
              have HIZ : Aside0 (cut_Inputs.f l p (M : Int) = some []) := ⟨by rw [inputs_f HCK.out HI.out, ← HMM.out, inputs_beyond HCK.out]⟩
              have hTT : (T == wrap64 ((M : Int) * p)) = true := by
                rw [HT.out, beq_iff_eq]
                have : p = 1 ∨ p = 2 ∨ p = 3 ∨ p = 4 ∨ p = 5 ∨ p = 6 ∨ p = 7 ∨ p = 8 := by omega
                have h1 := HT.out
                rcases this with rfl | rfl | rfl | rfl | rfl | rfl | rfl | rfl <;> (unfold wrap64; omega)
              go_upto_region 40 with fail
              clear t0_ t1_ h6
              refine start_ (n := 18) (S := fun w' => Below wr.heap.size wr w') (ds := []) #[false, false, false, false, false, false, false, false, false, false, false, false, false, false, false, false, false, false] (by kernel_rfl) rfl rfl (below_drew (Below.refl _ _)) (fun hHeld => ?_)
              refine pure_ (i := 0) (N := some 186) (v := ?_) (a' := ?_) #[true, false, false, false, false, false, false, false, false, false, false, false, false, false, false, false, false, false] rfl rfl (by kernel_rfl) (fun _ _ _ h => h) (Or.inl ⟨by rfl, ?_⟩) ?_ ?_
              rotate_left
              · intro w'
                go_simp
                with_reducible rfl
              rotate_left
              · simp only [Act.put, List.setIfInBounds_toArray, List.set_cons_zero, List.set_cons_succ, i64_w, i32_w]
                rfl
              refine pure_ (i := 1) (N := some 187) (v := ?_) (a' := ?_) #[true, true, false, false, false, false, false, false, false, false, false, false, false, false, false, false, false, false] rfl rfl (by kernel_rfl) (fun _ _ _ h => h) (Or.inl ⟨by rfl, ?_⟩) ?_ ?_
              rotate_left
              · intro w'
                go_simp
                with_reducible rfl
              rotate_left
              · simp only [Act.put, List.setIfInBounds_toArray, List.set_cons_zero, List.set_cons_succ, i64_w, i32_w]
                rfl
              refine pure_ (i := 4) (N := some 190) (v := ?_) (a' := ?_) #[true, true, false, false, true, false, false, false, false, false, false, false, false, false, false, false, false, false] rfl rfl (by kernel_rfl) (fun _ _ _ h => h) (Or.inl ⟨by rfl, ?_⟩) ?_ ?_
              rotate_left
              · intro w'
                go_simp
                with_reducible rfl
              rotate_left
              · simp only [Act.put, List.setIfInBounds_toArray, List.set_cons_zero, List.set_cons_succ, i64_w, i32_w]
                rfl
              refine pure_ (i := 5) (N := some 191) (v := ?_) (a' := ?_) #[true, true, false, false, true, true, false, false, false, false, false, false, false, false, false, false, false, false] rfl rfl (by kernel_rfl) (fun _ _ _ h => h) (Or.inl ⟨by rfl, ?_⟩) ?_ ?_
              rotate_left
              · intro w'
                go_simp
                with_reducible rfl
              rotate_left
              · simp only [Act.put, List.setIfInBounds_toArray, List.set_cons_zero, List.set_cons_succ, i64_w, i32_w]
                rfl
              refine take_ (i := 2) (N := some 188) (v := ?_) (a' := ?_) #[true, true, true, false, true, true, false, false, false, false, false, false, false, false, false, false, false, false] rfl rfl (by kernel_rfl) (fun _ _ _ h => h) (Or.inl ⟨by rfl, ?_⟩) hHeld ?_ ?_
              rotate_left
              · intro w' hS
                have t0_ := (blk_cell (blk_below BT.out hS) 0).trans (rfl : _ = some (.slice (some ad) l.length c0 : Value))
                have t1_ := (blk_cell (blk_below BT.out hS) 1).trans (rfl : _ = some (.int .i64 p : Value))
                go_simp
                with_reducible rfl
              rotate_left
              · simp only [Act.put, List.setIfInBounds_toArray, List.set_cons_zero, List.set_cons_succ, i64_w, i32_w]
                rfl
              refine take_ (i := 6) (N := some 192) (v := ?_) (a' := ?_) #[true, true, true, false, true, true, true, false, false, false, false, false, false, false, false, false, false, false] rfl rfl (by kernel_rfl) (fun _ _ _ h => h) (Or.inl ⟨by rfl, ?_⟩) hHeld ?_ ?_
              rotate_left
              · intro w' hS
                have t1_ := (blk_cell (blk_below BT.out hS) 1).trans (rfl : _ = some (.int .i64 p : Value))
                go_simp
                with_reducible rfl
              rotate_left
              · simp only [Act.put, List.setIfInBounds_toArray, List.set_cons_zero, List.set_cons_succ, i64_w, i32_w]
                rfl
              refine pure_ (i := 7) (N := some 193) (v := ?_) (a' := ?_) #[true, true, true, false, true, true, true, true, false, false, false, false, false, false, false, false, false, false] rfl rfl (by kernel_rfl) (fun _ _ _ h => h) (Or.inl ⟨by rfl, ?_⟩) ?_ ?_
              rotate_left
              · intro w'
                go_simp
                with_reducible rfl
              rotate_left
              · simp only [Act.put, List.setIfInBounds_toArray, List.set_cons_zero, List.set_cons_succ, i64_w, i32_w]
                rfl
              refine one_ (i := 3) (N := some 189) #[true, true, true, true, true, true, true, true, false, false, false, false, false, false, false, false, false, false] rfl rfl (by kernel_rfl) (by simp) (fun K hK => ?_)
              refine goes_ Try.func14 (by kernel_rfl) rfl #[.agg #[.slice (some ad) l.length c0, .int .i64 p]] (by rfl) rfl rfl (by simp only [List.map_toArray, List.map_cons, List.map_nil]; rfl) ?_
              with_reducible refine (cut_Tasks.calls (some ad) c0 l p T _ (Kd.C_below HC.out (below_step HB.out hHeld)) HCC.out HTF.out).mono ?_
              rintro e_ wa ⟨rfl, hb_⟩
              refine ⟨_, rfl, ?_⟩
              replace hb_ := below_step hHeld hb_
              refine hK.out _ _ hb_ (fun _ => ?_)
              clear hK K hHeld
              refine norm_ (a' := ?_) ?_ ?_
              rotate_left
              · show Act.put _ (some 189) _ = _
                simp only [Act.put, List.setIfInBounds_toArray, List.set_cons_zero, List.set_cons_succ, i64_w, i32_w]
                rfl
              refine stronger_ (S' := fun w' => Below wa.heap.size wa w') (fun w' h => below_step hb_ h) (Below.refl _ _) ?_
              have hHeld := Below.refl wa.heap.size wa
              replace BT := Aside0.mk (blk_below BT.out hb_)
              replace HB := Aside0.mk (below_step HB.out hb_)
              clear hb_
              refine pure_ (i := 8) (N := some 194) (v := ?_) (a' := ?_) #[true, true, true, true, true, true, true, true, true, false, false, false, false, false, false, false, false, false] rfl rfl (by kernel_rfl) (fun _ _ _ h => h) (Or.inl ⟨by rfl, ?_⟩) ?_ ?_
              rotate_left
              · intro w'
                go_simp
                with_reducible rfl
              rotate_left
              · simp only [Act.put, List.setIfInBounds_toArray, List.set_cons_zero, List.set_cons_succ, i64_w, i32_w]
                rfl
              refine pure_ (i := 9) (N := some 195) (v := ?_) (a' := ?_) #[true, true, true, true, true, true, true, true, true, true, false, false, false, false, false, false, false, false] rfl rfl (by kernel_rfl) (fun _ _ _ h => h) (Or.inl ⟨by rfl, ?_⟩) ?_ ?_
              rotate_left
              · intro w'
                go_simp
                with_reducible rfl
              rotate_left
              · simp only [Act.put, List.setIfInBounds_toArray, List.set_cons_zero, List.set_cons_succ, i64_w, i32_w]
                rfl
              refine pure_ (i := 10) (N := some 196) (v := ?_) (a' := ?_) #[true, true, true, true, true, true, true, true, true, true, true, false, false, false, false, false, false, false] rfl rfl (by kernel_rfl) (fun _ _ _ h => h) (Or.inl ⟨by rfl, ?_⟩) ?_ ?_
              rotate_left
              · intro w'
                go_simp
                with_reducible rfl
              rotate_left
              · simp only [Act.put, List.setIfInBounds_toArray, List.set_cons_zero, List.set_cons_succ, i64_w, i32_w]
                rfl
              refine pure_ (i := 12) (N := some 198) (v := ?_) (a' := ?_) #[true, true, true, true, true, true, true, true, true, true, true, false, true, false, false, false, false, false] rfl rfl (by kernel_rfl) (fun _ _ _ h => h) (Or.inl ⟨by rfl, ?_⟩) ?_ ?_
              rotate_left
              · intro w'
                go_simp
                with_reducible rfl
              rotate_left
              · simp only [Act.put, List.setIfInBounds_toArray, List.set_cons_zero, List.set_cons_succ, i64_w, i32_w]
                rfl
              refine take_ (i := 11) (N := some 197) (v := ?_) (a' := ?_) #[true, true, true, true, true, true, true, true, true, true, true, true, true, false, false, false, false, false] rfl rfl (by kernel_rfl) (fun _ _ _ h => h) (Or.inl ⟨by rfl, ?_⟩) hHeld ?_ ?_
              rotate_left
              · intro w' hS
                have t0_ := (blk_cell (blk_below BT.out hS) 0).trans (rfl : _ = some (.slice (some ad) l.length c0 : Value))
                have t1_ := (blk_cell (blk_below BT.out hS) 1).trans (rfl : _ = some (.int .i64 p : Value))
                go_simp
                with_reducible rfl
              rotate_left
              · simp only [Act.put, List.setIfInBounds_toArray, List.set_cons_zero, List.set_cons_succ, i64_w, i32_w]
                rfl
              refine one_ (i := 13) (N := some 199) #[true, true, true, true, true, true, true, true, true, true, true, true, true, true, false, false, false, false] rfl rfl (by kernel_rfl) (by simp) (fun K hK => ?_)
              refine goes_ Try.func16 (by kernel_rfl) rfl #[.agg #[.slice (some ad) l.length c0, .int .i64 p], .int .i64 (M : Int)] (by rfl) rfl rfl (by simp only [List.map_toArray, List.map_cons, List.map_nil]; rfl) ?_
              with_reducible refine (cut_Inputs.calls (some ad) c0 l p (M : Int) [] _ (Kd.C_below HC.out (below_step HB.out hHeld)) HCC.out HIZ.out).mono ?_
              rintro e_ wb ⟨vz, rfl, hz_, hb_⟩
              refine ⟨_, rfl, ?_⟩
              replace hb_ := below_step hHeld hb_
              refine hK.out _ _ hb_ (fun _ => ?_)
              clear hK K hHeld
              refine norm_ (a' := ?_) ?_ ?_
              rotate_left
              · show Act.put _ (some 199) _ = _
                simp only [Act.put, List.setIfInBounds_toArray, List.set_cons_zero, List.set_cons_succ, i64_w, i32_w]
                rfl
              refine stronger_ (S' := fun w' => Below wb.heap.size wb w') (fun w' h => below_step hb_ h) (Below.refl _ _) ?_
              have hHeld := Below.refl wb.heap.size wb
              obtain ⟨Az, cz, rfl⟩ := Kd.R_slice hz_
              clear hz_
              replace BT := Aside0.mk (blk_below BT.out hb_)
              replace HB := Aside0.mk (below_step HB.out hb_)
              clear hb_
              refine pure_ (i := 14) (N := some 200) (v := ?_) (a' := ?_) #[true, true, true, true, true, true, true, true, true, true, true, true, true, true, true, false, false, false] rfl rfl (by kernel_rfl) (fun _ _ _ h => h) (Or.inl ⟨by rfl, ?_⟩) ?_ ?_
              rotate_left
              · intro w'
                go_simp
                with_reducible rfl
              rotate_left
              · simp only [Act.put, List.setIfInBounds_toArray, List.set_cons_zero, List.set_cons_succ, i64_w, i32_w]
                rfl
              refine pure_ (i := 15) (N := some 201) (v := ?_) (a' := ?_) #[true, true, true, true, true, true, true, true, true, true, true, true, true, true, true, true, false, false] rfl rfl (by kernel_rfl) (fun _ _ _ h => h) (Or.inl ⟨by rfl, ?_⟩) ?_ ?_
              rotate_left
              · intro w'
                go_simp
                with_reducible rfl
              rotate_left
              · simp only [Act.put, List.setIfInBounds_toArray, List.set_cons_zero, List.set_cons_succ, i64_w, i32_w]
                rfl
              refine pure_ (i := 16) (N := some 202) (v := ?_) (a' := ?_) #[true, true, true, true, true, true, true, true, true, true, true, true, true, true, true, true, true, false] rfl rfl (by kernel_rfl) (fun _ _ _ h => h) (Or.inl ⟨by rfl, ?_⟩) ?_ ?_
              rotate_left
              · intro w'
                go_simp
                with_reducible rfl
              rotate_left
              · simp only [Act.put, List.setIfInBounds_toArray, List.set_cons_zero, List.set_cons_succ, i64_w, i32_w]
                rfl
              refine pure_ (i := 17) (N := some 2) (v := ?_) (a' := ?_) #[true, true, true, true, true, true, true, true, true, true, true, true, true, true, true, true, true, true] rfl rfl (by kernel_rfl) (fun _ _ _ h => h) (Or.inl ⟨by rfl, ?_⟩) ?_ ?_
              rotate_left
              · intro w'
                go_simp
                with_reducible rfl
              rotate_left
              · simp only [Act.put, List.setIfInBounds_toArray, List.set_cons_zero, List.set_cons_succ, i64_w, i32_w]
                rfl
              refine done_ (by kernel_rfl) ?_

              go_wp2_with fail
              go_ret
              exact ⟨rfl, HB.out⟩
    · have hz : (ce != 0) = true := by simpa using he
      have HTB := Aside0.mk (tasks_bad (l := l) (p := p) (by rw [HCE.out]; exact he) HI.out)
      rw [if_neg he] at HP ⊢
      clear he
      go_wp2_with fail
      refine (cut_Tasks.calls A0 c0 l p _ _ (Kd.C_below HC.out HB.out) HCC.out HTB.out).mono ?_
      rintro e_ w7 ⟨rfl, hb_⟩
      clear t0_ t1_
      replace BT := Aside0.mk (blk_below BT.out hb_)
      replace HB := Aside0.mk (below_step HB.out hb_)
      clear hb_
      go_wp2_with fail
      go_ret
      exact ⟨rfl, HB.out⟩
end Go.Proofs.Ytlandgbhbfdekaa.Ex
