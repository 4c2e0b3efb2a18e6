/- The statement ExprDeep. -/
import Derived.Test.YtpcbcekfakjgkaaExRow
import Derived.Test.YtpcbcekfakjgkaaExShown
import Derived.Test.YtpcbcekfakjgkaaExRef
import Derived.Test.YtpcbcekfakjgkaaExCnt
namespace Go.Proofs.Ytpcbcekfakjgkaa.Ex
open Go Go.RowKit Go.Proofs.YtpcbcekfakjgkaaW.PrintWords Go.Proofs.YtpcbcekfakjgkaaW.PrintLast Go.Proofs.YtpcbcekfakjgkaaW.PrintMore Go.Proofs.Ytpcbcekfakjgkaa.Mono
set_option linter.unusedVariables false
set_option linter.unusedSimpArgs false
theorem stronger_ {P : Program} {ops : Array Oper} {Q : Exit → Act → World → Prop} {md : Region.Mode} {S : World → Prop} (S' : World → Prop) (hS : ∀ w, S' w → S w) : ∀ {fuel : Nat} {l : Array Bool} {a : Act} {w : World},
    S' w → wpAnyLast P md ops Q S' [] fuel l a w → wpAnyLast P md ops Q S [] fuel l a w
  | 0, _, _, _, _, h => h
  | fuel + 1, l, a, w, h0, h => ⟨h.1, fun i hi => wpOp_mono (fun a' w' h' => ⟨fun hn _ => hS w' (h'.1 hn h0), stronger_ S' hS (h'.1 (by simp) h0) h'.2⟩) (h.2 i hi)⟩
theorem wf_leaf : wfE ⟨3, 0, []⟩ := wfE.mk 3 0 [] (by unfold I64; decide) (by unfold I64; decide) (by simp) (by simp)
theorem wf_op {a b : E} (ha : wfE a) (hb : wfE b) : wfE ⟨6, 0, [a, b]⟩ := wfE.mk 6 0 [a, b] (by unfold I64; decide) (by unfold I64; decide) (by simp) (by simp [ha, hb])
theorem may_ER (v : Value) (e : E) (w : World) (h : ER w v e) : Calls Try.prog 14 #[v] w fun x w' => x = .returned (.bool (mayB e)) ∧ Below w.heap.size w w' := by
  obtain ⟨op, n, l⟩ := e
  obtain ⟨A, c, rfl, h2, h3⟩ := h
  obtain ⟨k, hk⟩ := Ev.rounds (May_ev ⟨op, n, l⟩)
  exact expr_May.calls k op n A c l _ w h3 h2 hk
theorem refmay_ER (v : Value) (e : E) (w : World) (h : ER w v e) : Calls Try.prog 15 #[v] w fun x w' => x = .returned (.bool (mayB e)) ∧ Below w.heap.size w w' := by
  obtain ⟨op, n, l⟩ := e
  obtain ⟨A, c, rfl, h2, h3⟩ := h
  obtain ⟨k, hk⟩ := Ev.rounds (refMay_ev ⟨op, n, l⟩)
  exact tidemillref04_May.calls k op n A c l _ w h3 h2 hk
theorem count_ER (v : Value) (e : E) (w : World) (h : ER w v e) (hw : wfE e) : Calls Try.prog 13 #[v] w fun x w' => ∃ c, x = .returned (.int .i64 c) ∧ (mayB e = true → c ≤ 64) ∧ Below w.heap.size w w' := by
  have hc : ∃ c, Ev (fun k => tidemillref04_Count.f k e.f0 e.f1 e.f2) c ∧ (mayB e = true → c ≤ 64) := by
    cases hm : mayB e with
    | true =>
      refine ⟨_, count_ok 16 (Nat.le_refl _) e (mayB_ok hm), fun _ => ?_⟩
      rw [mayB_iff, Bool.and_eq_true, decide_eq_true_eq] at hm
      omega
    | false =>
      obtain ⟨c, hc⟩ := count_any e hw
      exact ⟨c, hc, fun h => by cases h⟩
  obtain ⟨m, hm, h64⟩ := hc
  obtain ⟨op, n, l⟩ := e
  obtain ⟨A, c, rfl, h2, h3⟩ := h
  obtain ⟨k, hk⟩ := Ev.rounds hm
  refine (tidemillref04_Count.calls k op n A c l _ w h3 h2 hk).mono ?_
  rintro x w' ⟨rfl, hb⟩
  exact ⟨m, rfl, h64, hb⟩
/-- The sum's variable. -/
structure Al (w0 w : World) (g : Nat) (e : E) : Prop where
  ex : ∃ A c, w.heap[g]? = some (.cells #[.int .i64 e.f0, .int .i64 e.f1, .slice A e.f2.length c] 27 (0, 0)) ∧ EZ (fun k => k = g) w (.agg #[.int .i64 e.f0, .int .i64 e.f1, .slice A e.f2.length c]) e
  hg : w0.heap.size ≤ g
  bl : Below w0.heap.size w0 w
  wf : wfE e
theorem Al.next {w0 w : World} {g : Nat} {e : E} {A0 : Option Addr} {c0 : Nat} {x y : Int} {n0 : Nat} {A : Option Addr} {c : Nat} (hg : w0.heap.size ≤ g) (bl : Below w0.heap.size w0 w) (hb : w.heap[g]? = some (.cells #[.int .i64 x, .int .i64 y, .slice A0 n0 c0] 27 (0, 0))) (hw : wfE e) (hz : EZ (fun k => k = g) w (.agg #[.int .i64 e.f0, .int .i64 e.f1, .slice A e.f2.length c]) e) :
    Al w0 (((w.setCell ⟨g, 0, none⟩ (.int .i64 e.f0)).setCell ⟨g, 1, none⟩ (.int .i64 e.f1)).setCell ⟨g, 2, none⟩ (.slice A e.f2.length c)) g e :=
  ⟨⟨A, c, blk_put (blk_set (blk_set hb 0 _) 1 _) 2 _ rfl, ((hz.set_ 0 _).set_ 1 _).set_ 2 _⟩, hg, below_set (below_set (below_set bl hg) hg) hg, hw⟩
set_option maxHeartbeats 8000000 in
set_option maxRecDepth 100000 in
theorem deep_ok (n m : Int) (w : World) (hn : 0 ≤ n ∧ n ≤ 255) (hm : 0 ≤ m ∧ m ≤ 255) : Calls Try.prog 4 #[.int .u8 n, .int .u8 m] w fun e w' => e = .returned (.bool true) ∧ Below w.heap.size w w' := by
  have HB := Aside0.mk (Below.refl w.heap.size w)
  obtain ⟨K, HK⟩ : ∃ K : Nat, Aside0 ((K : Int) = n % 24) := ⟨(n % 24).toNat, ⟨by omega⟩⟩
  obtain ⟨M, HM⟩ : ∃ M : Nat, Aside0 ((M : Int) = m % 40) := ⟨(m % 40).toNat, ⟨by omega⟩⟩
  have hk24 : K < 24 := by have := HK.out; omega
  have hm40 : M < 40 := by have := HM.out; omega
  have hw1 : wrap64 (n.tmod 24) = (K : Int) := by rw [HK.out, Int.tmod_eq_emod_of_nonneg hn.1]; unfold wrap64; omega
  have hw2 : wrap64 (m.tmod 40) = (M : Int) := by rw [HM.out, Int.tmod_eq_emod_of_nonneg hm.1]; unfold wrap64; omega
  clear hn hm
  go_enter Try.func4, Try.ntmps4
  go_wp2_with fail
  refine (tidemilllaw04_shown.calls true _ rfl).mono ?_
  rintro e w1 ⟨rfl, hb_⟩
  replace HB := Aside0.mk (below_step HB.out hb_)
  clear hb_
  go_upto_region 3 with fail
  have HC : Aside0 (Ch w (w1.alloc (.cells #[.int .i64 3, .int .i64 0, .slice none 0 0] 27)) w1.heap.size 0) := ⟨⟨⟨none, 0, blk_new _ _, EZ.leaf _ _ 3 0⟩, HB.out.size, below_alloc HB.out _⟩⟩
  generalize w1.alloc (.cells #[.int .i64 3, .int .i64 0, .slice none 0 0] 27) = w2 at HC ⊢
  clear HB
  generalize w1.heap.size = g6 at HC ⊢
  go_wp2_with fail
  go_loopw [8] (fun v8 wr => ∃ i : Nat, i ≤ K ∧ v8 = .int .i64 (i : Int) ∧ Aside0 (Ch w wr g6 i)) (fun v8 _ => K - (intOf v8).toNat)
  case atStart => exact ⟨0, by omega, rfl, HC⟩
  case round =>
    clear HC
    obtain ⟨i, hi, rfl, HC⟩ := hrel
    by_cases hlt : i < K
    · have h1 : decide ((i : Int) < (K : Int)) = true := by simp; omega
      have h1b : decide (i < K) = true := by simp; omega
      obtain ⟨A, c, hb_, hz_⟩ := HC.out.ex
      have HZ := Aside0.mk hz_
      have HBK := Aside0.mk hb_
      have HG := Aside0.mk HC.out.hg
      have HBL := Aside0.mk HC.out.bl
      have x0_ := (blk_cell hb_ 0).trans (rfl : _ = some (.int .i64 (chE i).f0 : Value))
      have x1_ := (blk_cell hb_ 1).trans (rfl : _ = some (.int .i64 (chE i).f1 : Value))
      have x2_ := (blk_cell hb_ 2).trans (rfl : _ = some (.slice A (chE i).f2.length c : Value))
      have hb2_ := blk_alloc hb_ (.cells #[.int .i64 (chE i).f0, .int .i64 (chE i).f1, .slice A (chE i).f2.length c] 27)
      have z0_ := (blk_cell hb2_ 0).trans (rfl : _ = some (.int .i64 (chE i).f0 : Value))
      have z1_ := (blk_cell hb2_ 1).trans (rfl : _ = some (.int .i64 (chE i).f1 : Value))
      have z2_ := (blk_cell hb2_ 2).trans (rfl : _ = some (.slice A (chE i).f2.length c : Value))
      have y0_ := blk_frozen hb2_ 0
      have y1_ := blk_frozen hb2_ 1
      have y2_ := blk_frozen hb2_ 2
      clear hb2_
      clear HC hb_ hz_
      go_wp2_with fail
      go_roundw
      case rel => exact ⟨i + 1, by omega, by go_num, ⟨Ch.next HG.out HBL.out HBK.out HZ.out⟩⟩
      case measure => simp [intOf]; omega
    · obtain rfl : i = K := by omega
      clear hi hlt
      go_upto_region 9 with fail
      have HW1 := Aside0.mk hw1
      clear hw1
      have HC2 := Aside0.mk (HC.out.step (below_alloc (Below.refl _ _) (.cells #[.int .i64 3, .int .i64 0, .slice none 0 0] 27)))
      have HF := Aside0.mk (blk_new wr (.cells #[.int .i64 3, .int .i64 0, .slice none 0 0] 27))
      generalize wr.alloc (.cells #[.int .i64 3, .int .i64 0, .slice none 0 0] 27) = wS at HC2 HF ⊢
      clear HC
      generalize wr.heap.size = g9 at HF ⊢
      have y0_ := (blk_cell HF.out 0).trans (rfl : _ = some (.int .i64 3 : Value))
      have y1_ := (blk_cell HF.out 1).trans (rfl : _ = some (.int .i64 0 : Value))
      have y2_ := (blk_cell HF.out 2).trans (rfl : _ = some (.slice none 0 0 : Value))
      go_upto_region 11 with fail
      clear y0_ y1_ y2_
      have HR := Aside0.mk (RW.new wS ⟨3, 0, []⟩ none 0 (EZ.leaf _ _ 3 0) wf_leaf)
      simp only [List.length_nil] at HR
      generalize wS.alloc (.cells #[.int .i64 3, .int .i64 0, .slice none 0 0] 27) = w5 at HR ⊢
      obtain ⟨b5, HB5⟩ : ∃ b, Aside0 (wS.heap.size = b) := ⟨_, ⟨rfl⟩⟩
      have HR5 : Aside0 (RW wS w5 b5 0 1 1 [⟨3, 0, []⟩]) := ⟨by rw [← HB5.out]; exact HR.out⟩
      rw [HB5.out]
      clear HR HB5
      go_wp2_with fail
      go_loopw [11, 12] (fun v11 v12 wr => ∃ (j b off cap N : Nat) (L : List E), j ≤ M ∧ 1 ≤ N ∧ N ≤ 1 + 2 * j ∧ v12 = .int .i64 (j : Int) ∧ v11 = .slice (some ⟨b, off, none⟩) N cap ∧ Aside0 (RW wS wr b off cap N L)) (fun _ v12 _ => M - (intOf v12).toNat)
      case atStart => exact ⟨0, b5, 0, 1, 1, _, by omega, by omega, by omega, rfl, rfl, HR5⟩
      case round =>
        clear HR5
        obtain ⟨j, b, off, cap, N, L, hj, hN1, hN2, rfl, rfl, HR⟩ := hrel
        by_cases hlt : j < M
        · have h1 : decide ((j : Int) < (M : Int)) = true := by simp; omega
          have h1b : decide (j < M) = true := by simp; omega
          have hNp : 0 < N := hN1
          have HL := Aside0.mk HR.out.len
          obtain ⟨x, L', hL⟩ : ∃ x L', L = x :: L' := by
            cases L with
            | nil => have := HL.out; simp at this; omega
            | cons x L' => exact ⟨x, L', rfl⟩
          subst hL
          clear HL
          obtain ⟨N', hN'⟩ : ∃ N', N = N' + 1 := ⟨N - 1, by omega⟩
          subst hN'
          obtain ⟨A1, c1, x0_, x1_, x2_, hz_⟩ := HR.out.at 0 x rfl
          simp only [Nat.zero_mul, Nat.add_zero] at x0_ x1_ x2_
          have HZ := Aside0.mk hz_
          have HX0 := Aside0.mk x0_
          have HX1 := Aside0.mk x1_
          have HX2 := Aside0.mk x2_
          clear hz_
          go_upto_region 15 with fail
          have HA := Aside0.mk (blk_new wr (.cells #[.int .i64 x.f0, .int .i64 x.f1, .slice A1 x.f2.length c1] 27))
          have HR6 := Aside0.mk (HR.out.below (below_alloc (Below.refl _ _) (.cells #[.int .i64 x.f0, .int .i64 x.f1, .slice A1 x.f2.length c1] 27)))
          have HZ6 := Aside0.mk (HZ.out.below (below_alloc (Below.refl _ _) (.cells #[.int .i64 x.f0, .int .i64 x.f1, .slice A1 x.f2.length c1] 27)))
          generalize wr.alloc (.cells #[.int .i64 x.f0, .int .i64 x.f1, .slice A1 x.f2.length c1] 27) = w6 at HA HR6 HZ6 ⊢
          have HWX := Aside0.mk (HR.out.hw x (by simp))
          have hle := HR.out.le
          clear HR HZ x0_ x1_ x2_ HX0 HX1 HX2
          generalize wr.heap.size = g13 at HA ⊢
          obtain ⟨off2, HO2⟩ : ∃ y, Aside0 ((if cap - 1 = 0 then off else off + 3) = y) := ⟨_, ⟨rfl⟩⟩
          have HLT : Aside0 (∀ k, k = b → k < w6.drew.heap.size) := ⟨fun k hk => by rw [hk]; exact HR6.out.lt⟩
          have hi1 : (1 : Int) ≤ (N' : Int) + 1 := by omega
          have hi2 : (if cap = 1 then some (⟨b, off, none⟩ : Addr) else some ⟨b, off + 3, none⟩) = some ⟨b, off2, none⟩ := by
            rw [← HO2.out]
            by_cases h : cap = 1
            · rw [if_pos h, if_pos (by omega)]
            · rw [if_neg h, if_neg (by omega)]
          refine start_ (n := 8) (S := fun w' => Below w6.heap.size w6 w') (ds := [6]) #[false, false, false, false, false, false, false, false] (by kernel_rfl) rfl rfl (below_drew (Below.refl _ _)) (fun hHeld => ?_)
          refine pure_ (i := 0) (N := some 44) (v := ?_) (a' := ?_) #[true, false, false, false, false, false, false, false] rfl rfl (by kernel_rfl) (fun _ _ _ h => h) (Or.inl ⟨by rfl, ?_⟩) ?_ ?_
          rotate_left
          · intro w'
            go_simp
            with_reducible rfl
          rotate_left
          · simp only [Act.put, List.setIfInBounds_toArray, List.set_cons_zero, List.set_cons_succ, i64_w, i32_w]
            rfl
          refine pure_ (i := 1) (N := some 45) (v := ?_) (a' := ?_) #[true, true, false, false, false, false, false, false] rfl rfl (by kernel_rfl) (fun _ _ _ h => h) (Or.inl ⟨by rfl, ?_⟩) ?_ ?_
          rotate_left
          · intro w'
            go_simp
            with_reducible rfl
          rotate_left
          · simp only [Act.put, List.setIfInBounds_toArray, List.set_cons_zero, List.set_cons_succ, i64_w, i32_w]
            rfl
          refine take_ (i := 2) (N := some 46) (v := ?_) (a' := ?_) #[true, true, true, false, false, false, false, false] rfl rfl (by kernel_rfl) (fun _ _ _ h => h) (Or.inl ⟨by rfl, ?_⟩) hHeld ?_ ?_
          rotate_left
          · intro w' hS
            have x0_ := (blk_cell (blk_below HA.out hS) 0).trans (rfl : _ = some (.int .i64 x.f0 : Value))
            have x1_ := (blk_cell (blk_below HA.out hS) 1).trans (rfl : _ = some (.int .i64 x.f1 : Value))
            have x2_ := (blk_cell (blk_below HA.out hS) 2).trans (rfl : _ = some (.slice A1 x.f2.length c1 : Value))
            go_simp
            with_reducible rfl
          rotate_left
          · simp only [Act.put, List.setIfInBounds_toArray, List.set_cons_zero, List.set_cons_succ, i64_w, i32_w]
            rfl
          refine take_ (i := 3) (N := some 47) (v := ?_) (a' := ?_) #[true, true, true, true, false, false, false, false] rfl rfl (by kernel_rfl) (fun _ _ _ h => h) (Or.inl ⟨by rfl, ?_⟩) hHeld ?_ ?_
          rotate_left
          · intro w' hS
            have y0_ := (blk_cell (blk_below HF.out (below_step HR6.out.bl hS)) 0).trans (rfl : _ = some (.int .i64 3 : Value))
            have y1_ := (blk_cell (blk_below HF.out (below_step HR6.out.bl hS)) 1).trans (rfl : _ = some (.int .i64 0 : Value))
            have y2_ := (blk_cell (blk_below HF.out (below_step HR6.out.bl hS)) 2).trans (rfl : _ = some (.slice none 0 0 : Value))
            go_simp
            with_reducible rfl
          rotate_left
          · simp only [Act.put, List.setIfInBounds_toArray, List.set_cons_zero, List.set_cons_succ, i64_w, i32_w]
            rfl
          refine one_ (i := 4) (N := some 48) #[true, true, true, true, true, false, false, false] rfl rfl (by kernel_rfl) (by simp) (fun K hK => ?_)
          refine goes_ Try.func11 (by kernel_rfl) rfl #[.int .i64 6, .agg #[.int .i64 x.f0, .int .i64 x.f1, .slice A1 x.f2.length c1], .agg #[.int .i64 3, .int .i64 0, .slice none 0 0]] (by rfl) rfl rfl (by simp only [List.map_toArray, List.map_cons, List.map_nil]; rfl) ?_
          with_reducible refine (two_EZ (fun k => k = b) 6 _ _ x ⟨3, 0, []⟩ w6.drew (HZ6.out.below (below_drew (Below.refl _ _))) (EZ.leaf _ _ 3 0) HLT.out).mono ?_
          rintro e w7 ⟨v, rfl, k_, hb_⟩
          refine ⟨_, rfl, ?_⟩
          have kz_ := k_
          obtain ⟨A2, c2, e_, l2_, r2_⟩ := k_.er
          subst e_
          clear k_ l2_ r2_
          replace hb_ := below_step hHeld hb_
          refine hK.out _ _ hb_ (fun _ => ?_)
          clear hK K
          refine norm_ (a' := ?_) ?_ ?_
          rotate_left
          · show Act.put _ (some 48) _ = _
            simp only [Act.put, List.setIfInBounds_toArray, List.set_cons_zero, List.set_cons_succ, i64_w, i32_w]
            rfl
          have HR7 := Aside0.mk (HR6.out.below hb_)
          have HZ7 := Aside0.mk kz_
          clear kz_
          replace hHeld := hb_
          clear hb_
          refine one_ (i := 5) (N := some 49) #[true, true, true, true, true, true, false, false] rfl rfl (by kernel_rfl) (by simp) (fun K hK => ?_)
          refine value_ (w1 := w7.alloc (.cells #[.int .i64 6, .int .i64 0, .slice A2 2 c2] 27)) (v := .slice (some ⟨w7.heap.size, 0, none⟩) 1 1) (by rfl) rfl (by first | (go_simp; done) | (go_simp; rfl)) ?_
          have hb_ := below_alloc (Below.refl w7.heap.size w7) (.cells #[.int .i64 6, .int .i64 0, .slice A2 2 c2] 27)
          obtain ⟨w8, hw8⟩ : ∃ w8, w7.alloc (.cells #[.int .i64 6, .int .i64 0, .slice A2 2 c2] 27) = w8 := ⟨_, rfl⟩
          rw [hw8] at hb_ ⊢
          replace hb_ := below_step hHeld hb_
          refine hK.out _ _ hb_ (fun _ => ?_)
          clear hK K
          refine norm_ (a' := ?_) ?_ ?_
          rotate_left
          · show Act.put _ (some 49) _ = _
            simp only [Act.put, List.setIfInBounds_toArray, List.set_cons_zero, List.set_cons_succ, i64_w, i32_w]
            rfl
          replace hHeld := hb_
          clear hb_
          refine last_ (i := 6) (N := some 50) #[true, true, true, true, true, true, true, false] rfl rfl (by kernel_rfl) (by simp) (fun K hK => ?_)
          obtain ⟨b9, off9, cap9, w9, hrun_, hr_⟩ := HR7.out.tail.app (by omega) ⟨6, 0, [x, ⟨3, 0, []⟩]⟩ A2 c2 HZ7.out (wf_op HWX.out wf_leaf) 25
          rw [HO2.out] at hrun_
          refine step_run (by rfl) (.tmp 45) (.tmp 49) 25 rfl rfl rfl rfl (by rw [← hw8]; exact hrun_) ?_
          clear hrun_ hw8
          refine hK.out _ _ ?_
          clear hK K
          refine norm_ (a' := ?_) ?_ ?_
          rotate_left
          · show Act.put _ (some 50) _ = _
            simp only [Act.put, List.setIfInBounds_toArray, List.set_cons_zero, List.set_cons_succ, i64_w, i32_w]
            rfl
          refine pure_ (i := 7) (N := some 11) (v := ?_) (a' := ?_) #[true, true, true, true, true, true, true, true] rfl rfl (by kernel_rfl) (fun _ _ _ h => h) (Or.inl ⟨by rfl, ?_⟩) ?_ ?_
          rotate_left
          · intro w'
            go_simp
            with_reducible rfl
          rotate_left
          · simp only [Act.put, List.setIfInBounds_toArray, List.set_cons_zero, List.set_cons_succ, i64_w, i32_w]
            rfl
          refine done_ (by kernel_rfl) ?_

          have HR9 := Aside0.mk hr_
          clear hr_ hi1 hi2 HLT HR7 HZ7 HZ6 HA HWX hHeld
          go_upto_region 17 with fail
          · have y0_ := (blk_cell (blk_below HF.out HR9.out.bl) 0).trans (rfl : _ = some (.int .i64 3 : Value))
            have y1_ := (blk_cell (blk_below HF.out HR9.out.bl) 1).trans (rfl : _ = some (.int .i64 0 : Value))
            have y2_ := (blk_cell (blk_below HF.out HR9.out.bl) 2).trans (rfl : _ = some (.slice none 0 0 : Value))
            go_wp2_with ((with_reducible refine gate_builtin (b := .append) (xs := #[.tmp 54, .tmp 56]) rfl ?_); at_builtin; obtain ⟨b10, off10, cap10, w10, hrun_, hr_⟩ := HR9.out.app (by omega) ⟨3, 0, []⟩ none 0 (EZ.leaf _ _ 3 0) wf_leaf 25; refine list_run rfl (.tmp 54) (.tmp 56) 25 rfl rfl rfl hrun_ ?_; have HR10 := Aside0.mk hr_; clear hr_ hrun_ y0_ y1_ y2_)
            go_roundw
            case rel => exact ⟨j + 1, b10, off10, cap10, N' + 1 + 1, _, by omega, by omega, by omega, by go_num, rfl, HR10⟩
            case measure => simp [intOf]; omega
          · go_wp2_with fail
            go_roundw
            case rel => exact ⟨j + 1, b9, off9, cap9, N' + 1, _, by omega, by omega, by omega, by go_num, rfl, HR9⟩
            case measure => simp [intOf]; omega
        · obtain rfl : j = M := by omega
          clear hj hlt
          obtain ⟨wT, hwT⟩ : ∃ y, y = wr := ⟨_, rfl⟩
          subst hwT
          have hNp : 0 < N := hN1
          obtain ⟨x, hx0⟩ : ∃ x, L[0]? = some x := ⟨_, List.getElem?_eq_getElem (by rw [HR.out.len]; exact hNp)⟩
          have HWX := Aside0.mk (HR.out.hw x (List.mem_of_getElem? hx0))
          obtain ⟨A1, c1, x0_, x1_, x2_, hz_⟩ := HR.out.at 0 x hx0
          simp only [Nat.zero_mul, Nat.add_zero] at x0_ x1_ x2_
          have HZ := Aside0.mk hz_
          have HX0 := Aside0.mk x0_
          have HX1 := Aside0.mk x1_
          have HX2 := Aside0.mk x2_
          clear hz_ hx0
          go_upto_region 19 with fail
          have HAl : Aside0 (Al wT (wT.alloc (.cells #[.int .i64 x.f0, .int .i64 x.f1, .slice A1 x.f2.length c1] 27)) wT.heap.size x) :=
            ⟨⟨A1, c1, blk_new _ _, HZ.out.turn (below_alloc (Below.refl _ _) _) (fun k hk => Nat.le_of_eq (show k = wT.heap.size from hk).symm)⟩, Nat.le_refl _, below_alloc (Below.refl _ _) _, HWX.out⟩
          generalize wT.alloc (.cells #[.int .i64 x.f0, .int .i64 x.f1, .slice A1 x.f2.length c1] 27) = w6 at HAl ⊢
          obtain ⟨g14, HG14⟩ : ∃ g, Aside0 (wT.heap.size = g) := ⟨_, ⟨rfl⟩⟩
          rw [HG14.out] at HAl ⊢
          clear x0_ x1_ x2_ HX0 HX1 HX2 HZ HWX
          go_wp2_with fail
          go_loopw [15] (fun v15 w6 => ∃ (q : Nat) (e : E), 1 ≤ q ∧ q ≤ N ∧ v15 = .int .i64 (q : Int) ∧ Aside0 (Al wT w6 g14 e)) (fun v15 _ => N - (intOf v15).toNat)
          case atStart => exact ⟨1, x, by omega, by omega, rfl, HAl⟩
          case round =>
            clear HAl
            obtain ⟨q, e, hq1, hq2, rfl, HAl⟩ := hrel
            by_cases hlt : q < N
            · have h1 : decide ((q : Int) < (N : Int)) = true := by simp; omega
              have h1b : decide (q < N) = true := by simp; omega
              obtain ⟨y, hy⟩ : ∃ y, L[q]? = some y := ⟨_, List.getElem?_eq_getElem (by rw [HR.out.len]; exact hlt)⟩
              obtain ⟨A4, c4, q0_, q1_, q2_, hz4_⟩ := HR.out.at q y hy
              have HWY := Aside0.mk (HR.out.hw y (List.mem_of_getElem? hy))
              have HQ0 := Aside0.mk (pw_cell_below HAl.out.bl q0_)
              have HQ1 := Aside0.mk (pw_cell_below HAl.out.bl q1_)
              have HQ2 := Aside0.mk (pw_cell_below HAl.out.bl q2_)
              have HZ4 : Aside0 (EZ (fun k => k = g14) wr (.agg #[.int .i64 y.f0, .int .i64 y.f1, .slice A4 y.f2.length c4]) y) := ⟨hz4_.turn HAl.out.bl (fun k hk => by rw [show k = g14 from hk]; exact HAl.out.hg)⟩
              obtain ⟨A3, c3, hb3_, hz3_⟩ := HAl.out.ex
              have HB3 := Aside0.mk hb3_
              have HZ3 := Aside0.mk hz3_
              have HWE := Aside0.mk HAl.out.wf
              have HBL3 := Aside0.mk HAl.out.bl
              have HG3 := Aside0.mk HAl.out.hg
              have HLT : Aside0 (∀ k, k = g14 → k < wr.drew.heap.size) := ⟨fun k hk => by rw [hk]; exact blk_lt hb3_⟩
              clear hb3_ hz3_ q0_ q1_ q2_ hz4_ hy HAl
              go_upto_region 22 with fail
              refine start_ (n := 7) (S := fun w' => Below wr.heap.size wr w') (ds := [6]) #[false, false, false, false, false, false, false] (by kernel_rfl) rfl rfl (below_drew (Below.refl _ _)) (fun hHeld => ?_)
              refine pure_ (i := 1) (N := some 68) (v := ?_) (a' := ?_) #[false, true, false, false, false, false, false] rfl rfl (by kernel_rfl) (fun _ _ _ h => h) (Or.inl ⟨by rfl, ?_⟩) ?_ ?_
              rotate_left
              · intro w'
                go_simp
                with_reducible rfl
              rotate_left
              · simp only [Act.put, List.setIfInBounds_toArray, List.set_cons_zero, List.set_cons_succ, i64_w, i32_w]
                rfl
              refine pure_ (i := 2) (N := some 69) (v := ?_) (a' := ?_) #[false, true, true, false, false, false, false] rfl rfl (by kernel_rfl) (fun _ _ _ h => h) (Or.inl ⟨by rfl, ?_⟩) ?_ ?_
              rotate_left
              · intro w'
                go_simp
                with_reducible rfl
              rotate_left
              · simp only [Act.put, List.setIfInBounds_toArray, List.set_cons_zero, List.set_cons_succ, i64_w, i32_w]
                rfl
              refine pure_ (i := 3) (N := some 70) (v := ?_) (a' := ?_) #[false, true, true, true, false, false, false] rfl rfl (by kernel_rfl) (fun _ _ _ h => h) (Or.inl ⟨by rfl, ?_⟩) ?_ ?_
              rotate_left
              · intro w'
                go_simp
                with_reducible rfl
              rotate_left
              · simp only [Act.put, List.setIfInBounds_toArray, List.set_cons_zero, List.set_cons_succ, i64_w, i32_w]
                rfl
              refine take_ (i := 0) (N := some 67) (v := ?_) (a' := ?_) #[true, true, true, true, false, false, false] rfl rfl (by kernel_rfl) (fun _ _ _ h => h) (Or.inl ⟨by rfl, ?_⟩) hHeld ?_ ?_
              rotate_left
              · intro w' hS
                have hb30_ := (blk_cell (blk_below HB3.out hS) 0).trans (rfl : _ = some (.int .i64 e.f0 : Value))
                have hb31_ := (blk_cell (blk_below HB3.out hS) 1).trans (rfl : _ = some (.int .i64 e.f1 : Value))
                have hb32_ := (blk_cell (blk_below HB3.out hS) 2).trans (rfl : _ = some (.slice A3 e.f2.length c3 : Value))
                go_simp
                with_reducible rfl
              rotate_left
              · simp only [Act.put, List.setIfInBounds_toArray, List.set_cons_zero, List.set_cons_succ, i64_w, i32_w]
                rfl
              refine take_ (i := 4) (N := some 71) (v := ?_) (a' := ?_) #[true, true, true, true, true, false, false] rfl rfl (by kernel_rfl) (fun _ _ _ h => h) (Or.inl ⟨by rfl, ?_⟩) hHeld ?_ ?_
              rotate_left
              · intro w' hS
                have z0_ := pw_cell_below hS HQ0.out
                have z1_ := pw_cell_below hS HQ1.out
                have z2_ := pw_cell_below hS HQ2.out
                go_simp
                with_reducible rfl
              rotate_left
              · simp only [Act.put, List.setIfInBounds_toArray, List.set_cons_zero, List.set_cons_succ, i64_w, i32_w]
                rfl
              refine one_ (i := 5) (N := some 72) #[true, true, true, true, true, true, false] rfl rfl (by kernel_rfl) (by simp) (fun K hK => ?_)
              refine goes_ Try.func11 (by kernel_rfl) rfl #[.int .i64 6, .agg #[.int .i64 e.f0, .int .i64 e.f1, .slice A3 e.f2.length c3], .agg #[.int .i64 y.f0, .int .i64 y.f1, .slice A4 y.f2.length c4]] (by rfl) rfl rfl (by simp only [List.map_toArray, List.map_cons, List.map_nil]; rfl) ?_
              with_reducible refine (two_EZ (fun k => k = g14) 6 _ _ e y wr.drew (HZ3.out.below (below_drew (Below.refl _ _))) (HZ4.out.below (below_drew (Below.refl _ _))) HLT.out).mono ?_
              rintro e w7 ⟨v, rfl, k_, hb_⟩
              refine ⟨_, rfl, ?_⟩
              have kz_ := k_
              obtain ⟨A5, c5, e_, l2_, r2_⟩ := k_.er
              subst e_
              clear k_ l2_ r2_
              replace hb_ := below_step hHeld hb_
              refine hK.out _ _ hb_ (fun _ => ?_)
              clear hK K
              refine norm_ (a' := ?_) ?_ ?_
              rotate_left
              · show Act.put _ (some 72) _ = _
                simp only [Act.put, List.setIfInBounds_toArray, List.set_cons_zero, List.set_cons_succ, i64_w, i32_w]
                rfl
              have HB7 := Aside0.mk (blk_below HB3.out hb_)
              have HBL7 := Aside0.mk (below_step HBL3.out hb_)
              have HZ7 := Aside0.mk kz_
              clear kz_
              replace hHeld := hb_
              clear hb_
              refine last_ (i := 6) (N := none) #[true, true, true, true, true, true, true] rfl rfl (by kernel_rfl) (by simp) (fun K hK => ?_)
              have x0_ := (blk_cell HB7.out 0).trans rfl
              have x1_ := (blk_cell HB7.out 1).trans rfl
              have x2_ := (blk_cell HB7.out 2).trans rfl
              have f0_ := blk_frozen HB7.out 0
              have f1_ := blk_frozen HB7.out 1
              have f2_ := blk_frozen HB7.out 2
              refine skip_ (w1 := ((w7.setCell ⟨g14, 0, none⟩ (.int .i64 6)).setCell ⟨g14, 1, none⟩ (.int .i64 0)).setCell ⟨g14, 2, none⟩ (.slice A5 2 c5)) (by rfl) rfl (by first | (go_simp; done) | (go_simp; rfl)) ?_
              clear x0_ x1_ x2_ f0_ f1_ f2_
              refine hK.out _ _ ?_
              clear hK K
              refine done_ (by kernel_rfl) ?_

              have HAl : Aside0 (Al wT (((w7.setCell ⟨g14, 0, none⟩ (.int .i64 6)).setCell ⟨g14, 1, none⟩ (.int .i64 0)).setCell ⟨g14, 2, none⟩ (.slice A5 2 c5)) g14 ⟨6, 0, [e, y]⟩) := ⟨Al.next (e := ⟨6, 0, [e, y]⟩) HG3.out HBL7.out HB7.out (wf_op HWE.out HWY.out) HZ7.out⟩
              generalize ((w7.setCell ⟨g14, 0, none⟩ (.int .i64 6)).setCell ⟨g14, 1, none⟩ (.int .i64 0)).setCell ⟨g14, 2, none⟩ (.slice A5 2 c5) = w8 at HAl ⊢
              clear hHeld
              go_wp2_with fail
              go_roundw
              case rel => exact ⟨q + 1, _, by omega, by omega, by go_num, HAl⟩
              case measure => simp [intOf]; omega
            · obtain rfl : q = N := by omega
              clear hq1 hq2 hlt
              obtain ⟨A3, c3, hb3_, hz3_⟩ := HAl.out.ex
              have HB14 := Aside0.mk hb3_
              have HEA := Aside0.mk hz3_.er
              have HWE := Aside0.mk HAl.out.wf
              have HC7 := Aside0.mk (HC2.out.step (below_step HR.out.bl HAl.out.bl))
              clear HAl hb3_ hz3_ HR HC2
              obtain ⟨A6, c6, hb6_, hz6_⟩ := HC7.out.ex
              have HB6 := Aside0.mk hb6_
              have HEC := Aside0.mk hz6_.er
              have HB := Aside0.mk HC7.out.bl
              clear hb6_ hz6_ HC7
              have x0_ := (blk_cell HB14.out 0).trans (rfl : _ = some (.int .i64 e.f0 : Value))
              have x1_ := (blk_cell HB14.out 1).trans (rfl : _ = some (.int .i64 e.f1 : Value))
              have x2_ := (blk_cell HB14.out 2).trans (rfl : _ = some (.slice A3 e.f2.length c3 : Value))
              go_wp2_with fail
              refine (count_ER _ e _ HEA.out HWE.out).mono ?_
              rintro e_ w8 ⟨cn, rfl, h64_, hb_⟩
              have H64 := Aside0.mk h64_
              clear x0_ x1_ x2_ h64_
              replace HB6 := Aside0.mk (blk_below HB6.out hb_)
              replace HB14 := Aside0.mk (blk_below HB14.out hb_)
              replace HEC := Aside0.mk (HEC.out.below hb_)
              replace HEA := Aside0.mk (HEA.out.below hb_)
              replace HB := Aside0.mk (below_step HB.out hb_)
              clear hb_
              have x0_ := (blk_cell HB6.out 0).trans (rfl : _ = some (.int .i64 (chE i).f0 : Value))
              have x1_ := (blk_cell HB6.out 1).trans (rfl : _ = some (.int .i64 (chE i).f1 : Value))
              have x2_ := (blk_cell HB6.out 2).trans (rfl : _ = some (.slice A6 (chE i).f2.length c6 : Value))
              obtain ⟨p, HP⟩ : ∃ p, Aside0 (evalOf (chE i) 0 0 0 0 = p) := ⟨_, ⟨rfl⟩⟩
              have hev := eval_ch i hk24
              rw [HP.out] at hev
              obtain ⟨p1, p2⟩ := p
              have HEV := Aside0.mk hev
              clear hev
              go_wp2_with fail
              refine (eval_ER _ (chE i) 0 0 0 0 (p1, p2) _ HEC.out HP.out).mono ?_
              rintro e_ w7 ⟨rfl, hb_⟩
              clear x0_ x1_ x2_
              replace HB6 := Aside0.mk (blk_below HB6.out hb_)
              replace HB14 := Aside0.mk (blk_below HB14.out hb_)
              replace HEC := Aside0.mk (HEC.out.below hb_)
              replace HEA := Aside0.mk (HEA.out.below hb_)
              replace HB := Aside0.mk (below_step HB.out hb_)
              clear hb_
              have hw1 := HW1.out
              obtain ⟨d, HD⟩ : ∃ d, Aside0 (decide (i < 16) = d) := ⟨_, ⟨rfl⟩⟩
              have HMC : Aside0 (mayB (chE i) = d) := ⟨(may_ch i hk24).trans HD.out⟩
              have hd1 : decide (i < 16) = d := HD.out
              have hd2 : decide ((i : Int) < 16) = d := by rw [← HD.out]; exact decide_eq_decide.2 (by omega)
              have hd3 : (p2 == 0) = d := HEV.out.trans HD.out
              go_upto_region 25 with fail
              clear hw1
              obtain ⟨mb, HME⟩ : ∃ b, Aside0 (mayB e = b) := ⟨_, ⟨rfl⟩⟩
              cases mb with
              | true =>
                have hc1 : cn ≤ 64 := H64.out HME.out
                have hc2 : decide (cn ≤ 64) = true := by simpa using hc1
                refine start_ (n := 32) (S := fun w' => Below w7.heap.size w7 w') (ds := []) #[false, false, false, false, false, false, false, false, false, false, false, false, false, false, false, false, false, false, false, false, false, false, false, false, false, false, false, false, false, false, false, false] (by kernel_rfl) rfl rfl (below_drew (Below.refl _ _)) (fun hHeld => ?_)
                refine pure_ (i := 0) (N := some 81) (v := ?_) (a' := ?_) #[true, false, false, false, false, false, false, false, false, false, false, false, false, false, false, false, false, false, false, false, false, false, false, false, false, false, false, false, false, false, false, false] rfl rfl (by kernel_rfl) (fun _ _ _ h => h) (Or.inl ⟨by rfl, ?_⟩) ?_ ?_
                rotate_left
                · intro w'
                  go_simp
                  with_reducible rfl
                rotate_left
                · simp only [Act.put, List.setIfInBounds_toArray, List.set_cons_zero, List.set_cons_succ, i64_w, i32_w]
                  rfl
                refine pure_ (i := 1) (N := some 82) (v := ?_) (a' := ?_) #[true, true, false, false, false, false, false, false, false, false, false, false, false, false, false, false, false, false, false, false, false, false, false, false, false, false, false, false, false, false, false, false] rfl rfl (by kernel_rfl) (fun _ _ _ h => h) (Or.inl ⟨by rfl, ?_⟩) ?_ ?_
                rotate_left
                · intro w'
                  go_simp
                  with_reducible rfl
                rotate_left
                · simp only [Act.put, List.setIfInBounds_toArray, List.set_cons_zero, List.set_cons_succ, i64_w, i32_w]
                  rfl
                refine pure_ (i := 4) (N := some 85) (v := ?_) (a' := ?_) #[true, true, false, false, true, false, false, false, false, false, false, false, false, false, false, false, false, false, false, false, false, false, false, false, false, false, false, false, false, false, false, false] rfl rfl (by kernel_rfl) (fun _ _ _ h => h) (Or.inl ⟨by rfl, ?_⟩) ?_ ?_
                rotate_left
                · intro w'
                  go_simp
                  with_reducible rfl
                rotate_left
                · simp only [Act.put, List.setIfInBounds_toArray, List.set_cons_zero, List.set_cons_succ, i64_w, i32_w]
                  rfl
                refine pure_ (i := 5) (N := some 86) (v := ?_) (a' := ?_) #[true, true, false, false, true, true, false, false, false, false, false, false, false, false, false, false, false, false, false, false, false, false, false, false, false, false, false, false, false, false, false, false] rfl rfl (by kernel_rfl) (fun _ _ _ h => h) (Or.inl ⟨by rfl, ?_⟩) ?_ ?_
                rotate_left
                · intro w'
                  go_simp
                  with_reducible rfl
                rotate_left
                · simp only [Act.put, List.setIfInBounds_toArray, List.set_cons_zero, List.set_cons_succ, i64_w, i32_w]
                  rfl
                refine take_ (i := 2) (N := some 83) (v := ?_) (a' := ?_) #[true, true, true, false, true, true, false, false, false, false, false, false, false, false, false, false, false, false, false, false, false, false, false, false, false, false, false, false, false, false, false, false] rfl rfl (by kernel_rfl) (fun _ _ _ h => h) (Or.inl ⟨by rfl, ?_⟩) hHeld ?_ ?_
                rotate_left
                · intro w' hS
                  have hb60_ := (blk_cell (blk_below HB6.out hS) 0).trans (rfl : _ = some (.int .i64 (chE i).f0 : Value))
                  have hb61_ := (blk_cell (blk_below HB6.out hS) 1).trans (rfl : _ = some (.int .i64 (chE i).f1 : Value))
                  have hb62_ := (blk_cell (blk_below HB6.out hS) 2).trans (rfl : _ = some (.slice A6 (chE i).f2.length c6 : Value))
                  go_simp
                  with_reducible rfl
                rotate_left
                · simp only [Act.put, List.setIfInBounds_toArray, List.set_cons_zero, List.set_cons_succ, i64_w, i32_w]
                  rfl
                refine one_ (i := 3) (N := some 84) #[true, true, true, true, true, true, false, false, false, false, false, false, false, false, false, false, false, false, false, false, false, false, false, false, false, false, false, false, false, false, false, false] rfl rfl (by kernel_rfl) (by simp) (fun K hK => ?_)
                refine goes_ Try.func14 (by kernel_rfl) rfl #[.agg #[.int .i64 (chE i).f0, .int .i64 (chE i).f1, .slice A6 (chE i).f2.length c6]] (by rfl) rfl rfl (by simp only [List.map_toArray, List.map_cons, List.map_nil]; rfl) ?_
                with_reducible refine (may_ER _ (chE i) _ (HEC.out.below hHeld)).mono ?_
                rintro e_ w8 ⟨rfl, hb_⟩
                refine ⟨_, rfl, ?_⟩
                rw [HMC.out]
                replace hb_ := below_step hHeld hb_
                refine hK.out _ _ hb_ (fun _ => ?_)
                clear hK K hHeld
                refine norm_ (a' := ?_) ?_ ?_
                rotate_left
                · show Act.put _ (some 84) _ = _
                  simp only [Act.put, List.setIfInBounds_toArray, List.set_cons_zero, List.set_cons_succ, i64_w, i32_w]
                  rfl
                refine stronger_ (S' := fun w' => Below w8.heap.size w8 w') (fun w' h => below_step hb_ h) (Below.refl _ _) ?_
                have hHeld := Below.refl w8.heap.size w8
                replace HB6 := Aside0.mk (blk_below HB6.out hb_)
                replace HB14 := Aside0.mk (blk_below HB14.out hb_)
                replace HEC := Aside0.mk (HEC.out.below hb_)
                replace HEA := Aside0.mk (HEA.out.below hb_)
                replace HB := Aside0.mk (below_step HB.out hb_)
                clear hb_
                refine pure_ (i := 6) (N := some 87) (v := ?_) (a' := ?_) #[true, true, true, true, true, true, true, false, false, false, false, false, false, false, false, false, false, false, false, false, false, false, false, false, false, false, false, false, false, false, false, false] rfl rfl (by kernel_rfl) (fun _ _ _ h => h) (Or.inl ⟨by rfl, ?_⟩) ?_ ?_
                rotate_left
                · intro w'
                  go_simp
                  with_reducible rfl
                rotate_left
                · simp only [Act.put, List.setIfInBounds_toArray, List.set_cons_zero, List.set_cons_succ, i64_w, i32_w]
                  rfl
                refine pure_ (i := 7) (N := some 88) (v := ?_) (a' := ?_) #[true, true, true, true, true, true, true, true, false, false, false, false, false, false, false, false, false, false, false, false, false, false, false, false, false, false, false, false, false, false, false, false] rfl rfl (by kernel_rfl) (fun _ _ _ h => h) (Or.inl ⟨by rfl, ?_⟩) ?_ ?_
                rotate_left
                · intro w'
                  go_simp
                  with_reducible rfl
                rotate_left
                · simp only [Act.put, List.setIfInBounds_toArray, List.set_cons_zero, List.set_cons_succ, i64_w, i32_w]
                  rfl
                refine pure_ (i := 8) (N := some 89) (v := ?_) (a' := ?_) #[true, true, true, true, true, true, true, true, true, false, false, false, false, false, false, false, false, false, false, false, false, false, false, false, false, false, false, false, false, false, false, false] rfl rfl (by kernel_rfl) (fun _ _ _ h => h) (Or.inl ⟨by rfl, ?_⟩) ?_ ?_
                rotate_left
                · intro w'
                  go_simp
                  with_reducible rfl
                rotate_left
                · simp only [Act.put, List.setIfInBounds_toArray, List.set_cons_zero, List.set_cons_succ, i64_w, i32_w]
                  rfl
                refine pure_ (i := 9) (N := some 90) (v := ?_) (a' := ?_) #[true, true, true, true, true, true, true, true, true, true, false, false, false, false, false, false, false, false, false, false, false, false, false, false, false, false, false, false, false, false, false, false] rfl rfl (by kernel_rfl) (fun _ _ _ h => h) (Or.inl ⟨by rfl, ?_⟩) ?_ ?_
                rotate_left
                · intro w'
                  go_simp
                  with_reducible rfl
                rotate_left
                · simp only [Act.put, List.setIfInBounds_toArray, List.set_cons_zero, List.set_cons_succ, i64_w, i32_w]
                  rfl
                refine pure_ (i := 10) (N := some 91) (v := ?_) (a' := ?_) #[true, true, true, true, true, true, true, true, true, true, true, false, false, false, false, false, false, false, false, false, false, false, false, false, false, false, false, false, false, false, false, false] rfl rfl (by kernel_rfl) (fun _ _ _ h => h) (Or.inl ⟨by rfl, ?_⟩) ?_ ?_
                rotate_left
                · intro w'
                  go_simp
                  with_reducible rfl
                rotate_left
                · simp only [Act.put, List.setIfInBounds_toArray, List.set_cons_zero, List.set_cons_succ, i64_w, i32_w]
                  rfl
                refine pure_ (i := 11) (N := some 92) (v := ?_) (a' := ?_) #[true, true, true, true, true, true, true, true, true, true, true, true, false, false, false, false, false, false, false, false, false, false, false, false, false, false, false, false, false, false, false, false] rfl rfl (by kernel_rfl) (fun _ _ _ h => h) (Or.inl ⟨by rfl, ?_⟩) ?_ ?_
                rotate_left
                · intro w'
                  go_simp
                  with_reducible rfl
                rotate_left
                · simp only [Act.put, List.setIfInBounds_toArray, List.set_cons_zero, List.set_cons_succ, i64_w, i32_w]
                  rfl
                refine pure_ (i := 12) (N := some 93) (v := ?_) (a' := ?_) #[true, true, true, true, true, true, true, true, true, true, true, true, true, false, false, false, false, false, false, false, false, false, false, false, false, false, false, false, false, false, false, false] rfl rfl (by kernel_rfl) (fun _ _ _ h => h) (Or.inl ⟨by rfl, ?_⟩) ?_ ?_
                rotate_left
                · intro w'
                  go_simp
                  with_reducible rfl
                rotate_left
                · simp only [Act.put, List.setIfInBounds_toArray, List.set_cons_zero, List.set_cons_succ, i64_w, i32_w]
                  rfl
                refine pure_ (i := 13) (N := some 94) (v := ?_) (a' := ?_) #[true, true, true, true, true, true, true, true, true, true, true, true, true, true, false, false, false, false, false, false, false, false, false, false, false, false, false, false, false, false, false, false] rfl rfl (by kernel_rfl) (fun _ _ _ h => h) (Or.inl ⟨by rfl, ?_⟩) ?_ ?_
                rotate_left
                · intro w'
                  go_simp
                  with_reducible rfl
                rotate_left
                · simp only [Act.put, List.setIfInBounds_toArray, List.set_cons_zero, List.set_cons_succ, i64_w, i32_w]
                  rfl
                refine pure_ (i := 14) (N := some 95) (v := ?_) (a' := ?_) #[true, true, true, true, true, true, true, true, true, true, true, true, true, true, true, false, false, false, false, false, false, false, false, false, false, false, false, false, false, false, false, false] rfl rfl (by kernel_rfl) (fun _ _ _ h => h) (Or.inl ⟨by rfl, ?_⟩) ?_ ?_
                rotate_left
                · intro w'
                  go_simp
                  with_reducible rfl
                rotate_left
                · simp only [Act.put, List.setIfInBounds_toArray, List.set_cons_zero, List.set_cons_succ, i64_w, i32_w]
                  rfl
                refine pure_ (i := 15) (N := some 96) (v := ?_) (a' := ?_) #[true, true, true, true, true, true, true, true, true, true, true, true, true, true, true, true, false, false, false, false, false, false, false, false, false, false, false, false, false, false, false, false] rfl rfl (by kernel_rfl) (fun _ _ _ h => h) (Or.inl ⟨by rfl, ?_⟩) ?_ ?_
                rotate_left
                · intro w'
                  go_simp
                  with_reducible rfl
                rotate_left
                · simp only [Act.put, List.setIfInBounds_toArray, List.set_cons_zero, List.set_cons_succ, i64_w, i32_w]
                  rfl
                refine take_ (i := 16) (N := some 97) (v := ?_) (a' := ?_) #[true, true, true, true, true, true, true, true, true, true, true, true, true, true, true, true, true, false, false, false, false, false, false, false, false, false, false, false, false, false, false, false] rfl rfl (by kernel_rfl) (fun _ _ _ h => h) (Or.inl ⟨by rfl, ?_⟩) hHeld ?_ ?_
                rotate_left
                · intro w' hS
                  have hb140_ := (blk_cell (blk_below HB14.out hS) 0).trans (rfl : _ = some (.int .i64 e.f0 : Value))
                  have hb141_ := (blk_cell (blk_below HB14.out hS) 1).trans (rfl : _ = some (.int .i64 e.f1 : Value))
                  have hb142_ := (blk_cell (blk_below HB14.out hS) 2).trans (rfl : _ = some (.slice A3 e.f2.length c3 : Value))
                  go_simp
                  with_reducible rfl
                rotate_left
                · simp only [Act.put, List.setIfInBounds_toArray, List.set_cons_zero, List.set_cons_succ, i64_w, i32_w]
                  rfl
                refine one_ (i := 17) (N := some 98) #[true, true, true, true, true, true, true, true, true, true, true, true, true, true, true, true, true, true, false, false, false, false, false, false, false, false, false, false, false, false, false, false] rfl rfl (by kernel_rfl) (by simp) (fun K hK => ?_)
                refine goes_ Try.func14 (by kernel_rfl) rfl #[.agg #[.int .i64 e.f0, .int .i64 e.f1, .slice A3 e.f2.length c3]] (by rfl) rfl rfl (by simp only [List.map_toArray, List.map_cons, List.map_nil]; rfl) ?_
                with_reducible refine (may_ER _ e _ (HEA.out.below hHeld)).mono ?_
                rintro e_ w9 ⟨rfl, hb_⟩
                refine ⟨_, rfl, ?_⟩
                rw [HME.out]
                replace hb_ := below_step hHeld hb_
                refine hK.out _ _ hb_ (fun _ => ?_)
                clear hK K hHeld
                refine norm_ (a' := ?_) ?_ ?_
                rotate_left
                · show Act.put _ (some 98) _ = _
                  simp only [Act.put, List.setIfInBounds_toArray, List.set_cons_zero, List.set_cons_succ, i64_w, i32_w]
                  rfl
                refine stronger_ (S' := fun w' => Below w9.heap.size w9 w') (fun w' h => below_step hb_ h) (Below.refl _ _) ?_
                have hHeld := Below.refl w9.heap.size w9
                replace HB6 := Aside0.mk (blk_below HB6.out hb_)
                replace HB14 := Aside0.mk (blk_below HB14.out hb_)
                replace HEC := Aside0.mk (HEC.out.below hb_)
                replace HEA := Aside0.mk (HEA.out.below hb_)
                replace HB := Aside0.mk (below_step HB.out hb_)
                clear hb_
                refine pure_ (i := 18) (N := some 99) (v := ?_) (a' := ?_) #[true, true, true, true, true, true, true, true, true, true, true, true, true, true, true, true, true, true, true, false, false, false, false, false, false, false, false, false, false, false, false, false] rfl rfl (by kernel_rfl) (fun _ _ _ h => h) (Or.inl ⟨by rfl, ?_⟩) ?_ ?_
                rotate_left
                · intro w'
                  go_simp
                  with_reducible rfl
                rotate_left
                · simp only [Act.put, List.setIfInBounds_toArray, List.set_cons_zero, List.set_cons_succ, i64_w, i32_w]
                  rfl
                refine pure_ (i := 19) (N := some 100) (v := ?_) (a' := ?_) #[true, true, true, true, true, true, true, true, true, true, true, true, true, true, true, true, true, true, true, true, false, false, false, false, false, false, false, false, false, false, false, false] rfl rfl (by kernel_rfl) (fun _ _ _ h => h) (Or.inl ⟨by rfl, ?_⟩) ?_ ?_
                rotate_left
                · intro w'
                  go_simp
                  with_reducible rfl
                rotate_left
                · simp only [Act.put, List.setIfInBounds_toArray, List.set_cons_zero, List.set_cons_succ, i64_w, i32_w]
                  rfl
                refine pure_ (i := 20) (N := some 101) (v := ?_) (a' := ?_) #[true, true, true, true, true, true, true, true, true, true, true, true, true, true, true, true, true, true, true, true, true, false, false, false, false, false, false, false, false, false, false, false] rfl rfl (by kernel_rfl) (fun _ _ _ h => h) (Or.inl ⟨by rfl, ?_⟩) ?_ ?_
                rotate_left
                · intro w'
                  go_simp
                  with_reducible rfl
                rotate_left
                · simp only [Act.put, List.setIfInBounds_toArray, List.set_cons_zero, List.set_cons_succ, i64_w, i32_w]
                  rfl
                refine pure_ (i := 21) (N := some 102) (v := ?_) (a' := ?_) #[true, true, true, true, true, true, true, true, true, true, true, true, true, true, true, true, true, true, true, true, true, true, false, false, false, false, false, false, false, false, false, false] rfl rfl (by kernel_rfl) (fun _ _ _ h => h) (Or.inl ⟨by rfl, ?_⟩) ?_ ?_
                rotate_left
                · intro w'
                  go_simp
                  with_reducible rfl
                rotate_left
                · simp only [Act.put, List.setIfInBounds_toArray, List.set_cons_zero, List.set_cons_succ, i64_w, i32_w]
                  rfl
                refine pure_ (i := 22) (N := some 103) (v := ?_) (a' := ?_) #[true, true, true, true, true, true, true, true, true, true, true, true, true, true, true, true, true, true, true, true, true, true, true, false, false, false, false, false, false, false, false, false] rfl rfl (by kernel_rfl) (fun _ _ _ h => h) (Or.inl ⟨by rfl, ?_⟩) ?_ ?_
                rotate_left
                · intro w'
                  go_simp
                  with_reducible rfl
                rotate_left
                · simp only [Act.put, List.setIfInBounds_toArray, List.set_cons_zero, List.set_cons_succ, i64_w, i32_w]
                  rfl
                refine pure_ (i := 23) (N := some 104) (v := ?_) (a' := ?_) #[true, true, true, true, true, true, true, true, true, true, true, true, true, true, true, true, true, true, true, true, true, true, true, true, false, false, false, false, false, false, false, false] rfl rfl (by kernel_rfl) (fun _ _ _ h => h) (Or.inl ⟨by rfl, ?_⟩) ?_ ?_
                rotate_left
                · intro w'
                  go_simp
                  with_reducible rfl
                rotate_left
                · simp only [Act.put, List.setIfInBounds_toArray, List.set_cons_zero, List.set_cons_succ, i64_w, i32_w]
                  rfl
                refine pure_ (i := 24) (N := some 105) (v := ?_) (a' := ?_) #[true, true, true, true, true, true, true, true, true, true, true, true, true, true, true, true, true, true, true, true, true, true, true, true, true, false, false, false, false, false, false, false] rfl rfl (by kernel_rfl) (fun _ _ _ h => h) (Or.inl ⟨by rfl, ?_⟩) ?_ ?_
                rotate_left
                · intro w'
                  go_simp
                  with_reducible rfl
                rotate_left
                · simp only [Act.put, List.setIfInBounds_toArray, List.set_cons_zero, List.set_cons_succ, i64_w, i32_w]
                  rfl
                refine take_ (i := 25) (N := some 106) (v := ?_) (a' := ?_) #[true, true, true, true, true, true, true, true, true, true, true, true, true, true, true, true, true, true, true, true, true, true, true, true, true, true, false, false, false, false, false, false] rfl rfl (by kernel_rfl) (fun _ _ _ h => h) (Or.inl ⟨by rfl, ?_⟩) hHeld ?_ ?_
                rotate_left
                · intro w' hS
                  have hb140_ := (blk_cell (blk_below HB14.out hS) 0).trans (rfl : _ = some (.int .i64 e.f0 : Value))
                  have hb141_ := (blk_cell (blk_below HB14.out hS) 1).trans (rfl : _ = some (.int .i64 e.f1 : Value))
                  have hb142_ := (blk_cell (blk_below HB14.out hS) 2).trans (rfl : _ = some (.slice A3 e.f2.length c3 : Value))
                  go_simp
                  with_reducible rfl
                rotate_left
                · simp only [Act.put, List.setIfInBounds_toArray, List.set_cons_zero, List.set_cons_succ, i64_w, i32_w]
                  rfl
                refine take_ (i := 27) (N := some 108) (v := ?_) (a' := ?_) #[true, true, true, true, true, true, true, true, true, true, true, true, true, true, true, true, true, true, true, true, true, true, true, true, true, true, false, true, false, false, false, false] rfl rfl (by kernel_rfl) (fun _ _ _ h => h) (Or.inl ⟨by rfl, ?_⟩) hHeld ?_ ?_
                rotate_left
                · intro w' hS
                  have hb140_ := (blk_cell (blk_below HB14.out hS) 0).trans (rfl : _ = some (.int .i64 e.f0 : Value))
                  have hb141_ := (blk_cell (blk_below HB14.out hS) 1).trans (rfl : _ = some (.int .i64 e.f1 : Value))
                  have hb142_ := (blk_cell (blk_below HB14.out hS) 2).trans (rfl : _ = some (.slice A3 e.f2.length c3 : Value))
                  go_simp
                  with_reducible rfl
                rotate_left
                · simp only [Act.put, List.setIfInBounds_toArray, List.set_cons_zero, List.set_cons_succ, i64_w, i32_w]
                  rfl
                refine one_ (i := 26) (N := some 107) #[true, true, true, true, true, true, true, true, true, true, true, true, true, true, true, true, true, true, true, true, true, true, true, true, true, true, true, true, false, false, false, false] rfl rfl (by kernel_rfl) (by simp) (fun K hK => ?_)
                refine goes_ Try.func14 (by kernel_rfl) rfl #[.agg #[.int .i64 e.f0, .int .i64 e.f1, .slice A3 e.f2.length c3]] (by rfl) rfl rfl (by simp only [List.map_toArray, List.map_cons, List.map_nil]; rfl) ?_
                with_reducible refine (may_ER _ e _ (HEA.out.below hHeld)).mono ?_
                rintro e_ w10 ⟨rfl, hb_⟩
                refine ⟨_, rfl, ?_⟩
                rw [HME.out]
                replace hb_ := below_step hHeld hb_
                refine hK.out _ _ hb_ (fun _ => ?_)
                clear hK K hHeld
                refine norm_ (a' := ?_) ?_ ?_
                rotate_left
                · show Act.put _ (some 107) _ = _
                  simp only [Act.put, List.setIfInBounds_toArray, List.set_cons_zero, List.set_cons_succ, i64_w, i32_w]
                  rfl
                refine stronger_ (S' := fun w' => Below w10.heap.size w10 w') (fun w' h => below_step hb_ h) (Below.refl _ _) ?_
                have hHeld := Below.refl w10.heap.size w10
                replace HB6 := Aside0.mk (blk_below HB6.out hb_)
                replace HB14 := Aside0.mk (blk_below HB14.out hb_)
                replace HEC := Aside0.mk (HEC.out.below hb_)
                replace HEA := Aside0.mk (HEA.out.below hb_)
                replace HB := Aside0.mk (below_step HB.out hb_)
                clear hb_
                refine one_ (i := 28) (N := some 109) #[true, true, true, true, true, true, true, true, true, true, true, true, true, true, true, true, true, true, true, true, true, true, true, true, true, true, true, true, true, false, false, false] rfl rfl (by kernel_rfl) (by simp) (fun K hK => ?_)
                refine goes_ Try.func15 (by kernel_rfl) rfl #[.agg #[.int .i64 e.f0, .int .i64 e.f1, .slice A3 e.f2.length c3]] (by rfl) rfl rfl (by simp only [List.map_toArray, List.map_cons, List.map_nil]; rfl) ?_
                with_reducible refine (refmay_ER _ e _ (HEA.out.below hHeld)).mono ?_
                rintro e_ w11 ⟨rfl, hb_⟩
                refine ⟨_, rfl, ?_⟩
                rw [HME.out]
                replace hb_ := below_step hHeld hb_
                refine hK.out _ _ hb_ (fun _ => ?_)
                clear hK K hHeld
                refine norm_ (a' := ?_) ?_ ?_
                rotate_left
                · show Act.put _ (some 109) _ = _
                  simp only [Act.put, List.setIfInBounds_toArray, List.set_cons_zero, List.set_cons_succ, i64_w, i32_w]
                  rfl
                refine stronger_ (S' := fun w' => Below w11.heap.size w11 w') (fun w' h => below_step hb_ h) (Below.refl _ _) ?_
                have hHeld := Below.refl w11.heap.size w11
                replace HB6 := Aside0.mk (blk_below HB6.out hb_)
                replace HB14 := Aside0.mk (blk_below HB14.out hb_)
                replace HEC := Aside0.mk (HEC.out.below hb_)
                replace HEA := Aside0.mk (HEA.out.below hb_)
                replace HB := Aside0.mk (below_step HB.out hb_)
                clear hb_
                refine pure_ (i := 29) (N := some 110) (v := ?_) (a' := ?_) #[true, true, true, true, true, true, true, true, true, true, true, true, true, true, true, true, true, true, true, true, true, true, true, true, true, true, true, true, true, true, false, false] rfl rfl (by kernel_rfl) (fun _ _ _ h => h) (Or.inl ⟨by rfl, ?_⟩) ?_ ?_
                rotate_left
                · intro w'
                  go_simp
                  with_reducible rfl
                rotate_left
                · simp only [Act.put, List.setIfInBounds_toArray, List.set_cons_zero, List.set_cons_succ, i64_w, i32_w]
                  rfl
                refine pure_ (i := 30) (N := some 111) (v := ?_) (a' := ?_) #[true, true, true, true, true, true, true, true, true, true, true, true, true, true, true, true, true, true, true, true, true, true, true, true, true, true, true, true, true, true, true, false] rfl rfl (by kernel_rfl) (fun _ _ _ h => h) (Or.inl ⟨by rfl, ?_⟩) ?_ ?_
                rotate_left
                · intro w'
                  go_simp
                  with_reducible rfl
                rotate_left
                · simp only [Act.put, List.setIfInBounds_toArray, List.set_cons_zero, List.set_cons_succ, i64_w, i32_w]
                  rfl
                refine pure_ (i := 31) (N := some 4) (v := ?_) (a' := ?_) #[true, true, true, true, true, true, true, true, true, true, true, true, true, true, true, true, true, true, true, true, true, true, true, true, true, true, true, true, true, true, true, true] rfl rfl (by kernel_rfl) (fun _ _ _ h => h) (Or.inl ⟨by rfl, ?_⟩) ?_ ?_
                rotate_left
                · intro w'
                  go_simp
                  with_reducible rfl
                rotate_left
                · simp only [Act.put, List.setIfInBounds_toArray, List.set_cons_zero, List.set_cons_succ, i64_w, i32_w]
                  rfl
                refine done_ (by kernel_rfl) ?_

                go_wp2
                go_ret
                exact ⟨rfl, HB.out⟩
              | false =>
                refine start_ (n := 32) (S := fun w' => Below w7.heap.size w7 w') (ds := []) #[false, false, false, false, false, false, false, false, false, false, false, false, false, false, false, false, false, false, false, false, false, false, false, false, false, false, false, false, false, false, false, false] (by kernel_rfl) rfl rfl (below_drew (Below.refl _ _)) (fun hHeld => ?_)
                refine pure_ (i := 0) (N := some 81) (v := ?_) (a' := ?_) #[true, false, false, false, false, false, false, false, false, false, false, false, false, false, false, false, false, false, false, false, false, false, false, false, false, false, false, false, false, false, false, false] rfl rfl (by kernel_rfl) (fun _ _ _ h => h) (Or.inl ⟨by rfl, ?_⟩) ?_ ?_
                rotate_left
                · intro w'
                  go_simp
                  with_reducible rfl
                rotate_left
                · simp only [Act.put, List.setIfInBounds_toArray, List.set_cons_zero, List.set_cons_succ, i64_w, i32_w]
                  rfl
                refine pure_ (i := 1) (N := some 82) (v := ?_) (a' := ?_) #[true, true, false, false, false, false, false, false, false, false, false, false, false, false, false, false, false, false, false, false, false, false, false, false, false, false, false, false, false, false, false, false] rfl rfl (by kernel_rfl) (fun _ _ _ h => h) (Or.inl ⟨by rfl, ?_⟩) ?_ ?_
                rotate_left
                · intro w'
                  go_simp
                  with_reducible rfl
                rotate_left
                · simp only [Act.put, List.setIfInBounds_toArray, List.set_cons_zero, List.set_cons_succ, i64_w, i32_w]
                  rfl
                refine pure_ (i := 4) (N := some 85) (v := ?_) (a' := ?_) #[true, true, false, false, true, false, false, false, false, false, false, false, false, false, false, false, false, false, false, false, false, false, false, false, false, false, false, false, false, false, false, false] rfl rfl (by kernel_rfl) (fun _ _ _ h => h) (Or.inl ⟨by rfl, ?_⟩) ?_ ?_
                rotate_left
                · intro w'
                  go_simp
                  with_reducible rfl
                rotate_left
                · simp only [Act.put, List.setIfInBounds_toArray, List.set_cons_zero, List.set_cons_succ, i64_w, i32_w]
                  rfl
                refine pure_ (i := 5) (N := some 86) (v := ?_) (a' := ?_) #[true, true, false, false, true, true, false, false, false, false, false, false, false, false, false, false, false, false, false, false, false, false, false, false, false, false, false, false, false, false, false, false] rfl rfl (by kernel_rfl) (fun _ _ _ h => h) (Or.inl ⟨by rfl, ?_⟩) ?_ ?_
                rotate_left
                · intro w'
                  go_simp
                  with_reducible rfl
                rotate_left
                · simp only [Act.put, List.setIfInBounds_toArray, List.set_cons_zero, List.set_cons_succ, i64_w, i32_w]
                  rfl
                refine take_ (i := 2) (N := some 83) (v := ?_) (a' := ?_) #[true, true, true, false, true, true, false, false, false, false, false, false, false, false, false, false, false, false, false, false, false, false, false, false, false, false, false, false, false, false, false, false] rfl rfl (by kernel_rfl) (fun _ _ _ h => h) (Or.inl ⟨by rfl, ?_⟩) hHeld ?_ ?_
                rotate_left
                · intro w' hS
                  have hb60_ := (blk_cell (blk_below HB6.out hS) 0).trans (rfl : _ = some (.int .i64 (chE i).f0 : Value))
                  have hb61_ := (blk_cell (blk_below HB6.out hS) 1).trans (rfl : _ = some (.int .i64 (chE i).f1 : Value))
                  have hb62_ := (blk_cell (blk_below HB6.out hS) 2).trans (rfl : _ = some (.slice A6 (chE i).f2.length c6 : Value))
                  go_simp
                  with_reducible rfl
                rotate_left
                · simp only [Act.put, List.setIfInBounds_toArray, List.set_cons_zero, List.set_cons_succ, i64_w, i32_w]
                  rfl
                refine one_ (i := 3) (N := some 84) #[true, true, true, true, true, true, false, false, false, false, false, false, false, false, false, false, false, false, false, false, false, false, false, false, false, false, false, false, false, false, false, false] rfl rfl (by kernel_rfl) (by simp) (fun K hK => ?_)
                refine goes_ Try.func14 (by kernel_rfl) rfl #[.agg #[.int .i64 (chE i).f0, .int .i64 (chE i).f1, .slice A6 (chE i).f2.length c6]] (by rfl) rfl rfl (by simp only [List.map_toArray, List.map_cons, List.map_nil]; rfl) ?_
                with_reducible refine (may_ER _ (chE i) _ (HEC.out.below hHeld)).mono ?_
                rintro e_ w8 ⟨rfl, hb_⟩
                refine ⟨_, rfl, ?_⟩
                rw [HMC.out]
                replace hb_ := below_step hHeld hb_
                refine hK.out _ _ hb_ (fun _ => ?_)
                clear hK K hHeld
                refine norm_ (a' := ?_) ?_ ?_
                rotate_left
                · show Act.put _ (some 84) _ = _
                  simp only [Act.put, List.setIfInBounds_toArray, List.set_cons_zero, List.set_cons_succ, i64_w, i32_w]
                  rfl
                refine stronger_ (S' := fun w' => Below w8.heap.size w8 w') (fun w' h => below_step hb_ h) (Below.refl _ _) ?_
                have hHeld := Below.refl w8.heap.size w8
                replace HB6 := Aside0.mk (blk_below HB6.out hb_)
                replace HB14 := Aside0.mk (blk_below HB14.out hb_)
                replace HEC := Aside0.mk (HEC.out.below hb_)
                replace HEA := Aside0.mk (HEA.out.below hb_)
                replace HB := Aside0.mk (below_step HB.out hb_)
                clear hb_
                refine pure_ (i := 6) (N := some 87) (v := ?_) (a' := ?_) #[true, true, true, true, true, true, true, false, false, false, false, false, false, false, false, false, false, false, false, false, false, false, false, false, false, false, false, false, false, false, false, false] rfl rfl (by kernel_rfl) (fun _ _ _ h => h) (Or.inl ⟨by rfl, ?_⟩) ?_ ?_
                rotate_left
                · intro w'
                  go_simp
                  with_reducible rfl
                rotate_left
                · simp only [Act.put, List.setIfInBounds_toArray, List.set_cons_zero, List.set_cons_succ, i64_w, i32_w]
                  rfl
                refine pure_ (i := 7) (N := some 88) (v := ?_) (a' := ?_) #[true, true, true, true, true, true, true, true, false, false, false, false, false, false, false, false, false, false, false, false, false, false, false, false, false, false, false, false, false, false, false, false] rfl rfl (by kernel_rfl) (fun _ _ _ h => h) (Or.inl ⟨by rfl, ?_⟩) ?_ ?_
                rotate_left
                · intro w'
                  go_simp
                  with_reducible rfl
                rotate_left
                · simp only [Act.put, List.setIfInBounds_toArray, List.set_cons_zero, List.set_cons_succ, i64_w, i32_w]
                  rfl
                refine pure_ (i := 8) (N := some 89) (v := ?_) (a' := ?_) #[true, true, true, true, true, true, true, true, true, false, false, false, false, false, false, false, false, false, false, false, false, false, false, false, false, false, false, false, false, false, false, false] rfl rfl (by kernel_rfl) (fun _ _ _ h => h) (Or.inl ⟨by rfl, ?_⟩) ?_ ?_
                rotate_left
                · intro w'
                  go_simp
                  with_reducible rfl
                rotate_left
                · simp only [Act.put, List.setIfInBounds_toArray, List.set_cons_zero, List.set_cons_succ, i64_w, i32_w]
                  rfl
                refine pure_ (i := 9) (N := some 90) (v := ?_) (a' := ?_) #[true, true, true, true, true, true, true, true, true, true, false, false, false, false, false, false, false, false, false, false, false, false, false, false, false, false, false, false, false, false, false, false] rfl rfl (by kernel_rfl) (fun _ _ _ h => h) (Or.inl ⟨by rfl, ?_⟩) ?_ ?_
                rotate_left
                · intro w'
                  go_simp
                  with_reducible rfl
                rotate_left
                · simp only [Act.put, List.setIfInBounds_toArray, List.set_cons_zero, List.set_cons_succ, i64_w, i32_w]
                  rfl
                refine pure_ (i := 10) (N := some 91) (v := ?_) (a' := ?_) #[true, true, true, true, true, true, true, true, true, true, true, false, false, false, false, false, false, false, false, false, false, false, false, false, false, false, false, false, false, false, false, false] rfl rfl (by kernel_rfl) (fun _ _ _ h => h) (Or.inl ⟨by rfl, ?_⟩) ?_ ?_
                rotate_left
                · intro w'
                  go_simp
                  with_reducible rfl
                rotate_left
                · simp only [Act.put, List.setIfInBounds_toArray, List.set_cons_zero, List.set_cons_succ, i64_w, i32_w]
                  rfl
                refine pure_ (i := 11) (N := some 92) (v := ?_) (a' := ?_) #[true, true, true, true, true, true, true, true, true, true, true, true, false, false, false, false, false, false, false, false, false, false, false, false, false, false, false, false, false, false, false, false] rfl rfl (by kernel_rfl) (fun _ _ _ h => h) (Or.inl ⟨by rfl, ?_⟩) ?_ ?_
                rotate_left
                · intro w'
                  go_simp
                  with_reducible rfl
                rotate_left
                · simp only [Act.put, List.setIfInBounds_toArray, List.set_cons_zero, List.set_cons_succ, i64_w, i32_w]
                  rfl
                refine pure_ (i := 12) (N := some 93) (v := ?_) (a' := ?_) #[true, true, true, true, true, true, true, true, true, true, true, true, true, false, false, false, false, false, false, false, false, false, false, false, false, false, false, false, false, false, false, false] rfl rfl (by kernel_rfl) (fun _ _ _ h => h) (Or.inl ⟨by rfl, ?_⟩) ?_ ?_
                rotate_left
                · intro w'
                  go_simp
                  with_reducible rfl
                rotate_left
                · simp only [Act.put, List.setIfInBounds_toArray, List.set_cons_zero, List.set_cons_succ, i64_w, i32_w]
                  rfl
                refine pure_ (i := 13) (N := some 94) (v := ?_) (a' := ?_) #[true, true, true, true, true, true, true, true, true, true, true, true, true, true, false, false, false, false, false, false, false, false, false, false, false, false, false, false, false, false, false, false] rfl rfl (by kernel_rfl) (fun _ _ _ h => h) (Or.inl ⟨by rfl, ?_⟩) ?_ ?_
                rotate_left
                · intro w'
                  go_simp
                  with_reducible rfl
                rotate_left
                · simp only [Act.put, List.setIfInBounds_toArray, List.set_cons_zero, List.set_cons_succ, i64_w, i32_w]
                  rfl
                refine pure_ (i := 14) (N := some 95) (v := ?_) (a' := ?_) #[true, true, true, true, true, true, true, true, true, true, true, true, true, true, true, false, false, false, false, false, false, false, false, false, false, false, false, false, false, false, false, false] rfl rfl (by kernel_rfl) (fun _ _ _ h => h) (Or.inl ⟨by rfl, ?_⟩) ?_ ?_
                rotate_left
                · intro w'
                  go_simp
                  with_reducible rfl
                rotate_left
                · simp only [Act.put, List.setIfInBounds_toArray, List.set_cons_zero, List.set_cons_succ, i64_w, i32_w]
                  rfl
                refine pure_ (i := 15) (N := some 96) (v := ?_) (a' := ?_) #[true, true, true, true, true, true, true, true, true, true, true, true, true, true, true, true, false, false, false, false, false, false, false, false, false, false, false, false, false, false, false, false] rfl rfl (by kernel_rfl) (fun _ _ _ h => h) (Or.inl ⟨by rfl, ?_⟩) ?_ ?_
                rotate_left
                · intro w'
                  go_simp
                  with_reducible rfl
                rotate_left
                · simp only [Act.put, List.setIfInBounds_toArray, List.set_cons_zero, List.set_cons_succ, i64_w, i32_w]
                  rfl
                refine take_ (i := 16) (N := some 97) (v := ?_) (a' := ?_) #[true, true, true, true, true, true, true, true, true, true, true, true, true, true, true, true, true, false, false, false, false, false, false, false, false, false, false, false, false, false, false, false] rfl rfl (by kernel_rfl) (fun _ _ _ h => h) (Or.inl ⟨by rfl, ?_⟩) hHeld ?_ ?_
                rotate_left
                · intro w' hS
                  have hb140_ := (blk_cell (blk_below HB14.out hS) 0).trans (rfl : _ = some (.int .i64 e.f0 : Value))
                  have hb141_ := (blk_cell (blk_below HB14.out hS) 1).trans (rfl : _ = some (.int .i64 e.f1 : Value))
                  have hb142_ := (blk_cell (blk_below HB14.out hS) 2).trans (rfl : _ = some (.slice A3 e.f2.length c3 : Value))
                  go_simp
                  with_reducible rfl
                rotate_left
                · simp only [Act.put, List.setIfInBounds_toArray, List.set_cons_zero, List.set_cons_succ, i64_w, i32_w]
                  rfl
                refine one_ (i := 17) (N := some 98) #[true, true, true, true, true, true, true, true, true, true, true, true, true, true, true, true, true, true, false, false, false, false, false, false, false, false, false, false, false, false, false, false] rfl rfl (by kernel_rfl) (by simp) (fun K hK => ?_)
                refine goes_ Try.func14 (by kernel_rfl) rfl #[.agg #[.int .i64 e.f0, .int .i64 e.f1, .slice A3 e.f2.length c3]] (by rfl) rfl rfl (by simp only [List.map_toArray, List.map_cons, List.map_nil]; rfl) ?_
                with_reducible refine (may_ER _ e _ (HEA.out.below hHeld)).mono ?_
                rintro e_ w9 ⟨rfl, hb_⟩
                refine ⟨_, rfl, ?_⟩
                rw [HME.out]
                replace hb_ := below_step hHeld hb_
                refine hK.out _ _ hb_ (fun _ => ?_)
                clear hK K hHeld
                refine norm_ (a' := ?_) ?_ ?_
                rotate_left
                · show Act.put _ (some 98) _ = _
                  simp only [Act.put, List.setIfInBounds_toArray, List.set_cons_zero, List.set_cons_succ, i64_w, i32_w]
                  rfl
                refine stronger_ (S' := fun w' => Below w9.heap.size w9 w') (fun w' h => below_step hb_ h) (Below.refl _ _) ?_
                have hHeld := Below.refl w9.heap.size w9
                replace HB6 := Aside0.mk (blk_below HB6.out hb_)
                replace HB14 := Aside0.mk (blk_below HB14.out hb_)
                replace HEC := Aside0.mk (HEC.out.below hb_)
                replace HEA := Aside0.mk (HEA.out.below hb_)
                replace HB := Aside0.mk (below_step HB.out hb_)
                clear hb_
                refine pure_ (i := 18) (N := some 99) (v := ?_) (a' := ?_) #[true, true, true, true, true, true, true, true, true, true, true, true, true, true, true, true, true, true, true, false, false, false, false, false, false, false, false, false, false, false, false, false] rfl rfl (by kernel_rfl) (fun _ _ _ h => h) (Or.inl ⟨by rfl, ?_⟩) ?_ ?_
                rotate_left
                · intro w'
                  go_simp
                  with_reducible rfl
                rotate_left
                · simp only [Act.put, List.setIfInBounds_toArray, List.set_cons_zero, List.set_cons_succ, i64_w, i32_w]
                  rfl
                refine pure_ (i := 19) (N := some 100) (v := ?_) (a' := ?_) #[true, true, true, true, true, true, true, true, true, true, true, true, true, true, true, true, true, true, true, true, false, false, false, false, false, false, false, false, false, false, false, false] rfl rfl (by kernel_rfl) (fun _ _ _ h => h) (Or.inl ⟨by rfl, ?_⟩) ?_ ?_
                rotate_left
                · intro w'
                  go_simp
                  with_reducible rfl
                rotate_left
                · simp only [Act.put, List.setIfInBounds_toArray, List.set_cons_zero, List.set_cons_succ, i64_w, i32_w]
                  rfl
                refine pure_ (i := 20) (N := some 101) (v := undef) (a' := ?_) #[true, true, true, true, true, true, true, true, true, true, true, true, true, true, true, true, true, true, true, true, true, false, false, false, false, false, false, false, false, false, false, false] rfl rfl (by kernel_rfl) (fun _ _ _ h => h) (Or.inr ⟨by rfl, rfl⟩) ?_ ?_
                rotate_left
                · simp only [Act.put, List.setIfInBounds_toArray, List.set_cons_zero, List.set_cons_succ, i64_w, i32_w]
                  rfl
                refine pure_ (i := 21) (N := some 102) (v := undef) (a' := ?_) #[true, true, true, true, true, true, true, true, true, true, true, true, true, true, true, true, true, true, true, true, true, true, false, false, false, false, false, false, false, false, false, false] rfl rfl (by kernel_rfl) (fun _ _ _ h => h) (Or.inr ⟨by rfl, rfl⟩) ?_ ?_
                rotate_left
                · simp only [Act.put, List.setIfInBounds_toArray, List.set_cons_zero, List.set_cons_succ, i64_w, i32_w]
                  rfl
                refine pure_ (i := 22) (N := some 103) (v := ?_) (a' := ?_) #[true, true, true, true, true, true, true, true, true, true, true, true, true, true, true, true, true, true, true, true, true, true, true, false, false, false, false, false, false, false, false, false] rfl rfl (by kernel_rfl) (fun _ _ _ h => h) (Or.inl ⟨by rfl, ?_⟩) ?_ ?_
                rotate_left
                · intro w'
                  go_simp
                  with_reducible rfl
                rotate_left
                · simp only [Act.put, List.setIfInBounds_toArray, List.set_cons_zero, List.set_cons_succ, i64_w, i32_w]
                  rfl
                refine pure_ (i := 23) (N := some 104) (v := ?_) (a' := ?_) #[true, true, true, true, true, true, true, true, true, true, true, true, true, true, true, true, true, true, true, true, true, true, true, true, false, false, false, false, false, false, false, false] rfl rfl (by kernel_rfl) (fun _ _ _ h => h) (Or.inl ⟨by rfl, ?_⟩) ?_ ?_
                rotate_left
                · intro w'
                  go_simp
                  with_reducible rfl
                rotate_left
                · simp only [Act.put, List.setIfInBounds_toArray, List.set_cons_zero, List.set_cons_succ, i64_w, i32_w]
                  rfl
                refine pure_ (i := 24) (N := some 105) (v := ?_) (a' := ?_) #[true, true, true, true, true, true, true, true, true, true, true, true, true, true, true, true, true, true, true, true, true, true, true, true, true, false, false, false, false, false, false, false] rfl rfl (by kernel_rfl) (fun _ _ _ h => h) (Or.inl ⟨by rfl, ?_⟩) ?_ ?_
                rotate_left
                · intro w'
                  go_simp
                  with_reducible rfl
                rotate_left
                · simp only [Act.put, List.setIfInBounds_toArray, List.set_cons_zero, List.set_cons_succ, i64_w, i32_w]
                  rfl
                refine take_ (i := 25) (N := some 106) (v := ?_) (a' := ?_) #[true, true, true, true, true, true, true, true, true, true, true, true, true, true, true, true, true, true, true, true, true, true, true, true, true, true, false, false, false, false, false, false] rfl rfl (by kernel_rfl) (fun _ _ _ h => h) (Or.inl ⟨by rfl, ?_⟩) hHeld ?_ ?_
                rotate_left
                · intro w' hS
                  have hb140_ := (blk_cell (blk_below HB14.out hS) 0).trans (rfl : _ = some (.int .i64 e.f0 : Value))
                  have hb141_ := (blk_cell (blk_below HB14.out hS) 1).trans (rfl : _ = some (.int .i64 e.f1 : Value))
                  have hb142_ := (blk_cell (blk_below HB14.out hS) 2).trans (rfl : _ = some (.slice A3 e.f2.length c3 : Value))
                  go_simp
                  with_reducible rfl
                rotate_left
                · simp only [Act.put, List.setIfInBounds_toArray, List.set_cons_zero, List.set_cons_succ, i64_w, i32_w]
                  rfl
                refine take_ (i := 27) (N := some 108) (v := ?_) (a' := ?_) #[true, true, true, true, true, true, true, true, true, true, true, true, true, true, true, true, true, true, true, true, true, true, true, true, true, true, false, true, false, false, false, false] rfl rfl (by kernel_rfl) (fun _ _ _ h => h) (Or.inl ⟨by rfl, ?_⟩) hHeld ?_ ?_
                rotate_left
                · intro w' hS
                  have hb140_ := (blk_cell (blk_below HB14.out hS) 0).trans (rfl : _ = some (.int .i64 e.f0 : Value))
                  have hb141_ := (blk_cell (blk_below HB14.out hS) 1).trans (rfl : _ = some (.int .i64 e.f1 : Value))
                  have hb142_ := (blk_cell (blk_below HB14.out hS) 2).trans (rfl : _ = some (.slice A3 e.f2.length c3 : Value))
                  go_simp
                  with_reducible rfl
                rotate_left
                · simp only [Act.put, List.setIfInBounds_toArray, List.set_cons_zero, List.set_cons_succ, i64_w, i32_w]
                  rfl
                refine one_ (i := 26) (N := some 107) #[true, true, true, true, true, true, true, true, true, true, true, true, true, true, true, true, true, true, true, true, true, true, true, true, true, true, true, true, false, false, false, false] rfl rfl (by kernel_rfl) (by simp) (fun K hK => ?_)
                refine goes_ Try.func14 (by kernel_rfl) rfl #[.agg #[.int .i64 e.f0, .int .i64 e.f1, .slice A3 e.f2.length c3]] (by rfl) rfl rfl (by simp only [List.map_toArray, List.map_cons, List.map_nil]; rfl) ?_
                with_reducible refine (may_ER _ e _ (HEA.out.below hHeld)).mono ?_
                rintro e_ w10 ⟨rfl, hb_⟩
                refine ⟨_, rfl, ?_⟩
                rw [HME.out]
                replace hb_ := below_step hHeld hb_
                refine hK.out _ _ hb_ (fun _ => ?_)
                clear hK K hHeld
                refine norm_ (a' := ?_) ?_ ?_
                rotate_left
                · show Act.put _ (some 107) _ = _
                  simp only [Act.put, List.setIfInBounds_toArray, List.set_cons_zero, List.set_cons_succ, i64_w, i32_w]
                  rfl
                refine stronger_ (S' := fun w' => Below w10.heap.size w10 w') (fun w' h => below_step hb_ h) (Below.refl _ _) ?_
                have hHeld := Below.refl w10.heap.size w10
                replace HB6 := Aside0.mk (blk_below HB6.out hb_)
                replace HB14 := Aside0.mk (blk_below HB14.out hb_)
                replace HEC := Aside0.mk (HEC.out.below hb_)
                replace HEA := Aside0.mk (HEA.out.below hb_)
                replace HB := Aside0.mk (below_step HB.out hb_)
                clear hb_
                refine one_ (i := 28) (N := some 109) #[true, true, true, true, true, true, true, true, true, true, true, true, true, true, true, true, true, true, true, true, true, true, true, true, true, true, true, true, true, false, false, false] rfl rfl (by kernel_rfl) (by simp) (fun K hK => ?_)
                refine goes_ Try.func15 (by kernel_rfl) rfl #[.agg #[.int .i64 e.f0, .int .i64 e.f1, .slice A3 e.f2.length c3]] (by rfl) rfl rfl (by simp only [List.map_toArray, List.map_cons, List.map_nil]; rfl) ?_
                with_reducible refine (refmay_ER _ e _ (HEA.out.below hHeld)).mono ?_
                rintro e_ w11 ⟨rfl, hb_⟩
                refine ⟨_, rfl, ?_⟩
                rw [HME.out]
                replace hb_ := below_step hHeld hb_
                refine hK.out _ _ hb_ (fun _ => ?_)
                clear hK K hHeld
                refine norm_ (a' := ?_) ?_ ?_
                rotate_left
                · show Act.put _ (some 109) _ = _
                  simp only [Act.put, List.setIfInBounds_toArray, List.set_cons_zero, List.set_cons_succ, i64_w, i32_w]
                  rfl
                refine stronger_ (S' := fun w' => Below w11.heap.size w11 w') (fun w' h => below_step hb_ h) (Below.refl _ _) ?_
                have hHeld := Below.refl w11.heap.size w11
                replace HB6 := Aside0.mk (blk_below HB6.out hb_)
                replace HB14 := Aside0.mk (blk_below HB14.out hb_)
                replace HEC := Aside0.mk (HEC.out.below hb_)
                replace HEA := Aside0.mk (HEA.out.below hb_)
                replace HB := Aside0.mk (below_step HB.out hb_)
                clear hb_
                refine pure_ (i := 29) (N := some 110) (v := ?_) (a' := ?_) #[true, true, true, true, true, true, true, true, true, true, true, true, true, true, true, true, true, true, true, true, true, true, true, true, true, true, true, true, true, true, false, false] rfl rfl (by kernel_rfl) (fun _ _ _ h => h) (Or.inl ⟨by rfl, ?_⟩) ?_ ?_
                rotate_left
                · intro w'
                  go_simp
                  with_reducible rfl
                rotate_left
                · simp only [Act.put, List.setIfInBounds_toArray, List.set_cons_zero, List.set_cons_succ, i64_w, i32_w]
                  rfl
                refine pure_ (i := 30) (N := some 111) (v := ?_) (a' := ?_) #[true, true, true, true, true, true, true, true, true, true, true, true, true, true, true, true, true, true, true, true, true, true, true, true, true, true, true, true, true, true, true, false] rfl rfl (by kernel_rfl) (fun _ _ _ h => h) (Or.inl ⟨by rfl, ?_⟩) ?_ ?_
                rotate_left
                · intro w'
                  go_simp
                  with_reducible rfl
                rotate_left
                · simp only [Act.put, List.setIfInBounds_toArray, List.set_cons_zero, List.set_cons_succ, i64_w, i32_w]
                  rfl
                refine pure_ (i := 31) (N := some 4) (v := ?_) (a' := ?_) #[true, true, true, true, true, true, true, true, true, true, true, true, true, true, true, true, true, true, true, true, true, true, true, true, true, true, true, true, true, true, true, true] rfl rfl (by kernel_rfl) (fun _ _ _ h => h) (Or.inl ⟨by rfl, ?_⟩) ?_ ?_
                rotate_left
                · intro w'
                  go_simp
                  with_reducible rfl
                rotate_left
                · simp only [Act.put, List.setIfInBounds_toArray, List.set_cons_zero, List.set_cons_succ, i64_w, i32_w]
                  rfl
                refine done_ (by kernel_rfl) ?_

                go_wp2
                go_ret
                exact ⟨rfl, HB.out⟩
theorem wfd_u8 {n : Int} (h : (Lit.int .u8 n).wf = true) : 0 ≤ n ∧ n ≤ 255 := by
  simp [Lit.wf, IntKind.min, IntKind.max, IntKind.bits, IntKind.signed] at h
  omega
end Go.Proofs.Ytpcbcekfakjgkaa.Ex
