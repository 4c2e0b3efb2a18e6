/- The statement RecOnes. -/
import Derived.Test.YtedbgkbjbfdnlaaRcTeC
import Derived.Test.YtedbgkbjbfdnlaaRcFen
namespace Go.Proofs.Ytedbgkbjbfdnlaa.Rc
open Go Go.RowKit Go.Proofs.YtedbgkbjbfdnlaaW.PrintWords Go.Proofs.YtedbgkbjbfdnlaaW.PrintLast Go.Proofs.YtedbgkbjbfdnlaaW.PrintMore Go.Proofs.Ytedbgkbjbfdnlaa.Pk
set_option linter.unusedVariables false
set_option linter.unusedSimpArgs false
theorem toRec_is {xs : List Int} (hb : Byt xs) (h : (toRec xs).2.2.2 = 0) : recB (toRec xs).1 (toRec xs).2.1 (toRec xs).2.2.1 = xs ∧ I64 (toRec xs).1 ∧ I64 (toRec xs).2.1 ∧ I64 (toRec xs).2.2.1 := by
  unfold toRec at h ⊢
  by_cases h1 : (rec3 xs).2.1 ≠ 0
  · rw [if_pos h1] at h; exact absurd h h1
  rw [if_neg h1] at h ⊢
  by_cases h2 : timeOk (rec3 xs).1.2.2 = false
  · rw [if_pos h2] at h; exact absurd h (by simp)
  rw [if_neg h2] at h ⊢
  by_cases h3 : (rec3 xs).2.2.length ≠ 0
  · rw [if_pos h3] at h; exact absurd h (by simp)
  rw [if_neg h3]
  obtain ⟨g0, g1, g2⟩ := rec3_is hb (by simpa using h1)
  have he : (rec3 xs).2.2 = [] := List.length_eq_zero_iff.1 (by simpa using h3)
  rw [he, List.append_nil] at g0
  exact ⟨g0.symm, g2⟩
theorem C_str {w : World} {A : Option Addr} {n c : Nat} {xs : List Int} (h : (Kd.int .u8).C w A n xs) : (convert 32 9 (.slice A n c)).run Try.prog w = .ok (.string (strOfNums xs)) w :=
  Kd.C_string Try.underlying32 Try.underlying5 Try.underlying9 h
theorem stronger_ {P : Program} {ops : Array Oper} {Q : Exit → Act → World → Prop} {md : Region.Mode} {S : World → Prop} (S' : World → Prop) (hS : ∀ w, S' w → S w) : ∀ {fuel : Nat} {l : Array Bool} {a : Act} {w : World},
    S' w → wpAnyLast P md ops Q S' [] fuel l a w → wpAnyLast P md ops Q S [] fuel l a w
  | 0, _, _, _, _, h => h
  | fuel + 1, l, a, w, h0, h => ⟨h.1, fun i hi => wpOp_mono (fun a' w' h' => ⟨fun hn _ => hS w' (h'.1 hn h0), stronger_ S' hS (h'.1 (by simp) h0) h'.2⟩) (h.2 i hi)⟩
theorem record_str (a b c : Int) (xs : List Int) (w : World) (ha : I64 a) (hb : I64 b) (hc : I64 c) (h : recB a b c = xs) :
    Calls Try.prog 15 #[.agg #[.int .i64 a, .int .i64 b, .int .i64 c]] w fun e w' => ∃ v : Value, e = .returned v ∧ (Kd.int .u8).R 5 w' w.heap.size (fun _ => True) v xs ∧ Below w.heap.size w w' :=
  Rp.rec_Record.calls 40 a b c xs w (by rw [recF 40 (by omega) (by omega) ha hb hc, h])
set_option maxHeartbeats 4000000 in
set_option maxRecDepth 100000 in
theorem ones_ok (A0 : Option Addr) (c0 : Nat) (l0 : List Int) (w : World) (hr0 : Kd.C (Kd.int .u8) w A0 l0.length l0) (hl : l0.length < 140737488355328) (hby : Byt l0) :
    Calls Try.prog 8 #[.slice A0 l0.length c0] w fun e w' => e = .returned (.bool true) ∧ Below w.heap.size w w' := by
  have HT1 := Aside0.mk (toRec_is hby)
  have HT2 := Aside0.mk (toEnt_is hby)
  have HC0 := Aside0.mk hr0
  have HL0 := Aside0.mk hl
  have HBY := Aside0.mk hby
  clear hr0 hl hby
  have HB := Aside0.mk (Below.refl w.heap.size w)
  obtain ⟨q1, HQ1⟩ : ∃ q, Aside0 (toRec l0 = q) := ⟨_, ⟨rfl⟩⟩
  obtain ⟨q2, HQ2⟩ : ∃ q, Aside0 (toEnt l0 = q) := ⟨_, ⟨rfl⟩⟩
  rw [HQ1.out] at HT1
  rw [HQ2.out] at HT2
  obtain ⟨n0, HN0⟩ : ∃ n0, Aside0 (l0.length = n0) := ⟨_, ⟨rfl⟩⟩
  rw [HN0.out]
  go_enter Try.func8, Try.ntmps8
  go_wp2_with fail
  refine (shown_ok _).mono ?_
  rintro e w2 ⟨rfl, hb_⟩
  have n0_ := Aside0.mk (below_step HB.out hb_); have n1_ := Aside0.mk (Kd.C_below HC0.out hb_); clear HB; clear HC0; have HB := n0_; have HC0 := n1_; clear n0_ n1_; clear hb_
  go_wp2_with fail
  rw [← HN0.out]
  refine (toRec_ok A0 c0 l0 _ HC0.out HL0.out HBY.out).mono ?_
  rintro e w3 ⟨he_, hb_⟩
  rw [HQ1.out] at he_
  subst he_
  rw [HN0.out]
  have n0_ := Aside0.mk (below_step HB.out hb_); have n1_ := Aside0.mk (Kd.C_below HC0.out hb_); clear HB; clear HC0; have HB := n0_; have HC0 := n1_; clear n0_ n1_; clear hb_
  obtain ⟨y0, y1, y2, e1⟩ := q1
  simp only at HT1 ⊢
  go_upto_region 3 with fail
  have BK4 := Aside0.mk (heap_alloc_new w3 (.cells #[.int .i64 y0, .int .i64 y1, .int .i64 y2] 23))
  have hb_ := below_alloc (Below.refl w3.heap.size w3) (.cells #[.int .i64 y0, .int .i64 y1, .int .i64 y2] 23)
  generalize w3.alloc (.cells #[.int .i64 y0, .int .i64 y1, .int .i64 y2] 23) = w4 at BK4 hb_ ⊢
  generalize w3.heap.size = g4 at BK4 ⊢
  have n0_ := Aside0.mk (below_step HB.out hb_); have n1_ := Aside0.mk (Kd.C_below HC0.out hb_); clear HB; clear HC0; have HB := n0_; have HC0 := n1_; clear n0_ n1_; clear hb_
  go_wp2_with fail
  rw [← HN0.out]
  refine (toEnt_ok A0 c0 l0 _ HC0.out HL0.out HBY.out).mono ?_
  rintro e w5 ⟨v9, v10, he_, r9_, r10_, hb_⟩
  rw [HQ2.out] at he_ r9_ r10_
  subst he_
  rw [HN0.out]
  replace BK4 := Aside0.mk (blk_below BK4.out hb_)
  have n0_ := Aside0.mk (below_step HB.out hb_); have n1_ := Aside0.mk (Kd.C_below HC0.out hb_); clear HB; clear HC0; have HB := n0_; have HC0 := n1_; clear n0_ n1_; clear hb_
  obtain ⟨⟨k, tk, ep, tx, lg, ky, vl, tm, dl, l9, l10⟩, e2⟩ := q2
  simp only at HT2 r9_ r10_ ⊢
  obtain ⟨A9, c9, rfl⟩ := Kd.R_slice r9_
  obtain ⟨A10, c10, rfl⟩ := Kd.R_slice r10_
  have HC9 := Aside0.mk (Kd.R_reads' r9_).2.2
  have HL9 := Aside0.mk (Kd.R_reads' r9_).2.1
  have HC10 := Aside0.mk (Kd.R_reads' r10_).2.2
  have HL10 := Aside0.mk (Kd.R_reads' r10_).2.1
  clear r9_ r10_
  go_upto_region 4 with fail
  have HE : Aside0 (EntAt (w5.alloc (.cells #[.int .i64 k, .int .i64 tk, .int .i64 ep, .int .i64 tx, .int .i64 lg, .int .i64 ky, .int .i64 vl, .int .i64 tm, .bool dl, .slice A9 l9.length c9, .slice A10 l10.length c10] 26)) w5.heap.size ⟨k, tk, ep, tx, lg, ky, vl, tm, dl, l9, l10⟩ A9 l9.length c9 A10 l10.length c10) := ⟨⟨cell_new _ _ _ _ _ rfl, cell_new _ _ _ _ _ rfl, cell_new _ _ _ _ _ rfl, cell_new _ _ _ _ _ rfl, cell_new _ _ _ _ _ rfl, cell_new _ _ _ _ _ rfl, cell_new _ _ _ _ _ rfl, cell_new _ _ _ _ _ rfl, cell_new _ _ _ _ _ rfl, cell_new _ _ _ _ _ rfl, cell_new _ _ _ _ _ rfl⟩⟩
  have hb_ := below_alloc (Below.refl w5.heap.size w5) (.cells #[.int .i64 k, .int .i64 tk, .int .i64 ep, .int .i64 tx, .int .i64 lg, .int .i64 ky, .int .i64 vl, .int .i64 tm, .bool dl, .slice A9 l9.length c9, .slice A10 l10.length c10] 26)
  generalize w5.alloc (.cells #[.int .i64 k, .int .i64 tk, .int .i64 ep, .int .i64 tx, .int .i64 lg, .int .i64 ky, .int .i64 vl, .int .i64 tm, .bool dl, .slice A9 l9.length c9, .slice A10 l10.length c10] 26) = w6 at HE hb_ ⊢
  generalize w5.heap.size = g6 at HE ⊢
  replace BK4 := Aside0.mk (blk_below BK4.out hb_)
  have n0_ := Aside0.mk (below_step HB.out hb_); have n1_ := Aside0.mk (Kd.C_below HC0.out hb_); have n2_ := Aside0.mk (Kd.C_below HC9.out hb_); have n3_ := Aside0.mk (Kd.C_below HC10.out hb_); clear HB; clear HC0; clear HC9; clear HC10; have HB := n0_; have HC0 := n1_; have HC9 := n2_; have HC10 := n3_; clear n0_ n1_ n2_ n3_; clear hb_
  by_cases he : e1 = 0
  · subst he
    obtain ⟨hq_, ha_, hb2_, hc_⟩ := HT1.out rfl
    have HQ := Aside0.mk hq_
    have HI := Aside0.mk (show I64 y0 ∧ I64 y1 ∧ I64 y2 from ⟨ha_, hb2_, hc_⟩)
    clear hq_ ha_ hb2_ hc_ HT1
    refine start_ (n := 10) (S := fun w' => Below w6.heap.size w6 w') (ds := []) #[false, false, false, false, false, false, false, false, false, false] (by kernel_rfl) rfl rfl (below_drew (Below.refl _ _)) (fun hHeld => ?_)
    refine pure_ (i := 0) (N := some 21) (v := ?_) (a' := ?_) #[true, false, false, false, false, false, false, false, false, false] rfl rfl (by kernel_rfl) (fun _ _ _ h => h) (Or.inl ⟨by rfl, ?_⟩) ?_ ?_
    rotate_left
    · intro w'
      go_simp
      with_reducible rfl
    rotate_left
    · simp only [Act.put, List.setIfInBounds_toArray, List.set_cons_zero, List.set_cons_succ, i64_w, i32_w]
      rfl
    refine pure_ (i := 1) (N := some 22) (v := ?_) (a' := ?_) #[true, true, false, false, false, false, false, false, false, false] rfl rfl (by kernel_rfl) (fun _ _ _ h => h) (Or.inl ⟨by rfl, ?_⟩) ?_ ?_
    rotate_left
    · intro w'
      go_simp
      with_reducible rfl
    rotate_left
    · simp only [Act.put, List.setIfInBounds_toArray, List.set_cons_zero, List.set_cons_succ, i64_w, i32_w]
      rfl
    refine pure_ (i := 2) (N := some 23) (v := ?_) (a' := ?_) #[true, true, true, false, false, false, false, false, false, false] rfl rfl (by kernel_rfl) (fun _ _ _ h => h) (Or.inl ⟨by rfl, ?_⟩) ?_ ?_
    rotate_left
    · intro w'
      go_simp
      with_reducible rfl
    rotate_left
    · simp only [Act.put, List.setIfInBounds_toArray, List.set_cons_zero, List.set_cons_succ, i64_w, i32_w]
      rfl
    refine pure_ (i := 6) (N := some 27) (v := ?_) (a' := ?_) #[true, true, true, false, false, false, true, false, false, false] rfl rfl (by kernel_rfl) (fun _ _ _ h => h) (Or.inl ⟨by rfl, ?_⟩) ?_ ?_
    rotate_left
    · intro w'
      go_simp
      with_reducible rfl
    rotate_left
    · simp only [Act.put, List.setIfInBounds_toArray, List.set_cons_zero, List.set_cons_succ, i64_w, i32_w]
      rfl
    refine take_ (i := 3) (N := some 24) (v := ?_) (a' := ?_) #[true, true, true, true, false, false, true, false, false, false] rfl rfl (by kernel_rfl) (fun _ _ _ h => h) (Or.inl ⟨by rfl, ?_⟩) hHeld ?_ ?_
    rotate_left
    · intro w' hS
      have c0_ := (blk_cell (blk_below BK4.out hS) 0).trans (rfl : _ = some (.int .i64 y0 : Value))
      have c1_ := (blk_cell (blk_below BK4.out hS) 1).trans (rfl : _ = some (.int .i64 y1 : Value))
      have c2_ := (blk_cell (blk_below BK4.out hS) 2).trans (rfl : _ = some (.int .i64 y2 : Value))
      go_simp
      with_reducible rfl
    rotate_left
    · simp only [Act.put, List.setIfInBounds_toArray, List.set_cons_zero, List.set_cons_succ, i64_w, i32_w]
      rfl
    refine take_ (i := 7) (N := some 28) (v := ?_) (a' := ?_) #[true, true, true, true, false, false, true, true, false, false] rfl rfl (by kernel_rfl) (fun _ _ _ h => h) (Or.inl ⟨by rfl, ?_⟩) hHeld ?_ ?_
    rotate_left
    · intro w' hS
      have e_ := C_str (c := c0) (Kd.C_below HC0.out hS)
      rw [HN0.out] at e_
      go_simp
      with_reducible rfl
    rotate_left
    · simp only [Act.put, List.setIfInBounds_toArray, List.set_cons_zero, List.set_cons_succ, i64_w, i32_w]
      rfl
    refine one_ (i := 4) (N := some 25) #[true, true, true, true, true, false, true, true, false, false] rfl rfl (by kernel_rfl) (by simp) (fun K hK => ?_)
    refine goes_ Try.func15 (by kernel_rfl) rfl #[.agg #[.int .i64 y0, .int .i64 y1, .int .i64 y2]] (by rfl) rfl rfl (by simp only [List.map_toArray, List.map_cons, List.map_nil]; rfl) ?_
    with_reducible refine (record_str y0 y1 y2 l0 _ HI.out.1 HI.out.2.1 HI.out.2.2 HQ.out).mono ?_
    rintro e w7 ⟨v7, rfl, hr_, hb_⟩
    refine ⟨_, rfl, ?_⟩
    replace hb_ := below_step hHeld hb_
    refine hK.out _ _ hb_ (fun _ => ?_)
    clear hK K hHeld
    refine norm_ (a' := ?_) ?_ ?_
    rotate_left
    · show Act.put _ (some 25) _ = _
      simp only [Act.put, List.setIfInBounds_toArray, List.set_cons_zero, List.set_cons_succ, i64_w, i32_w]
      rfl
    refine stronger_ (S' := fun w' => Below w7.heap.size w7 w') (fun w' h => below_step hb_ h) (Below.refl _ _) ?_
    have hHeld := Below.refl w7.heap.size w7
    have HV7 := Aside0.mk hr_
    clear hr_
    replace BK4 := Aside0.mk (blk_below BK4.out hb_)
    have n0_ := Aside0.mk (below_step HB.out hb_); have n1_ := Aside0.mk (HE.out.below hb_); have n2_ := Aside0.mk (Kd.C_below HC0.out hb_); have n3_ := Aside0.mk (Kd.C_below HC9.out hb_); have n4_ := Aside0.mk (Kd.C_below HC10.out hb_); clear HB; clear HE; clear HC0; clear HC9; clear HC10; have HB := n0_; have HE := n1_; have HC0 := n2_; have HC9 := n3_; have HC10 := n4_; clear n0_ n1_ n2_ n3_ n4_
    clear hb_
    refine take_ (i := 5) (N := some 26) (v := ?_) (a' := ?_) #[true, true, true, true, true, true, true, true, false, false] rfl rfl (by kernel_rfl) (fun _ _ _ h => h) (Or.inl ⟨by rfl, ?_⟩) hHeld ?_ ?_
    rotate_left
    · intro w' hS
      have e_ := R_str (Kd.R_below HV7.out hS)
      go_simp
      with_reducible rfl
    rotate_left
    · simp only [Act.put, List.setIfInBounds_toArray, List.set_cons_zero, List.set_cons_succ, i64_w, i32_w]
      rfl
    refine pure_ (i := 8) (N := some 29) (v := ?_) (a' := ?_) #[true, true, true, true, true, true, true, true, true, false] rfl rfl (by kernel_rfl) (fun _ _ _ h => h) (Or.inl ⟨by rfl, ?_⟩) ?_ ?_
    rotate_left
    · intro w'
      go_simp
      with_reducible rfl
    rotate_left
    · simp only [Act.put, List.setIfInBounds_toArray, List.set_cons_zero, List.set_cons_succ, i64_w, i32_w]
      rfl
    refine pure_ (i := 9) (N := some 30) (v := ?_) (a' := ?_) #[true, true, true, true, true, true, true, true, true, true] rfl rfl (by kernel_rfl) (fun _ _ _ h => h) (Or.inl ⟨by rfl, ?_⟩) ?_ ?_
    rotate_left
    · intro w'
      go_simp
      with_reducible rfl
    rotate_left
    · simp only [Act.put, List.setIfInBounds_toArray, List.set_cons_zero, List.set_cons_succ, i64_w, i32_w]
      rfl
    refine done_ (by kernel_rfl) ?_

    generalize strOfNums l0 = t0 at *
    go_upto_region 6 with fail
    by_cases hf : e2 = 0
    · subst hf
      obtain ⟨hen_, hmay_, hwf_⟩ := HT2.out rfl
      have HEN := Aside0.mk hen_
      have HMY := Aside0.mk hmay_
      have HWF := Aside0.mk hwf_
      clear hen_ hmay_ hwf_
      obtain ⟨e0, e1_, e2_, e3, e4, e5, e6, e7, e8, e9, e10⟩ := HE.out; simp only at e0 e1_ e2_ e3 e4 e5 e6 e7 e8 e9 e10
      go_wp2_with fail
      refine (entry_ok ⟨k, tk, ep, tx, lg, ky, vl, tm, dl, l9, l10⟩ HWF.out HMY.out A9 l9.length c9 A10 l10.length c10 _ rfl rfl HC9.out HL9.out HC10.out HL10.out).mono ?_
      rintro e w8 ⟨v1, rfl, hr_, hb_⟩
      rw [HEN.out] at hr_
      have HV1 := Aside0.mk hr_
      clear e0 e1_ e2_ e3 e4 e5 e6 e7 e8 e9 e10 hr_
      have n0_ := Aside0.mk (below_step HB.out hb_); have n1_ := Aside0.mk (Kd.C_below HC0.out hb_); have n2_ := Aside0.mk (HE.out.below hb_); have n3_ := Aside0.mk (Kd.C_below HC9.out hb_); have n4_ := Aside0.mk (Kd.C_below HC10.out hb_); clear HB; clear HC0; clear HE; clear HC9; clear HC10; have HB := n0_; have HC0 := n1_; have HE := n2_; have HC9 := n3_; have HC10 := n4_; clear n0_ n1_ n2_ n3_ n4_; clear hb_
      have s1_ := R_str HV1.out
      have s2_ := C_str (c := c0) HC0.out
      rw [HN0.out] at s2_
      generalize strOfNums l0 = t1 at s1_ s2_
      obtain ⟨e0, e1_, e2_, e3, e4, e5, e6, e7, e8, e9, e10⟩ := HE.out; simp only at e0 e1_ e2_ e3 e4 e5 e6 e7 e8 e9 e10
      go_wp2_with fail
      refine (may_any k tk ep tx lg ky vl tm dl l9 l10 A9 l9.length c9 A10 l10.length c10 _ rfl rfl HC9.out HL9.out HC10.out HL10.out).mono ?_
      rintro e w9 ⟨he_, hb_⟩
      rw [HMY.out] at he_
      subst he_
      clear s1_ s2_ e0 e1_ e2_ e3 e4 e5 e6 e7 e8 e9 e10
      have n0_ := Aside0.mk (below_step HB.out hb_); clear HB; have HB := n0_; clear n0_; clear hb_
      go_wp2
      go_ret
      exact ⟨rfl, HB.out⟩
    · have hz : (e2 == 0) = false := by simpa using hf
      clear hf
      go_wp2
      go_ret
      exact ⟨rfl, HB.out⟩
  · have hz1 : (e1 == 0) = false := by simpa using he
    clear he
    refine start_ (n := 10) (S := fun w' => Below w6.heap.size w6 w') (ds := []) #[false, false, false, false, false, false, false, false, false, false] (by kernel_rfl) rfl rfl (below_drew (Below.refl _ _)) (fun hHeld => ?_)
    refine pure_ (i := 0) (N := some 21) (v := ?_) (a' := ?_) #[true, false, false, false, false, false, false, false, false, false] rfl rfl (by kernel_rfl) (fun _ _ _ h => h) (Or.inl ⟨by rfl, ?_⟩) ?_ ?_
    rotate_left
    · intro w'
      go_simp
      with_reducible rfl
    rotate_left
    · simp only [Act.put, List.setIfInBounds_toArray, List.set_cons_zero, List.set_cons_succ, i64_w, i32_w]
      rfl
    refine pure_ (i := 1) (N := some 22) (v := ?_) (a' := ?_) #[true, true, false, false, false, false, false, false, false, false] rfl rfl (by kernel_rfl) (fun _ _ _ h => h) (Or.inl ⟨by rfl, ?_⟩) ?_ ?_
    rotate_left
    · intro w'
      go_simp
      with_reducible rfl
    rotate_left
    · simp only [Act.put, List.setIfInBounds_toArray, List.set_cons_zero, List.set_cons_succ, i64_w, i32_w]
      rfl
    refine pure_ (i := 2) (N := some 23) (v := ?_) (a' := ?_) #[true, true, true, false, false, false, false, false, false, false] rfl rfl (by kernel_rfl) (fun _ _ _ h => h) (Or.inl ⟨by rfl, ?_⟩) ?_ ?_
    rotate_left
    · intro w'
      go_simp
      with_reducible rfl
    rotate_left
    · simp only [Act.put, List.setIfInBounds_toArray, List.set_cons_zero, List.set_cons_succ, i64_w, i32_w]
      rfl
    refine pure_ (i := 3) (N := some 24) (v := undef) (a' := ?_) #[true, true, true, true, false, false, false, false, false, false] rfl rfl (by kernel_rfl) (fun _ _ _ h => h) (Or.inr ⟨by rfl, rfl⟩) ?_ ?_
    rotate_left
    · simp only [Act.put, List.setIfInBounds_toArray, List.set_cons_zero, List.set_cons_succ, i64_w, i32_w]
      rfl
    refine pure_ (i := 4) (N := some 25) (v := undef) (a' := ?_) #[true, true, true, true, true, false, false, false, false, false] rfl rfl (by kernel_rfl) (fun _ _ _ h => h) (Or.inr ⟨by rfl, rfl⟩) ?_ ?_
    rotate_left
    · simp only [Act.put, List.setIfInBounds_toArray, List.set_cons_zero, List.set_cons_succ, i64_w, i32_w]
      rfl
    refine pure_ (i := 5) (N := some 26) (v := undef) (a' := ?_) #[true, true, true, true, true, true, false, false, false, false] rfl rfl (by kernel_rfl) (fun _ _ _ h => h) (Or.inr ⟨by rfl, rfl⟩) ?_ ?_
    rotate_left
    · simp only [Act.put, List.setIfInBounds_toArray, List.set_cons_zero, List.set_cons_succ, i64_w, i32_w]
      rfl
    refine pure_ (i := 6) (N := some 27) (v := undef) (a' := ?_) #[true, true, true, true, true, true, true, false, false, false] rfl rfl (by kernel_rfl) (fun _ _ _ h => h) (Or.inr ⟨by rfl, rfl⟩) ?_ ?_
    rotate_left
    · simp only [Act.put, List.setIfInBounds_toArray, List.set_cons_zero, List.set_cons_succ, i64_w, i32_w]
      rfl
    refine pure_ (i := 7) (N := some 28) (v := undef) (a' := ?_) #[true, true, true, true, true, true, true, true, false, false] rfl rfl (by kernel_rfl) (fun _ _ _ h => h) (Or.inr ⟨by rfl, rfl⟩) ?_ ?_
    rotate_left
    · simp only [Act.put, List.setIfInBounds_toArray, List.set_cons_zero, List.set_cons_succ, i64_w, i32_w]
      rfl
    refine pure_ (i := 8) (N := some 29) (v := undef) (a' := ?_) #[true, true, true, true, true, true, true, true, true, false] rfl rfl (by kernel_rfl) (fun _ _ _ h => h) (Or.inr ⟨by rfl, rfl⟩) ?_ ?_
    rotate_left
    · simp only [Act.put, List.setIfInBounds_toArray, List.set_cons_zero, List.set_cons_succ, i64_w, i32_w]
      rfl
    refine pure_ (i := 9) (N := some 30) (v := ?_) (a' := ?_) #[true, true, true, true, true, true, true, true, true, true] rfl rfl (by kernel_rfl) (fun _ _ _ h => h) (Or.inl ⟨by rfl, ?_⟩) ?_ ?_
    rotate_left
    · intro w'
      go_simp
      with_reducible rfl
    rotate_left
    · simp only [Act.put, List.setIfInBounds_toArray, List.set_cons_zero, List.set_cons_succ, i64_w, i32_w]
      rfl
    refine done_ (by kernel_rfl) ?_

    have hb_ : Below w6.heap.size w6 w6.drew := below_drew (Below.refl _ _)
    generalize w6.drew = w7 at hb_ ⊢
    have n0_ := Aside0.mk (below_step HB.out hb_); have n1_ := Aside0.mk (HE.out.below hb_); have n2_ := Aside0.mk (Kd.C_below HC0.out hb_); have n3_ := Aside0.mk (Kd.C_below HC9.out hb_); have n4_ := Aside0.mk (Kd.C_below HC10.out hb_); clear HB; clear HE; clear HC0; clear HC9; clear HC10; have HB := n0_; have HE := n1_; have HC0 := n2_; have HC9 := n3_; have HC10 := n4_; clear n0_ n1_ n2_ n3_ n4_; clear hb_
    go_upto_region 6 with fail
    by_cases hf : e2 = 0
    · subst hf
      obtain ⟨hen_, hmay_, hwf_⟩ := HT2.out rfl
      have HEN := Aside0.mk hen_
      have HMY := Aside0.mk hmay_
      have HWF := Aside0.mk hwf_
      clear hen_ hmay_ hwf_
      obtain ⟨e0, e1_, e2_, e3, e4, e5, e6, e7, e8, e9, e10⟩ := HE.out; simp only at e0 e1_ e2_ e3 e4 e5 e6 e7 e8 e9 e10
      go_wp2_with fail
      refine (entry_ok ⟨k, tk, ep, tx, lg, ky, vl, tm, dl, l9, l10⟩ HWF.out HMY.out A9 l9.length c9 A10 l10.length c10 _ rfl rfl HC9.out HL9.out HC10.out HL10.out).mono ?_
      rintro e w8 ⟨v1, rfl, hr_, hb_⟩
      rw [HEN.out] at hr_
      have HV1 := Aside0.mk hr_
      clear e0 e1_ e2_ e3 e4 e5 e6 e7 e8 e9 e10 hr_
      have n0_ := Aside0.mk (below_step HB.out hb_); have n1_ := Aside0.mk (Kd.C_below HC0.out hb_); have n2_ := Aside0.mk (HE.out.below hb_); have n3_ := Aside0.mk (Kd.C_below HC9.out hb_); have n4_ := Aside0.mk (Kd.C_below HC10.out hb_); clear HB; clear HC0; clear HE; clear HC9; clear HC10; have HB := n0_; have HC0 := n1_; have HE := n2_; have HC9 := n3_; have HC10 := n4_; clear n0_ n1_ n2_ n3_ n4_; clear hb_
      have s1_ := R_str HV1.out
      have s2_ := C_str (c := c0) HC0.out
      rw [HN0.out] at s2_
      generalize strOfNums l0 = t1 at s1_ s2_
      obtain ⟨e0, e1_, e2_, e3, e4, e5, e6, e7, e8, e9, e10⟩ := HE.out; simp only at e0 e1_ e2_ e3 e4 e5 e6 e7 e8 e9 e10
      go_wp2_with fail
      refine (may_any k tk ep tx lg ky vl tm dl l9 l10 A9 l9.length c9 A10 l10.length c10 _ rfl rfl HC9.out HL9.out HC10.out HL10.out).mono ?_
      rintro e w9 ⟨he_, hb_⟩
      rw [HMY.out] at he_
      subst he_
      clear s1_ s2_ e0 e1_ e2_ e3 e4 e5 e6 e7 e8 e9 e10
      have n0_ := Aside0.mk (below_step HB.out hb_); clear HB; have HB := n0_; clear n0_; clear hb_
      go_wp2
      go_ret
      exact ⟨rfl, HB.out⟩
    · have hz : (e2 == 0) = false := by simpa using hf
      clear hf
      go_wp2
      go_ret
      exact ⟨rfl, HB.out⟩
end Go.Proofs.Ytedbgkbjbfdnlaa.Rc
