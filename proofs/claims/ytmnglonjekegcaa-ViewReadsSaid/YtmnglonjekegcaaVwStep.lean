/- (c11) state.step. -/
import Derived.Test.YtmnglonjekegcaaVwD
import Derived.Test.YtmnglonjekegcaaVwCm
import Derived.Test.YtmnglonjekegcaaRcMay
namespace Go.Proofs.Ytmnglonjekegcaa.Vw
open Go Go.RowKit Go.Maps Go.Proofs.Ytmnglonjekegcaa.Mk Go.Proofs.Ytmnglonjekegcaa.Rp Go.Proofs.YtmnglonjekegcaaW.PrintWords Go.Proofs.YtmnglonjekegcaaW.PrintLast Go.Proofs.YtmnglonjekegcaaW.PrintMore Go.Proofs.Ytmnglonjekegcaa.Rw Go.Proofs.Ytmnglonjekegcaa.Ow Go.Proofs.Ytmnglonjekegcaa.Mono
set_option linter.unusedVariables false
set_option linter.unusedSimpArgs false
set_option maxRecDepth 100000
theorem set_same {α : Type} {l : List α} {i : Nat} {a : α} (h : l[i]? = some a) : l.set i a = l := by
  obtain ⟨hl, e⟩ := List.getElem?_eq_some_iff.1 h
  rw [← e, List.set_getElem_self]
set_option maxHeartbeats 4000000 in
theorem step_ok (base bs nb : Nat) (at_ : Int) (x : S47) (A9 A10 : Option Addr) (c9 c10 : Nat) (w0 w : World) (M : List LE) (T : List TE) (hv : VS w base bs M T) (hB : Below base w0 w) (hb0 : base = w0.heap.size) (hbase : base ≤ w.heap.size)
    (hC9 : Kd.C (Kd.int .i64) w0 A9 x.f7.length x.f7) (hc9 : x.f7.length ≤ c9) (hC10 : Kd.C (Kd.int .i64) w0 A10 x.f8.length x.f8) (hc10 : x.f8.length ≤ c10) (hI : StInv nb ⟨M.map (·.l), T.map TE.s⟩) (hn : nb ≤ 900) :
    Calls Try.prog 29 #[.pointer (some ⟨bs, 0, none⟩), .int .i64 at_, .agg #[.int .i64 x.f0, .int .i64 x.f1, .int .i64 x.f2, .int .i64 x.f3, .int .i64 x.f4, .int .i64 x.f5.f0, .int .i64 x.f5.f1, .int .i64 x.f5.f2, .bool x.f6, .slice A9 x.f7.length c9, .slice A10 x.f8.length c10]] w fun r w' => r = .returned (.tuple #[]) ∧ Below base w0 w' ∧ base ≤ w'.heap.size ∧ ∃ M' T', VS w' base bs M' T' ∧ (⟨M'.map (·.l), T'.map TE.s⟩ : St) = stepV ⟨M.map (·.l), T.map TE.s⟩ at_ x := by
  have HV := Aside0.mk hv
  have HB := Aside0.mk hB
  have HB0 := Aside0.mk hb0
  have HBS := Aside0.mk hbase
  have HC9 := Aside0.mk hC9
  have HC10 := Aside0.mk hC10
  have HI := Aside0.mk hI
  have HN := Aside0.mk hn
  have HL9 := Aside0.mk hc9
  have HL10 := Aside0.mk hc10
  clear hv hB hb0 hbase hC9 hC10 hI hn hc9 hc10
  obtain ⟨q, HQ⟩ : ∃ q, Aside0 (mayE x = q) := ⟨_, ⟨rfl⟩⟩
  go_enter Try.func29, Try.ntmps29
  go_upto_region 1 with fail
  have HX := Aside0.mk (heap_alloc_new w (.cells #[.int .i64 x.f0, .int .i64 x.f1, .int .i64 x.f2, .int .i64 x.f3, .int .i64 x.f4, .int .i64 x.f5.f0, .int .i64 x.f5.f1, .int .i64 x.f5.f2, .bool x.f6, .slice A9 x.f7.length c9, .slice A10 x.f8.length c10] 47))
  have hb_ := below_alloc (Below.refl w.heap.size w) (.cells #[.int .i64 x.f0, .int .i64 x.f1, .int .i64 x.f2, .int .i64 x.f3, .int .i64 x.f4, .int .i64 x.f5.f0, .int .i64 x.f5.f1, .int .i64 x.f5.f2, .bool x.f6, .slice A9 x.f7.length c9, .slice A10 x.f8.length c10] 47)
  have hs_ : (w.alloc (.cells #[.int .i64 x.f0, .int .i64 x.f1, .int .i64 x.f2, .int .i64 x.f3, .int .i64 x.f4, .int .i64 x.f5.f0, .int .i64 x.f5.f1, .int .i64 x.f5.f2, .bool x.f6, .slice A9 x.f7.length c9, .slice A10 x.f8.length c10] 47)).heap.size = w.heap.size + 1 := by simp
  generalize w.alloc (.cells #[.int .i64 x.f0, .int .i64 x.f1, .int .i64 x.f2, .int .i64 x.f3, .int .i64 x.f4, .int .i64 x.f5.f0, .int .i64 x.f5.f1, .int .i64 x.f5.f2, .bool x.f6, .slice A9 x.f7.length c9, .slice A10 x.f8.length c10] 47) = w1 at HX hb_ hs_ ⊢
  replace HV := Aside0.mk (HV.out.below hb_)
  replace HB := Aside0.mk (below_on HB.out HBS.out hb_)
  replace HBS := Aside0.mk (Nat.le_trans HBS.out hb_.size)
  clear hb_
  clear hs_
  obtain ⟨gx, HGX⟩ : ∃ g, Aside0 (w.heap.size = g) := ⟨_, ⟨rfl⟩⟩
  rw [HGX.out] at HX ⊢
  have b0_ := (blk_cell (HX.out) 0).trans (rfl : _ = some (.int .i64 x.f0 : Value))
  have b1_ := (blk_cell (HX.out) 1).trans (rfl : _ = some (.int .i64 x.f1 : Value))
  have b2_ := (blk_cell (HX.out) 2).trans (rfl : _ = some (.int .i64 x.f2 : Value))
  have b3_ := (blk_cell (HX.out) 3).trans (rfl : _ = some (.int .i64 x.f3 : Value))
  have b4_ := (blk_cell (HX.out) 4).trans (rfl : _ = some (.int .i64 x.f4 : Value))
  have b5_ := (blk_cell (HX.out) 5).trans (rfl : _ = some (.int .i64 x.f5.f0 : Value))
  have b6_ := (blk_cell (HX.out) 6).trans (rfl : _ = some (.int .i64 x.f5.f1 : Value))
  have b7_ := (blk_cell (HX.out) 7).trans (rfl : _ = some (.int .i64 x.f5.f2 : Value))
  have b8_ := (blk_cell (HX.out) 8).trans (rfl : _ = some (.bool x.f6 : Value))
  have b9_ := (blk_cell (HX.out) 9).trans (rfl : _ = some (.slice A9 x.f7.length c9 : Value))
  have b10_ := (blk_cell (HX.out) 10).trans (rfl : _ = some (.slice A10 x.f8.length c10 : Value))
  go_wp2_with fail
  refine (Rp.rec_May.calls _ _ _ _ _ _ _ _ _ A9 c9 x.f7 A10 c10 x.f8 (mayE x) w1 (Kd.C_below HC9.out (by rw [← HB0.out]; exact HB.out)) HL9.out (Kd.C_below HC10.out (by rw [← HB0.out]; exact HB.out)) HL10.out rfl).mono ?_
  rintro e_ w2 ⟨rfl, hb_⟩
  replace HX := Aside0.mk (blk_below HX.out hb_)
  replace HV := Aside0.mk (HV.out.below hb_)
  replace HB := Aside0.mk (below_on HB.out HBS.out hb_)
  replace HBS := Aside0.mk (Nat.le_trans HBS.out hb_.size)
  clear hb_ b0_ b1_ b2_ b3_ b4_ b5_ b6_ b7_ b8_ b9_ b10_
  rw [HQ.out]
  cases q with
  | false =>
    go_wp2_with fail
    (first | go_end0 | refine bodyPost_ret (results_none rfl _ _ _) rfl ?_)
    exact ⟨rfl, HB.out, HBS.out, M, T, HV.out, by unfold stepV; rw [if_pos (.inl HQ.out)]⟩
  | true =>
    have b0_ := (blk_cell (HX.out) 0).trans (rfl : _ = some (.int .i64 x.f0 : Value))
    by_cases h6 : x.f0 = 6
    · have d6 : (x.f0 == 6) = true := by simpa using h6
      have H6 := Aside0.mk h6
      clear h6
      go_wp2_with fail
      (first | go_end0 | refine bodyPost_ret (results_none rfl _ _ _) rfl ?_)
      exact ⟨rfl, HB.out, HBS.out, M, T, HV.out, by unfold stepV; rw [if_pos (.inr H6.out)]⟩
    have d6 : (x.f0 == 6) = false := by simpa using h6
    have H6 := Aside0.mk h6
    have HS0 : Aside0 (¬ (mayE x = false ∨ x.f0 = 6)) := ⟨fun h => h.elim (fun h => by rw [HQ.out] at h; cases h) h6⟩
    clear h6
    have HNM := Aside0.mk (may_nums HQ.out)
    by_cases h1 : x.f0 = 1
    · have d1 : (x.f0 == 1) = true := by simpa using h1
      have H1 := Aside0.mk h1
      clear h1 b0_
      have b0_ := (blk_cell (HX.out) 0).trans (rfl : _ = some (.int .i64 x.f0 : Value))
      have b1_ := (blk_cell (HX.out) 1).trans (rfl : _ = some (.int .i64 x.f1 : Value))
      have b2_ := (blk_cell (HX.out) 2).trans (rfl : _ = some (.int .i64 x.f2 : Value))
      have b3_ := (blk_cell (HX.out) 3).trans (rfl : _ = some (.int .i64 x.f3 : Value))
      have b4_ := (blk_cell (HX.out) 4).trans (rfl : _ = some (.int .i64 x.f4 : Value))
      have b5_ := (blk_cell (HX.out) 5).trans (rfl : _ = some (.int .i64 x.f5.f0 : Value))
      have b6_ := (blk_cell (HX.out) 6).trans (rfl : _ = some (.int .i64 x.f5.f1 : Value))
      have b7_ := (blk_cell (HX.out) 7).trans (rfl : _ = some (.int .i64 x.f5.f2 : Value))
      have b8_ := (blk_cell (HX.out) 8).trans (rfl : _ = some (.bool x.f6 : Value))
      have b9_ := (blk_cell (HX.out) 9).trans (rfl : _ = some (.slice A9 x.f7.length c9 : Value))
      have b10_ := (blk_cell (HX.out) 10).trans (rfl : _ = some (.slice A10 x.f8.length c10 : Value))
      go_wp2_with fail
      refine (put_ok base bs x A9 A10 x.f7.length c9 x.f8.length c10 w0 w2 M T HV.out HB.out HBS.out (wfI (by have := HNM.out; omega) (by have := HNM.out; omega)) ?_ ?_).mono ?_
      · have h1 := HI.out.bl.1
        have h2 := Nat.mul_le_mul HN.out HN.out
        rw [List.length_map] at h1
        omega
      · intro a ha
        have h1 := HI.out.bl.2 a.l (List.mem_map.2 ⟨a, ha, rfl⟩)
        have h2 := Nat.mul_le_mul HN.out HN.out
        omega
      rintro e_ w3 ⟨rfl, hB_, hbs_, hk_, M2, hv_, hm_⟩
      have HR := Aside0.mk (And.intro hB_ (And.intro hbs_ (And.intro hv_ hm_)))
      clear hB_ hbs_ hk_ hv_ hm_ b0_ b1_ b2_ b3_ b4_ b5_ b6_ b7_ b8_ b9_ b10_
      go_wp2_with fail
      (first | go_end0 | refine bodyPost_ret (results_none rfl _ _ _) rfl ?_)
      exact ⟨rfl, HR.out.1, HR.out.2.1, M2, T, HR.out.2.2.1, by unfold stepV; rw [if_neg HS0.out, if_pos H1.out, HR.out.2.2.2]⟩
    have d1 : (x.f0 == 1) = false := by simpa using h1
    have H1 := Aside0.mk h1
    clear h1
    have b1_ := (blk_cell (HX.out) 1).trans (rfl : _ = some (.int .i64 x.f1 : Value))
    go_wp2_with fail
    refine (task_ok base bs x.f1 w0 w2 M T HV.out HB.out HBS.out (wfI (by have := HNM.out; omega) (by have := HNM.out; omega)) (by have h1 := HI.out.tl; rw [List.length_map] at h1; have := HN.out; omega)).mono ?_
    rintro e_ w3 ⟨T2, i, te, rfl, hB_, hbs_, hk_, hvt_, htm_, hti_, htk_⟩
    have hmem : te.s ∈ ensT (T.map TE.s) x.f1 := by rw [← htm_]; exact List.mem_map.2 ⟨te, List.mem_of_getElem? hti_, rfl⟩
    have HOT := Aside0.mk (show OkT nb te.s from ens_ok (n := nb) HI.out.each x.f1 te.s hmem)
    have HG := Aside0.mk (getT_of HI.out.ndT hmem htk_)
    replace HX := Aside0.mk (hk_ _ _ _ (fun h => h) HX.out)
    have HV3 := Aside0.mk hvt_
    have HTM := Aside0.mk htm_
    have HTI := Aside0.mk hti_
    have HTK := Aside0.mk htk_
    have HTC := Aside0.mk (hvt_.task hti_).cell
    replace HB := Aside0.mk hB_
    replace HBS := Aside0.mk hbs_
    clear hB_ hbs_ hk_ hvt_ htm_ hti_ htk_ hmem HV b0_ b1_
    have b0_ := (blk_cell (HX.out) 0).trans (rfl : _ = some (.int .i64 x.f0 : Value))
    by_cases h5 : x.f0 = 5
    · have d5 : (x.f0 == 5) = true := by simpa using h5
      have H5 := Aside0.mk h5
      clear h5
      by_cases hep : te.t.f1 < x.f2
      · have de : decide (te.t.f1 < x.f2) = true := by simpa using hep
        have HEP := Aside0.mk hep
        clear hep
        go_upto_region 6 with fail
        clear b0_
        refine start_ (n := 8) (S := fun w' => Below w3.heap.size w3 w') (ds := []) #[false, false, false, false, false, false, false, false] (by kernel_rfl) rfl rfl (below_drew (Below.refl _ _)) (fun hHeld => ?_)
        refine pure_ (i := 0) (N := some 30) (v := ?_) (a' := ?_) #[true, false, false, false, false, false, false, false] rfl rfl (by kernel_rfl) (fun _ _ _ h => h) (Or.inl ⟨by rfl, ?_⟩) ?_ ?_
        rotate_left
        · intro w'
          go_simp
          with_reducible rfl
        rotate_left
        · simp only [Act.put, List.setIfInBounds_toArray, List.set_cons_zero, List.set_cons_succ, i64_w, i32_w]
          rfl
        refine pure_ (i := 2) (N := some 32) (v := ?_) (a' := ?_) #[true, false, true, false, false, false, false, false] rfl rfl (by kernel_rfl) (fun _ _ _ h => h) (Or.inl ⟨by rfl, ?_⟩) ?_ ?_
        rotate_left
        · intro w'
          go_simp
          with_reducible rfl
        rotate_left
        · simp only [Act.put, List.setIfInBounds_toArray, List.set_cons_zero, List.set_cons_succ, i64_w, i32_w]
          rfl
        refine pure_ (i := 3) (N := some 33) (v := ?_) (a' := ?_) #[true, false, true, true, false, false, false, false] rfl rfl (by kernel_rfl) (fun _ _ _ h => h) (Or.inl ⟨by rfl, ?_⟩) ?_ ?_
        rotate_left
        · intro w'
          go_simp
          with_reducible rfl
        rotate_left
        · simp only [Act.put, List.setIfInBounds_toArray, List.set_cons_zero, List.set_cons_succ, i64_w, i32_w]
          rfl
        refine pure_ (i := 4) (N := some 34) (v := ?_) (a' := ?_) #[true, false, true, true, true, false, false, false] rfl rfl (by kernel_rfl) (fun _ _ _ h => h) (Or.inl ⟨by rfl, ?_⟩) ?_ ?_
        rotate_left
        · intro w'
          go_simp
          with_reducible rfl
        rotate_left
        · simp only [Act.put, List.setIfInBounds_toArray, List.set_cons_zero, List.set_cons_succ, i64_w, i32_w]
          rfl
        refine pure_ (i := 5) (N := some 35) (v := ?_) (a' := ?_) #[true, false, true, true, true, true, false, false] rfl rfl (by kernel_rfl) (fun _ _ _ h => h) (Or.inl ⟨by rfl, ?_⟩) ?_ ?_
        rotate_left
        · intro w'
          go_simp
          with_reducible rfl
        rotate_left
        · simp only [Act.put, List.setIfInBounds_toArray, List.set_cons_zero, List.set_cons_succ, i64_w, i32_w]
          rfl
        refine take_ (i := 1) (N := some 31) (v := ?_) (a' := ?_) #[true, true, true, true, true, true, false, false] rfl rfl (by kernel_rfl) (fun _ _ _ h => h) (Or.inl ⟨by rfl, ?_⟩) hHeld ?_ ?_
        rotate_left
        · intro w' hS
          have b2_ := (blk_cell (blk_below HX.out hS) 2).trans (rfl : _ = some (.int .i64 x.f2 : Value))
          go_simp
          with_reducible rfl
        rotate_left
        · simp only [Act.put, List.setIfInBounds_toArray, List.set_cons_zero, List.set_cons_succ, i64_w, i32_w]
          rfl
        refine take_ (i := 6) (N := some 36) (v := ?_) (a' := ?_) #[true, true, true, true, true, true, true, false] rfl rfl (by kernel_rfl) (fun _ _ _ h => h) (Or.inl ⟨by rfl, ?_⟩) hHeld ?_ ?_
        rotate_left
        · intro w' hS
          have c1_ := (blk_cell (blk_below HTC.out hS) 1).trans (rfl : _ = some (.int .i64 te.t.f1 : Value))
          go_simp
          with_reducible rfl
        rotate_left
        · simp only [Act.put, List.setIfInBounds_toArray, List.set_cons_zero, List.set_cons_succ, i64_w, i32_w]
          rfl
        refine pure_ (i := 7) (N := some 37) (v := ?_) (a' := ?_) #[true, true, true, true, true, true, true, true] rfl rfl (by kernel_rfl) (fun _ _ _ h => h) (Or.inl ⟨by rfl, ?_⟩) ?_ ?_
        rotate_left
        · intro w'
          go_simp
          with_reducible rfl
        rotate_left
        · simp only [Act.put, List.setIfInBounds_toArray, List.set_cons_zero, List.set_cons_succ, i64_w, i32_w]
          rfl
        refine done_ (by kernel_rfl) ?_

        replace HX := Aside0.mk (blk_below HX.out hHeld)
        replace HTC := Aside0.mk (blk_below HTC.out hHeld)
        replace HV3 := Aside0.mk (HV3.out.below hHeld)
        replace HB := Aside0.mk (below_on HB.out HBS.out hHeld)
        replace HBS := Aside0.mk (Nat.le_trans HBS.out hHeld.size)
        clear hHeld
        generalize w3.drew = w4 at HX HTC HV3 HB HBS ⊢
        have hset := blk_put HTC.out 1 (.int .i64 x.f2) rfl
        have z1_ := (blk_cell HTC.out 1).trans (rfl : _ = some (.int .i64 te.t.f1 : Value))
        have f1_ := blk_frozen HTC.out 1
        have z6_ := (blk_cell hset 6).trans (rfl : _ = some (te.vp : Value))
        have f6_ := blk_frozen hset 6
        have b2_ := (blk_cell HX.out 2).trans (rfl : _ = some (.int .i64 x.f2 : Value))
        have HEND := Aside0.mk (VS.cells HV3.out HTI.out (w' := (w4.setCell ⟨te.g, 1, none⟩ (.int .i64 x.f2)).setCell ⟨te.g, 6, none⟩ (.slice none 0 0)) (((Chg.refl w4 fun k => k = te.g).set (p := ⟨te.g, 1, none⟩) rfl _).set (p := ⟨te.g, 6, none⟩) rfl _) { te.t with f1 := x.f2 } [] (.slice none 0 0) rfl rfl rfl (.inr ⟨rfl, rfl⟩) (blk_put hset 6 (.slice none 0 0) rfl) HB.out HBS.out)
        clear hset
        go_wp2_with fail
        (first | go_end0 | refine bodyPost_ret (results_none rfl _ _ _) rfl ?_)
        refine ⟨rfl, HEND.out.2, Nat.le_trans HBS.out (by simp), M, _, HEND.out.1, ?_⟩
        rw [stepV_fence HS0.out H1.out H5.out HG.out HEP.out, set_s HI.out.ndT HTM.out HTI.out HTK.out (fenceT x) rfl]
      · have de : decide (te.t.f1 < x.f2) = false := by simpa using hep
        have HEP := Aside0.mk hep
        clear hep
        go_upto_region 6 with fail
        clear b0_
        refine start_ (n := 8) (S := fun w' => Below w3.heap.size w3 w') (ds := []) #[false, false, false, false, false, false, false, false] (by kernel_rfl) rfl rfl (below_drew (Below.refl _ _)) (fun hHeld => ?_)
        refine pure_ (i := 0) (N := some 30) (v := ?_) (a' := ?_) #[true, false, false, false, false, false, false, false] rfl rfl (by kernel_rfl) (fun _ _ _ h => h) (Or.inl ⟨by rfl, ?_⟩) ?_ ?_
        rotate_left
        · intro w'
          go_simp
          with_reducible rfl
        rotate_left
        · simp only [Act.put, List.setIfInBounds_toArray, List.set_cons_zero, List.set_cons_succ, i64_w, i32_w]
          rfl
        refine pure_ (i := 2) (N := some 32) (v := ?_) (a' := ?_) #[true, false, true, false, false, false, false, false] rfl rfl (by kernel_rfl) (fun _ _ _ h => h) (Or.inl ⟨by rfl, ?_⟩) ?_ ?_
        rotate_left
        · intro w'
          go_simp
          with_reducible rfl
        rotate_left
        · simp only [Act.put, List.setIfInBounds_toArray, List.set_cons_zero, List.set_cons_succ, i64_w, i32_w]
          rfl
        refine pure_ (i := 3) (N := some 33) (v := ?_) (a' := ?_) #[true, false, true, true, false, false, false, false] rfl rfl (by kernel_rfl) (fun _ _ _ h => h) (Or.inl ⟨by rfl, ?_⟩) ?_ ?_
        rotate_left
        · intro w'
          go_simp
          with_reducible rfl
        rotate_left
        · simp only [Act.put, List.setIfInBounds_toArray, List.set_cons_zero, List.set_cons_succ, i64_w, i32_w]
          rfl
        refine pure_ (i := 4) (N := some 34) (v := ?_) (a' := ?_) #[true, false, true, true, true, false, false, false] rfl rfl (by kernel_rfl) (fun _ _ _ h => h) (Or.inl ⟨by rfl, ?_⟩) ?_ ?_
        rotate_left
        · intro w'
          go_simp
          with_reducible rfl
        rotate_left
        · simp only [Act.put, List.setIfInBounds_toArray, List.set_cons_zero, List.set_cons_succ, i64_w, i32_w]
          rfl
        refine pure_ (i := 5) (N := some 35) (v := ?_) (a' := ?_) #[true, false, true, true, true, true, false, false] rfl rfl (by kernel_rfl) (fun _ _ _ h => h) (Or.inl ⟨by rfl, ?_⟩) ?_ ?_
        rotate_left
        · intro w'
          go_simp
          with_reducible rfl
        rotate_left
        · simp only [Act.put, List.setIfInBounds_toArray, List.set_cons_zero, List.set_cons_succ, i64_w, i32_w]
          rfl
        refine take_ (i := 1) (N := some 31) (v := ?_) (a' := ?_) #[true, true, true, true, true, true, false, false] rfl rfl (by kernel_rfl) (fun _ _ _ h => h) (Or.inl ⟨by rfl, ?_⟩) hHeld ?_ ?_
        rotate_left
        · intro w' hS
          have b2_ := (blk_cell (blk_below HX.out hS) 2).trans (rfl : _ = some (.int .i64 x.f2 : Value))
          go_simp
          with_reducible rfl
        rotate_left
        · simp only [Act.put, List.setIfInBounds_toArray, List.set_cons_zero, List.set_cons_succ, i64_w, i32_w]
          rfl
        refine take_ (i := 6) (N := some 36) (v := ?_) (a' := ?_) #[true, true, true, true, true, true, true, false] rfl rfl (by kernel_rfl) (fun _ _ _ h => h) (Or.inl ⟨by rfl, ?_⟩) hHeld ?_ ?_
        rotate_left
        · intro w' hS
          have c1_ := (blk_cell (blk_below HTC.out hS) 1).trans (rfl : _ = some (.int .i64 te.t.f1 : Value))
          go_simp
          with_reducible rfl
        rotate_left
        · simp only [Act.put, List.setIfInBounds_toArray, List.set_cons_zero, List.set_cons_succ, i64_w, i32_w]
          rfl
        refine pure_ (i := 7) (N := some 37) (v := ?_) (a' := ?_) #[true, true, true, true, true, true, true, true] rfl rfl (by kernel_rfl) (fun _ _ _ h => h) (Or.inl ⟨by rfl, ?_⟩) ?_ ?_
        rotate_left
        · intro w'
          go_simp
          with_reducible rfl
        rotate_left
        · simp only [Act.put, List.setIfInBounds_toArray, List.set_cons_zero, List.set_cons_succ, i64_w, i32_w]
          rfl
        refine done_ (by kernel_rfl) ?_

        replace HX := Aside0.mk (blk_below HX.out hHeld)
        replace HTC := Aside0.mk (blk_below HTC.out hHeld)
        replace HV3 := Aside0.mk (HV3.out.below hHeld)
        replace HB := Aside0.mk (below_on HB.out HBS.out hHeld)
        replace HBS := Aside0.mk (Nat.le_trans HBS.out hHeld.size)
        clear hHeld
        generalize w3.drew = w4 at HX HTC HV3 HB HBS ⊢
        go_wp2_with fail
        (first | go_end0 | refine bodyPost_ret (results_none rfl _ _ _) rfl ?_)
        refine ⟨rfl, HB.out, HBS.out, M, T2, HV3.out, ?_⟩
        rw [stepV_nofence (s := te.s) HS0.out H1.out H5.out HG.out (Int.not_lt.2 HEP.out), HTM.out]
    have d5 : (x.f0 == 5) = false := by simpa using h5
    have H5 := Aside0.mk h5
    clear h5
    by_cases he : x.f2 = te.t.f1
    · by_cases ht : x.f3 = te.t.f2
      · have dn1 : (x.f2 != te.t.f1) = false := by simpa using he
        have dn2 : (x.f3 != te.t.f2) = false := by simpa using ht
        have HE := Aside0.mk he
        have HT := Aside0.mk ht
        clear he ht
        go_upto_region 8 with fail
        clear b0_
        refine start_ (n := 18) (S := fun w' => Below w3.heap.size w3 w') (ds := []) #[false, false, false, false, false, false, false, false, false, false, false, false, false, false, false, false, false, false] (by kernel_rfl) rfl rfl (below_drew (Below.refl _ _)) (fun hHeld => ?_)
        refine pure_ (i := 0) (N := some 47) (v := ?_) (a' := ?_) #[true, false, false, false, false, false, false, false, false, false, false, false, false, false, false, false, false, false] rfl rfl (by kernel_rfl) (fun _ _ _ h => h) (Or.inl ⟨by rfl, ?_⟩) ?_ ?_
        rotate_left
        · intro w'
          go_simp
          with_reducible rfl
        rotate_left
        · simp only [Act.put, List.setIfInBounds_toArray, List.set_cons_zero, List.set_cons_succ, i64_w, i32_w]
          rfl
        refine pure_ (i := 2) (N := some 49) (v := ?_) (a' := ?_) #[true, false, true, false, false, false, false, false, false, false, false, false, false, false, false, false, false, false] rfl rfl (by kernel_rfl) (fun _ _ _ h => h) (Or.inl ⟨by rfl, ?_⟩) ?_ ?_
        rotate_left
        · intro w'
          go_simp
          with_reducible rfl
        rotate_left
        · simp only [Act.put, List.setIfInBounds_toArray, List.set_cons_zero, List.set_cons_succ, i64_w, i32_w]
          rfl
        refine pure_ (i := 3) (N := some 50) (v := ?_) (a' := ?_) #[true, false, true, true, false, false, false, false, false, false, false, false, false, false, false, false, false, false] rfl rfl (by kernel_rfl) (fun _ _ _ h => h) (Or.inl ⟨by rfl, ?_⟩) ?_ ?_
        rotate_left
        · intro w'
          go_simp
          with_reducible rfl
        rotate_left
        · simp only [Act.put, List.setIfInBounds_toArray, List.set_cons_zero, List.set_cons_succ, i64_w, i32_w]
          rfl
        refine pure_ (i := 4) (N := some 51) (v := ?_) (a' := ?_) #[true, false, true, true, true, false, false, false, false, false, false, false, false, false, false, false, false, false] rfl rfl (by kernel_rfl) (fun _ _ _ h => h) (Or.inl ⟨by rfl, ?_⟩) ?_ ?_
        rotate_left
        · intro w'
          go_simp
          with_reducible rfl
        rotate_left
        · simp only [Act.put, List.setIfInBounds_toArray, List.set_cons_zero, List.set_cons_succ, i64_w, i32_w]
          rfl
        refine pure_ (i := 5) (N := some 52) (v := ?_) (a' := ?_) #[true, false, true, true, true, true, false, false, false, false, false, false, false, false, false, false, false, false] rfl rfl (by kernel_rfl) (fun _ _ _ h => h) (Or.inl ⟨by rfl, ?_⟩) ?_ ?_
        rotate_left
        · intro w'
          go_simp
          with_reducible rfl
        rotate_left
        · simp only [Act.put, List.setIfInBounds_toArray, List.set_cons_zero, List.set_cons_succ, i64_w, i32_w]
          rfl
        refine take_ (i := 1) (N := some 48) (v := ?_) (a' := ?_) #[true, true, true, true, true, true, false, false, false, false, false, false, false, false, false, false, false, false] rfl rfl (by kernel_rfl) (fun _ _ _ h => h) (Or.inl ⟨by rfl, ?_⟩) hHeld ?_ ?_
        rotate_left
        · intro w' hS
          have b2_ := (blk_cell (blk_below HX.out hS) 2).trans (rfl : _ = some (.int .i64 x.f2 : Value))
          go_simp
          with_reducible rfl
        rotate_left
        · simp only [Act.put, List.setIfInBounds_toArray, List.set_cons_zero, List.set_cons_succ, i64_w, i32_w]
          rfl
        refine take_ (i := 6) (N := some 53) (v := ?_) (a' := ?_) #[true, true, true, true, true, true, true, false, false, false, false, false, false, false, false, false, false, false] rfl rfl (by kernel_rfl) (fun _ _ _ h => h) (Or.inl ⟨by rfl, ?_⟩) hHeld ?_ ?_
        rotate_left
        · intro w' hS
          have c1_ := (blk_cell (blk_below HTC.out hS) 1).trans (rfl : _ = some (.int .i64 te.t.f1 : Value))
          go_simp
          with_reducible rfl
        rotate_left
        · simp only [Act.put, List.setIfInBounds_toArray, List.set_cons_zero, List.set_cons_succ, i64_w, i32_w]
          rfl
        refine pure_ (i := 7) (N := some 54) (v := ?_) (a' := ?_) #[true, true, true, true, true, true, true, true, false, false, false, false, false, false, false, false, false, false] rfl rfl (by kernel_rfl) (fun _ _ _ h => h) (Or.inl ⟨by rfl, ?_⟩) ?_ ?_
        rotate_left
        · intro w'
          go_simp
          with_reducible rfl
        rotate_left
        · simp only [Act.put, List.setIfInBounds_toArray, List.set_cons_zero, List.set_cons_succ, i64_w, i32_w]
          rfl
        refine pure_ (i := 8) (N := some 55) (v := ?_) (a' := ?_) #[true, true, true, true, true, true, true, true, true, false, false, false, false, false, false, false, false, false] rfl rfl (by kernel_rfl) (fun _ _ _ h => h) (Or.inl ⟨by rfl, ?_⟩) ?_ ?_
        rotate_left
        · intro w'
          go_simp
          with_reducible rfl
        rotate_left
        · simp only [Act.put, List.setIfInBounds_toArray, List.set_cons_zero, List.set_cons_succ, i64_w, i32_w]
          rfl
        refine pure_ (i := 9) (N := some 56) (v := ?_) (a' := ?_) #[true, true, true, true, true, true, true, true, true, true, false, false, false, false, false, false, false, false] rfl rfl (by kernel_rfl) (fun _ _ _ h => h) (Or.inl ⟨by rfl, ?_⟩) ?_ ?_
        rotate_left
        · intro w'
          go_simp
          with_reducible rfl
        rotate_left
        · simp only [Act.put, List.setIfInBounds_toArray, List.set_cons_zero, List.set_cons_succ, i64_w, i32_w]
          rfl
        refine pure_ (i := 11) (N := some 58) (v := ?_) (a' := ?_) #[true, true, true, true, true, true, true, true, true, true, false, true, false, false, false, false, false, false] rfl rfl (by kernel_rfl) (fun _ _ _ h => h) (Or.inl ⟨by rfl, ?_⟩) ?_ ?_
        rotate_left
        · intro w'
          go_simp
          with_reducible rfl
        rotate_left
        · simp only [Act.put, List.setIfInBounds_toArray, List.set_cons_zero, List.set_cons_succ, i64_w, i32_w]
          rfl
        refine pure_ (i := 12) (N := some 59) (v := ?_) (a' := ?_) #[true, true, true, true, true, true, true, true, true, true, false, true, true, false, false, false, false, false] rfl rfl (by kernel_rfl) (fun _ _ _ h => h) (Or.inl ⟨by rfl, ?_⟩) ?_ ?_
        rotate_left
        · intro w'
          go_simp
          with_reducible rfl
        rotate_left
        · simp only [Act.put, List.setIfInBounds_toArray, List.set_cons_zero, List.set_cons_succ, i64_w, i32_w]
          rfl
        refine pure_ (i := 13) (N := some 60) (v := ?_) (a' := ?_) #[true, true, true, true, true, true, true, true, true, true, false, true, true, true, false, false, false, false] rfl rfl (by kernel_rfl) (fun _ _ _ h => h) (Or.inl ⟨by rfl, ?_⟩) ?_ ?_
        rotate_left
        · intro w'
          go_simp
          with_reducible rfl
        rotate_left
        · simp only [Act.put, List.setIfInBounds_toArray, List.set_cons_zero, List.set_cons_succ, i64_w, i32_w]
          rfl
        refine pure_ (i := 14) (N := some 61) (v := ?_) (a' := ?_) #[true, true, true, true, true, true, true, true, true, true, false, true, true, true, true, false, false, false] rfl rfl (by kernel_rfl) (fun _ _ _ h => h) (Or.inl ⟨by rfl, ?_⟩) ?_ ?_
        rotate_left
        · intro w'
          go_simp
          with_reducible rfl
        rotate_left
        · simp only [Act.put, List.setIfInBounds_toArray, List.set_cons_zero, List.set_cons_succ, i64_w, i32_w]
          rfl
        refine take_ (i := 10) (N := some 57) (v := ?_) (a' := ?_) #[true, true, true, true, true, true, true, true, true, true, true, true, true, true, true, false, false, false] rfl rfl (by kernel_rfl) (fun _ _ _ h => h) (Or.inl ⟨by rfl, ?_⟩) hHeld ?_ ?_
        rotate_left
        · intro w' hS
          have b3_ := (blk_cell (blk_below HX.out hS) 3).trans (rfl : _ = some (.int .i64 x.f3 : Value))
          go_simp
          with_reducible rfl
        rotate_left
        · simp only [Act.put, List.setIfInBounds_toArray, List.set_cons_zero, List.set_cons_succ, i64_w, i32_w]
          rfl
        refine take_ (i := 15) (N := some 62) (v := ?_) (a' := ?_) #[true, true, true, true, true, true, true, true, true, true, true, true, true, true, true, true, false, false] rfl rfl (by kernel_rfl) (fun _ _ _ h => h) (Or.inl ⟨by rfl, ?_⟩) hHeld ?_ ?_
        rotate_left
        · intro w' hS
          have c2_ := (blk_cell (blk_below HTC.out hS) 2).trans (rfl : _ = some (.int .i64 te.t.f2 : Value))
          go_simp
          with_reducible rfl
        rotate_left
        · simp only [Act.put, List.setIfInBounds_toArray, List.set_cons_zero, List.set_cons_succ, i64_w, i32_w]
          rfl
        refine pure_ (i := 16) (N := some 63) (v := ?_) (a' := ?_) #[true, true, true, true, true, true, true, true, true, true, true, true, true, true, true, true, true, false] rfl rfl (by kernel_rfl) (fun _ _ _ h => h) (Or.inl ⟨by rfl, ?_⟩) ?_ ?_
        rotate_left
        · intro w'
          go_simp
          with_reducible rfl
        rotate_left
        · simp only [Act.put, List.setIfInBounds_toArray, List.set_cons_zero, List.set_cons_succ, i64_w, i32_w]
          rfl
        refine pure_ (i := 17) (N := some 64) (v := ?_) (a' := ?_) #[true, true, true, true, true, true, true, true, true, true, true, true, true, true, true, true, true, true] rfl rfl (by kernel_rfl) (fun _ _ _ h => h) (Or.inl ⟨by rfl, ?_⟩) ?_ ?_
        rotate_left
        · intro w'
          go_simp
          with_reducible rfl
        rotate_left
        · simp only [Act.put, List.setIfInBounds_toArray, List.set_cons_zero, List.set_cons_succ, i64_w, i32_w]
          rfl
        refine done_ (by kernel_rfl) ?_

        replace HX := Aside0.mk (blk_below HX.out hHeld)
        replace HTC := Aside0.mk (blk_below HTC.out hHeld)
        replace HV3 := Aside0.mk (HV3.out.below hHeld)
        replace HB := Aside0.mk (below_on HB.out HBS.out hHeld)
        replace HBS := Aside0.mk (Nat.le_trans HBS.out hHeld.size)
        clear hHeld
        generalize w3.drew = w4 at HX HTC HV3 HB HBS ⊢
        clear dn1 dn2
        have b0_ := (blk_cell (HX.out) 0).trans (rfl : _ = some (.int .i64 x.f0 : Value))
        by_cases h2 : x.f0 = 2
        · have d2 : (x.f0 == 2) = true := by simpa using h2
          have H2 := Aside0.mk h2
          clear h2
          have hE := HV3.out.task HTI.out
          have HRP := Aside0.mk hE.rp
          obtain ⟨Ap, cp, hvp, _, _⟩ := slice_of hE.rp
          have HVP := Aside0.mk hvp
          have HNQ : Aside0 (some te.g ≠ te.vp.ownBlock) := ⟨fun hh => by
            obtain ⟨cur, hc⟩ := own_block hE.rp hh
            exact blk_types hE.cell hc (by decide) rfl⟩
          have HLI : Aside0 (te.items.length ≤ 1000000) := ⟨by have h1 := HOT.out.1; have h2 : te.s.o.length = te.items.length := by simp [TE.s]
                                                               have := HN.out; omega⟩
          clear hE hvp
          go_upto_region 10 with fail
          clear b0_
          refine start_ (n := 13) (S := fun w' => Below w4.heap.size w4 w') (ds := [9, 12]) #[false, false, false, false, false, false, false, false, false, false, false, false, false] (by kernel_rfl) rfl rfl (below_drew (Below.refl _ _)) (fun hHeld => ?_)
          refine pure_ (i := 0) (N := some 68) (v := ?_) (a' := ?_) #[true, false, false, false, false, false, false, false, false, false, false, false, false] rfl rfl (by kernel_rfl) (fun _ _ _ h => h) (Or.inl ⟨by rfl, ?_⟩) ?_ ?_
          rotate_left
          · intro w'
            go_simp
            with_reducible rfl
          rotate_left
          · simp only [Act.put, List.setIfInBounds_toArray, List.set_cons_zero, List.set_cons_succ, i64_w, i32_w]
            rfl
          refine pure_ (i := 1) (N := some 69) (v := ?_) (a' := ?_) #[true, true, false, false, false, false, false, false, false, false, false, false, false] rfl rfl (by kernel_rfl) (fun _ _ _ h => h) (Or.inl ⟨by rfl, ?_⟩) ?_ ?_
          rotate_left
          · intro w'
            go_simp
            with_reducible rfl
          rotate_left
          · simp only [Act.put, List.setIfInBounds_toArray, List.set_cons_zero, List.set_cons_succ, i64_w, i32_w]
            rfl
          refine pure_ (i := 2) (N := some 70) (v := ?_) (a' := ?_) #[true, true, true, false, false, false, false, false, false, false, false, false, false] rfl rfl (by kernel_rfl) (fun _ _ _ h => h) (Or.inl ⟨by rfl, ?_⟩) ?_ ?_
          rotate_left
          · intro w'
            go_simp
            with_reducible rfl
          rotate_left
          · simp only [Act.put, List.setIfInBounds_toArray, List.set_cons_zero, List.set_cons_succ, i64_w, i32_w]
            rfl
          refine pure_ (i := 3) (N := some 71) (v := ?_) (a' := ?_) #[true, true, true, true, false, false, false, false, false, false, false, false, false] rfl rfl (by kernel_rfl) (fun _ _ _ h => h) (Or.inl ⟨by rfl, ?_⟩) ?_ ?_
          rotate_left
          · intro w'
            go_simp
            with_reducible rfl
          rotate_left
          · simp only [Act.put, List.setIfInBounds_toArray, List.set_cons_zero, List.set_cons_succ, i64_w, i32_w]
            rfl
          refine pure_ (i := 5) (N := some 73) (v := ?_) (a' := ?_) #[true, true, true, true, false, true, false, false, false, false, false, false, false] rfl rfl (by kernel_rfl) (fun _ _ _ h => h) (Or.inl ⟨by rfl, ?_⟩) ?_ ?_
          rotate_left
          · intro w'
            go_simp
            with_reducible rfl
          rotate_left
          · simp only [Act.put, List.setIfInBounds_toArray, List.set_cons_zero, List.set_cons_succ, i64_w, i32_w]
            rfl
          refine take_ (i := 4) (N := some 72) (v := ?_) (a' := ?_) #[true, true, true, true, true, true, false, false, false, false, false, false, false] rfl rfl (by kernel_rfl) (fun _ _ _ h => h) (Or.inl ⟨by rfl, ?_⟩) hHeld ?_ ?_
          rotate_left
          · intro w' hS
            have c6_ := (blk_cell (blk_below HTC.out hS) 6).trans (rfl : _ = some (te.vp : Value))
            rw [HVP.out] at c6_
            go_simp
            with_reducible rfl
          rotate_left
          · simp only [Act.put, List.setIfInBounds_toArray, List.set_cons_zero, List.set_cons_succ, i64_w, i32_w]
            rfl
          refine take_ (i := 6) (N := some 74) (v := ?_) (a' := ?_) #[true, true, true, true, true, true, true, false, false, false, false, false, false] rfl rfl (by kernel_rfl) (fun _ _ _ h => h) (Or.inl ⟨by rfl, ?_⟩) hHeld ?_ ?_
          rotate_left
          · intro w' hS
            have b0_ := (blk_cell (blk_below HX.out hS) 0).trans (rfl : _ = some (.int .i64 x.f0 : Value))
            have b1_ := (blk_cell (blk_below HX.out hS) 1).trans (rfl : _ = some (.int .i64 x.f1 : Value))
            have b2_ := (blk_cell (blk_below HX.out hS) 2).trans (rfl : _ = some (.int .i64 x.f2 : Value))
            have b3_ := (blk_cell (blk_below HX.out hS) 3).trans (rfl : _ = some (.int .i64 x.f3 : Value))
            have b4_ := (blk_cell (blk_below HX.out hS) 4).trans (rfl : _ = some (.int .i64 x.f4 : Value))
            have b5_ := (blk_cell (blk_below HX.out hS) 5).trans (rfl : _ = some (.int .i64 x.f5.f0 : Value))
            have b6_ := (blk_cell (blk_below HX.out hS) 6).trans (rfl : _ = some (.int .i64 x.f5.f1 : Value))
            have b7_ := (blk_cell (blk_below HX.out hS) 7).trans (rfl : _ = some (.int .i64 x.f5.f2 : Value))
            have b8_ := (blk_cell (blk_below HX.out hS) 8).trans (rfl : _ = some (.bool x.f6 : Value))
            have b9_ := (blk_cell (blk_below HX.out hS) 9).trans (rfl : _ = some (.slice A9 x.f7.length c9 : Value))
            have b10_ := (blk_cell (blk_below HX.out hS) 10).trans (rfl : _ = some (.slice A10 x.f8.length c10 : Value))
            go_simp
            with_reducible rfl
          rotate_left
          · simp only [Act.put, List.setIfInBounds_toArray, List.set_cons_zero, List.set_cons_succ, i64_w, i32_w]
            rfl
          refine pure_ (i := 7) (N := some 75) (v := ?_) (a' := ?_) #[true, true, true, true, true, true, true, true, false, false, false, false, false] rfl rfl (by kernel_rfl) (fun _ _ _ h => h) (Or.inl ⟨by rfl, ?_⟩) ?_ ?_
          rotate_left
          · intro w'
            go_simp
            with_reducible rfl
          rotate_left
          · simp only [Act.put, List.setIfInBounds_toArray, List.set_cons_zero, List.set_cons_succ, i64_w, i32_w]
            rfl
          refine one_ (i := 8) (N := some 76) #[true, true, true, true, true, true, true, true, true, false, false, false, false] rfl rfl (by kernel_rfl) (by simp) (fun K hK => ?_)
          refine value_ (w1 := w4.drew.alloc (.cells #[.int .i64 at_, .int .i64 x.f0, .int .i64 x.f1, .int .i64 x.f2, .int .i64 x.f3, .int .i64 x.f4, .int .i64 x.f5.f0, .int .i64 x.f5.f1, .int .i64 x.f5.f2, .bool x.f6, .slice A9 x.f7.length c9, .slice A10 x.f8.length c10] 75)) (v := .slice (some ⟨w4.drew.heap.size, 0, none⟩) 1 1) (by rfl) rfl (by first | (go_simp; done) | (go_simp; rfl)) ?_
          have hb_ := below_alloc (Below.refl w4.drew.heap.size w4.drew) (.cells #[.int .i64 at_, .int .i64 x.f0, .int .i64 x.f1, .int .i64 x.f2, .int .i64 x.f3, .int .i64 x.f4, .int .i64 x.f5.f0, .int .i64 x.f5.f1, .int .i64 x.f5.f2, .bool x.f6, .slice A9 x.f7.length c9, .slice A10 x.f8.length c10] 75)
          replace hb_ := below_step hHeld hb_
          refine hK.out _ _ hb_ (fun _ => ?_)
          clear hK K
          refine norm_ (a' := ?_) ?_ ?_
          rotate_left
          · show Act.put _ (some 76) _ = _
            simp only [Act.put, List.setIfInBounds_toArray, List.set_cons_zero, List.set_cons_succ, i64_w, i32_w]
            rfl
          have HNW := Aside0.mk (heap_alloc_new w4.drew (.cells #[.int .i64 at_, .int .i64 x.f0, .int .i64 x.f1, .int .i64 x.f2, .int .i64 x.f3, .int .i64 x.f4, .int .i64 x.f5.f0, .int .i64 x.f5.f1, .int .i64 x.f5.f2, .bool x.f6, .slice A9 x.f7.length c9, .slice A10 x.f8.length c10] 75))
          replace hHeld := hb_
          generalize w4.drew.alloc (.cells #[.int .i64 at_, .int .i64 x.f0, .int .i64 x.f1, .int .i64 x.f2, .int .i64 x.f3, .int .i64 x.f4, .int .i64 x.f5.f0, .int .i64 x.f5.f1, .int .i64 x.f5.f2, .bool x.f6, .slice A9 x.f7.length c9, .slice A10 x.f8.length c10] 75) = w5 at HNW hHeld hb_ ⊢
          obtain ⟨gl, HGL⟩ : ∃ g, Aside0 (w4.drew.heap.size = g) := ⟨_, ⟨rfl⟩⟩
          rw [HGL.out] at HNW ⊢
          clear hb_
          refine last_ (i := 9) (N := some 77) #[true, true, true, true, true, true, true, true, true, true, false, false, false] rfl rfl (by kernel_rfl) (by simp) (fun K hK => ?_)
          obtain ⟨v_, w6, hr_, ho_, hg_, hat_, A6, c6, rfl⟩ := app_one TIIT 65 rfl w5 base te.items.length te.vp (cellsIt te.items) (own_below HRP.out hHeld) gl 1 (itC ⟨at_, x, A9, c9, A10, c10⟩) HNW.out rfl (by simp [itC, entC, Value.oneCell']) HLI.out (by decide) (Nat.le_trans HBS.out hHeld.size)
          have HEND := Aside0.mk (open_end HV3.out HTI.out ⟨at_, x, A9, c9, A10, c10⟩ (.slice A6 (te.items.length + 1) c6) hHeld hg_ hat_ ho_ HB.out HBS.out)
          have HT6 := Aside0.mk (blk_grown (blk_below HTC.out hHeld) hg_ HNQ.out)
          have HS6 := Aside0.mk (Nat.le_trans (Nat.le_trans HBS.out hHeld.size) hg_.size)
          rw [HVP.out] at hr_
          refine value_ (w1 := w6) (v := .slice A6 (te.items.length + 1) c6) (by rfl) rfl (append_exec (.tmp 72) (.tmp 76) 65 rfl rfl rfl hr_) ?_
          clear hr_ ho_ hg_ hat_ hHeld
          refine hK.out _ _ ?_
          clear hK K
          refine norm_ (a' := ?_) ?_ ?_
          rotate_left
          · show Act.put _ (some 77) _ = _
            simp only [Act.put, List.setIfInBounds_toArray, List.set_cons_zero, List.set_cons_succ, i64_w, i32_w]
            rfl
          refine pure_ (i := 10) (N := some 78) (v := ?_) (a' := ?_) #[true, true, true, true, true, true, true, true, true, true, true, false, false] rfl rfl (by kernel_rfl) (fun _ _ _ h => h) (Or.inl ⟨by rfl, ?_⟩) ?_ ?_
          rotate_left
          · intro w'
            go_simp
            with_reducible rfl
          rotate_left
          · simp only [Act.put, List.setIfInBounds_toArray, List.set_cons_zero, List.set_cons_succ, i64_w, i32_w]
            rfl
          refine pure_ (i := 11) (N := some 79) (v := ?_) (a' := ?_) #[true, true, true, true, true, true, true, true, true, true, true, true, false] rfl rfl (by kernel_rfl) (fun _ _ _ h => h) (Or.inl ⟨by rfl, ?_⟩) ?_ ?_
          rotate_left
          · intro w'
            go_simp
            with_reducible rfl
          rotate_left
          · simp only [Act.put, List.setIfInBounds_toArray, List.set_cons_zero, List.set_cons_succ, i64_w, i32_w]
            rfl
          refine last_ (i := 12) (N := none) #[true, true, true, true, true, true, true, true, true, true, true, true, true] rfl rfl (by kernel_rfl) (by simp) (fun K hK => ?_)
          have z_ := (blk_cell HT6.out 6).trans (rfl : _ = some (te.vp : Value))
          have f_ := blk_frozen HT6.out 6
          refine skip_ (w1 := w6.setCell ⟨te.g, 6, none⟩ (.slice A6 (te.items.length + 1) c6)) (by rfl) rfl (by first | (go_simp; done) | (go_simp; rfl)) ?_
          clear z_ f_
          refine hK.out _ _ ?_
          clear hK K
          refine done_ (by kernel_rfl) ?_

          go_wp2_with fail
          (first | go_end0 | refine bodyPost_ret (results_none rfl _ _ _) rfl ?_)
          refine ⟨rfl, HEND.out.2, Nat.le_trans HS6.out (by simp), M, _, HEND.out.1, ?_⟩
          rw [stepV_data (s := te.s) HS0.out H1.out H5.out HG.out HE.out HT.out H2.out, set_s HI.out.ndT HTM.out HTI.out HTK.out (openT at_ x) (by simp [TE.s, openT])]
        have d2 : (x.f0 == 2) = false := by simpa using h2
        have H2 := Aside0.mk h2
        clear h2
        obtain ⟨b3, H3⟩ : ∃ b, Aside0 ((x.f0 == 3) = b) := ⟨_, ⟨rfl⟩⟩
        have d3 := H3.out
        have HO2 : Aside0 (te.items.length ≤ 900 ∧ te.t.f4.length ≤ 900 * 256 ∧ 0 ≤ te.t.f2 ∧ te.t.f2 ≤ 900 ∧ ∀ it ∈ te.items, mayE it.x = true) := ⟨by
          have h0 := OkT.mono HOT.out HN.out
          have h2 : te.s.o.length = te.items.length := by simp [TE.s]
          exact ⟨by rw [← h2]; exact h0.1, h0.2.1, h0.2.2.1, h0.2.2.2.1, fun it hit => h0.2.2.2.2 (it.at_, it.x) (List.mem_map.2 ⟨it, hit, rfl⟩)⟩⟩
        go_upto_if 82 with fail
        clear b0_ d3
        go_cut [6] (fun v6 wc => ∃ (M4 : List LE) (te4 : TE), v6 = .pointer (some ⟨te4.g, 0, none⟩) ∧ VS wc base bs M4 (T2.set i te4) ∧ Below base w0 wc ∧ base ≤ wc.heap.size ∧ te4.t.f2 = te.t.f2 ∧ te4.s = (if x.f0 = 3 then offsT x te.s else te.s) ∧ M4.map (·.l) = (if x.f0 = 3 then commitL (M.map (·.l)) te.s.o else M.map (·.l)))
        case first =>
          cases b3 with
          | true =>
            have H3e : Aside0 (x.f0 = 3) := ⟨by simpa using H3.out⟩
            have b0_ := (blk_cell (HX.out) 0).trans (rfl : _ = some (.int .i64 x.f0 : Value))
            have b1_ := (blk_cell (HX.out) 1).trans (rfl : _ = some (.int .i64 x.f1 : Value))
            have b2_ := (blk_cell (HX.out) 2).trans (rfl : _ = some (.int .i64 x.f2 : Value))
            have b3_ := (blk_cell (HX.out) 3).trans (rfl : _ = some (.int .i64 x.f3 : Value))
            have b4_ := (blk_cell (HX.out) 4).trans (rfl : _ = some (.int .i64 x.f4 : Value))
            have b5_ := (blk_cell (HX.out) 5).trans (rfl : _ = some (.int .i64 x.f5.f0 : Value))
            have b6_ := (blk_cell (HX.out) 6).trans (rfl : _ = some (.int .i64 x.f5.f1 : Value))
            have b7_ := (blk_cell (HX.out) 7).trans (rfl : _ = some (.int .i64 x.f5.f2 : Value))
            have b8_ := (blk_cell (HX.out) 8).trans (rfl : _ = some (.bool x.f6 : Value))
            have b9_ := (blk_cell (HX.out) 9).trans (rfl : _ = some (.slice A9 x.f7.length c9 : Value))
            have b10_ := (blk_cell (HX.out) 10).trans (rfl : _ = some (.slice A10 x.f8.length c10 : Value))
            go_wp2_with fail
            refine (commit_ok base bs x A9 A10 c9 c10 w0 w4 M T2 i (nb * nb) te HV3.out HB.out HB0.out HBS.out HTI.out HC9.out HC10.out HI.out.bl ?_ ?_ ?_ ?_).mono ?_
            · have := HO2.out.1
              have := Nat.mul_le_mul HN.out HN.out
              omega
            · have := HNM.out; omega
            · have h1 := HNM.out.2.2.2.2.2.1
              have h2 := HO2.out.2.1
              omega
            · intro it hit
              have := may_nums (HO2.out.2.2.2.2 it hit)
              exact wfI (by omega) (by omega)
            rintro e_ w5 ⟨rfl, hB_, hbs_, hk_, M5, vo, vq, hv_, hm_⟩
            have HR := Aside0.mk (And.intro hB_ (And.intro hbs_ (And.intro hv_ hm_)))
            clear hB_ hbs_ hk_ hv_ hm_ b0_ b1_ b2_ b3_ b4_ b5_ b6_ b7_ b8_ b9_ b10_
            go_wp2_with fail
            go_meet
            case rel => exact ⟨M5, { te with t := { te.t with f3 := x.f7, f4 := te.t.f4 ++ x.f8 }, vo := vo, vq := vq }, rfl, HR.out.2.2.1, HR.out.1, HR.out.2.1, rfl, by rw [if_pos H3e.out]; rfl, by rw [if_pos H3e.out, HR.out.2.2.2]⟩
          | false =>
            have H3e : Aside0 (¬ x.f0 = 3) := ⟨by simpa using H3.out⟩
            go_wp2_with fail
            go_meet
            case rel => exact ⟨M, te, rfl, by rw [set_same HTI.out]; exact HV3.out, HB.out, HBS.out, rfl, by rw [if_neg H3e.out], by rw [if_neg H3e.out]⟩
        case rest =>
          clear HV3 HB HBS HX HTC
          obtain ⟨M4, te4, rfl, hv4, hB4, hbs4, hy4, hs4, hm4⟩ := hcut
          have HV4 := Aside0.mk hv4
          have HB4 := Aside0.mk hB4
          have HBS4 := Aside0.mk hbs4
          have HS4 := Aside0.mk hs4
          have HM4 := Aside0.mk hm4
          have hy0 : 0 ≤ te4.t.f2 := by rw [hy4]; exact HO2.out.2.2.1
          have hy1 : te4.t.f2 ≤ 900 := by rw [hy4]; exact HO2.out.2.2.2.1
          have HTI4 : Aside0 ((T2.set i te4)[i]? = some te4) := ⟨List.getElem?_set_self (List.getElem?_eq_some_iff.1 HTI.out).1⟩
          clear hv4 hB4 hbs4 hs4 hm4 hy4
          have hcell := (HV4.out.task HTI4.out).cell
          have hset := blk_put hcell 6 (.slice none 0 0) rfl
          have z6_ := (blk_cell hcell 6).trans (rfl : _ = some (te4.vp : Value))
          have f6_ := blk_frozen hcell 6
          have z2_ := (blk_cell hset 2).trans (rfl : _ = some (.int .i64 te4.t.f2 : Value))
          have f2_ := blk_frozen hset 2
          have HEND := Aside0.mk (VS.cells HV4.out HTI4.out (w' := (wc.setCell ⟨te4.g, 6, none⟩ (.slice none 0 0)).setCell ⟨te4.g, 2, none⟩ (.int .i64 (te4.t.f2 + 1))) (((Chg.refl wc fun k => k = te4.g).set (p := ⟨te4.g, 6, none⟩) rfl _).set (p := ⟨te4.g, 2, none⟩) rfl _) { te4.t with f2 := te4.t.f2 + 1 } [] (.slice none 0 0) rfl rfl rfl (.inr ⟨rfl, rfl⟩) (blk_put hset 2 (.int .i64 (te4.t.f2 + 1)) rfl) HB4.out HBS4.out)
          clear hcell hset
          go_wp2_with fail
          (first | go_end0 | refine bodyPost_ret (results_none rfl _ _ _) rfl ?_)
          refine ⟨rfl, HEND.out.2, Nat.le_trans HBS4.out (by simp), M4, _, HEND.out.1, ?_⟩
          rw [stepV_end (s := te.s) HS0.out H1.out H5.out HG.out HE.out HT.out H2.out, List.set_set, set_s HI.out.ndT HTM.out HTI.out HTK.out (fun s => endT (if x.f0 = 3 then offsT x s else s)) (by show endT te4.s = _; rw [HS4.out]), HM4.out]
      · have dn1 : (x.f2 != te.t.f1) = false := by simpa using he
        have dn2 : (x.f3 != te.t.f2) = true := by simpa using ht
        have HO : Aside0 (x.f2 ≠ te.s.t.f1 ∨ x.f3 ≠ te.s.t.f2) := ⟨.inr ht⟩
        clear he ht
        go_upto_region 8 with fail
        clear b0_
        refine start_ (n := 18) (S := fun w' => Below w3.heap.size w3 w') (ds := []) #[false, false, false, false, false, false, false, false, false, false, false, false, false, false, false, false, false, false] (by kernel_rfl) rfl rfl (below_drew (Below.refl _ _)) (fun hHeld => ?_)
        refine pure_ (i := 0) (N := some 47) (v := ?_) (a' := ?_) #[true, false, false, false, false, false, false, false, false, false, false, false, false, false, false, false, false, false] rfl rfl (by kernel_rfl) (fun _ _ _ h => h) (Or.inl ⟨by rfl, ?_⟩) ?_ ?_
        rotate_left
        · intro w'
          go_simp
          with_reducible rfl
        rotate_left
        · simp only [Act.put, List.setIfInBounds_toArray, List.set_cons_zero, List.set_cons_succ, i64_w, i32_w]
          rfl
        refine pure_ (i := 2) (N := some 49) (v := ?_) (a' := ?_) #[true, false, true, false, false, false, false, false, false, false, false, false, false, false, false, false, false, false] rfl rfl (by kernel_rfl) (fun _ _ _ h => h) (Or.inl ⟨by rfl, ?_⟩) ?_ ?_
        rotate_left
        · intro w'
          go_simp
          with_reducible rfl
        rotate_left
        · simp only [Act.put, List.setIfInBounds_toArray, List.set_cons_zero, List.set_cons_succ, i64_w, i32_w]
          rfl
        refine pure_ (i := 3) (N := some 50) (v := ?_) (a' := ?_) #[true, false, true, true, false, false, false, false, false, false, false, false, false, false, false, false, false, false] rfl rfl (by kernel_rfl) (fun _ _ _ h => h) (Or.inl ⟨by rfl, ?_⟩) ?_ ?_
        rotate_left
        · intro w'
          go_simp
          with_reducible rfl
        rotate_left
        · simp only [Act.put, List.setIfInBounds_toArray, List.set_cons_zero, List.set_cons_succ, i64_w, i32_w]
          rfl
        refine pure_ (i := 4) (N := some 51) (v := ?_) (a' := ?_) #[true, false, true, true, true, false, false, false, false, false, false, false, false, false, false, false, false, false] rfl rfl (by kernel_rfl) (fun _ _ _ h => h) (Or.inl ⟨by rfl, ?_⟩) ?_ ?_
        rotate_left
        · intro w'
          go_simp
          with_reducible rfl
        rotate_left
        · simp only [Act.put, List.setIfInBounds_toArray, List.set_cons_zero, List.set_cons_succ, i64_w, i32_w]
          rfl
        refine pure_ (i := 5) (N := some 52) (v := ?_) (a' := ?_) #[true, false, true, true, true, true, false, false, false, false, false, false, false, false, false, false, false, false] rfl rfl (by kernel_rfl) (fun _ _ _ h => h) (Or.inl ⟨by rfl, ?_⟩) ?_ ?_
        rotate_left
        · intro w'
          go_simp
          with_reducible rfl
        rotate_left
        · simp only [Act.put, List.setIfInBounds_toArray, List.set_cons_zero, List.set_cons_succ, i64_w, i32_w]
          rfl
        refine take_ (i := 1) (N := some 48) (v := ?_) (a' := ?_) #[true, true, true, true, true, true, false, false, false, false, false, false, false, false, false, false, false, false] rfl rfl (by kernel_rfl) (fun _ _ _ h => h) (Or.inl ⟨by rfl, ?_⟩) hHeld ?_ ?_
        rotate_left
        · intro w' hS
          have b2_ := (blk_cell (blk_below HX.out hS) 2).trans (rfl : _ = some (.int .i64 x.f2 : Value))
          go_simp
          with_reducible rfl
        rotate_left
        · simp only [Act.put, List.setIfInBounds_toArray, List.set_cons_zero, List.set_cons_succ, i64_w, i32_w]
          rfl
        refine take_ (i := 6) (N := some 53) (v := ?_) (a' := ?_) #[true, true, true, true, true, true, true, false, false, false, false, false, false, false, false, false, false, false] rfl rfl (by kernel_rfl) (fun _ _ _ h => h) (Or.inl ⟨by rfl, ?_⟩) hHeld ?_ ?_
        rotate_left
        · intro w' hS
          have c1_ := (blk_cell (blk_below HTC.out hS) 1).trans (rfl : _ = some (.int .i64 te.t.f1 : Value))
          go_simp
          with_reducible rfl
        rotate_left
        · simp only [Act.put, List.setIfInBounds_toArray, List.set_cons_zero, List.set_cons_succ, i64_w, i32_w]
          rfl
        refine pure_ (i := 7) (N := some 54) (v := ?_) (a' := ?_) #[true, true, true, true, true, true, true, true, false, false, false, false, false, false, false, false, false, false] rfl rfl (by kernel_rfl) (fun _ _ _ h => h) (Or.inl ⟨by rfl, ?_⟩) ?_ ?_
        rotate_left
        · intro w'
          go_simp
          with_reducible rfl
        rotate_left
        · simp only [Act.put, List.setIfInBounds_toArray, List.set_cons_zero, List.set_cons_succ, i64_w, i32_w]
          rfl
        refine pure_ (i := 8) (N := some 55) (v := ?_) (a' := ?_) #[true, true, true, true, true, true, true, true, true, false, false, false, false, false, false, false, false, false] rfl rfl (by kernel_rfl) (fun _ _ _ h => h) (Or.inl ⟨by rfl, ?_⟩) ?_ ?_
        rotate_left
        · intro w'
          go_simp
          with_reducible rfl
        rotate_left
        · simp only [Act.put, List.setIfInBounds_toArray, List.set_cons_zero, List.set_cons_succ, i64_w, i32_w]
          rfl
        refine pure_ (i := 9) (N := some 56) (v := ?_) (a' := ?_) #[true, true, true, true, true, true, true, true, true, true, false, false, false, false, false, false, false, false] rfl rfl (by kernel_rfl) (fun _ _ _ h => h) (Or.inl ⟨by rfl, ?_⟩) ?_ ?_
        rotate_left
        · intro w'
          go_simp
          with_reducible rfl
        rotate_left
        · simp only [Act.put, List.setIfInBounds_toArray, List.set_cons_zero, List.set_cons_succ, i64_w, i32_w]
          rfl
        refine pure_ (i := 11) (N := some 58) (v := ?_) (a' := ?_) #[true, true, true, true, true, true, true, true, true, true, false, true, false, false, false, false, false, false] rfl rfl (by kernel_rfl) (fun _ _ _ h => h) (Or.inl ⟨by rfl, ?_⟩) ?_ ?_
        rotate_left
        · intro w'
          go_simp
          with_reducible rfl
        rotate_left
        · simp only [Act.put, List.setIfInBounds_toArray, List.set_cons_zero, List.set_cons_succ, i64_w, i32_w]
          rfl
        refine pure_ (i := 12) (N := some 59) (v := ?_) (a' := ?_) #[true, true, true, true, true, true, true, true, true, true, false, true, true, false, false, false, false, false] rfl rfl (by kernel_rfl) (fun _ _ _ h => h) (Or.inl ⟨by rfl, ?_⟩) ?_ ?_
        rotate_left
        · intro w'
          go_simp
          with_reducible rfl
        rotate_left
        · simp only [Act.put, List.setIfInBounds_toArray, List.set_cons_zero, List.set_cons_succ, i64_w, i32_w]
          rfl
        refine pure_ (i := 13) (N := some 60) (v := ?_) (a' := ?_) #[true, true, true, true, true, true, true, true, true, true, false, true, true, true, false, false, false, false] rfl rfl (by kernel_rfl) (fun _ _ _ h => h) (Or.inl ⟨by rfl, ?_⟩) ?_ ?_
        rotate_left
        · intro w'
          go_simp
          with_reducible rfl
        rotate_left
        · simp only [Act.put, List.setIfInBounds_toArray, List.set_cons_zero, List.set_cons_succ, i64_w, i32_w]
          rfl
        refine pure_ (i := 14) (N := some 61) (v := ?_) (a' := ?_) #[true, true, true, true, true, true, true, true, true, true, false, true, true, true, true, false, false, false] rfl rfl (by kernel_rfl) (fun _ _ _ h => h) (Or.inl ⟨by rfl, ?_⟩) ?_ ?_
        rotate_left
        · intro w'
          go_simp
          with_reducible rfl
        rotate_left
        · simp only [Act.put, List.setIfInBounds_toArray, List.set_cons_zero, List.set_cons_succ, i64_w, i32_w]
          rfl
        refine take_ (i := 10) (N := some 57) (v := ?_) (a' := ?_) #[true, true, true, true, true, true, true, true, true, true, true, true, true, true, true, false, false, false] rfl rfl (by kernel_rfl) (fun _ _ _ h => h) (Or.inl ⟨by rfl, ?_⟩) hHeld ?_ ?_
        rotate_left
        · intro w' hS
          have b3_ := (blk_cell (blk_below HX.out hS) 3).trans (rfl : _ = some (.int .i64 x.f3 : Value))
          go_simp
          with_reducible rfl
        rotate_left
        · simp only [Act.put, List.setIfInBounds_toArray, List.set_cons_zero, List.set_cons_succ, i64_w, i32_w]
          rfl
        refine take_ (i := 15) (N := some 62) (v := ?_) (a' := ?_) #[true, true, true, true, true, true, true, true, true, true, true, true, true, true, true, true, false, false] rfl rfl (by kernel_rfl) (fun _ _ _ h => h) (Or.inl ⟨by rfl, ?_⟩) hHeld ?_ ?_
        rotate_left
        · intro w' hS
          have c2_ := (blk_cell (blk_below HTC.out hS) 2).trans (rfl : _ = some (.int .i64 te.t.f2 : Value))
          go_simp
          with_reducible rfl
        rotate_left
        · simp only [Act.put, List.setIfInBounds_toArray, List.set_cons_zero, List.set_cons_succ, i64_w, i32_w]
          rfl
        refine pure_ (i := 16) (N := some 63) (v := ?_) (a' := ?_) #[true, true, true, true, true, true, true, true, true, true, true, true, true, true, true, true, true, false] rfl rfl (by kernel_rfl) (fun _ _ _ h => h) (Or.inl ⟨by rfl, ?_⟩) ?_ ?_
        rotate_left
        · intro w'
          go_simp
          with_reducible rfl
        rotate_left
        · simp only [Act.put, List.setIfInBounds_toArray, List.set_cons_zero, List.set_cons_succ, i64_w, i32_w]
          rfl
        refine pure_ (i := 17) (N := some 64) (v := ?_) (a' := ?_) #[true, true, true, true, true, true, true, true, true, true, true, true, true, true, true, true, true, true] rfl rfl (by kernel_rfl) (fun _ _ _ h => h) (Or.inl ⟨by rfl, ?_⟩) ?_ ?_
        rotate_left
        · intro w'
          go_simp
          with_reducible rfl
        rotate_left
        · simp only [Act.put, List.setIfInBounds_toArray, List.set_cons_zero, List.set_cons_succ, i64_w, i32_w]
          rfl
        refine done_ (by kernel_rfl) ?_

        replace HX := Aside0.mk (blk_below HX.out hHeld)
        replace HTC := Aside0.mk (blk_below HTC.out hHeld)
        replace HV3 := Aside0.mk (HV3.out.below hHeld)
        replace HB := Aside0.mk (below_on HB.out HBS.out hHeld)
        replace HBS := Aside0.mk (Nat.le_trans HBS.out hHeld.size)
        clear hHeld
        generalize w3.drew = w4 at HX HTC HV3 HB HBS ⊢
        go_wp2_with fail
        (first | go_end0 | refine bodyPost_ret (results_none rfl _ _ _) rfl ?_)
        refine ⟨rfl, HB.out, HBS.out, M, T2, HV3.out, ?_⟩
        rw [stepV_other HS0.out H1.out H5.out HG.out HO.out, HTM.out]
    · have dn1 : (x.f2 != te.t.f1) = true := by simpa using he
      have HO : Aside0 (x.f2 ≠ te.s.t.f1 ∨ x.f3 ≠ te.s.t.f2) := ⟨.inl he⟩
      clear he
      go_upto_region 8 with fail
      clear b0_
      refine start_ (n := 18) (S := fun w' => Below w3.heap.size w3 w') (ds := []) #[false, false, false, false, false, false, false, false, false, false, false, false, false, false, false, false, false, false] (by kernel_rfl) rfl rfl (below_drew (Below.refl _ _)) (fun hHeld => ?_)
      refine pure_ (i := 0) (N := some 47) (v := ?_) (a' := ?_) #[true, false, false, false, false, false, false, false, false, false, false, false, false, false, false, false, false, false] rfl rfl (by kernel_rfl) (fun _ _ _ h => h) (Or.inl ⟨by rfl, ?_⟩) ?_ ?_
      rotate_left
      · intro w'
        go_simp
        with_reducible rfl
      rotate_left
      · simp only [Act.put, List.setIfInBounds_toArray, List.set_cons_zero, List.set_cons_succ, i64_w, i32_w]
        rfl
      refine pure_ (i := 2) (N := some 49) (v := ?_) (a' := ?_) #[true, false, true, false, false, false, false, false, false, false, false, false, false, false, false, false, false, false] rfl rfl (by kernel_rfl) (fun _ _ _ h => h) (Or.inl ⟨by rfl, ?_⟩) ?_ ?_
      rotate_left
      · intro w'
        go_simp
        with_reducible rfl
      rotate_left
      · simp only [Act.put, List.setIfInBounds_toArray, List.set_cons_zero, List.set_cons_succ, i64_w, i32_w]
        rfl
      refine pure_ (i := 3) (N := some 50) (v := ?_) (a' := ?_) #[true, false, true, true, false, false, false, false, false, false, false, false, false, false, false, false, false, false] rfl rfl (by kernel_rfl) (fun _ _ _ h => h) (Or.inl ⟨by rfl, ?_⟩) ?_ ?_
      rotate_left
      · intro w'
        go_simp
        with_reducible rfl
      rotate_left
      · simp only [Act.put, List.setIfInBounds_toArray, List.set_cons_zero, List.set_cons_succ, i64_w, i32_w]
        rfl
      refine pure_ (i := 4) (N := some 51) (v := ?_) (a' := ?_) #[true, false, true, true, true, false, false, false, false, false, false, false, false, false, false, false, false, false] rfl rfl (by kernel_rfl) (fun _ _ _ h => h) (Or.inl ⟨by rfl, ?_⟩) ?_ ?_
      rotate_left
      · intro w'
        go_simp
        with_reducible rfl
      rotate_left
      · simp only [Act.put, List.setIfInBounds_toArray, List.set_cons_zero, List.set_cons_succ, i64_w, i32_w]
        rfl
      refine pure_ (i := 5) (N := some 52) (v := ?_) (a' := ?_) #[true, false, true, true, true, true, false, false, false, false, false, false, false, false, false, false, false, false] rfl rfl (by kernel_rfl) (fun _ _ _ h => h) (Or.inl ⟨by rfl, ?_⟩) ?_ ?_
      rotate_left
      · intro w'
        go_simp
        with_reducible rfl
      rotate_left
      · simp only [Act.put, List.setIfInBounds_toArray, List.set_cons_zero, List.set_cons_succ, i64_w, i32_w]
        rfl
      refine take_ (i := 1) (N := some 48) (v := ?_) (a' := ?_) #[true, true, true, true, true, true, false, false, false, false, false, false, false, false, false, false, false, false] rfl rfl (by kernel_rfl) (fun _ _ _ h => h) (Or.inl ⟨by rfl, ?_⟩) hHeld ?_ ?_
      rotate_left
      · intro w' hS
        have b2_ := (blk_cell (blk_below HX.out hS) 2).trans (rfl : _ = some (.int .i64 x.f2 : Value))
        go_simp
        with_reducible rfl
      rotate_left
      · simp only [Act.put, List.setIfInBounds_toArray, List.set_cons_zero, List.set_cons_succ, i64_w, i32_w]
        rfl
      refine take_ (i := 6) (N := some 53) (v := ?_) (a' := ?_) #[true, true, true, true, true, true, true, false, false, false, false, false, false, false, false, false, false, false] rfl rfl (by kernel_rfl) (fun _ _ _ h => h) (Or.inl ⟨by rfl, ?_⟩) hHeld ?_ ?_
      rotate_left
      · intro w' hS
        have c1_ := (blk_cell (blk_below HTC.out hS) 1).trans (rfl : _ = some (.int .i64 te.t.f1 : Value))
        go_simp
        with_reducible rfl
      rotate_left
      · simp only [Act.put, List.setIfInBounds_toArray, List.set_cons_zero, List.set_cons_succ, i64_w, i32_w]
        rfl
      refine pure_ (i := 7) (N := some 54) (v := ?_) (a' := ?_) #[true, true, true, true, true, true, true, true, false, false, false, false, false, false, false, false, false, false] rfl rfl (by kernel_rfl) (fun _ _ _ h => h) (Or.inl ⟨by rfl, ?_⟩) ?_ ?_
      rotate_left
      · intro w'
        go_simp
        with_reducible rfl
      rotate_left
      · simp only [Act.put, List.setIfInBounds_toArray, List.set_cons_zero, List.set_cons_succ, i64_w, i32_w]
        rfl
      refine pure_ (i := 8) (N := some 55) (v := ?_) (a' := ?_) #[true, true, true, true, true, true, true, true, true, false, false, false, false, false, false, false, false, false] rfl rfl (by kernel_rfl) (fun _ _ _ h => h) (Or.inl ⟨by rfl, ?_⟩) ?_ ?_
      rotate_left
      · intro w'
        go_simp
        with_reducible rfl
      rotate_left
      · simp only [Act.put, List.setIfInBounds_toArray, List.set_cons_zero, List.set_cons_succ, i64_w, i32_w]
        rfl
      refine pure_ (i := 9) (N := some 56) (v := undef) (a' := ?_) #[true, true, true, true, true, true, true, true, true, true, false, false, false, false, false, false, false, false] rfl rfl (by kernel_rfl) (fun _ _ _ h => h) (Or.inr ⟨by rfl, rfl⟩) ?_ ?_
      rotate_left
      · simp only [Act.put, List.setIfInBounds_toArray, List.set_cons_zero, List.set_cons_succ, i64_w, i32_w]
        rfl
      refine pure_ (i := 10) (N := some 57) (v := undef) (a' := ?_) #[true, true, true, true, true, true, true, true, true, true, true, false, false, false, false, false, false, false] rfl rfl (by kernel_rfl) (fun _ _ _ h => h) (Or.inr ⟨by rfl, rfl⟩) ?_ ?_
      rotate_left
      · simp only [Act.put, List.setIfInBounds_toArray, List.set_cons_zero, List.set_cons_succ, i64_w, i32_w]
        rfl
      refine pure_ (i := 11) (N := some 58) (v := undef) (a' := ?_) #[true, true, true, true, true, true, true, true, true, true, true, true, false, false, false, false, false, false] rfl rfl (by kernel_rfl) (fun _ _ _ h => h) (Or.inr ⟨by rfl, rfl⟩) ?_ ?_
      rotate_left
      · simp only [Act.put, List.setIfInBounds_toArray, List.set_cons_zero, List.set_cons_succ, i64_w, i32_w]
        rfl
      refine pure_ (i := 12) (N := some 59) (v := undef) (a' := ?_) #[true, true, true, true, true, true, true, true, true, true, true, true, true, false, false, false, false, false] rfl rfl (by kernel_rfl) (fun _ _ _ h => h) (Or.inr ⟨by rfl, rfl⟩) ?_ ?_
      rotate_left
      · simp only [Act.put, List.setIfInBounds_toArray, List.set_cons_zero, List.set_cons_succ, i64_w, i32_w]
        rfl
      refine pure_ (i := 13) (N := some 60) (v := undef) (a' := ?_) #[true, true, true, true, true, true, true, true, true, true, true, true, true, true, false, false, false, false] rfl rfl (by kernel_rfl) (fun _ _ _ h => h) (Or.inr ⟨by rfl, rfl⟩) ?_ ?_
      rotate_left
      · simp only [Act.put, List.setIfInBounds_toArray, List.set_cons_zero, List.set_cons_succ, i64_w, i32_w]
        rfl
      refine pure_ (i := 14) (N := some 61) (v := undef) (a' := ?_) #[true, true, true, true, true, true, true, true, true, true, true, true, true, true, true, false, false, false] rfl rfl (by kernel_rfl) (fun _ _ _ h => h) (Or.inr ⟨by rfl, rfl⟩) ?_ ?_
      rotate_left
      · simp only [Act.put, List.setIfInBounds_toArray, List.set_cons_zero, List.set_cons_succ, i64_w, i32_w]
        rfl
      refine pure_ (i := 15) (N := some 62) (v := undef) (a' := ?_) #[true, true, true, true, true, true, true, true, true, true, true, true, true, true, true, true, false, false] rfl rfl (by kernel_rfl) (fun _ _ _ h => h) (Or.inr ⟨by rfl, rfl⟩) ?_ ?_
      rotate_left
      · simp only [Act.put, List.setIfInBounds_toArray, List.set_cons_zero, List.set_cons_succ, i64_w, i32_w]
        rfl
      refine pure_ (i := 16) (N := some 63) (v := undef) (a' := ?_) #[true, true, true, true, true, true, true, true, true, true, true, true, true, true, true, true, true, false] rfl rfl (by kernel_rfl) (fun _ _ _ h => h) (Or.inr ⟨by rfl, rfl⟩) ?_ ?_
      rotate_left
      · simp only [Act.put, List.setIfInBounds_toArray, List.set_cons_zero, List.set_cons_succ, i64_w, i32_w]
        rfl
      refine pure_ (i := 17) (N := some 64) (v := ?_) (a' := ?_) #[true, true, true, true, true, true, true, true, true, true, true, true, true, true, true, true, true, true] rfl rfl (by kernel_rfl) (fun _ _ _ h => h) (Or.inl ⟨by rfl, ?_⟩) ?_ ?_
      rotate_left
      · intro w'
        go_simp
        with_reducible rfl
      rotate_left
      · simp only [Act.put, List.setIfInBounds_toArray, List.set_cons_zero, List.set_cons_succ, i64_w, i32_w]
        rfl
      refine done_ (by kernel_rfl) ?_

      replace HX := Aside0.mk (blk_below HX.out hHeld)
      replace HTC := Aside0.mk (blk_below HTC.out hHeld)
      replace HV3 := Aside0.mk (HV3.out.below hHeld)
      replace HB := Aside0.mk (below_on HB.out HBS.out hHeld)
      replace HBS := Aside0.mk (Nat.le_trans HBS.out hHeld.size)
      clear hHeld
      generalize w3.drew = w4 at HX HTC HV3 HB HBS ⊢
      go_wp2_with fail
      (first | go_end0 | refine bodyPost_ret (results_none rfl _ _ _) rfl ?_)
      refine ⟨rfl, HB.out, HBS.out, M, T2, HV3.out, ?_⟩
      rw [stepV_other HS0.out H1.out H5.out HG.out HO.out, HTM.out]
end Go.Proofs.Ytmnglonjekegcaa.Vw
