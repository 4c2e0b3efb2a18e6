/- (c11) view.Read. -/
import Derived.Test.YtmnglonjekegcaaVwRdA
namespace Go.Proofs.Ytmnglonjekegcaa.Vw
open Go Go.RowKit Go.Maps Go.Proofs.Ytmnglonjekegcaa.Mk Go.Proofs.Ytmnglonjekegcaa.Rp Go.Proofs.YtmnglonjekegcaaW.PrintWords Go.Proofs.YtmnglonjekegcaaW.PrintLast Go.Proofs.YtmnglonjekegcaaW.PrintMore Go.Proofs.Ytmnglonjekegcaa.Rw Go.Proofs.Ytmnglonjekegcaa.Ow Go.Proofs.Ytmnglonjekegcaa.Mono
set_option linter.unusedVariables false
set_option linter.unusedSimpArgs false
set_option maxRecDepth 100000
theorem Chg.own {a b c : World} {S : Nat → Prop} {row : Option Nat} (h : Chg a b S) (hg : b.grownBy c row) (hr : ∀ k, row = some k → a.heap.size ≤ k) : Chg a c S :=
  ⟨hg.os.trans h.os, hg.tape.trans h.tape, hg.output.trans h.output, Nat.le_trans h.size hg.size, fun k hk hs => (hg.block k (Nat.lt_of_lt_of_le hk h.size) fun e => by have := hr k e.symm; omega).trans (h.block k hk hs)⟩
def ReadP (w : World) (l : List S47) (e : Ending) (w' : World) : Prop := ∃ A1 c1 A2 c2, e = .returned (.agg #[.slice A1 (readV l).f0.length c1, .slice A2 (readV l).f1.length c2, .int .i64 (l.length : Int)]) ∧ Below w.heap.size w w' ∧ (readV l).f0.length ≤ c1 ∧ Kd.C k36 w' A1 (readV l).f0.length (readV l).f0 ∧ (readV l).f1.length ≤ c2 ∧ Kd.C k41 w' A2 (readV l).f1.length (readV l).f1
/-- .. and what is told lies in no row of entries. -/
def ReadQ (w : World) (l : List S47) (e : Ending) (w' : World) : Prop := ∃ A1 c1 A2 c2, e = .returned (.agg #[.slice A1 (readV l).f0.length c1, .slice A2 (readV l).f1.length c2, .int .i64 (l.length : Int)]) ∧ Below w.heap.size w w' ∧ (readV l).f0.length ≤ c1 ∧ Kd.C k36 w' A1 (readV l).f0.length (readV l).f0 ∧ (readV l).f1.length ≤ c2 ∧ Kd.C k41 w' A2 (readV l).f1.length (readV l).f1 ∧ ∀ W2 : World, KeepE w' W2 → Kd.C k36 W2 A1 (readV l).f0.length (readV l).f0 ∧ Kd.C k41 W2 A2 (readV l).f1.length (readV l).f1
set_option maxHeartbeats 4000000 in
theorem read_okQ (A : Option Addr) (n c : Nat) (l : List S47) (w : World) (hC : Kd.C k47 w A n l) (hn : n ≤ 900) (hnc : n ≤ c) : Calls Try.prog 12 #[.slice A n c] w (ReadQ w l) := by
  have HC := Aside0.mk hC
  have HN := Aside0.mk hn
  have HLN := Aside0.mk hC.1
  clear hC
  go_enter Try.func12, Try.ntmps12
  go_upto_region 1 with fail
  have HRS := Aside0.mk (heap_alloc_new w (.cells #[.slice none 0 0, .slice none 0 0, .int .i64 0] 29))
  have hb_ := below_alloc (Below.refl w.heap.size w) (.cells #[.slice none 0 0, .slice none 0 0, .int .i64 0] 29)
  have hs_ : (w.alloc (.cells #[.slice none 0 0, .slice none 0 0, .int .i64 0] 29)).heap.size = w.heap.size + 1 := by simp
  generalize w.alloc (.cells #[.slice none 0 0, .slice none 0 0, .int .i64 0] 29) = w1 at HRS hb_ hs_ ⊢
  have hbw_ := hb_
  clear hb_
  clear hs_
  have HBW := Aside0.mk hbw_
  obtain ⟨gR, HGR⟩ : ∃ g, Aside0 (w.heap.size = g) := ⟨_, ⟨rfl⟩⟩
  rw [HGR.out] at HRS ⊢
  go_wp2_with fail
  refine (through_ok A n c l w1 (Kd.C_below HC.out HBW.out) HN.out hnc).mono ?_
  rintro e_ w2 ⟨bs, M, T, rfl, hb_, hv_, hm_⟩
  have HW12 := Aside0.mk hb_.size
  have HV := Aside0.mk hv_
  have HM := Aside0.mk hm_
  replace HRS := Aside0.mk (blk_below HRS.out hb_)
  replace HBW := Aside0.mk (below_step HBW.out hb_)
  clear hb_ hv_ hm_
  have hrs2 := HRS.out
  rw [← HGR.out] at hrs2
  go_upto_region 3 with fail
  have HO := Aside0.mk (heap_alloc_new w2 (.cells #[.slice none 0 0, .slice none 0 0, .int .i64 (n : Int)] 29))
  have hb_ := below_alloc (Below.refl w2.heap.size w2) (.cells #[.slice none 0 0, .slice none 0 0, .int .i64 (n : Int)] 29)
  have hs_ : (w2.alloc (.cells #[.slice none 0 0, .slice none 0 0, .int .i64 (n : Int)] 29)).heap.size = w2.heap.size + 1 := by simp
  generalize w2.alloc (.cells #[.slice none 0 0, .slice none 0 0, .int .i64 (n : Int)] 29) = w3 at HO hb_ hs_ ⊢
  replace HRS := Aside0.mk (blk_below HRS.out hb_)
  replace HBW := Aside0.mk (below_step HBW.out hb_)
  replace HV := Aside0.mk (HV.out.below hb_)
  clear hb_
  clear hs_
  have HBW3 : Aside0 (w.heap.size = gR ∧ w.heap.size < w2.heap.size ∧ w2.heap.size < w3.heap.size) := ⟨HGR.out, blk_lt hrs2, blk_lt HO.out⟩
  obtain ⟨gO, HGO⟩ : ∃ g, Aside0 (w2.heap.size = g) := ⟨_, ⟨rfl⟩⟩
  rw [HGO.out] at HO ⊢ HBW3
  have HW13 : Aside0 (w1.heap.size ≤ w3.heap.size) := ⟨by have := HW12.out; have := HBW3.out; have := HGO.out; omega⟩
  have hinv := StInv.through l
  rw [← HM.out] at hinv
  have hv0 := HV.out
  obtain ⟨⟨bl, bt, hst, hL, hT, hne⟩, hbb⟩ := hv0
  have HST := Aside0.mk hst
  have HLG := Aside0.mk hL
  have HTS := Aside0.mk hT
  have HML : Aside0 (M.length ≤ 1000000 ∧ T.length ≤ 1000000) := ⟨by
    have h1 := hinv.bl.1
    have h2 := hinv.tl
    have h3 : l.length ≤ 900 := by rw [HLN.out]; exact HN.out
    have h4 := Nat.mul_le_mul h3 h3
    rw [List.length_map] at h1 h2
    omega⟩
  clear hinv hst hL hT hne hbb
  have c0_ := (blk_cell HST.out 0).trans (rfl : _ = some (.map (some bl) : Value))
  go_wp2_with fail
  refine (sortedL_ok bl (M.map fun e => (e.l.f0, (e.g : Int))) w3 HLG.out.mp (by rw [List.map_map]; exact HLG.out.nd) (by rw [List.length_map]; exact HML.out.1)).mono ?_
  rintro e_ w4 ⟨Ak, ck, rfl, hko_, hb_⟩
  have HBW5 : Aside0 (w1.heap.size ≤ w4.heap.size) := ⟨Nat.le_trans HW13.out hb_.size⟩
  clear c0_
  rw [List.map_map, List.length_map] at hko_
  rw [List.length_map]
  obtain ⟨m, HMm⟩ : ∃ m, Aside0 (M.length = m) := ⟨_, ⟨rfl⟩⟩
  rw [HMm.out] at hko_ ⊢
  obtain ⟨ks, HKS⟩ : ∃ ks, Aside0 (sortI (M.map fun e => e.l.f0) = ks) := ⟨_, ⟨rfl⟩⟩
  have hko2 : w4.ownsRow w3.heap.size 3 1 (.slice Ak m ck) m (cellsI ks) := by rw [← HKS.out]; exact hko_
  have HKO := Aside0.mk hko2
  replace HRS := Aside0.mk (blk_below HRS.out hb_)
  replace HBW := Aside0.mk (below_step HBW.out hb_)
  replace HO := Aside0.mk (blk_below HO.out hb_)
  replace HV := Aside0.mk (HV.out.below hb_)
  replace HST := Aside0.mk (blk_below HST.out hb_)
  replace HLG := Aside0.mk (HLG.out.below hb_)
  replace HTS := Aside0.mk (HTS.out.below hb_)
  have HKL : Aside0 (ks.length = m) := ⟨by rw [← HKS.out]; unfold sortI; rw [List.length_mergeSort, List.length_map, HMm.out]⟩
  obtain ⟨ck2, hck2, _, hcm2⟩ : ∃ c2, ck = c2 ∧ m ≤ ck ∧ ck ≤ maxLen := by
    obtain ⟨A', c', e, h1, h2⟩ := slice_of hko2
    injection e with _ _ e
    exact ⟨ck, rfl, by omega, by omega⟩
  clear hck2 ck2
  have hck3 : ck ≤ 9223372036854775807 := Nat.le_trans hcm2 (by decide)
  have hm6 : m ≤ 1000000 := by rw [← HMm.out]; exact HML.out.1
  clear hb_ hko_ hko2 hcm2
  go_wp2_with fail
  go_loopw [21] (fun v21 wr => ∃ (i : Nat) (es : List LE) (v1 : Value), i ≤ m ∧ v21 = .int .i64 (i : Int) ∧ Aside0 (es.length = i) ∧ Aside0 (∀ e ∈ es, e ∈ M) ∧ Aside0 (es.map (fun e => e.l.f0) = ks.take i) ∧ Aside0 (wr.heap[gO]? = some (.cells #[v1, .slice none 0 0, .int .i64 (n : Int)] 29 (0, 0))) ∧ Aside0 (wr.ownsRow w4.heap.size 36 3 v1 i (es.flatMap lvC)) ∧ Aside0 (Chg w4 wr fun k => k = gO)) (fun v21 _ => m - (intOf v21).toNat)
  case atStart => exact ⟨0, [], .slice none 0 0, Nat.zero_le _, rfl, ⟨rfl⟩, ⟨by simp⟩, ⟨by simp⟩, HO, ⟨World.ownsRow_nil _ _ _ _⟩, ⟨Chg.refl _ _⟩⟩
  case round =>
    obtain ⟨i, es, v1, hi, rfl, HEL, HEM, HEK, HO2, HRO, HCH⟩ := hrel
    have hother : ∀ k, k = gO → ∃ cs X, w4.heap[k]? = some (.cells cs X (0, 0)) ∧ ¬ isL X ∧ ¬ isT X ∧ X ≠ 62 := fun k hk => ⟨#[.slice none 0 0, .slice none 0 0, .int .i64 (n : Int)], 29, by rw [hk]; exact HO.out, by unfold isL; decide, by unfold isT; decide, by decide⟩
    have HVr := Aside0.mk (HV.out.other HCH.out hother)
    by_cases hlt : i < m
    · have h1 : decide ((i : Int) < (m : Int)) = true := by simp; omega
      have h1b : decide (i < m) = true := by simp; omega
      obtain ⟨k, hk⟩ : ∃ k, ks[i]? = some k := ⟨_, List.getElem?_eq_getElem (by rw [HKL.out]; exact hlt)⟩
      have hmem : k ∈ M.map fun e => e.l.f0 := by
        have h2 := List.mem_of_getElem? hk
        rw [← HKS.out] at h2
        unfold sortI at h2
        exact List.mem_mergeSort.1 h2
      obtain ⟨j, e, hj, hek, hlk⟩ := logs_at hmem
      subst hek
      have HKI := Aside0.mk hk
      have HEJ := Aside0.mk hj
      clear hmem hk hj
      have hkr : wr.ownsRow w3.heap.size 3 1 (.slice Ak m ck) m (cellsI ks) := own_kept HKO.out fun k hk => HCH.out.block k (Ow.own_lt HKO.out k hk.symm).2 fun e => by
        obtain ⟨cur, hc⟩ := own_block HKO.out hk
        rw [e, HO.out] at hc
        injection hc with hc
        injection hc with _ hc
        exact absurd hc (by decide)
      obtain ⟨gk, rfl⟩ := own_some hkr (by omega)
      have k_ := own_cell hkr (cellsI_at HKI.out)
      clear hkr
      have hv0 := HVr.out
      obtain ⟨⟨bl2, bt2, hst2, hL2, hT2, hne2⟩, hbb2⟩ := hv0
      have hE := hL2.each e (List.mem_of_getElem? HEJ.out)
      have HST4 := HST
      replace HST := Aside0.mk ((HCH.out.block bs (blk_lt HST4.out) fun e => by
        have := HST4.out
        rw [e, HO.out] at this
        injection this with this
        injection this with _ this
        exact absurd this (by decide)).trans HST4.out)
      have hbl : bl = bl2 := by
        have := hst2.symm.trans HST.out
        simp at this
        exact this.1.symm
      subst hbl
      have HMP := Aside0.mk hL2.mp
      have HEC := Aside0.mk hE.cell
      have HWF := Aside0.mk hE.wf
      have HLK : Aside0 (lk (M.map fun e => (e.l.f0, (e.g : Int))) e.l.f0 = (some e.g).map fun g : Nat => (g : Int)) := ⟨hlk⟩
      obtain ⟨Ar, cr, hvr, _, _⟩ := slice_of hE.rr
      obtain ⟨Ad, cd, hvd, _, _⟩ := slice_of hE.rd
      have HVR := Aside0.mk hvr
      have HVD := Aside0.mk hvd
      obtain ⟨A0, c0, hv1, _, _⟩ := slice_of HRO.out
      have HV1 := Aside0.mk hv1
      have HIL : Aside0 (i ≤ 1000000) := ⟨by omega⟩
      have HBS := Aside0.mk HCH.out.size
      have HNO : Aside0 (some gO ≠ v1.ownBlock) := ⟨fun hh => by
        obtain ⟨cur, hc⟩ := own_block HRO.out hh
        exact blk_types HO2.out hc (by decide) rfl⟩
      have HO4 := HO
      replace HO := HO2
      clear hst2 hL2 hT2 hne2 hbb2 hE hlk hvr hvd hv1 HO2
      go_upto_region 6 with fail
      clear k_
      refine start_ (n := 14) (S := fun w' => Below wr.heap.size wr w') (ds := [11, 13]) #[false, false, false, false, false, false, false, false, false, false, false, false, false, false] (by kernel_rfl) rfl rfl (below_drew (Below.refl _ _)) (fun hHeld => ?_)
      refine pure_ (i := 0) (N := some 25) (v := ?_) (a' := ?_) #[true, false, false, false, false, false, false, false, false, false, false, false, false, false] rfl rfl (by kernel_rfl) (fun _ _ _ h => h) (Or.inl ⟨by rfl, ?_⟩) ?_ ?_
      rotate_left
      · intro w'
        go_simp
        with_reducible rfl
      rotate_left
      · simp only [Act.put, List.setIfInBounds_toArray, List.set_cons_zero, List.set_cons_succ, i64_w, i32_w]
        rfl
      refine pure_ (i := 2) (N := some 27) (v := ?_) (a' := ?_) #[true, false, true, false, false, false, false, false, false, false, false, false, false, false] rfl rfl (by kernel_rfl) (fun _ _ _ h => h) (Or.inl ⟨by rfl, ?_⟩) ?_ ?_
      rotate_left
      · intro w'
        go_simp
        with_reducible rfl
      rotate_left
      · simp only [Act.put, List.setIfInBounds_toArray, List.set_cons_zero, List.set_cons_succ, i64_w, i32_w]
        rfl
      refine pure_ (i := 3) (N := some 28) (v := ?_) (a' := ?_) #[true, false, true, true, false, false, false, false, false, false, false, false, false, false] rfl rfl (by kernel_rfl) (fun _ _ _ h => h) (Or.inl ⟨by rfl, ?_⟩) ?_ ?_
      rotate_left
      · intro w'
        go_simp
        with_reducible rfl
      rotate_left
      · simp only [Act.put, List.setIfInBounds_toArray, List.set_cons_zero, List.set_cons_succ, i64_w, i32_w]
        rfl
      refine pure_ (i := 4) (N := some 29) (v := ?_) (a' := ?_) #[true, false, true, true, true, false, false, false, false, false, false, false, false, false] rfl rfl (by kernel_rfl) (fun _ _ _ h => h) (Or.inl ⟨by rfl, ?_⟩) ?_ ?_
      rotate_left
      · intro w'
        go_simp
        with_reducible rfl
      rotate_left
      · simp only [Act.put, List.setIfInBounds_toArray, List.set_cons_zero, List.set_cons_succ, i64_w, i32_w]
        rfl
      refine pure_ (i := 6) (N := some 31) (v := ?_) (a' := ?_) #[true, false, true, true, true, false, true, false, false, false, false, false, false, false] rfl rfl (by kernel_rfl) (fun _ _ _ h => h) (Or.inl ⟨by rfl, ?_⟩) ?_ ?_
      rotate_left
      · intro w'
        go_simp
        with_reducible rfl
      rotate_left
      · simp only [Act.put, List.setIfInBounds_toArray, List.set_cons_zero, List.set_cons_succ, i64_w, i32_w]
        rfl
      refine take_ (i := 1) (N := some 26) (v := ?_) (a' := ?_) #[true, true, true, true, true, false, true, false, false, false, false, false, false, false] rfl rfl (by kernel_rfl) (fun _ _ _ h => h) (Or.inl ⟨by rfl, ?_⟩) hHeld ?_ ?_
      rotate_left
      · intro w' hS
        have c_ := (blk_cell (blk_below HO.out hS) 0).trans (rfl : _ = some (v1 : Value))
        rw [HV1.out] at c_
        go_simp
        with_reducible rfl
      rotate_left
      · simp only [Act.put, List.setIfInBounds_toArray, List.set_cons_zero, List.set_cons_succ, i64_w, i32_w]
        rfl
      refine take_ (i := 5) (N := some 30) (v := ?_) (a' := ?_) #[true, true, true, true, true, true, true, false, false, false, false, false, false, false] rfl rfl (by kernel_rfl) (fun _ _ _ h => h) (Or.inl ⟨by rfl, ?_⟩) hHeld ?_ ?_
      rotate_left
      · intro w' hS
        have c_ := (blk_cell (blk_below HST.out hS) 0).trans (rfl : _ = some (.map (some bl) : Value))
        go_simp
        with_reducible rfl
      rotate_left
      · simp only [Act.put, List.setIfInBounds_toArray, List.set_cons_zero, List.set_cons_succ, i64_w, i32_w]
        rfl
      refine take_ (i := 7) (N := some 32) (v := ?_) (a' := ?_) #[true, true, true, true, true, true, true, true, false, false, false, false, false, false] rfl rfl (by kernel_rfl) (fun _ _ _ h => h) (Or.inl ⟨by rfl, ?_⟩) hHeld ?_ ?_
      rotate_left
      · intro w' hS
        have l_ := MapP.atL (o := some e.g) (HMP.out.move (hS.block _ HMP.out.lt)) HWF.out HLK.out
        unfold pv at l_
        go_simp
        with_reducible rfl
      rotate_left
      · simp only [Act.put, List.setIfInBounds_toArray, List.set_cons_zero, List.set_cons_succ, i64_w, i32_w]
        rfl
      refine pure_ (i := 8) (N := some 33) (v := ?_) (a' := ?_) #[true, true, true, true, true, true, true, true, true, false, false, false, false, false] rfl rfl (by kernel_rfl) (fun _ _ _ h => h) (Or.inl ⟨by rfl, ?_⟩) ?_ ?_
      rotate_left
      · intro w'
        go_simp
        with_reducible rfl
      rotate_left
      · simp only [Act.put, List.setIfInBounds_toArray, List.set_cons_zero, List.set_cons_succ, i64_w, i32_w]
        rfl
      refine take_ (i := 9) (N := some 34) (v := ?_) (a' := ?_) #[true, true, true, true, true, true, true, true, true, true, false, false, false, false] rfl rfl (by kernel_rfl) (fun _ _ _ h => h) (Or.inl ⟨by rfl, ?_⟩) hHeld ?_ ?_
      rotate_left
      · intro w' hS
        have d0_ := (blk_cell (blk_below HEC.out hS) 0).trans (rfl : _ = some (.int .i64 e.l.f0 : Value))
        have d1_ := (blk_cell (blk_below HEC.out hS) 1).trans (rfl : _ = some (e.vr : Value))
        have d2_ := (blk_cell (blk_below HEC.out hS) 2).trans (rfl : _ = some (e.vd : Value))
        rw [HVR.out] at d1_
        rw [HVD.out] at d2_
        go_simp
        with_reducible rfl
      rotate_left
      · simp only [Act.put, List.setIfInBounds_toArray, List.set_cons_zero, List.set_cons_succ, i64_w, i32_w]
        rfl
      refine one_ (i := 10) (N := some 35) #[true, true, true, true, true, true, true, true, true, true, true, false, false, false] rfl rfl (by kernel_rfl) (by simp) (fun K hK => ?_)
      refine value_ (w1 := wr.drew.alloc (.cells #[.int .i64 e.l.f0, .slice Ar e.l.f1.length cr, .slice Ad e.l.f2.length cd] 36)) (v := .slice (some ⟨wr.drew.heap.size, 0, none⟩) 1 1) (by rfl) rfl (by first | (go_simp; done) | (go_simp; rfl)) ?_
      rw [← HVR.out, ← HVD.out]
      have hb_ := below_alloc (Below.refl wr.drew.heap.size wr.drew) (.cells #[.int .i64 e.l.f0, e.vr, e.vd] 36)
      replace hb_ := below_step hHeld hb_
      refine hK.out _ _ hb_ (fun _ => ?_)
      clear hK K
      refine norm_ (a' := ?_) ?_ ?_
      rotate_left
      · show Act.put _ (some 35) _ = _
        simp only [Act.put, List.setIfInBounds_toArray, List.set_cons_zero, List.set_cons_succ, i64_w, i32_w]
        rfl
      have HNW := Aside0.mk (heap_alloc_new wr.drew (.cells #[.int .i64 e.l.f0, e.vr, e.vd] 36))
      replace hHeld := hb_
      generalize wr.drew.alloc (.cells #[.int .i64 e.l.f0, e.vr, e.vd] 36) = w5 at HNW hHeld hb_ ⊢
      obtain ⟨gl, HGL⟩ : ∃ g, Aside0 (wr.drew.heap.size = g) := ⟨_, ⟨rfl⟩⟩
      rw [HGL.out] at HNW ⊢
      clear hb_
      refine last_ (i := 11) (N := some 36) #[true, true, true, true, true, true, true, true, true, true, true, true, false, false] rfl rfl (by kernel_rfl) (by simp) (fun K hK => ?_)
      obtain ⟨v_, w6, hr_, ho_, hg_, hat_, A6, c6, rfl⟩ := app_one TILV 26 rfl w5 w4.heap.size i v1 (es.flatMap lvC) (own_below HRO.out hHeld) gl 1 (lvC e) HNW.out rfl (by unfold lvC; rw [HVR.out, HVD.out]; simp [Value.oneCell']) HIL.out (by decide) (Nat.le_trans HBS.out hHeld.size)
      have HG6 := Aside0.mk hg_
      have HO6 := Aside0.mk ho_
      have HH := Aside0.mk hHeld
      rw [HV1.out] at hr_
      refine value_ (w1 := w6) (v := .slice A6 (i + 1) c6) (by rfl) rfl (append_exec (.tmp 26) (.tmp 35) 26 rfl rfl rfl hr_) ?_
      clear hr_ ho_ hg_ hat_ hHeld
      refine hK.out _ _ ?_
      clear hK K
      refine norm_ (a' := ?_) ?_ ?_
      rotate_left
      · show Act.put _ (some 36) _ = _
        simp only [Act.put, List.setIfInBounds_toArray, List.set_cons_zero, List.set_cons_succ, i64_w, i32_w]
        rfl
      refine pure_ (i := 12) (N := some 37) (v := ?_) (a' := ?_) #[true, true, true, true, true, true, true, true, true, true, true, true, true, false] rfl rfl (by kernel_rfl) (fun _ _ _ h => h) (Or.inl ⟨by rfl, ?_⟩) ?_ ?_
      rotate_left
      · intro w'
        go_simp
        with_reducible rfl
      rotate_left
      · simp only [Act.put, List.setIfInBounds_toArray, List.set_cons_zero, List.set_cons_succ, i64_w, i32_w]
        rfl
      refine last_ (i := 13) (N := none) #[true, true, true, true, true, true, true, true, true, true, true, true, true, true] rfl rfl (by kernel_rfl) (by simp) (fun K hK => ?_)
      have hob_ := blk_grown (blk_below HO.out HH.out) HG6.out HNO.out
      have z_ := (blk_cell hob_ 0).trans (rfl : _ = some (v1 : Value))
      have f_ := blk_frozen hob_ 0
      refine skip_ (w1 := w6.setCell ⟨gO, 0, none⟩ (.slice A6 (i + 1) c6)) (by rfl) rfl (by first | (go_simp; done) | (go_simp; rfl)) ?_
      clear z_ f_ hob_
      refine hK.out _ _ ?_
      clear hK K
      refine done_ (by kernel_rfl) ?_

      go_wp2_with fail
      go_roundw
      case rel =>
        have hob := blk_grown (blk_below HO.out HH.out) HG6.out HNO.out
        refine ⟨i + 1, es ++ [e], .slice A6 (i + 1) c6, by omega, by go_num, ⟨by rw [List.length_append, HEL.out]; rfl⟩, ⟨fun a ha => ?_⟩, ⟨by rw [List.map_append, HEK.out, List.take_add_one, HKI.out]; rfl⟩, ⟨blk_put hob 0 _ rfl⟩, ⟨?_⟩, ⟨?_⟩⟩
        · rcases List.mem_append.1 ha with ha | ha
          · exact HEM.out a ha
          · rw [List.mem_singleton] at ha; rw [ha]; exact List.mem_of_getElem? HEJ.out
        · rw [List.flatMap_append, List.flatMap_singleton]
          exact own_kept HO6.out fun k hk => by
            obtain ⟨cur, hc⟩ := own_block HO6.out hk
            exact Below.heap_setCell _ _ _ k (blk_types hc hob (by decide))
        · exact ((HCH.out.trans (Chg.of_below HH.out)).own HG6.out (fun k hk => (Ow.own_lt HRO.out k hk).1)).set (p := ⟨gO, 0, none⟩) rfl _
      case measure => simp [intOf]; omega
    · obtain rfl : m = i := by omega
      have h1b : decide (m < m) = false := by simp
      have HEK2 : Aside0 (es.map (fun e => e.l.f0) = sortI (M.map fun e => e.l.f0)) := ⟨by rw [HEK.out, List.take_of_length_le (by rw [HKL.out]; exact Nat.le_refl _), HKS.out]⟩
      have hv0 := HVr.out
      obtain ⟨⟨bl2, bt2, hst2, hL2, hT2, hne2⟩, hbb2⟩ := hv0
      have c1_ := (blk_cell hst2 1).trans (rfl : _ = some (.map (some bt2) : Value))
      have HMT := Aside0.mk hT2.mp
      have HNT := Aside0.mk hT2.nd
      have HHR : Aside0 (gR < w3.heap.size ∧ gR ≠ gO) := ⟨by
        have h1 := HBW3.out
        omega⟩
      replace HRS := Aside0.mk ((HCH.out.block gR (blk_lt HRS.out) HHR.out.2).trans HRS.out)
      replace HBW := Aside0.mk (Chg.below HBW.out HCH.out (show w.heap.size ≤ w4.heap.size by have := HBW.out.size; omega) (fun k hk => by rw [hk]; have := HBW3.out; omega))
      have HB15 : Aside0 (w1.heap.size ≤ wr.heap.size) := ⟨by have := HVr.out.bb; have h5 := HBW5.out; have := HCH.out.size; omega⟩
      clear HKO HKL HKS HLG HTS HST HEK HV hst2 hL2 hT2 hne2 hbb2 hother
      go_wp2_with fail
      refine (sortedT_ok bt2 (T.map fun e => (e.t.f0, (e.g : Int))) wr HMT.out (by rw [List.map_map]; exact HNT.out) (by rw [List.length_map]; exact HML.out.2)).mono ?_
      rintro e_ w6 ⟨At, ct, rfl, hko_, hb_⟩
      clear c1_ HMT
      rw [List.map_map, List.length_map] at hko_
      rw [List.length_map]
      obtain ⟨mt, HMt⟩ : ∃ m, Aside0 (T.length = m) := ⟨_, ⟨rfl⟩⟩
      rw [HMt.out] at hko_ ⊢
      obtain ⟨kt, HKS⟩ : ∃ ks, Aside0 (sortI (T.map fun e => e.t.f0) = ks) := ⟨_, ⟨rfl⟩⟩
      have HB16 : Aside0 (w1.heap.size ≤ w6.heap.size) := ⟨Nat.le_trans HB15.out hb_.size⟩
      have hko2 : w6.ownsRow wr.heap.size 3 1 (.slice At mt ct) mt (cellsI kt) := by rw [← HKS.out]; exact hko_
      have HKO := Aside0.mk hko2
      have HRS6 := Aside0.mk (blk_below HRS.out hb_)
      have HBW6 := Aside0.mk (below_step HBW.out hb_)
      have HO6 := Aside0.mk (blk_below HO2.out hb_)
      have HV6 := Aside0.mk (HVr.out.below hb_)
      have HR16 := Aside0.mk (own_below HRO.out hb_)
      have HKL : Aside0 (kt.length = mt) := ⟨by rw [← HKS.out]; unfold sortI; rw [List.length_mergeSort, List.length_map, HMt.out]⟩
      obtain ⟨hcm1, hcm2⟩ : mt ≤ ct ∧ ct ≤ maxLen := by
        obtain ⟨A', c', e, h1, h2⟩ := slice_of hko2
        injection e with _ _ e
        omega
      have hct3 : ct ≤ 9223372036854775807 := Nat.le_trans hcm2 (by decide)
      have hmt6 : mt ≤ 1000000 := by rw [← HMt.out]; exact HML.out.2
      clear hb_ hko_ hko2 hcm2 HO2 HRO HCH HVr HRS HBW HO
      go_wp2_with fail
      go_loopw [45] (fun v45 wr => ∃ (i : Nat) (ts : List TE) (v2 : Value) (T' : List TE), i ≤ mt ∧ v45 = .int .i64 (i : Int) ∧ Aside0 (ts.length = i) ∧ Aside0 (∀ e ∈ ts, e ∈ T) ∧ Aside0 (ts.map (fun e => e.t.f0) = kt.take i) ∧ Aside0 (wr.heap[gO]? = some (.cells #[v1, v2, .int .i64 (n : Int)] 29 (0, 0))) ∧ Aside0 (wr.ownsRow w6.heap.size 41 6 v2 i (ts.flatMap tvC)) ∧ Aside0 (VS wr w1.heap.size bs M T') ∧ Aside0 (TsEq T T') ∧ Aside0 (Chg w6 wr fun k => k = gO ∨ ∃ e ∈ T, k = e.g)) (fun v45 _ => mt - (intOf v45).toNat)
      case atStart => exact ⟨0, [], .slice none 0 0, T, Nat.zero_le _, rfl, ⟨rfl⟩, ⟨by simp⟩, ⟨by simp⟩, HO6, ⟨World.ownsRow_nil _ _ _ _⟩, HV6, ⟨TsEq.refl T⟩, ⟨Chg.refl _ _⟩⟩
      case round =>
        obtain ⟨i, ts, v2, T', hi, rfl, HTL, HTM, HTK, HO, HRO, HV, HTE, HCH⟩ := hrel
        have hkinds : ∀ (k : Nat) (X : TypeId) (cs : Array Value), X ≠ 29 → X ≠ 67 → w6.heap[k]? = some (.cells cs X (0, 0)) → ¬ (k = gO ∨ ∃ e ∈ T, k = e.g) := fun k X cs h1 h2 hk hh => by
          rcases hh with rfl | ⟨e, he, rfl⟩
          · exact blk_types hk HO6.out h1 rfl
          · obtain ⟨j, hj, ej⟩ := List.getElem_of_mem he
            exact blk_types hk (HV6.out.task (i := j) (e := e) (by rw [List.getElem?_eq_getElem hj, ej])).cell h2 rfl
        have HKI := Aside0.mk hkinds
        clear hkinds
        by_cases hlt : i < mt
        · have h2 : decide ((i : Int) < (mt : Int)) = true := by simp; omega
          have h2b : decide (i < mt) = true := by simp; omega
          obtain ⟨k, hk⟩ : ∃ k, kt[i]? = some k := ⟨_, List.getElem?_eq_getElem (by rw [HKL.out]; exact hlt)⟩
          have hmem : k ∈ T.map fun e => e.t.f0 := by
            have h2 := List.mem_of_getElem? hk
            rw [← HKS.out] at h2
            unfold sortI at h2
            exact List.mem_mergeSort.1 h2
          obtain ⟨j, e, hj, hek, hlk⟩ := tasks_at hmem
          subst hek
          obtain ⟨e2, hj2, hq⟩ := HTE.out.at_ hj
          have HKT := Aside0.mk hk
          have HEJ := Aside0.mk hj
          have HEJ2 := Aside0.mk hj2
          have HQ := Aside0.mk hq
          clear hmem hk hj hj2 hq
          have hkr : wr.ownsRow _ 3 1 (.slice At mt ct) mt (cellsI kt) := own_kept HKO.out fun k hk => HCH.out.block k (Ow.own_lt HKO.out k hk.symm).2 (by
            obtain ⟨cur, hc⟩ := own_block HKO.out hk
            exact HKI.out k _ _ (by decide) (by decide) hc)
          obtain ⟨gk, rfl⟩ := own_some hkr (by omega)
          have k_ := own_cell hkr (cellsI_at HKT.out)
          clear hkr
          have hv0 := HV.out
          obtain ⟨⟨bl3, bt3, hst3, hL3, hT3, hne3⟩, hbb3⟩ := hv0
          have hE := HV.out.task HEJ2.out
          have c1_ := (blk_cell hst3 1).trans (rfl : _ = some (.map (some bt3) : Value))
          have l_ := hT3.mp.atT (k := e.t.f0) (o := some e2.g) (by rw [← HQ.out.f0]; exact hE.wf) (by rw [HTE.out.keys, hlk, HQ.out.g]; rfl)
          unfold pv at l_
          obtain ⟨Ap, cp, hvp, hcp, hcpm⟩ := slice_of hE.rp
          obtain ⟨Ao, co, hvo, _, _⟩ := slice_of hE.ro
          obtain ⟨Aq, cq, hvq, _, _⟩ := slice_of hE.rq
          obtain ⟨A0, c0, hv2, _, _⟩ := slice_of HRO.out
          have HVO := Aside0.mk hvo
          have HVQ := Aside0.mk hvq
          have HV2 := Aside0.mk hv2
          have c6_ := (blk_cell hE.cell 6).trans (rfl : _ = some (e2.vp : Value))
          rw [hvp] at c6_
          have z5_ := (blk_cell hE.cell 5).trans (rfl : _ = some (.int .i64 e2.t.f5 : Value))
          have f5_ := blk_frozen hE.cell 5
          have HIL : Aside0 (i ≤ 1000000) := ⟨by omega⟩
          have HEC := Aside0.mk (blk_put hE.cell 5 (.int .i64 (e2.items.length : Int)) (rfl : _ = (#[.int .i64 e2.t.f0, .int .i64 e2.t.f1, .int .i64 e2.t.f2, e2.vo, e2.vq, .int .i64 (e2.items.length : Int), e2.vp] : Array Value)))
          have HEND := Aside0.mk (VS.cells (w0 := wr) HV.out HEJ2.out (w' := wr.setCell ⟨e2.g, 5, none⟩ (.int .i64 (e2.items.length : Int))) ((Chg.refl wr fun k => k = e2.g).set (p := ⟨e2.g, 5, none⟩) rfl _) { e2.t with f5 := (e2.items.length : Int) } e2.items e2.vp rfl rfl rfl (.inl ⟨rfl, rfl⟩) HEC.out (Below.refl _ _) (Nat.le_trans (show w1.heap.size ≤ w6.heap.size from HB16.out) HCH.out.size)).1
          have HOQ := Aside0.mk (blk_far HO.out (p := ⟨e2.g, 5, none⟩) (blk_types HO.out hE.cell (by decide)) (.int .i64 (e2.items.length : Int)))
          have HRQ : Aside0 ((wr.setCell ⟨e2.g, 5, none⟩ (.int .i64 (e2.items.length : Int))).ownsRow w6.heap.size 41 6 v2 i (ts.flatMap tvC)) := ⟨own_kept HRO.out fun k hk => by
            obtain ⟨cur, hc⟩ := own_block HRO.out hk
            exact Below.heap_setCell _ _ _ k (blk_types hc hE.cell (by decide))⟩
          have HCQ : Aside0 (Chg w6 (wr.setCell ⟨e2.g, 5, none⟩ (.int .i64 (e2.items.length : Int))) fun k => k = gO ∨ ∃ e ∈ T, k = e.g) := ⟨HCH.out.set (p := ⟨e2.g, 5, none⟩) (.inr ⟨e, List.mem_of_getElem? HEJ.out, HQ.out.g⟩) _⟩
          have HNO : Aside0 (some gO ≠ v2.ownBlock) := ⟨fun hh => by
            obtain ⟨cur, hc⟩ := own_block HRO.out hh
            exact blk_types HO.out hc (by decide) rfl⟩
          have HIT : Aside0 (e2.items.length ≤ cp ∧ cp ≤ maxLen) := ⟨hcp, hcpm⟩
          clear hst3 hL3 hT3 hne3 hbb3 hE hlk hvp hvo hvq hv2 hcp hcpm
          go_upto_region 13 with fail
          clear k_ c1_ l_ c6_ z5_ f5_ HO HRO HCH
          generalize wr.setCell ⟨e2.g, 5, none⟩ (.int .i64 (e2.items.length : Int)) = wq at HEC HEND HOQ HRQ HCQ ⊢
          have HO := HOQ
          have HRO := HRQ
          have HCH := HCQ
          have HBS := Aside0.mk HCH.out.size
          clear HOQ HRQ HCQ
          refine start_ (n := 10) (S := fun w' => Below wq.heap.size wq w') (ds := [7, 9]) #[false, false, false, false, false, false, false, false, false, false] (by kernel_rfl) rfl rfl (below_drew (Below.refl _ _)) (fun hHeld => ?_)
          refine pure_ (i := 0) (N := some 64) (v := ?_) (a' := ?_) #[true, false, false, false, false, false, false, false, false, false] rfl rfl (by kernel_rfl) (fun _ _ _ h => h) (Or.inl ⟨by rfl, ?_⟩) ?_ ?_
          rotate_left
          · intro w'
            go_simp
            with_reducible rfl
          rotate_left
          · simp only [Act.put, List.setIfInBounds_toArray, List.set_cons_zero, List.set_cons_succ, i64_w, i32_w]
            rfl
          refine pure_ (i := 2) (N := some 66) (v := ?_) (a' := ?_) #[true, false, true, false, false, false, false, false, false, false] rfl rfl (by kernel_rfl) (fun _ _ _ h => h) (Or.inl ⟨by rfl, ?_⟩) ?_ ?_
          rotate_left
          · intro w'
            go_simp
            with_reducible rfl
          rotate_left
          · simp only [Act.put, List.setIfInBounds_toArray, List.set_cons_zero, List.set_cons_succ, i64_w, i32_w]
            rfl
          refine pure_ (i := 3) (N := some 67) (v := ?_) (a' := ?_) #[true, false, true, true, false, false, false, false, false, false] rfl rfl (by kernel_rfl) (fun _ _ _ h => h) (Or.inl ⟨by rfl, ?_⟩) ?_ ?_
          rotate_left
          · intro w'
            go_simp
            with_reducible rfl
          rotate_left
          · simp only [Act.put, List.setIfInBounds_toArray, List.set_cons_zero, List.set_cons_succ, i64_w, i32_w]
            rfl
          refine pure_ (i := 4) (N := some 68) (v := ?_) (a' := ?_) #[true, false, true, true, true, false, false, false, false, false] rfl rfl (by kernel_rfl) (fun _ _ _ h => h) (Or.inl ⟨by rfl, ?_⟩) ?_ ?_
          rotate_left
          · intro w'
            go_simp
            with_reducible rfl
          rotate_left
          · simp only [Act.put, List.setIfInBounds_toArray, List.set_cons_zero, List.set_cons_succ, i64_w, i32_w]
            rfl
          refine take_ (i := 1) (N := some 65) (v := ?_) (a' := ?_) #[true, true, true, true, true, false, false, false, false, false] rfl rfl (by kernel_rfl) (fun _ _ _ h => h) (Or.inl ⟨by rfl, ?_⟩) hHeld ?_ ?_
          rotate_left
          · intro w' hS
            have c_ := (blk_cell (blk_below HO.out hS) 1).trans (rfl : _ = some (v2 : Value))
            rw [HV2.out] at c_
            go_simp
            with_reducible rfl
          rotate_left
          · simp only [Act.put, List.setIfInBounds_toArray, List.set_cons_zero, List.set_cons_succ, i64_w, i32_w]
            rfl
          refine take_ (i := 5) (N := some 69) (v := ?_) (a' := ?_) #[true, true, true, true, true, true, false, false, false, false] rfl rfl (by kernel_rfl) (fun _ _ _ h => h) (Or.inl ⟨by rfl, ?_⟩) hHeld ?_ ?_
          rotate_left
          · intro w' hS
            have d0_ := (blk_cell (blk_below HEC.out hS) 0).trans (rfl : _ = some (.int .i64 e2.t.f0 : Value))
            have d1_ := (blk_cell (blk_below HEC.out hS) 1).trans (rfl : _ = some (.int .i64 e2.t.f1 : Value))
            have d2_ := (blk_cell (blk_below HEC.out hS) 2).trans (rfl : _ = some (.int .i64 e2.t.f2 : Value))
            have d3_ := (blk_cell (blk_below HEC.out hS) 3).trans (rfl : _ = some (e2.vo : Value))
            have d4_ := (blk_cell (blk_below HEC.out hS) 4).trans (rfl : _ = some (e2.vq : Value))
            have d5_ := (blk_cell (blk_below HEC.out hS) 5).trans (rfl : _ = some (.int .i64 (e2.items.length : Int) : Value))
            rw [HVO.out] at d3_
            rw [HVQ.out] at d4_
            go_simp
            with_reducible rfl
          rotate_left
          · simp only [Act.put, List.setIfInBounds_toArray, List.set_cons_zero, List.set_cons_succ, i64_w, i32_w]
            rfl
          refine one_ (i := 6) (N := some 70) #[true, true, true, true, true, true, true, false, false, false] rfl rfl (by kernel_rfl) (by simp) (fun K hK => ?_)
          refine value_ (w1 := wq.drew.alloc (.cells #[.int .i64 e2.t.f0, .int .i64 e2.t.f1, .int .i64 e2.t.f2, .slice Ao e2.t.f3.length co, .slice Aq e2.t.f4.length cq, .int .i64 (e2.items.length : Int)] 41)) (v := .slice (some ⟨wq.drew.heap.size, 0, none⟩) 1 1) (by rfl) rfl (by first | (go_simp; done) | (go_simp; rfl)) ?_
          rw [← HVO.out, ← HVQ.out]
          have hb_ := below_alloc (Below.refl wq.drew.heap.size wq.drew) (.cells #[.int .i64 e2.t.f0, .int .i64 e2.t.f1, .int .i64 e2.t.f2, e2.vo, e2.vq, .int .i64 (e2.items.length : Int)] 41)
          replace hb_ := below_step hHeld hb_
          refine hK.out _ _ hb_ (fun _ => ?_)
          clear hK K
          refine norm_ (a' := ?_) ?_ ?_
          rotate_left
          · show Act.put _ (some 70) _ = _
            simp only [Act.put, List.setIfInBounds_toArray, List.set_cons_zero, List.set_cons_succ, i64_w, i32_w]
            rfl
          have HNW := Aside0.mk (heap_alloc_new wq.drew (.cells #[.int .i64 e2.t.f0, .int .i64 e2.t.f1, .int .i64 e2.t.f2, e2.vo, e2.vq, .int .i64 (e2.items.length : Int)] 41))
          replace hHeld := hb_
          generalize wq.drew.alloc (.cells #[.int .i64 e2.t.f0, .int .i64 e2.t.f1, .int .i64 e2.t.f2, e2.vo, e2.vq, .int .i64 (e2.items.length : Int)] 41) = w5 at HNW hHeld hb_ ⊢
          obtain ⟨gl, HGL⟩ : ∃ g, Aside0 (wq.drew.heap.size = g) := ⟨_, ⟨rfl⟩⟩
          rw [HGL.out] at HNW ⊢
          clear hb_
          refine last_ (i := 7) (N := some 71) #[true, true, true, true, true, true, true, true, false, false] rfl rfl (by kernel_rfl) (by simp) (fun K hK => ?_)
          obtain ⟨v_, w8, hr_, ho_, hg_, hat_, A6, c6, rfl⟩ := app_one TITV 27 rfl w5 w6.heap.size i v2 (ts.flatMap tvC) (own_below HRO.out hHeld) gl 1 (tvC e2) HNW.out rfl (by unfold tvC; rw [HVO.out, HVQ.out]; simp [Value.oneCell']) HIL.out (by decide) (Nat.le_trans HBS.out hHeld.size)
          have HG6 := Aside0.mk hg_
          have HO6b := Aside0.mk ho_
          have HH := Aside0.mk hHeld
          rw [HV2.out] at hr_
          refine value_ (w1 := w8) (v := .slice A6 (i + 1) c6) (by rfl) rfl (append_exec (.tmp 65) (.tmp 70) 27 rfl rfl rfl hr_) ?_
          clear hr_ ho_ hg_ hat_ hHeld
          refine hK.out _ _ ?_
          clear hK K
          refine norm_ (a' := ?_) ?_ ?_
          rotate_left
          · show Act.put _ (some 71) _ = _
            simp only [Act.put, List.setIfInBounds_toArray, List.set_cons_zero, List.set_cons_succ, i64_w, i32_w]
            rfl
          refine pure_ (i := 8) (N := some 72) (v := ?_) (a' := ?_) #[true, true, true, true, true, true, true, true, true, false] rfl rfl (by kernel_rfl) (fun _ _ _ h => h) (Or.inl ⟨by rfl, ?_⟩) ?_ ?_
          rotate_left
          · intro w'
            go_simp
            with_reducible rfl
          rotate_left
          · simp only [Act.put, List.setIfInBounds_toArray, List.set_cons_zero, List.set_cons_succ, i64_w, i32_w]
            rfl
          refine last_ (i := 9) (N := none) #[true, true, true, true, true, true, true, true, true, true] rfl rfl (by kernel_rfl) (by simp) (fun K hK => ?_)
          have hob_ := blk_grown (blk_below HO.out HH.out) HG6.out HNO.out
          have z_ := (blk_cell hob_ 1).trans (rfl : _ = some (v2 : Value))
          have f_ := blk_frozen hob_ 1
          refine skip_ (w1 := w8.setCell ⟨gO, 1, none⟩ (.slice A6 (i + 1) c6)) (by rfl) rfl (by first | (go_simp; done) | (go_simp; rfl)) ?_
          clear z_ f_ hob_
          refine hK.out _ _ ?_
          clear hK K
          refine done_ (by kernel_rfl) ?_

          go_wp2_with fail
          go_roundw
          case rel =>
            have hob := blk_grown (blk_below HO.out HH.out) HG6.out HNO.out
            refine ⟨i + 1, ts ++ [e], .slice A6 (i + 1) c6, _, by omega, by go_num, ⟨by rw [List.length_append, HTL.out]; rfl⟩, ⟨fun a ha => ?_⟩, ⟨by rw [List.map_append, HTK.out, List.take_add_one, HKT.out]; rfl⟩, ⟨blk_put hob 1 _ rfl⟩, ⟨?_⟩, ⟨(HEND.out.below HH.out).other (S := fun k => k = gO ∨ some k = v2.ownBlock) (((Chg.of_grown HG6.out).mono fun k hk => .inr hk).set (p := ⟨gO, 1, none⟩) (.inl rfl) _) fun k hk => ?_⟩, ⟨HTE.out.set HEJ.out ⟨HQ.out.g, HQ.out.vo, HQ.out.vq, HQ.out.vp, HQ.out.it, HQ.out.f0, HQ.out.f1, HQ.out.f2, HQ.out.f3, HQ.out.f4⟩⟩, ⟨?_⟩⟩
            · rcases List.mem_append.1 ha with ha | ha
              · exact HTM.out a ha
              · rw [List.mem_singleton] at ha; rw [ha]; exact List.mem_of_getElem? HEJ.out
            · rw [List.flatMap_append, List.flatMap_singleton, ← HQ.out.tv]
              exact own_kept HO6b.out fun k hk => by
                obtain ⟨cur, hc⟩ := own_block HO6b.out hk
                exact Below.heap_setCell _ _ _ k (blk_types hc hob (by decide))
            · rcases hk with rfl | hk
              · exact ⟨_, 29, blk_below HO.out HH.out, by unfold isL; decide, by unfold isT; decide, by decide⟩
              · obtain ⟨cur, hc⟩ := own_block (own_below HRO.out HH.out) hk
                exact ⟨_, _, hc, by unfold isL; decide, by unfold isT; decide, by decide⟩
            · exact ((HCH.out.trans (Chg.of_below HH.out)).own HG6.out (fun k hk => (Ow.own_lt HRO.out k hk).1)).set (p := ⟨gO, 1, none⟩) (.inl rfl) _
          case measure => simp [intOf]; omega
        · obtain rfl : mt = i := by omega
          have h2b : decide (mt < mt) = false := by simp
          have HTK2 : Aside0 (ts.map (fun e => e.t.f0) = sortI (T.map fun e => e.t.f0)) := ⟨by rw [HTK.out, List.take_of_length_le (by rw [HKL.out]; exact Nat.le_refl _), HKS.out]⟩
          have hnr : ¬ (gR = gO ∨ ∃ e ∈ T, gR = e.g) := fun hh => by
            rcases hh with hh | ⟨e, he, hh⟩
            · exact HHR.out.2 hh
            · obtain ⟨j, hj, ej⟩ := List.getElem_of_mem he
              have hc := (HV6.out.task (i := j) (e := e) (by rw [List.getElem?_eq_getElem hj, ej])).cell
              rw [← hh] at hc
              exact blk_types HRS6.out hc (by decide) rfl
          have hrs := (HCH.out.block gR (blk_lt HRS6.out) hnr).trans HRS6.out
          have hr1 : wr.ownsRow w4.heap.size 36 3 v1 m (es.flatMap lvC) := own_kept HR16.out fun k hk => HCH.out.block k (Ow.own_lt HR16.out k hk.symm).2 (by
            obtain ⟨cur, hc⟩ := own_block HR16.out hk
            exact HKI.out k _ _ (by decide) (by decide) hc)
          obtain ⟨A1, c1, hv1, _, _⟩ := slice_of hr1
          obtain ⟨A2, c2, hv2, _, _⟩ := slice_of HRO.out
          have o0_ := (blk_cell HO.out 0).trans (rfl : _ = some (v1 : Value))
          have o1_ := (blk_cell HO.out 1).trans (rfl : _ = some (v2 : Value))
          have o2_ := (blk_cell HO.out 2).trans (rfl : _ = some (.int .i64 (n : Int) : Value))
          have z0_ := (blk_cell hrs 0).trans (rfl : _ = some (.slice none 0 0 : Value))
          have z1_ := (blk_cell hrs 1).trans (rfl : _ = some (.slice none 0 0 : Value))
          have z2_ := (blk_cell hrs 2).trans (rfl : _ = some (.int .i64 0 : Value))
          have f0_ := blk_frozen hrs 0
          have f1_ := blk_frozen hrs 1
          have f2_ := blk_frozen hrs 2
          rw [hv1] at o0_
          rw [hv2] at o1_
          have HRS7 := Aside0.mk hrs
          have HR17 := Aside0.mk hr1
          have HV1 := Aside0.mk hv1
          have HV2 := Aside0.mk hv2
          clear hrs hr1 hv1 hv2 hnr
          go_wp2_with fail
          have hc0 := HRS7.out
          have hc1 := blk_put hc0 0 (.slice A1 m c1) (rfl : _ = (#[.slice A1 m c1, .slice none 0 0, .int .i64 0] : Array Value))
          have hc2 := blk_put hc1 1 (.slice A2 mt c2) (rfl : _ = (#[.slice A1 m c1, .slice A2 mt c2, .int .i64 0] : Array Value))
          have hfin := blk_put hc2 2 (.int .i64 (n : Int)) (rfl : _ = (#[.slice A1 m c1, .slice A2 mt c2, .int .i64 (n : Int)] : Array Value))
          have hCf : Chg wr (((wr.setCell ⟨gR, 0, none⟩ (.slice A1 m c1)).setCell ⟨gR, 1, none⟩ (.slice A2 mt c2)).setCell ⟨gR, 2, none⟩ (.int .i64 (n : Int))) (fun k => k = gR) := (((Chg.refl wr fun k => k = gR).set (p := ⟨gR, 0, none⟩) rfl _).set (p := ⟨gR, 1, none⟩) rfl _).set (p := ⟨gR, 2, none⟩) rfl _
          have hVf := HV.out.other hCf fun k hk => ⟨#[.slice none 0 0, .slice none 0 0, .int .i64 0], 29, by rw [hk]; exact hc0, by unfold isL; decide, by unfold isT; decide, by decide⟩
          have hr1 := own_kept (w' := ((wr.setCell ⟨gR, 0, none⟩ (.slice A1 m c1)).setCell ⟨gR, 1, none⟩ (.slice A2 mt c2)).setCell ⟨gR, 2, none⟩ (.int .i64 (n : Int))) HR17.out fun k hk => hCf.block k (Ow.own_lt HR17.out k hk.symm).2 (by
            obtain ⟨cur, hc⟩ := own_block HR17.out hk
            exact blk_types hc hc0 (by decide))
          have hr2 := own_kept (w' := ((wr.setCell ⟨gR, 0, none⟩ (.slice A1 m c1)).setCell ⟨gR, 1, none⟩ (.slice A2 mt c2)).setCell ⟨gR, 2, none⟩ (.int .i64 (n : Int))) HRO.out fun k hk => hCf.block k (Ow.own_lt HRO.out k hk.symm).2 (by
            obtain ⟨cur, hc⟩ := own_block HRO.out hk
            exact blk_types hc hc0 (by decide))
          obtain ⟨B1, d1, B2, d2, ev1, ev2, q1, g1, q2, g2, gk⟩ := read_end hVf HTE.out HM.out hr1 HEL.out HEM.out HEK2.out hr2 HTL.out HTM.out HTK2.out
          refine bodyPost_ret (results_cell_row rfl _ _ gR 29 #[.slice A1 m c1, .slice A2 mt c2, .int .i64 (n : Int)] (0, 0) _ rfl hfin Try.underlying29 rfl (by kernel_rfl)) rfl ?_
          have hbl : Below w.heap.size w wr := Chg.below HBW6.out HCH.out HBW6.out.size fun k hk => by
            rcases hk with rfl | ⟨e, he, rfl⟩
            · have := HBW3.out; have := HGR.out; omega
            · obtain ⟨j, hj, ej⟩ := List.getElem_of_mem he
              have := (HV6.out.task (i := j) (e := e) (by rw [List.getElem?_eq_getElem hj, ej])).gb
              have := hbw_.size
              omega
          refine ⟨B1, d1, B2, d2, ?_, Chg.below hbl hCf hbl.size fun k hk => by rw [hk]; have := HGR.out; omega, q1, g1, q2, g2, gk⟩
          rw [← HV1.out, ← HV2.out, ev1, ev2, HLN.out]
theorem read_ok (A : Option Addr) (n c : Nat) (l : List S47) (w : World) (hC : Kd.C k47 w A n l) (hn : n ≤ 900) (hnc : n ≤ c) : Calls Try.prog 12 #[.slice A n c] w (ReadP w l) :=
  (read_okQ A n c l w hC hn hnc).mono fun e w' ⟨A1, c1, A2, c2, h1, h2, h3, h4, h5, h6, _⟩ => ⟨A1, c1, A2, c2, h1, h2, h3, h4, h5, h6⟩
end Go.Proofs.Ytmnglonjekegcaa.Vw
