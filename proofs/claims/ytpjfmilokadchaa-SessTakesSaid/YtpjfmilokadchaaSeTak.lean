/- (c14) The statement SessTakes. -/
import Derived.Test.YtpjfmilokadchaaSeDeed
namespace Go.Proofs.Ytpjfmilokadchaa.Se
open Go Go.RowKit Go.Proofs.YtpjfmilokadchaaW.PrintWords Go.Proofs.YtpjfmilokadchaaW.PrintLast Go.Proofs.YtpjfmilokadchaaW.PrintMore Go.Proofs.Ytpjfmilokadchaa.Rw Go.Proofs.Ytpjfmilokadchaa.Ex Go.Proofs.Ytpjfmilokadchaa.Mono
set_option linter.unusedVariables false
set_option linter.unusedSimpArgs false
attribute [local go_sem high] eqA33
set_option maxHeartbeats 8000000 in
set_option maxRecDepth 100000 in
theorem takes_ok (gap : Int) (A0 : Option Addr) (c0 : Nat) (l : List Deed) (key time val : Int) (w : World) (hgp : 0 ≤ gap ∧ gap < 256) (hr0 : kDeed.C w A0 l.length l) (hc0 : l.length ≤ c0) (hN : l.length ≤ 9223372036854775807) (hi : ∀ d ∈ l, DOk d) (hk : In64 key) (ht : 0 ≤ time ∧ time < 65536) (hv : In64 val) :
    Calls Try.prog 3 #[.int .u8 gap, .slice A0 l.length c0, .int .i64 key, .int .u16 time, .int .i64 val] w fun e w' => e = .returned (.bool true) ∧ Below w.heap.size w w' := by
  have HCD := Aside0.mk hr0
  have HID := Aside0.mk hi
  have HK := Aside0.mk hk
  have HV := Aside0.mk hv
  have HB := Aside0.mk (Below.refl w.heap.size w)
  obtain ⟨G, HG⟩ : ∃ G, Aside0 (1 + gap = G) := ⟨_, ⟨rfl⟩⟩
  have HGG : Aside0 (1 ≤ G ∧ G ≤ 1048576) := ⟨by have := HG.out; omega⟩
  have hgl := hgp.1
  have hgh := hgp.2
  have ht1 := ht.1
  have ht2 := ht.2
  obtain ⟨n0, HN0⟩ : ∃ n, Aside0 (l.length = n) := ⟨_, ⟨rfl⟩⟩
  rw [HN0.out] at HCD hc0 hN ⊢
  clear hr0 hi hk hv hgp ht
  go_enter Try.func3, Try.ntmps3
  go_wp2_with fail
  refine (shown_ok _).mono ?_
  rintro e w1 ⟨rfl, hb_⟩
  replace HB := Aside0.mk (below_step HB.out hb_)
  clear hb_
  go_wp2_with fail
  rw [HG.out]
  refine (new1 1024 G w _ HB.out (by omega) (by omega) HGG.out.1 HGG.out.2).mono ?_
  rintro e w2 ⟨b, rfl, hs_, _⟩
  have HS := Aside0.mk hs_
  clear hs_ HB hgl hgh
  go_wp2_with fail
  go_loopw [14] (fun v14 wr => ∃ (i : Nat) (L : List Ses), i ≤ n0 ∧ i ≤ 60 ∧ v14 = .int .i64 (i : Int) ∧ Aside0 (L.length ≤ i) ∧ Aside0 (St1 w wr b 1024 G L)) (fun v14 _ => 60 - (intOf v14).toNat)
  case atStart => exact ⟨0, [], by omega, by omega, rfl, ⟨Nat.le_refl _⟩, HS⟩
  case round =>
    clear HS
    obtain ⟨i, L, hi, hi3, rfl, HLN, HS⟩ := hrel
    by_cases hlt : i < n0
    · have h1 : decide ((i : Int) < (n0 : Int)) = true := by simp; omega
      have h1b : decide (i < n0) = true := by simp; omega
      by_cases hl3 : i < 60
      · have h2 : decide ((i : Int) < 60) = true := by simp; omega
        have h2b : decide (i < 60) = true := by simp; omega
        obtain ⟨d, hd⟩ : ∃ d, l[i]? = some d := ⟨_, List.getElem?_eq_getElem (by rw [HN0.out]; omega)⟩
        obtain ⟨ad, rfl, _⟩ := at_deed (Kd.C_below HCD.out HS.out.bl) hd
        obtain ⟨x, HX⟩ : ∃ x, Aside0 (d.2.1 = x) := ⟨_, ⟨rfl⟩⟩
        obtain ⟨y, HY⟩ : ∃ x, Aside0 (d.2.2.1 = x) := ⟨_, ⟨rfl⟩⟩
        obtain ⟨z, HZ⟩ : ∃ x, Aside0 (d.2.2.2.1 = x) := ⟨_, ⟨rfl⟩⟩
        have HCX := Aside0.mk (show ∀ W : World, Below wr.heap.size wr W → W.cell? ⟨(ad.add (i * 9)).block, (ad.add (i * 9)).off + 1, none⟩ = some (.int .i64 x) ∧ W.cell? ⟨(ad.add (i * 9)).block, (ad.add (i * 9)).off + 2, none⟩ = some (.int .i64 y) ∧ W.cell? ⟨(ad.add (i * 9)).block, (ad.add (i * 9)).off + 3, none⟩ = some (.int .i64 z) from fun W hW => by
          obtain ⟨ad2, e2, _, h1, h2, h3⟩ := at_deed (Kd.C_below HCD.out (below_step HS.out.bl hW)) hd
          injection e2 with e2
          rw [e2, ← HX.out, ← HY.out, ← HZ.out]
          exact ⟨h1, h2, h3⟩)
        have HXI : Aside0 (In64 x ∧ In64 z) := ⟨by have := HID.out d (List.mem_of_getElem? hd); rw [← HX.out, ← HZ.out]; exact ⟨this.key, this.val⟩⟩
        have HLE : Aside0 ((putL 1024 G L x y z).length ≤ i + 1) := ⟨by have := putL_le 1024 G L x y z; have := HLN.out; omega⟩
        clear hd
        go_wp2_with fail
        refine start_ (n := 17) (S := fun w' => Below wr.heap.size wr w') (ds := [16]) #[false, false, false, false, false, false, false, false, false, false, false, false, false, false, false, false, false] (by kernel_rfl) rfl rfl (below_drew (Below.refl _ _)) (fun hHeld => ?_)
        refine pure_ (i := 0) (N := some 45) (v := ?_) (a' := ?_) #[true, false, false, false, false, false, false, false, false, false, false, false, false, false, false, false, false] rfl rfl (by kernel_rfl) (fun _ _ _ h => h) (Or.inl ⟨by rfl, ?_⟩) ?_ ?_
        rotate_left
        · intro w'
          go_simp
          with_reducible rfl
        rotate_left
        · simp only [Act.put, List.setIfInBounds_toArray, List.set_cons_zero, List.set_cons_succ, i64_w, i32_w]
          rfl
        refine pure_ (i := 1) (N := some 46) (v := ?_) (a' := ?_) #[true, true, false, false, false, false, false, false, false, false, false, false, false, false, false, false, false] rfl rfl (by kernel_rfl) (fun _ _ _ h => h) (Or.inl ⟨by rfl, ?_⟩) ?_ ?_
        rotate_left
        · intro w'
          go_simp
          with_reducible rfl
        rotate_left
        · simp only [Act.put, List.setIfInBounds_toArray, List.set_cons_zero, List.set_cons_succ, i64_w, i32_w]
          rfl
        refine pure_ (i := 2) (N := some 47) (v := ?_) (a' := ?_) #[true, true, true, false, false, false, false, false, false, false, false, false, false, false, false, false, false] rfl rfl (by kernel_rfl) (fun _ _ _ h => h) (Or.inl ⟨by rfl, ?_⟩) ?_ ?_
        rotate_left
        · intro w'
          go_simp
          with_reducible rfl
        rotate_left
        · simp only [Act.put, List.setIfInBounds_toArray, List.set_cons_zero, List.set_cons_succ, i64_w, i32_w]
          rfl
        refine pure_ (i := 3) (N := some 48) (v := ?_) (a' := ?_) #[true, true, true, true, false, false, false, false, false, false, false, false, false, false, false, false, false] rfl rfl (by kernel_rfl) (fun _ _ _ h => h) (Or.inl ⟨by rfl, ?_⟩) ?_ ?_
        rotate_left
        · intro w'
          go_simp
          with_reducible rfl
        rotate_left
        · simp only [Act.put, List.setIfInBounds_toArray, List.set_cons_zero, List.set_cons_succ, i64_w, i32_w]
          rfl
        refine pure_ (i := 4) (N := some 49) (v := ?_) (a' := ?_) #[true, true, true, true, true, false, false, false, false, false, false, false, false, false, false, false, false] rfl rfl (by kernel_rfl) (fun _ _ _ h => h) (Or.inl ⟨by rfl, ?_⟩) ?_ ?_
        rotate_left
        · intro w'
          go_simp
          with_reducible rfl
        rotate_left
        · simp only [Act.put, List.setIfInBounds_toArray, List.set_cons_zero, List.set_cons_succ, i64_w, i32_w]
          rfl
        refine pure_ (i := 6) (N := some 51) (v := ?_) (a' := ?_) #[true, true, true, true, true, false, true, false, false, false, false, false, false, false, false, false, false] rfl rfl (by kernel_rfl) (fun _ _ _ h => h) (Or.inl ⟨by rfl, ?_⟩) ?_ ?_
        rotate_left
        · intro w'
          go_simp
          with_reducible rfl
        rotate_left
        · simp only [Act.put, List.setIfInBounds_toArray, List.set_cons_zero, List.set_cons_succ, i64_w, i32_w]
          rfl
        refine pure_ (i := 7) (N := some 52) (v := ?_) (a' := ?_) #[true, true, true, true, true, false, true, true, false, false, false, false, false, false, false, false, false] rfl rfl (by kernel_rfl) (fun _ _ _ h => h) (Or.inl ⟨by rfl, ?_⟩) ?_ ?_
        rotate_left
        · intro w'
          go_simp
          with_reducible rfl
        rotate_left
        · simp only [Act.put, List.setIfInBounds_toArray, List.set_cons_zero, List.set_cons_succ, i64_w, i32_w]
          rfl
        refine pure_ (i := 8) (N := some 53) (v := ?_) (a' := ?_) #[true, true, true, true, true, false, true, true, true, false, false, false, false, false, false, false, false] rfl rfl (by kernel_rfl) (fun _ _ _ h => h) (Or.inl ⟨by rfl, ?_⟩) ?_ ?_
        rotate_left
        · intro w'
          go_simp
          with_reducible rfl
        rotate_left
        · simp only [Act.put, List.setIfInBounds_toArray, List.set_cons_zero, List.set_cons_succ, i64_w, i32_w]
          rfl
        refine pure_ (i := 9) (N := some 54) (v := ?_) (a' := ?_) #[true, true, true, true, true, false, true, true, true, true, false, false, false, false, false, false, false] rfl rfl (by kernel_rfl) (fun _ _ _ h => h) (Or.inl ⟨by rfl, ?_⟩) ?_ ?_
        rotate_left
        · intro w'
          go_simp
          with_reducible rfl
        rotate_left
        · simp only [Act.put, List.setIfInBounds_toArray, List.set_cons_zero, List.set_cons_succ, i64_w, i32_w]
          rfl
        refine pure_ (i := 11) (N := some 56) (v := ?_) (a' := ?_) #[true, true, true, true, true, false, true, true, true, true, false, true, false, false, false, false, false] rfl rfl (by kernel_rfl) (fun _ _ _ h => h) (Or.inl ⟨by rfl, ?_⟩) ?_ ?_
        rotate_left
        · intro w'
          go_simp
          with_reducible rfl
        rotate_left
        · simp only [Act.put, List.setIfInBounds_toArray, List.set_cons_zero, List.set_cons_succ, i64_w, i32_w]
          rfl
        refine pure_ (i := 12) (N := some 57) (v := ?_) (a' := ?_) #[true, true, true, true, true, false, true, true, true, true, false, true, true, false, false, false, false] rfl rfl (by kernel_rfl) (fun _ _ _ h => h) (Or.inl ⟨by rfl, ?_⟩) ?_ ?_
        rotate_left
        · intro w'
          go_simp
          with_reducible rfl
        rotate_left
        · simp only [Act.put, List.setIfInBounds_toArray, List.set_cons_zero, List.set_cons_succ, i64_w, i32_w]
          rfl
        refine pure_ (i := 13) (N := some 58) (v := ?_) (a' := ?_) #[true, true, true, true, true, false, true, true, true, true, false, true, true, true, false, false, false] rfl rfl (by kernel_rfl) (fun _ _ _ h => h) (Or.inl ⟨by rfl, ?_⟩) ?_ ?_
        rotate_left
        · intro w'
          go_simp
          with_reducible rfl
        rotate_left
        · simp only [Act.put, List.setIfInBounds_toArray, List.set_cons_zero, List.set_cons_succ, i64_w, i32_w]
          rfl
        refine pure_ (i := 14) (N := some 59) (v := ?_) (a' := ?_) #[true, true, true, true, true, false, true, true, true, true, false, true, true, true, true, false, false] rfl rfl (by kernel_rfl) (fun _ _ _ h => h) (Or.inl ⟨by rfl, ?_⟩) ?_ ?_
        rotate_left
        · intro w'
          go_simp
          with_reducible rfl
        rotate_left
        · simp only [Act.put, List.setIfInBounds_toArray, List.set_cons_zero, List.set_cons_succ, i64_w, i32_w]
          rfl
        refine take_ (i := 5) (N := some 50) (v := ?_) (a' := ?_) #[true, true, true, true, true, true, true, true, true, true, false, true, true, true, true, false, false] rfl rfl (by kernel_rfl) (fun _ _ _ h => h) (Or.inl ⟨by rfl, ?_⟩) hHeld ?_ ?_
        rotate_left
        · intro w' hS
          have c_ := (HCX.out _ hS).1
          go_simp
          with_reducible rfl
        rotate_left
        · simp only [Act.put, List.setIfInBounds_toArray, List.set_cons_zero, List.set_cons_succ, i64_w, i32_w]
          rfl
        refine take_ (i := 10) (N := some 55) (v := ?_) (a' := ?_) #[true, true, true, true, true, true, true, true, true, true, true, true, true, true, true, false, false] rfl rfl (by kernel_rfl) (fun _ _ _ h => h) (Or.inl ⟨by rfl, ?_⟩) hHeld ?_ ?_
        rotate_left
        · intro w' hS
          have c_ := (HCX.out _ hS).2.1
          go_simp
          with_reducible rfl
        rotate_left
        · simp only [Act.put, List.setIfInBounds_toArray, List.set_cons_zero, List.set_cons_succ, i64_w, i32_w]
          rfl
        refine take_ (i := 15) (N := some 60) (v := ?_) (a' := ?_) #[true, true, true, true, true, true, true, true, true, true, true, true, true, true, true, true, false] rfl rfl (by kernel_rfl) (fun _ _ _ h => h) (Or.inl ⟨by rfl, ?_⟩) hHeld ?_ ?_
        rotate_left
        · intro w' hS
          have c_ := (HCX.out _ hS).2.2
          go_simp
          with_reducible rfl
        rotate_left
        · simp only [Act.put, List.setIfInBounds_toArray, List.set_cons_zero, List.set_cons_succ, i64_w, i32_w]
          rfl
        refine last_ (i := 16) (N := some 61) #[true, true, true, true, true, true, true, true, true, true, true, true, true, true, true, true, true] rfl rfl (by kernel_rfl) (by simp) (fun K hK => ?_)
        replace HS := Aside0.mk (HS.out.below hHeld)
        refine goes_ Try.func10 (by kernel_rfl) rfl #[.pointer (some ⟨b, 0, none⟩), .int .i64 x, .int .i64 y, .int .i64 z] (by rfl) rfl rfl (by simp only [List.map_toArray, List.map_cons, List.map_nil]; rfl) ?_
        with_reducible refine (HS.out.put x y z HXI.out.1 HXI.out.2).mono ?_
        rintro e w5 ⟨⟨A_, c_, rfl, ho_⟩, hs_, hk_⟩
        refine ⟨_, rfl, ?_⟩
        refine hK.out _ _ ?_
        clear hK K
        refine norm_ (a' := ?_) ?_ ?_
        rotate_left
        · show Act.put _ (some 61) _ = _
          simp only [Act.put, List.setIfInBounds_toArray, List.set_cons_zero, List.set_cons_succ, i64_w, i32_w]
          rfl
        replace HS := Aside0.mk hs_
        clear hs_ hk_ ho_
        refine done_ (by kernel_rfl) ?_

        go_wp2_with fail
        go_roundw
        case rel => exact ⟨i + 1, _, by omega, by omega, by go_num, HLE, HS⟩
        case measure => simp [intOf]; omega
      · have h2 : decide ((i : Int) < 60) = false := by simp; omega
        have h2b : decide (i < 60) = false := by simp; omega
        replace HLN : Aside0 (L.length ≤ 60) := ⟨Nat.le_trans HLN.out hi3⟩
        clear hlt hl3
        obtain ⟨n, HN⟩ : ∃ n, Aside0 (L.length = n) := ⟨_, ⟨rfl⟩⟩
        have HM := Aside0.mk (putL_ok (room := 1024) (g := G) (L := L) (key := key) (t := time) (v := val) ⟨by omega, by omega⟩ (by have := HLN.out; omega))
        have HMT : Aside0 (mayT time = true) := ⟨by unfold mayT; simp; omega⟩
        have HFP := Aside0.mk (find_put G L key time val HGG.out.1)
        have HPL := Aside0.mk (put_len G L key time val)
        obtain ⟨m, HMF⟩ : ∃ m, Aside0 ((findL G L key time).length = m) := ⟨_, ⟨rfl⟩⟩
        obtain ⟨fa, HFA⟩ : ∃ m, Aside0 (firstL time (findL G L key time) = m) := ⟨_, ⟨rfl⟩⟩
        obtain ⟨lb, HLB⟩ : ∃ m, Aside0 (lastL time (findL G L key time) = m) := ⟨_, ⟨rfl⟩⟩
        have HXE : Aside0 (putX G L key time val = ⟨key, fa, lb, val⟩) := ⟨by unfold putX; rw [HFA.out, HLB.out]⟩
        have HFL : Aside0 (fa ≤ time ∧ time ≤ lb ∧ (m = 0 → fa = time ∧ lb = time)) := ⟨by
          have h1 := (first_le (findL G L key time) time).1
          have h2 := (last_ge (findL G L key time) time).1
          rw [HFA.out] at h1
          rw [HLB.out] at h2
          refine ⟨h1, h2, fun h => ?_⟩
          have h0 : findL G L key time = [] := List.length_eq_zero_iff.1 (by rw [HMF.out]; exact h)
          rw [← HFA.out, ← HLB.out, h0]
          exact ⟨rfl, rfl⟩⟩
        obtain ⟨L2, HL2⟩ : ∃ M, Aside0 (putS G L key time val = M) := ⟨_, ⟨rfl⟩⟩
        rw [HL2.out, HXE.out] at HFP
        rw [HL2.out, HMF.out, HN.out] at HPL
        have hm60 : n ≤ 60 := by rw [← HN.out]; exact HLN.out
        go_wp2_with fail
        refine (HS.out.len).mono ?_
        rintro e w2 ⟨rfl, rfl⟩
        rw [HN.out]
        go_wp2_with fail
        refine (HS.out.find key time).mono ?_
        rintro e w3 ⟨v0, rfl, ho_, hb_⟩
        replace HS := Aside0.mk (HS.out.below hb_)
        have hlm : ((findM G L key time).map chgOf).length = m := by unfold findM; rw [if_pos HMT.out, List.length_map, HMF.out]
        obtain ⟨A3, c3, rfl, _, _⟩ := slice_of ho_
        rw [hlm]
        clear ho_ hb_ hlm
        go_wp2_with fail
        refine (HS.out.put key time val HK.out HV.out).mono ?_
        rintro e w4 ⟨⟨A4, c4, rfl, ho_⟩, hs_, hk_⟩
        rw [HM.out.2, HL2.out] at hs_
        replace HS := Aside0.mk hs_
        have hcode : putE 1024 G L key time = 0 := by unfold putE; rw [if_pos HMT.out, if_pos HM.out.1]
        rw [hcode]
        obtain ⟨K4, hK4⟩ : ∃ K, putM 1024 G L key time val = K ++ [chgOf ⟨key, fa, lb, val⟩] := by unfold putM; rw [if_pos HM.out.1, HXE.out]; exact ⟨_, rfl⟩
        rw [hK4] at ho_ ⊢
        obtain ⟨k, hk⟩ : ∃ k, K4.length = k := ⟨_, rfl⟩
        have hkl : (K4 ++ [chgOf ⟨key, fa, lb, val⟩]).length = k + 1 := by rw [List.length_append, hk]; rfl
        rw [hkl] at ho_ ⊢
        obtain ⟨g4, cap4, cur4, rest4, e4, _, _, hkc, hcm, _, _, _⟩ := own_open ho_ (by omega)
        injection e4 with e4 _ _
        subst e4
        obtain ⟨y0, y1, y2, y3, y4⟩ := cellsC_own ho_ (t := k) (p := chgOf ⟨key, fa, lb, val⟩) (by rw [← hk]; simp)
        simp only [chgOf] at y0 y1 y2 y3 y4
        have hkm : k + 1 ≤ 9223372036854775807 := by have := (C_own ho_).1.2.1; have := (C_of_own ho_).1.2.1; rw [hkl] at this; exact Nat.le_trans this (by decide)
        have hkz : ((k : Int) + 1 == 0) = false := by simp; omega
        have hkz2 : (((k + 1 : Nat) : Int) == 0) = false := by simp; omega
        have hw1 : ((k + 1 : Nat) : Int) - 1 = (k : Int) := by omega
        have hw2 : IntKind.i64.wrap (((k + 1 : Nat) : Int) - 1) = (k : Int) := by rw [IntKind.wrap_i64]; omega
        have hk2 : (k : Int) < ((k + 1 : Nat) : Int) := by omega
        clear hcode hK4 hk hkl ho_ hs_ hk_ hkc hcm
        go_upto_region 15 with fail
        clear y0 y1 y2 y3 y4 hw1 hw2 hk2
        have HC := Aside0.mk (heap_alloc_new w4 (.cells #[.int .i64 key, .int .i64 fa, .int .i64 lb, .int .i64 val, .bool false] 33))
        have hb_ := below_alloc (Below.refl w4.heap.size w4) (.cells #[.int .i64 key, .int .i64 fa, .int .i64 lb, .int .i64 val, .bool false] 33)
        have hs_ : (w4.alloc (.cells #[.int .i64 key, .int .i64 fa, .int .i64 lb, .int .i64 val, .bool false] 33)).heap.size = w4.heap.size + 1 := by simp
        generalize w4.alloc (.cells #[.int .i64 key, .int .i64 fa, .int .i64 lb, .int .i64 val, .bool false] 33) = w5 at HC hb_ hs_ ⊢
        replace HS := Aside0.mk (HS.out.below hb_)
        clear hb_
        clear hs_
        obtain ⟨gc, HGC⟩ : ∃ g, Aside0 (w4.heap.size = g) := ⟨_, ⟨rfl⟩⟩
        rw [HGC.out] at HC ⊢
        go_wp2_with fail
        refine (HS.out.find key time).mono ?_
        rintro e w6 ⟨v0, rfl, ho_, hb_⟩
        replace HS := Aside0.mk (HS.out.below hb_)
        replace HC := Aside0.mk (blk_below HC.out hb_)
        have hfm : findM G L2 key time = [⟨key, fa, lb, val⟩] := by unfold findM; rw [if_pos HMT.out, HFP.out]
        rw [hfm] at ho_
        have ho2_ : w6.ownsRow w5.heap.size 33 5 v0 1 (cellsC [chgOf ⟨key, fa, lb, val⟩]) := ho_
        clear hfm ho_ hb_
        obtain ⟨g6, cap6, cur6, rest6, rfl, _, _, hkc, hcm, _, _, _⟩ := own_open ho2_ (by omega)
        obtain ⟨y0, y1, y2, y3, y4⟩ := cellsC_own ho2_ (t := 0) (p := chgOf ⟨key, fa, lb, val⟩) rfl
        simp only [Nat.zero_mul, Nat.zero_add] at y0 y1 y2 y3 y4
        simp only [chgOf] at y0 y1 y2 y3 y4
        have z0_ := (blk_cell HC.out 0).trans (rfl : _ = some (.int .i64 key : Value))
        have z1_ := (blk_cell HC.out 1).trans (rfl : _ = some (.int .i64 fa : Value))
        have z2_ := (blk_cell HC.out 2).trans (rfl : _ = some (.int .i64 lb : Value))
        have z3_ := (blk_cell HC.out 3).trans (rfl : _ = some (.int .i64 val : Value))
        have z4_ := (blk_cell HC.out 4).trans (rfl : _ = some (.bool false : Value))
        have q0 := HFL.out.1
        have q1 := HFL.out.2.1
        have q2 : decide (fa > time) = false := by simp; omega
        have q3 : decide (time < fa) = false := by simp; omega
        have q4 : decide (lb < time) = false := by simp; omega
        clear ho2_ hkc hcm
        go_upto_region 16 with fail
        go_quiet (fail)
        have hbq := pw_below_drewN (Below.refl w6.heap.size w6) nq
        replace HS := Aside0.mk (HS.out.below hbq)
        replace HC := Aside0.mk (blk_below HC.out hbq)
        generalize w6.drewN nq = w7 at HS HC ⊢
        clear hbq y0 y1 y2 y3 y4 z0_ z1_ z2_ z3_ z4_
        have hL2 : L2.length + m = n + 1 := HPL.out
        obtain ⟨n2, HN2⟩ : ∃ n2, Aside0 (L2.length = n2) := ⟨_, ⟨rfl⟩⟩
        rw [HN2.out] at hL2
        have hsum : (n : Int) - (m : Int) + 1 = (n2 : Int) := by omega
        have hsum2 : IntKind.i64.wrap ((n : Int) - (m : Int)) = (n : Int) - (m : Int) := by rw [IntKind.wrap_i64]; omega
        have hsum3 : IntKind.i64.wrap ((n : Int) - (m : Int) + 1) = (n2 : Int) := by rw [IntKind.wrap_i64]; omega
        by_cases hm0 : m = 0
        · obtain ⟨e1, e2⟩ := HFL.out.2.2 hm0
          rw [e1, e2] at HC
          subst hm0
          clear e1 e2
          clear q0 q1 q2 q3 q4
          have z1_ := (blk_cell HC.out 1).trans (rfl : _ = some (.int .i64 time : Value))
          have z2_ := (blk_cell HC.out 2).trans (rfl : _ = some (.int .i64 time : Value))
          go_wp2_with fail
          refine (HS.out.len).mono ?_
          rintro e w8 ⟨rfl, rfl⟩
          rw [HN2.out]
          go_wp2_with fail
          go_ret
          exact ⟨by simp, HS.out.bl⟩
        · have hmp : decide ((m : Int) > 0) = true := by simp; omega
          have hmp2 : decide (0 < m) = true := by simp; omega
          clear q0 q1 q2 q3 q4 hm0
          go_wp2_with fail
          refine (HS.out.len).mono ?_
          rintro e w8 ⟨rfl, rfl⟩
          rw [HN2.out]
          go_wp2_with fail
          go_ret
          exact ⟨by simp, HS.out.bl⟩
    · obtain rfl : i = n0 := by omega
      replace HLN : Aside0 (L.length ≤ 60) := ⟨Nat.le_trans HLN.out hi3⟩
      clear hlt
      obtain ⟨n, HN⟩ : ∃ n, Aside0 (L.length = n) := ⟨_, ⟨rfl⟩⟩
      have HM := Aside0.mk (putL_ok (room := 1024) (g := G) (L := L) (key := key) (t := time) (v := val) ⟨by omega, by omega⟩ (by have := HLN.out; omega))
      have HMT : Aside0 (mayT time = true) := ⟨by unfold mayT; simp; omega⟩
      have HFP := Aside0.mk (find_put G L key time val HGG.out.1)
      have HPL := Aside0.mk (put_len G L key time val)
      obtain ⟨m, HMF⟩ : ∃ m, Aside0 ((findL G L key time).length = m) := ⟨_, ⟨rfl⟩⟩
      obtain ⟨fa, HFA⟩ : ∃ m, Aside0 (firstL time (findL G L key time) = m) := ⟨_, ⟨rfl⟩⟩
      obtain ⟨lb, HLB⟩ : ∃ m, Aside0 (lastL time (findL G L key time) = m) := ⟨_, ⟨rfl⟩⟩
      have HXE : Aside0 (putX G L key time val = ⟨key, fa, lb, val⟩) := ⟨by unfold putX; rw [HFA.out, HLB.out]⟩
      have HFL : Aside0 (fa ≤ time ∧ time ≤ lb ∧ (m = 0 → fa = time ∧ lb = time)) := ⟨by
        have h1 := (first_le (findL G L key time) time).1
        have h2 := (last_ge (findL G L key time) time).1
        rw [HFA.out] at h1
        rw [HLB.out] at h2
        refine ⟨h1, h2, fun h => ?_⟩
        have h0 : findL G L key time = [] := List.length_eq_zero_iff.1 (by rw [HMF.out]; exact h)
        rw [← HFA.out, ← HLB.out, h0]
        exact ⟨rfl, rfl⟩⟩
      obtain ⟨L2, HL2⟩ : ∃ M, Aside0 (putS G L key time val = M) := ⟨_, ⟨rfl⟩⟩
      rw [HL2.out, HXE.out] at HFP
      rw [HL2.out, HMF.out, HN.out] at HPL
      have hm60 : n ≤ 60 := by rw [← HN.out]; exact HLN.out
      go_wp2_with fail
      refine (HS.out.len).mono ?_
      rintro e w2 ⟨rfl, rfl⟩
      rw [HN.out]
      go_wp2_with fail
      refine (HS.out.find key time).mono ?_
      rintro e w3 ⟨v0, rfl, ho_, hb_⟩
      replace HS := Aside0.mk (HS.out.below hb_)
      have hlm : ((findM G L key time).map chgOf).length = m := by unfold findM; rw [if_pos HMT.out, List.length_map, HMF.out]
      obtain ⟨A3, c3, rfl, _, _⟩ := slice_of ho_
      rw [hlm]
      clear ho_ hb_ hlm
      go_wp2_with fail
      refine (HS.out.put key time val HK.out HV.out).mono ?_
      rintro e w4 ⟨⟨A4, c4, rfl, ho_⟩, hs_, hk_⟩
      rw [HM.out.2, HL2.out] at hs_
      replace HS := Aside0.mk hs_
      have hcode : putE 1024 G L key time = 0 := by unfold putE; rw [if_pos HMT.out, if_pos HM.out.1]
      rw [hcode]
      obtain ⟨K4, hK4⟩ : ∃ K, putM 1024 G L key time val = K ++ [chgOf ⟨key, fa, lb, val⟩] := by unfold putM; rw [if_pos HM.out.1, HXE.out]; exact ⟨_, rfl⟩
      rw [hK4] at ho_ ⊢
      obtain ⟨k, hk⟩ : ∃ k, K4.length = k := ⟨_, rfl⟩
      have hkl : (K4 ++ [chgOf ⟨key, fa, lb, val⟩]).length = k + 1 := by rw [List.length_append, hk]; rfl
      rw [hkl] at ho_ ⊢
      obtain ⟨g4, cap4, cur4, rest4, e4, _, _, hkc, hcm, _, _, _⟩ := own_open ho_ (by omega)
      injection e4 with e4 _ _
      subst e4
      obtain ⟨y0, y1, y2, y3, y4⟩ := cellsC_own ho_ (t := k) (p := chgOf ⟨key, fa, lb, val⟩) (by rw [← hk]; simp)
      simp only [chgOf] at y0 y1 y2 y3 y4
      have hkm : k + 1 ≤ 9223372036854775807 := by have := (C_own ho_).1.2.1; have := (C_of_own ho_).1.2.1; rw [hkl] at this; exact Nat.le_trans this (by decide)
      have hkz : ((k : Int) + 1 == 0) = false := by simp; omega
      have hkz2 : (((k + 1 : Nat) : Int) == 0) = false := by simp; omega
      have hw1 : ((k + 1 : Nat) : Int) - 1 = (k : Int) := by omega
      have hw2 : IntKind.i64.wrap (((k + 1 : Nat) : Int) - 1) = (k : Int) := by rw [IntKind.wrap_i64]; omega
      have hk2 : (k : Int) < ((k + 1 : Nat) : Int) := by omega
      clear hcode hK4 hk hkl ho_ hs_ hk_ hkc hcm
      go_upto_region 15 with fail
      clear y0 y1 y2 y3 y4 hw1 hw2 hk2
      have HC := Aside0.mk (heap_alloc_new w4 (.cells #[.int .i64 key, .int .i64 fa, .int .i64 lb, .int .i64 val, .bool false] 33))
      have hb_ := below_alloc (Below.refl w4.heap.size w4) (.cells #[.int .i64 key, .int .i64 fa, .int .i64 lb, .int .i64 val, .bool false] 33)
      have hs_ : (w4.alloc (.cells #[.int .i64 key, .int .i64 fa, .int .i64 lb, .int .i64 val, .bool false] 33)).heap.size = w4.heap.size + 1 := by simp
      generalize w4.alloc (.cells #[.int .i64 key, .int .i64 fa, .int .i64 lb, .int .i64 val, .bool false] 33) = w5 at HC hb_ hs_ ⊢
      replace HS := Aside0.mk (HS.out.below hb_)
      clear hb_
      clear hs_
      obtain ⟨gc, HGC⟩ : ∃ g, Aside0 (w4.heap.size = g) := ⟨_, ⟨rfl⟩⟩
      rw [HGC.out] at HC ⊢
      go_wp2_with fail
      refine (HS.out.find key time).mono ?_
      rintro e w6 ⟨v0, rfl, ho_, hb_⟩
      replace HS := Aside0.mk (HS.out.below hb_)
      replace HC := Aside0.mk (blk_below HC.out hb_)
      have hfm : findM G L2 key time = [⟨key, fa, lb, val⟩] := by unfold findM; rw [if_pos HMT.out, HFP.out]
      rw [hfm] at ho_
      have ho2_ : w6.ownsRow w5.heap.size 33 5 v0 1 (cellsC [chgOf ⟨key, fa, lb, val⟩]) := ho_
      clear hfm ho_ hb_
      obtain ⟨g6, cap6, cur6, rest6, rfl, _, _, hkc, hcm, _, _, _⟩ := own_open ho2_ (by omega)
      obtain ⟨y0, y1, y2, y3, y4⟩ := cellsC_own ho2_ (t := 0) (p := chgOf ⟨key, fa, lb, val⟩) rfl
      simp only [Nat.zero_mul, Nat.zero_add] at y0 y1 y2 y3 y4
      simp only [chgOf] at y0 y1 y2 y3 y4
      have z0_ := (blk_cell HC.out 0).trans (rfl : _ = some (.int .i64 key : Value))
      have z1_ := (blk_cell HC.out 1).trans (rfl : _ = some (.int .i64 fa : Value))
      have z2_ := (blk_cell HC.out 2).trans (rfl : _ = some (.int .i64 lb : Value))
      have z3_ := (blk_cell HC.out 3).trans (rfl : _ = some (.int .i64 val : Value))
      have z4_ := (blk_cell HC.out 4).trans (rfl : _ = some (.bool false : Value))
      have q0 := HFL.out.1
      have q1 := HFL.out.2.1
      have q2 : decide (fa > time) = false := by simp; omega
      have q3 : decide (time < fa) = false := by simp; omega
      have q4 : decide (lb < time) = false := by simp; omega
      clear ho2_ hkc hcm
      go_upto_region 16 with fail
      go_quiet (fail)
      have hbq := pw_below_drewN (Below.refl w6.heap.size w6) nq
      replace HS := Aside0.mk (HS.out.below hbq)
      replace HC := Aside0.mk (blk_below HC.out hbq)
      generalize w6.drewN nq = w7 at HS HC ⊢
      clear hbq y0 y1 y2 y3 y4 z0_ z1_ z2_ z3_ z4_
      have hL2 : L2.length + m = n + 1 := HPL.out
      obtain ⟨n2, HN2⟩ : ∃ n2, Aside0 (L2.length = n2) := ⟨_, ⟨rfl⟩⟩
      rw [HN2.out] at hL2
      have hsum : (n : Int) - (m : Int) + 1 = (n2 : Int) := by omega
      have hsum2 : IntKind.i64.wrap ((n : Int) - (m : Int)) = (n : Int) - (m : Int) := by rw [IntKind.wrap_i64]; omega
      have hsum3 : IntKind.i64.wrap ((n : Int) - (m : Int) + 1) = (n2 : Int) := by rw [IntKind.wrap_i64]; omega
      by_cases hm0 : m = 0
      · obtain ⟨e1, e2⟩ := HFL.out.2.2 hm0
        rw [e1, e2] at HC
        subst hm0
        clear e1 e2
        clear q0 q1 q2 q3 q4
        have z1_ := (blk_cell HC.out 1).trans (rfl : _ = some (.int .i64 time : Value))
        have z2_ := (blk_cell HC.out 2).trans (rfl : _ = some (.int .i64 time : Value))
        go_wp2_with fail
        refine (HS.out.len).mono ?_
        rintro e w8 ⟨rfl, rfl⟩
        rw [HN2.out]
        go_wp2_with fail
        go_ret
        exact ⟨by simp, HS.out.bl⟩
      · have hmp : decide ((m : Int) > 0) = true := by simp; omega
        have hmp2 : decide (0 < m) = true := by simp; omega
        clear q0 q1 q2 q3 q4 hm0
        go_wp2_with fail
        refine (HS.out.len).mono ?_
        rintro e w8 ⟨rfl, rfl⟩
        rw [HN2.out]
        go_wp2_with fail
        go_ret
        exact ⟨by simp, HS.out.bl⟩
end Go.Proofs.Ytpjfmilokadchaa.Se
