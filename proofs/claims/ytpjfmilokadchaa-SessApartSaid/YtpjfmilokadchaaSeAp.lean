/- (c14) The statement SessApart. -/
import Derived.Test.YtpjfmilokadchaaSeApP
namespace Go.Proofs.Ytpjfmilokadchaa.Se
open Go Go.RowKit Go.Proofs.YtpjfmilokadchaaW.PrintWords Go.Proofs.YtpjfmilokadchaaW.PrintLast Go.Proofs.YtpjfmilokadchaaW.PrintMore Go.Proofs.Ytpjfmilokadchaa.Rw Go.Proofs.Ytpjfmilokadchaa.Ex Go.Proofs.Ytpjfmilokadchaa.Mono
set_option linter.unusedVariables false
set_option linter.unusedSimpArgs false
set_option maxHeartbeats 8000000 in
set_option maxRecDepth 100000 in
theorem apart_ok (gap : Int) (A0 : Option Addr) (c0 : Nat) (l : List Deed) (w : World) (hgp : 0 ≤ gap ∧ gap < 256) (hr0 : kDeed.C w A0 l.length l) (hc0 : l.length ≤ c0) (hN : l.length ≤ 9223372036854775807) (hi : ∀ d ∈ l, DOk d) :
    Calls Try.prog 4 #[.int .u8 gap, .slice A0 l.length c0] w fun e w' => e = .returned (.bool true) ∧ Below w.heap.size w w' := by
  have HCD := Aside0.mk hr0
  have HID := Aside0.mk hi
  have HB := Aside0.mk (Below.refl w.heap.size w)
  obtain ⟨G, HG⟩ : ∃ G, Aside0 (1 + gap = G) := ⟨_, ⟨rfl⟩⟩
  have HGG : Aside0 (1 ≤ G ∧ G ≤ 1048576) := ⟨by have := HG.out; omega⟩
  have hgl := hgp.1
  have hgh := hgp.2
  obtain ⟨n0, HN0⟩ : ∃ n, Aside0 (l.length = n) := ⟨_, ⟨rfl⟩⟩
  rw [HN0.out] at HCD hc0 hN ⊢
  clear hr0 hi hgp
  go_enter Try.func4, Try.ntmps4
  go_wp2_with fail
  refine (shown_ok _).mono ?_
  rintro e w1 ⟨rfl, hb_⟩
  replace HB := Aside0.mk (below_step HB.out hb_)
  clear hb_
  go_wp2_with fail
  rw [HG.out]
  refine (new1 1024 G w _ HB.out (by omega) (by omega) HGG.out.1 HGG.out.2).mono ?_
  rintro e w2 ⟨b, rfl, hs_, _⟩
  have HS := Aside0.mk hs_
  clear hs_ HB hgl hgh
  go_upto_block 0 with (fail)
  go_cut [9] (fun v9 wc => ∃ (n : Nat) (L : List Ses), n ≤ n0 ∧ n ≤ 100 ∧ v9 = .int .i64 (n : Int) ∧ Aside0 (AInv G (l.take n) L) ∧ Aside0 (St1 w wc b 1024 G L))
  case first =>
    go_wp2_with fail
    go_loopw [9] (fun v9 wr => ∃ (i : Nat) (L : List Ses), i ≤ n0 ∧ i ≤ 100 ∧ v9 = .int .i64 (i : Int) ∧ Aside0 (AInv G (l.take i) L) ∧ Aside0 (St1 w wr b 1024 G L)) (fun v9 _ => 100 - (intOf v9).toNat)
    case atStart => exact ⟨0, [], by omega, by omega, rfl, ⟨by rw [List.take_zero]; exact AInv.start G⟩, HS⟩
    case round => as_aux_lemma =>
      clear HS
      obtain ⟨i, L, hi, hi3, rfl, HA, HS⟩ := hrel
      by_cases hlt : i < n0
      · have h1 : decide ((i : Int) < (n0 : Int)) = true := by simp; omega
        have h1b : decide (i < n0) = true := by simp; omega
        by_cases hl3 : i < 100
        · have h2 : decide ((i : Int) < 100) = true := by simp; omega
          have h2b : decide (i < 100) = true := by simp; omega
          obtain ⟨d, hd⟩ : ∃ d, l[i]? = some d := ⟨_, List.getElem?_eq_getElem (by rw [HN0.out]; omega)⟩
          have HD := Aside0.mk hd
          obtain ⟨ad, rfl, _⟩ := at_deed (Kd.C_below HCD.out HS.out.bl) hd
          obtain ⟨x, HX⟩ : ∃ x, Aside0 (d.2.1 = x) := ⟨_, ⟨rfl⟩⟩
          obtain ⟨y, HY⟩ : ∃ x, Aside0 (d.2.2.1 = x) := ⟨_, ⟨rfl⟩⟩
          obtain ⟨z, HZ⟩ : ∃ x, Aside0 (d.2.2.2.1 = x) := ⟨_, ⟨rfl⟩⟩
          have HCX := Aside0.mk (show ∀ W : World, Below wr.heap.size wr W → W.cell? ⟨(ad.add (i * 9)).block, (ad.add (i * 9)).off + 1, none⟩ = some (.int .i64 x) ∧ W.cell? ⟨(ad.add (i * 9)).block, (ad.add (i * 9)).off + 2, none⟩ = some (.int .i64 y) ∧ W.cell? ⟨(ad.add (i * 9)).block, (ad.add (i * 9)).off + 3, none⟩ = some (.int .i64 z) from fun W hW => by
            obtain ⟨ad2, e2, _, h1, h2, h3⟩ := at_deed (Kd.C_below HCD.out (below_step HS.out.bl hW)) hd
            injection e2 with e2
            rw [e2, ← HX.out, ← HY.out, ← HZ.out]
            exact ⟨h1, h2, h3⟩)
          have HXI : Aside0 (In64 x ∧ In64 z) := ⟨by have := HID.out d (List.mem_of_getElem? hd); rw [← HX.out, ← HZ.out]; exact ⟨this.key, this.val⟩⟩
          have HTS : Aside0 (l.take (i + 1) = l.take i ++ [d]) := ⟨by obtain ⟨a, e⟩ := List.getElem?_eq_some_iff.1 hd; rw [List.take_succ_eq_append_getElem a, e]⟩
          have HLN : Aside0 (L.length ≤ 100) := ⟨by have := HA.out.2; rw [List.length_take] at this; omega⟩
          clear hd
          go_upto_region 8 with fail
          refine start_ (n := 22) (S := fun w' => Below wr.heap.size wr w') (ds := [16]) #[false, false, false, false, false, false, false, false, false, false, false, false, false, false, false, false, false, false, false, false, false, false] (by kernel_rfl) rfl rfl (below_drew (Below.refl _ _)) (fun hHeld => ?_)
          refine pure_ (i := 0) (N := some 44) (v := ?_) (a' := ?_) #[true, false, false, false, false, false, false, false, false, false, false, false, false, false, false, false, false, false, false, false, false, false] rfl rfl (by kernel_rfl) (fun _ _ _ h => h) (Or.inl ⟨by rfl, ?_⟩) ?_ ?_
          rotate_left
          · intro w'
            go_simp
            with_reducible rfl
          rotate_left
          · simp only [Act.put, List.setIfInBounds_toArray, List.set_cons_zero, List.set_cons_succ, i64_w, i32_w]
            rfl
          refine pure_ (i := 1) (N := some 45) (v := ?_) (a' := ?_) #[true, true, false, false, false, false, false, false, false, false, false, false, false, false, false, false, false, false, false, false, false, false] rfl rfl (by kernel_rfl) (fun _ _ _ h => h) (Or.inl ⟨by rfl, ?_⟩) ?_ ?_
          rotate_left
          · intro w'
            go_simp
            with_reducible rfl
          rotate_left
          · simp only [Act.put, List.setIfInBounds_toArray, List.set_cons_zero, List.set_cons_succ, i64_w, i32_w]
            rfl
          refine pure_ (i := 2) (N := some 46) (v := ?_) (a' := ?_) #[true, true, true, false, false, false, false, false, false, false, false, false, false, false, false, false, false, false, false, false, false, false] rfl rfl (by kernel_rfl) (fun _ _ _ h => h) (Or.inl ⟨by rfl, ?_⟩) ?_ ?_
          rotate_left
          · intro w'
            go_simp
            with_reducible rfl
          rotate_left
          · simp only [Act.put, List.setIfInBounds_toArray, List.set_cons_zero, List.set_cons_succ, i64_w, i32_w]
            rfl
          refine pure_ (i := 3) (N := some 47) (v := ?_) (a' := ?_) #[true, true, true, true, false, false, false, false, false, false, false, false, false, false, false, false, false, false, false, false, false, false] rfl rfl (by kernel_rfl) (fun _ _ _ h => h) (Or.inl ⟨by rfl, ?_⟩) ?_ ?_
          rotate_left
          · intro w'
            go_simp
            with_reducible rfl
          rotate_left
          · simp only [Act.put, List.setIfInBounds_toArray, List.set_cons_zero, List.set_cons_succ, i64_w, i32_w]
            rfl
          refine pure_ (i := 4) (N := some 48) (v := ?_) (a' := ?_) #[true, true, true, true, true, false, false, false, false, false, false, false, false, false, false, false, false, false, false, false, false, false] rfl rfl (by kernel_rfl) (fun _ _ _ h => h) (Or.inl ⟨by rfl, ?_⟩) ?_ ?_
          rotate_left
          · intro w'
            go_simp
            with_reducible rfl
          rotate_left
          · simp only [Act.put, List.setIfInBounds_toArray, List.set_cons_zero, List.set_cons_succ, i64_w, i32_w]
            rfl
          refine pure_ (i := 6) (N := some 50) (v := ?_) (a' := ?_) #[true, true, true, true, true, false, true, false, false, false, false, false, false, false, false, false, false, false, false, false, false, false] rfl rfl (by kernel_rfl) (fun _ _ _ h => h) (Or.inl ⟨by rfl, ?_⟩) ?_ ?_
          rotate_left
          · intro w'
            go_simp
            with_reducible rfl
          rotate_left
          · simp only [Act.put, List.setIfInBounds_toArray, List.set_cons_zero, List.set_cons_succ, i64_w, i32_w]
            rfl
          refine pure_ (i := 7) (N := some 51) (v := ?_) (a' := ?_) #[true, true, true, true, true, false, true, true, false, false, false, false, false, false, false, false, false, false, false, false, false, false] rfl rfl (by kernel_rfl) (fun _ _ _ h => h) (Or.inl ⟨by rfl, ?_⟩) ?_ ?_
          rotate_left
          · intro w'
            go_simp
            with_reducible rfl
          rotate_left
          · simp only [Act.put, List.setIfInBounds_toArray, List.set_cons_zero, List.set_cons_succ, i64_w, i32_w]
            rfl
          refine pure_ (i := 8) (N := some 52) (v := ?_) (a' := ?_) #[true, true, true, true, true, false, true, true, true, false, false, false, false, false, false, false, false, false, false, false, false, false] rfl rfl (by kernel_rfl) (fun _ _ _ h => h) (Or.inl ⟨by rfl, ?_⟩) ?_ ?_
          rotate_left
          · intro w'
            go_simp
            with_reducible rfl
          rotate_left
          · simp only [Act.put, List.setIfInBounds_toArray, List.set_cons_zero, List.set_cons_succ, i64_w, i32_w]
            rfl
          refine pure_ (i := 9) (N := some 53) (v := ?_) (a' := ?_) #[true, true, true, true, true, false, true, true, true, true, false, false, false, false, false, false, false, false, false, false, false, false] rfl rfl (by kernel_rfl) (fun _ _ _ h => h) (Or.inl ⟨by rfl, ?_⟩) ?_ ?_
          rotate_left
          · intro w'
            go_simp
            with_reducible rfl
          rotate_left
          · simp only [Act.put, List.setIfInBounds_toArray, List.set_cons_zero, List.set_cons_succ, i64_w, i32_w]
            rfl
          refine pure_ (i := 11) (N := some 55) (v := ?_) (a' := ?_) #[true, true, true, true, true, false, true, true, true, true, false, true, false, false, false, false, false, false, false, false, false, false] rfl rfl (by kernel_rfl) (fun _ _ _ h => h) (Or.inl ⟨by rfl, ?_⟩) ?_ ?_
          rotate_left
          · intro w'
            go_simp
            with_reducible rfl
          rotate_left
          · simp only [Act.put, List.setIfInBounds_toArray, List.set_cons_zero, List.set_cons_succ, i64_w, i32_w]
            rfl
          refine pure_ (i := 12) (N := some 56) (v := ?_) (a' := ?_) #[true, true, true, true, true, false, true, true, true, true, false, true, true, false, false, false, false, false, false, false, false, false] rfl rfl (by kernel_rfl) (fun _ _ _ h => h) (Or.inl ⟨by rfl, ?_⟩) ?_ ?_
          rotate_left
          · intro w'
            go_simp
            with_reducible rfl
          rotate_left
          · simp only [Act.put, List.setIfInBounds_toArray, List.set_cons_zero, List.set_cons_succ, i64_w, i32_w]
            rfl
          refine pure_ (i := 13) (N := some 57) (v := ?_) (a' := ?_) #[true, true, true, true, true, false, true, true, true, true, false, true, true, true, false, false, false, false, false, false, false, false] rfl rfl (by kernel_rfl) (fun _ _ _ h => h) (Or.inl ⟨by rfl, ?_⟩) ?_ ?_
          rotate_left
          · intro w'
            go_simp
            with_reducible rfl
          rotate_left
          · simp only [Act.put, List.setIfInBounds_toArray, List.set_cons_zero, List.set_cons_succ, i64_w, i32_w]
            rfl
          refine pure_ (i := 14) (N := some 58) (v := ?_) (a' := ?_) #[true, true, true, true, true, false, true, true, true, true, false, true, true, true, true, false, false, false, false, false, false, false] rfl rfl (by kernel_rfl) (fun _ _ _ h => h) (Or.inl ⟨by rfl, ?_⟩) ?_ ?_
          rotate_left
          · intro w'
            go_simp
            with_reducible rfl
          rotate_left
          · simp only [Act.put, List.setIfInBounds_toArray, List.set_cons_zero, List.set_cons_succ, i64_w, i32_w]
            rfl
          refine take_ (i := 5) (N := some 49) (v := ?_) (a' := ?_) #[true, true, true, true, true, true, true, true, true, true, false, true, true, true, true, false, false, false, false, false, false, false] rfl rfl (by kernel_rfl) (fun _ _ _ h => h) (Or.inl ⟨by rfl, ?_⟩) hHeld ?_ ?_
          rotate_left
          · intro w' hS
            have c_ := (HCX.out _ hS).1
            go_simp
            with_reducible rfl
          rotate_left
          · simp only [Act.put, List.setIfInBounds_toArray, List.set_cons_zero, List.set_cons_succ, i64_w, i32_w]
            rfl
          refine take_ (i := 10) (N := some 54) (v := ?_) (a' := ?_) #[true, true, true, true, true, true, true, true, true, true, true, true, true, true, true, false, false, false, false, false, false, false] rfl rfl (by kernel_rfl) (fun _ _ _ h => h) (Or.inl ⟨by rfl, ?_⟩) hHeld ?_ ?_
          rotate_left
          · intro w' hS
            have c_ := (HCX.out _ hS).2.1
            go_simp
            with_reducible rfl
          rotate_left
          · simp only [Act.put, List.setIfInBounds_toArray, List.set_cons_zero, List.set_cons_succ, i64_w, i32_w]
            rfl
          refine take_ (i := 15) (N := some 59) (v := ?_) (a' := ?_) #[true, true, true, true, true, true, true, true, true, true, true, true, true, true, true, true, false, false, false, false, false, false] rfl rfl (by kernel_rfl) (fun _ _ _ h => h) (Or.inl ⟨by rfl, ?_⟩) hHeld ?_ ?_
          rotate_left
          · intro w' hS
            have c_ := (HCX.out _ hS).2.2
            go_simp
            with_reducible rfl
          rotate_left
          · simp only [Act.put, List.setIfInBounds_toArray, List.set_cons_zero, List.set_cons_succ, i64_w, i32_w]
            rfl
          refine last_ (i := 16) (N := some 60) #[true, true, true, true, true, true, true, true, true, true, true, true, true, true, true, true, true, false, false, false, false, false] rfl rfl (by kernel_rfl) (by simp) (fun K hK => ?_)
          replace HS := Aside0.mk (HS.out.below hHeld)
          refine goes_ Try.func10 (by kernel_rfl) rfl #[.pointer (some ⟨b, 0, none⟩), .int .i64 x, .int .i64 y, .int .i64 z] (by rfl) rfl rfl (by simp only [List.map_toArray, List.map_cons, List.map_nil]; rfl) ?_
          with_reducible refine (HS.out.put x y z HXI.out.1 HXI.out.2).mono ?_
          rintro e w5 ⟨⟨A_, c_, rfl, ho_⟩, hs_, hk_⟩
          refine ⟨_, rfl, ?_⟩
          refine hK.out _ _ ?_
          clear hK K
          refine norm_ (a' := ?_) ?_ ?_
          rotate_left
          · show Act.put _ (some 60) _ = _
            simp only [Act.put, List.setIfInBounds_toArray, List.set_cons_zero, List.set_cons_succ, i64_w, i32_w]
            rfl
          replace HS := Aside0.mk hs_
          clear hs_ hk_ ho_
          refine pure_ (i := 17) (N := some 43) (v := ?_) (a' := ?_) #[true, true, true, true, true, true, true, true, true, true, true, true, true, true, true, true, true, true, false, false, false, false] rfl rfl (by kernel_rfl) (fun _ _ _ h => h) (Or.inl ⟨by rfl, ?_⟩) ?_ ?_
          rotate_left
          · intro w'
            go_simp
            with_reducible rfl
          rotate_left
          · simp only [Act.put, List.setIfInBounds_toArray, List.set_cons_zero, List.set_cons_succ, i64_w, i32_w]
            rfl
          refine pure_ (i := 18) (N := some 61) (v := ?_) (a' := ?_) #[true, true, true, true, true, true, true, true, true, true, true, true, true, true, true, true, true, true, true, false, false, false] rfl rfl (by kernel_rfl) (fun _ _ _ h => h) (Or.inl ⟨by rfl, ?_⟩) ?_ ?_
          rotate_left
          · intro w'
            go_simp
            with_reducible rfl
          rotate_left
          · simp only [Act.put, List.setIfInBounds_toArray, List.set_cons_zero, List.set_cons_succ, i64_w, i32_w]
            rfl
          refine pure_ (i := 19) (N := some 62) (v := ?_) (a' := ?_) #[true, true, true, true, true, true, true, true, true, true, true, true, true, true, true, true, true, true, true, true, false, false] rfl rfl (by kernel_rfl) (fun _ _ _ h => h) (Or.inl ⟨by rfl, ?_⟩) ?_ ?_
          rotate_left
          · intro w'
            go_simp
            with_reducible rfl
          rotate_left
          · simp only [Act.put, List.setIfInBounds_toArray, List.set_cons_zero, List.set_cons_succ, i64_w, i32_w]
            rfl
          refine pure_ (i := 20) (N := some 10) (v := ?_) (a' := ?_) #[true, true, true, true, true, true, true, true, true, true, true, true, true, true, true, true, true, true, true, true, true, false] rfl rfl (by kernel_rfl) (fun _ _ _ h => h) (Or.inl ⟨by rfl, ?_⟩) ?_ ?_
          rotate_left
          · intro w'
            go_simp
            with_reducible rfl
          rotate_left
          · simp only [Act.put, List.setIfInBounds_toArray, List.set_cons_zero, List.set_cons_succ, i64_w, i32_w]
            rfl
          refine pure_ (i := 21) (N := some 11) (v := ?_) (a' := ?_) #[true, true, true, true, true, true, true, true, true, true, true, true, true, true, true, true, true, true, true, true, true, true] rfl rfl (by kernel_rfl) (fun _ _ _ h => h) (Or.inl ⟨by rfl, ?_⟩) ?_ ?_
          rotate_left
          · intro w'
            go_simp
            with_reducible rfl
          rotate_left
          · simp only [Act.put, List.setIfInBounds_toArray, List.set_cons_zero, List.set_cons_succ, i64_w, i32_w]
            rfl
          refine done_ (by kernel_rfl) ?_

          obtain ⟨ad2, e2, _, _, c2_, _⟩ := at_deed (Kd.C_below HCD.out HS.out.bl) HD.out
          injection e2 with e2
          subst e2
          rw [HY.out] at c2_
          by_cases hy0 : 0 ≤ y
          · have hy0b : decide (y ≥ 0) = true := by simpa using hy0
            have hy0c : decide (0 ≤ y) = true := by simpa using hy0
            by_cases hy1 : y ≤ 1099511627776
            · have hy1b : decide (y ≤ 1099511627776) = true := by simpa using hy1
              have HPE := Aside0.mk (putE_yes (room := 1024) (g := G) (L := L) (key := x) (t := y) ⟨hy0, hy1⟩ (by have := HLN.out; omega))
              have HPL := Aside0.mk (putL_ok (room := 1024) (g := G) (L := L) (key := x) (t := y) (v := z) ⟨hy0, hy1⟩ (by have := HLN.out; omega)).2
              have HA2 : Aside0 (AInv G (l.take (i + 1)) (putS G L x y z)) := ⟨by
                rw [HTS.out, ← HX.out, ← HY.out]
                exact HA.out.yes HGG.out.1 d (by rw [HY.out]; exact hy0) (by rw [HY.out]; exact hy1) z⟩
              rw [HPE.out]
              rw [HPL.out] at HS
              clear hy0 hy1
              go_wp2_with fail
              go_roundw
              case rel => exact ⟨i + 1, _, by omega, by omega, by go_num, HA2, HS⟩
              case measure => simp [intOf]; omega
            · have hy1b : decide (y ≤ 1099511627776) = false := by simpa using hy1
              have HPN := Aside0.mk (putL_no (room := 1024) (g := G) (L := L) (key := x) (t := y) (v := z) (fun h => hy1 h.2))
              have HA2 : Aside0 (AInv G (l.take (i + 1)) L) := ⟨by rw [HTS.out]; exact HA.out.no d (by rw [HY.out]; exact fun h => hy1 h.2)⟩
              rw [HPN.out.2]
              rw [HPN.out.1] at HS
              clear hy0 hy1
              go_wp2_with fail
              go_roundw
              case rel => exact ⟨i + 1, _, by omega, by omega, by go_num, HA2, HS⟩
              case measure => simp [intOf]; omega
          · have hy0b : decide (y ≥ 0) = false := by simpa using hy0
            have hy0c : decide (0 ≤ y) = false := by simpa using hy0
            have HPN := Aside0.mk (putL_no (room := 1024) (g := G) (L := L) (key := x) (t := y) (v := z) (fun h => hy0 h.1))
            have HA2 : Aside0 (AInv G (l.take (i + 1)) L) := ⟨by rw [HTS.out]; exact HA.out.no d (by rw [HY.out]; exact fun h => hy0 h.1)⟩
            rw [HPN.out.2]
            rw [HPN.out.1] at HS
            clear hy0
            go_wp2_with fail
            go_roundw
            case rel => exact ⟨i + 1, _, by omega, by omega, by go_num, HA2, HS⟩
            case measure => simp [intOf]; omega
        · have h2 : decide ((i : Int) < 100) = false := by simp; omega
          have h2b : decide (i < 100) = false := by simp; omega
          clear hlt hl3
          go_wp2_with fail
          go_meet
          case rel => exact ⟨i, L, by omega, by omega, rfl, HA, HS⟩
      · have h1 : decide ((i : Int) < (n0 : Int)) = false := by simp; omega
        have h1b : decide (i < n0) = false := by simp; omega
        clear hlt
        go_wp2_with fail
        go_meet
        case rel => exact ⟨i, L, by omega, by omega, rfl, HA, HS⟩
  case rest =>
  clear HS
  obtain ⟨n, L, hn0, hn1, rfl, HA, HS⟩ := hcut
  obtain ⟨m, HM⟩ : ∃ m, Aside0 (L.length = m) := ⟨_, ⟨rfl⟩⟩
  have hm1 : m ≤ 100 := by have := HA.out.2; rw [List.length_take] at this; have := HM.out; omega
  go_wp2_with fail
  refine (HS.out.list).mono ?_
  rintro e w9 ⟨v0, rfl, ho_, hb_⟩
  have HCD9 := Aside0.mk (Kd.C_below HCD.out (HS.out.below hb_).bl)
  have HBL := Aside0.mk (HS.out.below hb_).bl
  obtain ⟨A9, c9, rfl, _, _⟩ := slice_of ho_
  rw [List.length_map, HM.out] at ho_ ⊢
  have HO9 := Aside0.mk ho_
  have HB := Aside0.mk (Below.refl w9.heap.size w9)
  clear ho_ hb_ HS HCD
  go_wp2_with fail
  go_loopw [13] (fun v13 wr => ∃ i : Nat, i ≤ m ∧ v13 = .int .i64 (i : Int) ∧ Aside0 (Below w9.heap.size w9 wr)) (fun v13 _ => m - (intOf v13).toNat)
  case atStart => exact ⟨0, by omega, rfl, HB⟩
  case round => as_aux_lemma =>
    clear HB
    obtain ⟨i, him, rfl, HB⟩ := hrel
    by_cases hlt : i < m
    · have h1 : decide ((i : Int) < (m : Int)) = true := by simp; omega
      have h1b : decide (i < m) = true := by simp; omega
      obtain ⟨x, hx⟩ : ∃ x, L[i]? = some x := ⟨_, List.getElem?_eq_getElem (by rw [HM.out]; omega)⟩
      have HLX : Aside0 ((L.map chgOf)[i]? = some (chgOf x)) := ⟨by rw [List.getElem?_map, hx]; rfl⟩
      have HX := Aside0.mk hx
      obtain ⟨g9, cap9, cur9, rest9, e9, _, _, _, _, _, _, _⟩ := own_open HO9.out (by omega)
      injection e9 with e9 _ e9c
      subst e9 e9c
      clear hx
      have HXSP : Aside0 (0 ≤ x.a ∧ x.a ≤ x.b ∧ x.b ≤ 1099511627776) := ⟨by obtain ⟨⟨P, hp, _⟩, _⟩ := HA.out; exact hp.good.span x (List.mem_of_getElem? HX.out)⟩
      go_upto_region 16 with fail
      go_cut [121] (fun v121 wc => v121 = .bool false ∧ Aside0 (Below w9.heap.size w9 wc))
      case first =>
        by_cases hi0 : i = 0
        · have g0 : decide ((i : Int) > 0) = false := by simp; omega
          have g0b : decide (0 < i) = false := by simp; omega
          clear hi0
          go_quiet (fail)
          have HBq : Aside0 (Below w9.heap.size w9 (wr.drewN nq)) := ⟨below_step HB.out (pw_below_drewN (Below.refl _ _) _)⟩
          go_wp2_with fail
          go_meet
          case rel => exact ⟨rfl, HBq⟩
        · obtain ⟨j, rfl⟩ : ∃ j, i = j + 1 := ⟨i - 1, by omega⟩
          have g0 : decide (((j + 1 : Nat) : Int) > 0) = true := by simp only [decide_eq_true_eq]; omega
          have g0b : decide (0 < j + 1) = true := by simp
          obtain ⟨x', hx'⟩ : ∃ x, L[j]? = some x := ⟨_, List.getElem?_eq_getElem (by rw [HM.out]; omega)⟩
          have hnear := HA.out.near hx' HX.out
          have hsp' : 0 ≤ x'.a ∧ x'.a ≤ x'.b ∧ x'.b ≤ 1099511627776 := by obtain ⟨⟨P, hp, _⟩, _⟩ := HA.out; exact hp.good.span x' (List.mem_of_getElem? hx')
          obtain ⟨y0, y1, y2, _, _⟩ := cellsC_own (own_below HO9.out HB.out) HLX.out
          obtain ⟨z0, z1, z2, _, _⟩ := cellsC_own (own_below HO9.out HB.out) (show (L.map chgOf)[j]? = some (chgOf x') by rw [List.getElem?_map, hx']; rfl)
          simp only [chgOf] at y0 y1 y2 z0 z1 z2
          have hw1 : ((j + 1 : Nat) : Int) - 1 = (j : Int) := by omega
          have hw2 : IntKind.i64.wrap (((j + 1 : Nat) : Int) - 1) = (j : Int) := by rw [IntKind.wrap_i64]; omega
          have hji : (j : Int) < (m : Int) := by omega
          have hj0 : (0 : Int) ≤ ((j + 1 : Nat) : Int) := by omega
          have hj1 : ((j + 1 : Nat) : Int) < (m : Int) := by omega
          have htn : (((j + 1 : Nat) : Int)).toNat = j + 1 := by omega
          have hsp := HXSP.out
          have hs1 : IntKind.i64.wrap (x.a - x'.b) = x.a - x'.b := by rw [IntKind.wrap_i64]; omega
          have hs2 : wrap64 (x.a - x'.b) = x.a - x'.b := by unfold wrap64; omega
          by_cases hkk : x.k = x'.k
          · have hkb : (x.k == x'.k) = true := by simpa using hkk
            have hd1 : decide (x.a - x'.b ≤ G) = false := by have := hnear hkk; simp; omega
            clear hkk hnear hsp hsp' hx'
            go_quiet (fail)
            have HBq : Aside0 (Below w9.heap.size w9 (wr.drewN nq)) := ⟨below_step HB.out (pw_below_drewN (Below.refl _ _) _)⟩
            go_wp2_with fail
            go_meet
            case rel => exact ⟨rfl, HBq⟩
          · have hkb : (x.k == x'.k) = false := by simpa using hkk
            clear hkk hnear hsp hsp' hx'
            go_quiet (fail)
            have HBq : Aside0 (Below w9.heap.size w9 (wr.drewN nq)) := ⟨below_step HB.out (pw_below_drewN (Below.refl _ _) _)⟩
            go_wp2_with fail
            go_meet
            case rel => exact ⟨rfl, HBq⟩
      case rest =>
      clear HB
      obtain ⟨rfl, HB⟩ := hcut
      obtain ⟨fx, HFX⟩ : ∃ f, Aside0 (f = atB x.k x.a) := ⟨_, ⟨rfl⟩⟩
      obtain ⟨gx, HGX⟩ : ∃ f, Aside0 (f = atB x.k x.b) := ⟨_, ⟨rfl⟩⟩
      go_wp2_with fail
      go_loopw [14, 15, 16] (fun v14 v15 v16 wr => ∃ (k : Nat) (q1 q2 : Bool), k ≤ n ∧ v14 = .bool q1 ∧ v15 = .bool q2 ∧ v16 = .int .i64 (k : Int) ∧ Aside0 ((l.take k).any fx = q1) ∧ Aside0 ((l.take k).any gx = q2) ∧ Aside0 (Below w9.heap.size w9 wr)) (fun _ _ v16 _ => n - (intOf v16).toNat)
      case atStart => exact ⟨0, false, false, by omega, rfl, rfl, rfl, ⟨rfl⟩, ⟨rfl⟩, HB⟩
      case round => as_aux_lemma =>
        clear HB
        obtain ⟨k, q1, q2, hkn, rfl, rfl, rfl, HQ1, HQ2, HB⟩ := hrel
        by_cases hltk : k < n
        · have g1 : decide ((k : Int) < (n : Int)) = true := by simp; omega
          have g1b : decide (k < n) = true := by simp; omega
          obtain ⟨d, hd⟩ : ∃ d, l[k]? = some d := ⟨_, List.getElem?_eq_getElem (by rw [HN0.out]; omega)⟩
          have HD := Aside0.mk hd
          obtain ⟨ad, rfl, _⟩ := at_deed HCD9.out hd
          obtain ⟨dk, HDK⟩ : ∃ x, Aside0 (d.2.1 = x) := ⟨_, ⟨rfl⟩⟩
          obtain ⟨dt, HDT⟩ : ∃ x, Aside0 (d.2.2.1 = x) := ⟨_, ⟨rfl⟩⟩
          obtain ⟨q3, Hq3⟩ : ∃ q, Aside0 ((q1 || (dk == x.k && dt == x.a)) = q) := ⟨_, ⟨rfl⟩⟩
          obtain ⟨q4, Hq4⟩ : ∃ q, Aside0 ((q2 || (dk == x.k && dt == x.b)) = q) := ⟨_, ⟨rfl⟩⟩
          have HN1 : Aside0 ((l.take (k + 1)).any fx = q3) := ⟨by rw [any_snoc hd, HQ1.out, ← Hq3.out, HFX.out]; unfold atB; rw [HDK.out, HDT.out]⟩
          have HN2 : Aside0 ((l.take (k + 1)).any gx = q4) := ⟨by rw [any_snoc hd, HQ2.out, ← Hq4.out, HGX.out]; unfold atB; rw [HDK.out, HDT.out]⟩
          have hkn2 : (k : Int) < (n0 : Int) := by omega
          have him2 : (i : Int) < (m : Int) := by omega
          clear hd
          go_upto_region 23 with fail
          go_cut [14] (fun v_ wc => v_ = .bool q3 ∧ Aside0 (Below w9.heap.size w9 wc))
          case first =>
            have hq := Hq3.out
            cases q1 with
            | true =>
              obtain rfl : true = q3 := by rw [← hq]; rfl
              clear hq
              go_quiet (fail)
              have HBq : Aside0 (Below w9.heap.size w9 (wr.drewN nq)) := ⟨below_step HB.out (pw_below_drewN (Below.refl _ _) _)⟩
              go_wp2_with fail
              go_meet
              case rel => exact ⟨rfl, HBq⟩
            | false =>
              rw [Bool.false_or] at hq
              obtain ⟨ad2, e2, _, d1_, d2_, _⟩ := at_deed (Kd.C_below HCD9.out HB.out) HD.out
              injection e2 with e2
              subst e2
              rw [HDK.out] at d1_
              rw [HDT.out] at d2_
              obtain ⟨y0, y1, y2, _, _⟩ := cellsC_own (own_below HO9.out HB.out) HLX.out
              simp only [chgOf] at y0 y1 y2
              by_cases hkk : dk = x.k
              · have hkb : (dk == x.k) = true := by simpa using hkk
                rw [hkb, Bool.true_and] at hq
                clear hkk
                go_quiet (fail)
                have HBq : Aside0 (Below w9.heap.size w9 (wr.drewN nq)) := ⟨below_step HB.out (pw_below_drewN (Below.refl _ _) _)⟩
                go_wp2_with fail
                go_meet
                case rel => exact ⟨by first | rfl | rw [hq], HBq⟩
              · have hkb : (dk == x.k) = false := by simpa using hkk
                obtain rfl : false = q3 := by rw [← hq, hkb]; rfl
                clear hkk hq
                go_quiet (fail)
                have HBq : Aside0 (Below w9.heap.size w9 (wr.drewN nq)) := ⟨below_step HB.out (pw_below_drewN (Below.refl _ _) _)⟩
                go_wp2_with fail
                go_meet
                case rel => exact ⟨rfl, HBq⟩
          case rest =>
          clear HB
          obtain ⟨rfl, HB⟩ := hcut
          go_upto_region 24 with fail
          have hq := Hq4.out
          cases q2 with
          | true =>
            obtain rfl : true = q4 := by rw [← hq]; rfl
            go_quiet (fail)
            have HBq : Aside0 (Below w9.heap.size w9 (wc.drewN nq)) := ⟨below_step HB.out (pw_below_drewN (Below.refl _ _) _)⟩
            go_wp2_with fail
            go_roundw
            case rel => exact ⟨k + 1, q3, _, by omega, rfl, by first | rfl | rw [hq], by go_num, HN1, HN2, HBq⟩
            case measure => simp [intOf]; omega
          | false =>
            rw [Bool.false_or] at hq
            obtain ⟨ad2, e2, _, d1_, d2_, _⟩ := at_deed (Kd.C_below HCD9.out HB.out) HD.out
            injection e2 with e2
            subst e2
            rw [HDK.out] at d1_
            rw [HDT.out] at d2_
            obtain ⟨y0, y1, y2, _, _⟩ := cellsC_own (own_below HO9.out HB.out) HLX.out
            simp only [chgOf] at y0 y1 y2
            by_cases hkk : dk = x.k
            · have hkb : (dk == x.k) = true := by simpa using hkk
              rw [hkb, Bool.true_and] at hq
              clear hkk
              go_quiet (fail)
              have HBq : Aside0 (Below w9.heap.size w9 (wc.drewN nq)) := ⟨below_step HB.out (pw_below_drewN (Below.refl _ _) _)⟩
              go_wp2_with fail
              go_roundw
              case rel => exact ⟨k + 1, q3, _, by omega, rfl, by first | rfl | rw [hq], by go_num, HN1, HN2, HBq⟩
              case measure => simp [intOf]; omega
            · have hkb : (dk == x.k) = false := by simpa using hkk
              obtain rfl : false = q4 := by rw [← hq, hkb]; rfl
              clear hkk
              go_quiet (fail)
              have HBq : Aside0 (Below w9.heap.size w9 (wc.drewN nq)) := ⟨below_step HB.out (pw_below_drewN (Below.refl _ _) _)⟩
              go_wp2_with fail
              go_roundw
              case rel => exact ⟨k + 1, q3, _, by omega, rfl, by first | rfl | rw [hq], by go_num, HN1, HN2, HBq⟩
              case measure => simp [intOf]; omega
        · obtain rfl : n = k := by omega
          have g1 : decide ((n : Int) < (n : Int)) = false := by simp
          have g1b : decide (n < n) = false := by simp
          have HFF := Aside0.mk (HA.out.first (List.mem_of_getElem? HX.out))
          obtain rfl : q1 = true := by rw [← HQ1.out, HFX.out]; exact HFF.out.1
          obtain rfl : q2 = true := by rw [← HQ2.out, HGX.out]; exact HFF.out.2
          clear hltk
          go_wp2_with fail
          go_roundw
          case rel => exact ⟨i + 1, by omega, by go_num, HB⟩
          case measure => simp [intOf]; omega
    · obtain rfl : m = i := by omega
      have h1 : decide ((m : Int) < (m : Int)) = false := by simp
      have h1b : decide (m < m) = false := by simp
      clear hlt
      go_wp2_with fail
      clear h1 h1b
      go_loopw [17] (fun v17 wr => ∃ k : Nat, k ≤ n ∧ v17 = .int .i64 (k : Int) ∧ Aside0 (Below w9.heap.size w9 wr)) (fun v17 _ => n - (intOf v17).toNat)
      case atStart => exact ⟨0, by omega, rfl, HB⟩
      case round => as_aux_lemma =>
        clear HB
        obtain ⟨k, hkn, rfl, HB⟩ := hrel
        by_cases hltk : k < n
        · have g1 : decide ((k : Int) < (n : Int)) = true := by simp; omega
          have g1b : decide (k < n) = true := by simp; omega
          obtain ⟨d, hd⟩ : ∃ d, l[k]? = some d := ⟨_, List.getElem?_eq_getElem (by rw [HN0.out]; omega)⟩
          have HD := Aside0.mk hd
          obtain ⟨ad, rfl, _⟩ := at_deed HCD9.out hd
          obtain ⟨dk, HDK⟩ : ∃ x, Aside0 (d.2.1 = x) := ⟨_, ⟨rfl⟩⟩
          obtain ⟨dt, HDT⟩ : ∃ x, Aside0 (d.2.2.1 = x) := ⟨_, ⟨rfl⟩⟩
          have HDM : Aside0 (d ∈ l.take n) := ⟨by
            obtain ⟨a, e⟩ := List.getElem?_eq_some_iff.1 hd
            exact List.mem_of_getElem? (i := k) (by rw [List.getElem?_take, if_pos hltk]; exact hd)⟩
          obtain ⟨cf, HCF⟩ : ∃ f, Aside0 (f = inB dk dt) := ⟨_, ⟨rfl⟩⟩
          have hkn2 : (k : Int) < (n0 : Int) := by omega
          clear hd
          go_wp2_with fail
          go_loopw [18, 19] (fun v18 v19 wr => ∃ (i c : Nat), i ≤ m ∧ c ≤ i ∧ v18 = .int .i64 (c : Int) ∧ v19 = .int .i64 (i : Int) ∧ Aside0 (((L.take i).filter cf).length = c) ∧ Aside0 (Below w9.heap.size w9 wr)) (fun _ v19 _ => m - (intOf v19).toNat)
          case atStart => exact ⟨0, 0, by omega, by omega, rfl, rfl, ⟨rfl⟩, HB⟩
          case round => as_aux_lemma =>
            clear HB
            obtain ⟨i, c, him, hci, rfl, rfl, HC, HB⟩ := hrel
            by_cases hlti : i < m
            · have h1 : decide ((i : Int) < (m : Int)) = true := by simp; omega
              have h1b : decide (i < m) = true := by simp; omega
              obtain ⟨x, hx⟩ : ∃ x, L[i]? = some x := ⟨_, List.getElem?_eq_getElem (by rw [HM.out]; omega)⟩
              have HLX : Aside0 ((L.map chgOf)[i]? = some (chgOf x)) := ⟨by rw [List.getElem?_map, hx]; rfl⟩
              obtain ⟨g9, cap9, cur9, rest9, e9, _, _, _, _, _, _, _⟩ := own_open HO9.out (by omega)
              injection e9 with e9 _ e9c
              subst e9 e9c
              have HCN := Aside0.mk (cnt_snoc (f := cf) hx)
              rw [HC.out] at HCN
              have hi2 : (i : Int) < (m : Int) := by omega
              obtain ⟨y0, y1, y2, _, _⟩ := cellsC_own (own_below HO9.out HB.out) HLX.out
              simp only [chgOf] at y0 y1 y2
              obtain ⟨ad2, e2, _, d1_, d2_, _⟩ := at_deed (Kd.C_below HCD9.out HB.out) HD.out
              injection e2 with e2
              subst e2
              rw [HDK.out] at d1_
              rw [HDT.out] at d2_
              have hin : cf x = ((x.k == dk) && (decide (x.a ≤ dt) && decide (dt ≤ x.b))) := by rw [HCF.out]; rfl
              clear hx
              obtain ⟨q, HQ⟩ : ∃ q, Aside0 (cf x = q) := ⟨_, ⟨rfl⟩⟩
              rw [HQ.out] at hin HCN
              go_upto_region 34 with fail
              by_cases hkk : x.k = dk
              · have hkb : (x.k == dk) = true := by simpa using hkk
                rw [hkb, Bool.true_and] at hin
                clear hkk
                by_cases ha : x.a ≤ dt
                · have hab : decide (x.a ≤ dt) = true := by simpa using ha
                  rw [hab, Bool.true_and] at hin
                  clear ha
                  by_cases hb2 : dt ≤ x.b
                  · have hbb : decide (dt ≤ x.b) = true := by simpa using hb2
                    obtain rfl : q = true := by rw [hin]; exact hbb
                    clear hb2 hin
                    go_quiet (fail)
                    have HBq : Aside0 (Below w9.heap.size w9 (wr.drewN nq)) := ⟨below_step HB.out (pw_below_drewN (Below.refl _ _) _)⟩
                    go_wp2_with fail
                    go_roundw
                    case rel => exact ⟨i + 1, c + 1, by omega, by omega, by go_num, by go_num, ⟨by rw [HCN.out]; rfl⟩, HBq⟩
                    case measure => simp [intOf]; omega
                  · have hbb : decide (dt ≤ x.b) = false := by simpa using hb2
                    obtain rfl : q = false := by rw [hin]; exact hbb
                    clear hb2 hin
                    go_quiet (fail)
                    have HBq : Aside0 (Below w9.heap.size w9 (wr.drewN nq)) := ⟨below_step HB.out (pw_below_drewN (Below.refl _ _) _)⟩
                    go_wp2_with fail
                    go_roundw
                    case rel => exact ⟨i + 1, c, by omega, by omega, rfl, by go_num, ⟨by rw [HCN.out]; rfl⟩, HBq⟩
                    case measure => simp [intOf]; omega
                · have hab : decide (x.a ≤ dt) = false := by simpa using ha
                  obtain rfl : q = false := by rw [hin, hab]; rfl
                  clear ha hin
                  go_quiet (fail)
                  have HBq : Aside0 (Below w9.heap.size w9 (wr.drewN nq)) := ⟨below_step HB.out (pw_below_drewN (Below.refl _ _) _)⟩
                  go_wp2_with fail
                  go_roundw
                  case rel => exact ⟨i + 1, c, by omega, by omega, rfl, by go_num, ⟨by rw [HCN.out]; rfl⟩, HBq⟩
                  case measure => simp [intOf]; omega
              · have hkb : (x.k == dk) = false := by simpa using hkk
                obtain rfl : q = false := by rw [hin, hkb]; rfl
                clear hkk hin
                go_quiet (fail)
                have HBq : Aside0 (Below w9.heap.size w9 (wr.drewN nq)) := ⟨below_step HB.out (pw_below_drewN (Below.refl _ _) _)⟩
                go_wp2_with fail
                go_roundw
                case rel => exact ⟨i + 1, c, by omega, by omega, rfl, by go_num, ⟨by rw [HCN.out]; rfl⟩, HBq⟩
                case measure => simp [intOf]; omega
            · obtain rfl : m = i := by omega
              have h1 : decide ((m : Int) < (m : Int)) = false := by simp
              have h1b : decide (m < m) = false := by simp
              have HCL : Aside0 ((L.filter cf).length = c) := ⟨by have := HC.out; rwa [← HM.out, List.take_length] at this⟩
              obtain ⟨ad2, e2, _, _, d2_, _⟩ := at_deed (Kd.C_below HCD9.out HB.out) HD.out
              injection e2 with e2
              subst e2
              rw [HDT.out] at d2_
              clear hlti
              by_cases hy0 : 0 ≤ dt
              · have hy0b : decide (dt ≥ 0) = true := by simpa using hy0
                have hy0c : decide (0 ≤ dt) = true := by simpa using hy0
                by_cases hy1 : dt ≤ 1099511627776
                · have hy1b : decide (dt ≤ 1099511627776) = true := by simpa using hy1
                  obtain rfl : c = 1 := by
                    have := HA.out.count HGG.out.1 HDM.out (by rw [HDT.out]; exact hy0) (by rw [HDT.out]; exact hy1)
                    rw [HDK.out, HDT.out, ← HCF.out, HCL.out] at this
                    exact this
                  clear hy0 hy1
                  go_wp2_with fail
                  go_roundw
                  case rel => exact ⟨k + 1, by omega, by go_num, HB⟩
                  case measure => simp [intOf]; omega
                · have hy1b : decide (dt ≤ 1099511627776) = false := by simpa using hy1
                  obtain rfl : c = 0 := by
                    have := HA.out.none (k := dk) (t := dt) (fun h => hy1 h.2)
                    rw [← HCF.out, HCL.out] at this
                    exact this
                  clear hy0 hy1
                  go_wp2_with fail
                  go_roundw
                  case rel => exact ⟨k + 1, by omega, by go_num, HB⟩
                  case measure => simp [intOf]; omega
              · have hy0b : decide (dt ≥ 0) = false := by simpa using hy0
                have hy0c : decide (0 ≤ dt) = false := by simpa using hy0
                obtain rfl : c = 0 := by
                  have := HA.out.none (k := dk) (t := dt) (fun h => hy0 h.1)
                  rw [← HCF.out, HCL.out] at this
                  exact this
                clear hy0
                go_wp2_with fail
                go_roundw
                case rel => exact ⟨k + 1, by omega, by go_num, HB⟩
                case measure => simp [intOf]; omega
        · obtain rfl : n = k := by omega
          have g1 : decide ((n : Int) < (n : Int)) = false := by simp
          have g1b : decide (n < n) = false := by simp
          clear hltk
          go_wp2_with fail
          go_ret
          exact ⟨rfl, below_step HBL.out HB.out⟩
end Go.Proofs.Ytpjfmilokadchaa.Se
