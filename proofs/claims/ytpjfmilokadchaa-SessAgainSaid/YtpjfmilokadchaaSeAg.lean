/- (c14) The statement SessAgain. -/
import Derived.Test.YtpjfmilokadchaaSeAgP
namespace Go.Proofs.Ytpjfmilokadchaa.Se
open Go Go.RowKit Go.Proofs.YtpjfmilokadchaaW.PrintWords Go.Proofs.YtpjfmilokadchaaW.PrintLast Go.Proofs.YtpjfmilokadchaaW.PrintMore Go.Proofs.Ytpjfmilokadchaa.Rw Go.Proofs.Ytpjfmilokadchaa.Ex Go.Proofs.Ytpjfmilokadchaa.Mono
set_option linter.unusedVariables false
set_option linter.unusedSimpArgs false
set_option maxHeartbeats 8000000 in
set_option maxRecDepth 100000 in
theorem again_ok (gap : Int) (A0 : Option Addr) (c0 : Nat) (l : List Deed) (w : World) (hgp : 0 ≤ gap ∧ gap < 256) (hr0 : kDeed.C w A0 l.length l) (hc0 : l.length ≤ c0) (hN : l.length ≤ 9223372036854775807) (hi : ∀ d ∈ l, DOk d) :
    Calls Try.prog 6 #[.int .u8 gap, .slice A0 l.length c0] w fun e w' => e = .returned (.bool true) ∧ Below w.heap.size w w' := by
  have HCD := Aside0.mk hr0
  have HID := Aside0.mk hi
  have HB := Aside0.mk (Below.refl w.heap.size w)
  obtain ⟨G, HG⟩ : ∃ G, Aside0 (1 + gap = G) := ⟨_, ⟨rfl⟩⟩
  have HGG : Aside0 (1 ≤ G ∧ G ≤ 1048576) := ⟨by have := HG.out; omega⟩
  have hgl := hgp.1
  have hgh := hgp.2
  obtain ⟨n0, HN0⟩ : ∃ n, Aside0 (l.length = n) := ⟨_, ⟨rfl⟩⟩
  rw [HN0.out] at HCD hc0 hN ⊢
  clear hr0 hi hgp
  go_enter Try.func6, Try.ntmps6
  go_wp2_with fail
  refine (shown_ok _).mono ?_
  rintro e w1 ⟨rfl, hb_⟩
  replace HB := Aside0.mk (below_step HB.out hb_)
  clear hb_
  go_wp2_with fail
  rw [HG.out]
  refine (new1 500 G w _ HB.out (by omega) (by omega) HGG.out.1 HGG.out.2).mono ?_
  rintro e w2 ⟨b1, rfl, hs_, _⟩
  have HS := Aside0.mk hs_
  clear hs_ HB
  go_wp2_with fail
  rw [HG.out]
  refine (new2 1024 G w _ HS.out (by omega) (by omega) HGG.out.1 HGG.out.2).mono ?_
  rintro e w3 ⟨b2, rfl, hs_⟩
  replace HS := Aside0.mk hs_
  clear hs_ hgl hgh
  go_wp2_with fail
  go_loopw [10] (fun v10 wr => ∃ (i : Nat) (L : List Ses), i ≤ n0 ∧ i ≤ 200 ∧ v10 = .int .i64 (i : Int) ∧ Aside0 (L.length ≤ 500) ∧ Aside0 (St2 w wr b1 500 G L b2 1024 G L)) (fun v10 _ => 200 - (intOf v10).toNat)
  case atStart => exact ⟨0, [], by omega, by omega, rfl, ⟨by simp⟩, HS⟩
  case round =>
    clear HS
    obtain ⟨i, L, hi, hi3, rfl, HLN, HS⟩ := hrel
    by_cases hlt : i < n0
    · have h1 : decide ((i : Int) < (n0 : Int)) = true := by simp; omega
      have h1b : decide (i < n0) = true := by simp; omega
      by_cases hl3 : i < 200
      · have h2 : decide ((i : Int) < 200) = true := by simp; omega
        have h2b : decide (i < 200) = true := by simp; omega
        obtain ⟨d, hd⟩ : ∃ d, l[i]? = some d := ⟨_, List.getElem?_eq_getElem (by rw [HN0.out]; omega)⟩
        obtain ⟨ad, rfl, y0, _, y2, _⟩ := at_deed (Kd.C_below HCD.out HS.out.bl) hd
        obtain ⟨u, HU⟩ : ∃ x, Aside0 (d.1 = x) := ⟨_, ⟨rfl⟩⟩
        obtain ⟨x, HX⟩ : ∃ x, Aside0 (d.2.1 = x) := ⟨_, ⟨rfl⟩⟩
        obtain ⟨y, HY⟩ : ∃ x, Aside0 (d.2.2.1 = x) := ⟨_, ⟨rfl⟩⟩
        obtain ⟨z, HZ⟩ : ∃ x, Aside0 (d.2.2.2.1 = x) := ⟨_, ⟨rfl⟩⟩
        have HCX := Aside0.mk (show ∀ W : World, Below wr.heap.size wr W → W.cell? (ad.add (i * 9)) = some (.int .i64 u) ∧ W.cell? ⟨(ad.add (i * 9)).block, (ad.add (i * 9)).off + 1, none⟩ = some (.int .i64 x) ∧ W.cell? ⟨(ad.add (i * 9)).block, (ad.add (i * 9)).off + 2, none⟩ = some (.int .i64 y) ∧ W.cell? ⟨(ad.add (i * 9)).block, (ad.add (i * 9)).off + 3, none⟩ = some (.int .i64 z) from fun W hW => by
          obtain ⟨ad2, e2, h0, h1, h2, h3⟩ := at_deed (Kd.C_below HCD.out (below_step HS.out.bl hW)) hd
          injection e2 with e2
          rw [e2, ← HX.out, ← HY.out, ← HZ.out, ← HU.out]
          exact ⟨h0, h1, h2, h3⟩)
        have HXI : Aside0 (In64 x ∧ In64 z) := ⟨by have := HID.out d (List.mem_of_getElem? hd); rw [← HX.out, ← HZ.out]; exact ⟨this.key, this.val⟩⟩
        have HKV := Aside0.mk HS.out.one.kv
        have HBS : Aside0 (w.heap.size ≤ wr.heap.size) := ⟨HS.out.bl.size⟩
        rw [HU.out] at y0
        rw [HY.out] at y2
        clear hd
        obtain ⟨bb, hbb⟩ : ∃ bb, (u == 1) = bb := ⟨_, rfl⟩
        go_upto_if 59 with fail
        have HBB := Aside0.mk hbb
        clear hbb
        go_cut [11] (fun v11 wc => ∃ (A : Option Addr) (m c : Nat) (M : List S33) (L2 : List Ses), v11 = .slice A m c ∧ m ≤ 100000 ∧ Aside0 (M.length = m) ∧ Aside0 (wc.ownsRow w.heap.size 33 5 (.slice A m c) m (cellsC M)) ∧ Aside0 (St2 w wc b1 500 G L2 b2 1024 G L) ∧ Aside0 (GoodC 1024 L M) ∧ Aside0 (doAll L M = L2) ∧ Aside0 (L2.length ≤ 500))
        case first =>
          by_cases hu1 : u = 1
          · obtain rfl : bb = true := by rw [← HBB.out]; simpa using hu1
            have HA := Aside0.mk (again_exp 1024 G y L HKV.out.1 ⟨HKV.out.2.1, HKV.out.2.2.1⟩)
            have HLE : Aside0 ((expL G y L).length ≤ 500) := ⟨Nat.le_trans (expL_len G y L) HLN.out⟩
            have HML := Aside0.mk (expM_len G y L)
            clear hu1
            go_wp2_with fail
            refine (HS.out.expire y).mono ?_
            rintro e w5 ⟨⟨v5, rfl, ho_⟩, hs_, hk_⟩
            obtain ⟨A5, c5, rfl, _, _⟩ := slice_of ho_
            have hml : (expM G y L).length ≤ 100000 := by have := HML.out; have := HLN.out; omega
            have HO5 := Aside0.mk (own_lower ho_ HBS.out)
            have HS5 := Aside0.mk hs_
            clear y0 y2 ho_ hs_ hk_
            go_wp2_with fail
            go_meet
            case rel => exact ⟨A5, _, c5, expM G y L, expL G y L, rfl, hml, ⟨rfl⟩, HO5, HS5, ⟨HA.out.1⟩, ⟨HA.out.2⟩, HLE⟩
          · obtain rfl : bb = false := by rw [← HBB.out]; simpa using hu1
            have HA := Aside0.mk (again_put 1024 500 G x y z L HGG.out.1 HKV.out.1 ⟨HKV.out.2.1, HKV.out.2.2.1⟩ HXI.out.1 HXI.out.2 (by have := HLN.out; omega))
            have HLE : Aside0 ((putL 500 G L x y z).length ≤ 500) := ⟨by have := putL_room (r := 500) (g := G) (L := L) (key := x) (t := y) (v := z) (by have := HLN.out; omega); omega⟩
            have HML : Aside0 ((putM 500 G L x y z).length ≤ 100000) := ⟨by
              have := HLN.out
              unfold putM
              split
              · rw [List.length_append]
                have h1 := List.length_filter_le (fun c => !p1B (putX G L x y z) c) ((findL G L x y).map gonOf)
                have h2 := find_len G L x y
                rw [List.length_map] at h1
                simp only [List.length_cons, List.length_nil]
                omega
              · simp⟩
            clear hu1
            go_upto_region 12 with fail
            clear y0 y2
            refine start_ (n := 22) (S := fun w' => Below wr.heap.size wr w') (ds := [16]) #[false, false, false, false, false, false, false, false, false, false, false, false, false, false, false, false, false, false, false, false, false, false] (by kernel_rfl) rfl rfl (below_drew (Below.refl _ _)) (fun hHeld => ?_)
            refine pure_ (i := 0) (N := some 68) (v := ?_) (a' := ?_) #[true, false, false, false, false, false, false, false, false, false, false, false, false, false, false, false, false, false, false, false, false, false] rfl rfl (by kernel_rfl) (fun _ _ _ h => h) (Or.inl ⟨by rfl, ?_⟩) ?_ ?_
            rotate_left
            · intro w'
              go_simp
              with_reducible rfl
            rotate_left
            · simp only [Act.put, List.setIfInBounds_toArray, List.set_cons_zero, List.set_cons_succ, i64_w, i32_w]
              rfl
            refine pure_ (i := 1) (N := some 69) (v := ?_) (a' := ?_) #[true, true, false, false, false, false, false, false, false, false, false, false, false, false, false, false, false, false, false, false, false, false] rfl rfl (by kernel_rfl) (fun _ _ _ h => h) (Or.inl ⟨by rfl, ?_⟩) ?_ ?_
            rotate_left
            · intro w'
              go_simp
              with_reducible rfl
            rotate_left
            · simp only [Act.put, List.setIfInBounds_toArray, List.set_cons_zero, List.set_cons_succ, i64_w, i32_w]
              rfl
            refine pure_ (i := 2) (N := some 70) (v := ?_) (a' := ?_) #[true, true, true, false, false, false, false, false, false, false, false, false, false, false, false, false, false, false, false, false, false, false] rfl rfl (by kernel_rfl) (fun _ _ _ h => h) (Or.inl ⟨by rfl, ?_⟩) ?_ ?_
            rotate_left
            · intro w'
              go_simp
              with_reducible rfl
            rotate_left
            · simp only [Act.put, List.setIfInBounds_toArray, List.set_cons_zero, List.set_cons_succ, i64_w, i32_w]
              rfl
            refine pure_ (i := 3) (N := some 71) (v := ?_) (a' := ?_) #[true, true, true, true, false, false, false, false, false, false, false, false, false, false, false, false, false, false, false, false, false, false] rfl rfl (by kernel_rfl) (fun _ _ _ h => h) (Or.inl ⟨by rfl, ?_⟩) ?_ ?_
            rotate_left
            · intro w'
              go_simp
              with_reducible rfl
            rotate_left
            · simp only [Act.put, List.setIfInBounds_toArray, List.set_cons_zero, List.set_cons_succ, i64_w, i32_w]
              rfl
            refine pure_ (i := 4) (N := some 72) (v := ?_) (a' := ?_) #[true, true, true, true, true, false, false, false, false, false, false, false, false, false, false, false, false, false, false, false, false, false] rfl rfl (by kernel_rfl) (fun _ _ _ h => h) (Or.inl ⟨by rfl, ?_⟩) ?_ ?_
            rotate_left
            · intro w'
              go_simp
              with_reducible rfl
            rotate_left
            · simp only [Act.put, List.setIfInBounds_toArray, List.set_cons_zero, List.set_cons_succ, i64_w, i32_w]
              rfl
            refine pure_ (i := 6) (N := some 74) (v := ?_) (a' := ?_) #[true, true, true, true, true, false, true, false, false, false, false, false, false, false, false, false, false, false, false, false, false, false] rfl rfl (by kernel_rfl) (fun _ _ _ h => h) (Or.inl ⟨by rfl, ?_⟩) ?_ ?_
            rotate_left
            · intro w'
              go_simp
              with_reducible rfl
            rotate_left
            · simp only [Act.put, List.setIfInBounds_toArray, List.set_cons_zero, List.set_cons_succ, i64_w, i32_w]
              rfl
            refine pure_ (i := 7) (N := some 75) (v := ?_) (a' := ?_) #[true, true, true, true, true, false, true, true, false, false, false, false, false, false, false, false, false, false, false, false, false, false] rfl rfl (by kernel_rfl) (fun _ _ _ h => h) (Or.inl ⟨by rfl, ?_⟩) ?_ ?_
            rotate_left
            · intro w'
              go_simp
              with_reducible rfl
            rotate_left
            · simp only [Act.put, List.setIfInBounds_toArray, List.set_cons_zero, List.set_cons_succ, i64_w, i32_w]
              rfl
            refine pure_ (i := 8) (N := some 76) (v := ?_) (a' := ?_) #[true, true, true, true, true, false, true, true, true, false, false, false, false, false, false, false, false, false, false, false, false, false] rfl rfl (by kernel_rfl) (fun _ _ _ h => h) (Or.inl ⟨by rfl, ?_⟩) ?_ ?_
            rotate_left
            · intro w'
              go_simp
              with_reducible rfl
            rotate_left
            · simp only [Act.put, List.setIfInBounds_toArray, List.set_cons_zero, List.set_cons_succ, i64_w, i32_w]
              rfl
            refine pure_ (i := 9) (N := some 77) (v := ?_) (a' := ?_) #[true, true, true, true, true, false, true, true, true, true, false, false, false, false, false, false, false, false, false, false, false, false] rfl rfl (by kernel_rfl) (fun _ _ _ h => h) (Or.inl ⟨by rfl, ?_⟩) ?_ ?_
            rotate_left
            · intro w'
              go_simp
              with_reducible rfl
            rotate_left
            · simp only [Act.put, List.setIfInBounds_toArray, List.set_cons_zero, List.set_cons_succ, i64_w, i32_w]
              rfl
            refine pure_ (i := 11) (N := some 79) (v := ?_) (a' := ?_) #[true, true, true, true, true, false, true, true, true, true, false, true, false, false, false, false, false, false, false, false, false, false] rfl rfl (by kernel_rfl) (fun _ _ _ h => h) (Or.inl ⟨by rfl, ?_⟩) ?_ ?_
            rotate_left
            · intro w'
              go_simp
              with_reducible rfl
            rotate_left
            · simp only [Act.put, List.setIfInBounds_toArray, List.set_cons_zero, List.set_cons_succ, i64_w, i32_w]
              rfl
            refine pure_ (i := 12) (N := some 80) (v := ?_) (a' := ?_) #[true, true, true, true, true, false, true, true, true, true, false, true, true, false, false, false, false, false, false, false, false, false] rfl rfl (by kernel_rfl) (fun _ _ _ h => h) (Or.inl ⟨by rfl, ?_⟩) ?_ ?_
            rotate_left
            · intro w'
              go_simp
              with_reducible rfl
            rotate_left
            · simp only [Act.put, List.setIfInBounds_toArray, List.set_cons_zero, List.set_cons_succ, i64_w, i32_w]
              rfl
            refine pure_ (i := 13) (N := some 81) (v := ?_) (a' := ?_) #[true, true, true, true, true, false, true, true, true, true, false, true, true, true, false, false, false, false, false, false, false, false] rfl rfl (by kernel_rfl) (fun _ _ _ h => h) (Or.inl ⟨by rfl, ?_⟩) ?_ ?_
            rotate_left
            · intro w'
              go_simp
              with_reducible rfl
            rotate_left
            · simp only [Act.put, List.setIfInBounds_toArray, List.set_cons_zero, List.set_cons_succ, i64_w, i32_w]
              rfl
            refine pure_ (i := 14) (N := some 82) (v := ?_) (a' := ?_) #[true, true, true, true, true, false, true, true, true, true, false, true, true, true, true, false, false, false, false, false, false, false] rfl rfl (by kernel_rfl) (fun _ _ _ h => h) (Or.inl ⟨by rfl, ?_⟩) ?_ ?_
            rotate_left
            · intro w'
              go_simp
              with_reducible rfl
            rotate_left
            · simp only [Act.put, List.setIfInBounds_toArray, List.set_cons_zero, List.set_cons_succ, i64_w, i32_w]
              rfl
            refine take_ (i := 5) (N := some 73) (v := ?_) (a' := ?_) #[true, true, true, true, true, true, true, true, true, true, false, true, true, true, true, false, false, false, false, false, false, false] rfl rfl (by kernel_rfl) (fun _ _ _ h => h) (Or.inl ⟨by rfl, ?_⟩) hHeld ?_ ?_
            rotate_left
            · intro w' hS
              have c_ := (HCX.out _ hS).2.1
              go_simp
              with_reducible rfl
            rotate_left
            · simp only [Act.put, List.setIfInBounds_toArray, List.set_cons_zero, List.set_cons_succ, i64_w, i32_w]
              rfl
            refine take_ (i := 10) (N := some 78) (v := ?_) (a' := ?_) #[true, true, true, true, true, true, true, true, true, true, true, true, true, true, true, false, false, false, false, false, false, false] rfl rfl (by kernel_rfl) (fun _ _ _ h => h) (Or.inl ⟨by rfl, ?_⟩) hHeld ?_ ?_
            rotate_left
            · intro w' hS
              have c_ := (HCX.out _ hS).2.2.1
              go_simp
              with_reducible rfl
            rotate_left
            · simp only [Act.put, List.setIfInBounds_toArray, List.set_cons_zero, List.set_cons_succ, i64_w, i32_w]
              rfl
            refine take_ (i := 15) (N := some 83) (v := ?_) (a' := ?_) #[true, true, true, true, true, true, true, true, true, true, true, true, true, true, true, true, false, false, false, false, false, false] rfl rfl (by kernel_rfl) (fun _ _ _ h => h) (Or.inl ⟨by rfl, ?_⟩) hHeld ?_ ?_
            rotate_left
            · intro w' hS
              have c_ := (HCX.out _ hS).2.2.2
              go_simp
              with_reducible rfl
            rotate_left
            · simp only [Act.put, List.setIfInBounds_toArray, List.set_cons_zero, List.set_cons_succ, i64_w, i32_w]
              rfl
            refine last_ (i := 16) (N := some 84) #[true, true, true, true, true, true, true, true, true, true, true, true, true, true, true, true, true, false, false, false, false, false] rfl rfl (by kernel_rfl) (by simp) (fun K hK => ?_)
            replace HS := Aside0.mk (HS.out.below hHeld)
            refine goes_ Try.func10 (by kernel_rfl) rfl #[.pointer (some ⟨b1, 0, none⟩), .int .i64 x, .int .i64 y, .int .i64 z] (by rfl) rfl rfl (by simp only [List.map_toArray, List.map_cons, List.map_nil]; rfl) ?_
            with_reducible refine (HS.out.put x y z HXI.out.1 HXI.out.2).mono ?_
            rintro e w5 ⟨⟨A5, c5, rfl, ho_⟩, hs_, hk_⟩
            refine ⟨_, rfl, ?_⟩
            refine hK.out _ _ ?_
            clear hK K
            refine norm_ (a' := ?_) ?_ ?_
            rotate_left
            · show Act.put _ (some 84) _ = _
              simp only [Act.put, List.setIfInBounds_toArray, List.set_cons_zero, List.set_cons_succ, i64_w, i32_w]
              rfl
            replace HS := Aside0.mk hs_
            have HO5 := Aside0.mk (own_lower ho_ HBS.out)
            clear hs_ hk_ ho_
            refine pure_ (i := 17) (N := some 67) (v := ?_) (a' := ?_) #[true, true, true, true, true, true, true, true, true, true, true, true, true, true, true, true, true, true, false, false, false, false] rfl rfl (by kernel_rfl) (fun _ _ _ h => h) (Or.inl ⟨by rfl, ?_⟩) ?_ ?_
            rotate_left
            · intro w'
              go_simp
              with_reducible rfl
            rotate_left
            · simp only [Act.put, List.setIfInBounds_toArray, List.set_cons_zero, List.set_cons_succ, i64_w, i32_w]
              rfl
            refine pure_ (i := 18) (N := some 85) (v := ?_) (a' := ?_) #[true, true, true, true, true, true, true, true, true, true, true, true, true, true, true, true, true, true, true, false, false, false] rfl rfl (by kernel_rfl) (fun _ _ _ h => h) (Or.inl ⟨by rfl, ?_⟩) ?_ ?_
            rotate_left
            · intro w'
              go_simp
              with_reducible rfl
            rotate_left
            · simp only [Act.put, List.setIfInBounds_toArray, List.set_cons_zero, List.set_cons_succ, i64_w, i32_w]
              rfl
            refine pure_ (i := 19) (N := some 86) (v := ?_) (a' := ?_) #[true, true, true, true, true, true, true, true, true, true, true, true, true, true, true, true, true, true, true, true, false, false] rfl rfl (by kernel_rfl) (fun _ _ _ h => h) (Or.inl ⟨by rfl, ?_⟩) ?_ ?_
            rotate_left
            · intro w'
              go_simp
              with_reducible rfl
            rotate_left
            · simp only [Act.put, List.setIfInBounds_toArray, List.set_cons_zero, List.set_cons_succ, i64_w, i32_w]
              rfl
            refine pure_ (i := 20) (N := some 12) (v := ?_) (a' := ?_) #[true, true, true, true, true, true, true, true, true, true, true, true, true, true, true, true, true, true, true, true, true, false] rfl rfl (by kernel_rfl) (fun _ _ _ h => h) (Or.inl ⟨by rfl, ?_⟩) ?_ ?_
            rotate_left
            · intro w'
              go_simp
              with_reducible rfl
            rotate_left
            · simp only [Act.put, List.setIfInBounds_toArray, List.set_cons_zero, List.set_cons_succ, i64_w, i32_w]
              rfl
            refine pure_ (i := 21) (N := some 13) (v := ?_) (a' := ?_) #[true, true, true, true, true, true, true, true, true, true, true, true, true, true, true, true, true, true, true, true, true, true] rfl rfl (by kernel_rfl) (fun _ _ _ h => h) (Or.inl ⟨by rfl, ?_⟩) ?_ ?_
            rotate_left
            · intro w'
              go_simp
              with_reducible rfl
            rotate_left
            · simp only [Act.put, List.setIfInBounds_toArray, List.set_cons_zero, List.set_cons_succ, i64_w, i32_w]
              rfl
            refine done_ (by kernel_rfl) ?_

            have hml := HML.out
            go_wp2_with fail
            go_meet
            case rel => exact ⟨A5, _, c5, _, _, rfl, hml, ⟨rfl⟩, HO5, HS, ⟨HA.out.1⟩, ⟨HA.out.2⟩, HLE⟩
        case rest =>
        obtain ⟨A, m, c, M, L2, rfl, hm5, HMM, HOM, HS2, HGM, HDM, HLN2⟩ := hcut
        clear y0 y2 HCX HXI HKV HBS HS
        go_wp2_with fail
        go_loopw [14] (fun v14 wk => ∃ k : Nat, k ≤ m ∧ v14 = .int .i64 (k : Int) ∧ Aside0 (wk.ownsRow w.heap.size 33 5 (.slice A m c) m (cellsC M)) ∧ Aside0 (St2 w wk b1 500 G L2 b2 1024 G (doAll L (M.take k)))) (fun v14 _ => m - (intOf v14).toNat)
        case atStart => exact ⟨0, by omega, rfl, HOM, ⟨by rw [List.take_zero]; exact HS2.out⟩⟩
        case round =>
          clear HOM HS2
          obtain ⟨k, hkm, rfl, HOM, HS2⟩ := hrel
          by_cases hkl : k < m
          · have g1 : decide ((k : Int) < (m : Int)) = true := by simp; omega
            have g1b : decide (k < m) = true := by simp; omega
            obtain ⟨cc, hcc⟩ : ∃ cc, M[k]? = some cc := ⟨_, List.getElem?_eq_getElem (by rw [HMM.out]; omega)⟩
            obtain ⟨g4, cap4, cur4, rest4, e4, _, _, hkc, hcm, _, _, _⟩ := own_open HOM.out (by omega)
            injection e4 with e4 _ e5
            subst e4 e5
            obtain ⟨z0, z1, z2, z3, z4⟩ := cellsC_own HOM.out hcc
            have HOK := Aside0.mk (HGM.out k cc hcc)
            have HDS := Aside0.mk (doAll_snoc (L := L) hcc)
            have hkm2 : (k : Int) < (m : Int) := by omega
            clear hcc hkc hcm
            go_wp2_with fail
            refine (HS2.out.symm.do cc HOK.out).mono ?_
            rintro e w7 ⟨rfl, hs_, hk_⟩
            rw [← HDS.out] at hs_
            replace HS2 := Aside0.mk hs_.symm
            replace HOM := Aside0.mk (hk_.own HOM.out)
            clear hs_ hk_ z0 z1 z2 z3 z4
            go_wp2_with fail
            go_roundw
            case rel => exact ⟨k + 1, by omega, by go_num, HOM, HS2⟩
            case measure => simp [intOf]; omega
          · obtain rfl : m = k := by omega
            have HS3 : Aside0 (St2 w wr b1 500 G L2 b2 1024 G L2) := ⟨by have := HS2.out; rw [← HMM.out, List.take_length, HDM.out] at this; exact this⟩
            go_wp2_with fail
            go_roundw
            case rel => exact ⟨i + 1, L2, by omega, by omega, by go_num, HLN2, HS3⟩
            case measure => simp [intOf]; omega
      · have h2 : decide ((i : Int) < 200) = false := by simp; omega
        have h2b : decide (i < 200) = false := by simp; omega
        clear hlt hl3
        obtain ⟨m, HM⟩ : ∃ m, Aside0 ((L.map chgOf).length = m) := ⟨_, ⟨rfl⟩⟩
        have hm1 : m ≤ 1024 := by rw [← HM.out, List.length_map]; exact HS.out.one.kv.2.2.2
        go_wp2_with fail
        refine (HS.out.one.list).mono ?_
        rintro e w9 ⟨v0, rfl, ho_, hb_⟩
        replace HS := Aside0.mk (HS.out.below hb_)
        obtain ⟨A9, c9, rfl, _, _⟩ := slice_of ho_
        rw [HM.out] at ho_ ⊢
        have HO9 := Aside0.mk ho_
        clear ho_ hb_
        go_wp2_with fail
        refine (HS.out.symm.one.list).mono ?_
        rintro e w10 ⟨v0, rfl, ho_, hb_⟩
        replace HS := Aside0.mk (HS.out.below hb_)
        replace HO9 := Aside0.mk (own_below HO9.out hb_)
        obtain ⟨A10, c10, rfl, _, _⟩ := slice_of ho_
        rw [HM.out] at ho_ ⊢
        have HO10 := Aside0.mk ho_
        clear ho_ hb_
        go_wp2_with fail
        refine (changes_same (L.map chgOf) m HM.out (by omega) A9 c9 A10 c10 _ (C_own HO9.out).1 (C_own HO9.out).2 (C_own HO10.out).1 (C_own HO10.out).2).mono ?_
        rintro e w11 ⟨rfl, hb_⟩
        replace HS := Aside0.mk (HS.out.below hb_)
        clear hb_
        go_wp2_with fail
        go_ret
        exact ⟨rfl, HS.out.bl⟩
    · obtain rfl : i = n0 := by omega
      clear hlt
      obtain ⟨m, HM⟩ : ∃ m, Aside0 ((L.map chgOf).length = m) := ⟨_, ⟨rfl⟩⟩
      have hm1 : m ≤ 1024 := by rw [← HM.out, List.length_map]; exact HS.out.one.kv.2.2.2
      go_wp2_with fail
      refine (HS.out.one.list).mono ?_
      rintro e w9 ⟨v0, rfl, ho_, hb_⟩
      replace HS := Aside0.mk (HS.out.below hb_)
      obtain ⟨A9, c9, rfl, _, _⟩ := slice_of ho_
      rw [HM.out] at ho_ ⊢
      have HO9 := Aside0.mk ho_
      clear ho_ hb_
      go_wp2_with fail
      refine (HS.out.symm.one.list).mono ?_
      rintro e w10 ⟨v0, rfl, ho_, hb_⟩
      replace HS := Aside0.mk (HS.out.below hb_)
      replace HO9 := Aside0.mk (own_below HO9.out hb_)
      obtain ⟨A10, c10, rfl, _, _⟩ := slice_of ho_
      rw [HM.out] at ho_ ⊢
      have HO10 := Aside0.mk ho_
      clear ho_ hb_
      go_wp2_with fail
      refine (changes_same (L.map chgOf) m HM.out (by omega) A9 c9 A10 c10 _ (C_own HO9.out).1 (C_own HO9.out).2 (C_own HO10.out).1 (C_own HO10.out).2).mono ?_
      rintro e w11 ⟨rfl, hb_⟩
      replace HS := Aside0.mk (HS.out.below hb_)
      clear hb_
      go_wp2_with fail
      go_ret
      exact ⟨rfl, HS.out.bl⟩
end Go.Proofs.Ytpjfmilokadchaa.Se
