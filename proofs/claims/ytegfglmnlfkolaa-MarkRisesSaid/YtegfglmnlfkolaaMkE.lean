/- The statement MarkRises: its body, walked. -/
import Derived.Test.YtegfglmnlfkolaaMkC
namespace Go.Proofs.Ytegfglmnlfkolaa.Mk
open Go Go.RowKit Go.Maps Go.Proofs.YtegfglmnlfkolaaW.PrintWords Go.Proofs.YtegfglmnlfkolaaW.PrintLast Go.Proofs.YtegfglmnlfkolaaW.PrintMore Go.Proofs.Ytegfglmnlfkolaa.Opn
set_option linter.unusedVariables false
set_option linter.unusedSimpArgs false
theorem infoInt : (Try.prog.info? 3).map (fun i => (i.zero, i.size, i.bytes)) = some (some (.int .i64 0), 1, 8) := by kernel_rfl
theorem R_mk {α : Type} {d : Kd α} {e : Nat} {w w1 : World} {base base1 b bm : Nat} {L : List (Int × Int)} {ys : List α} {v : Value} (hq : d.R e w base (fun _ => True) v ys) (h : MkS w base1 b bm L) (hg : w.grownBy w1 (some bm)) : d.R e w1 base (fun _ => True) v ys := by
  obtain ⟨D, ⟨es, clock, hbb, _⟩, _⟩ := h.map
  exact Kd.R_mono (Kd.R_grown (Kd.R_bound hq) hg (fun k hk => by
    intro he
    injection he with he
    subst he
    obtain ⟨_, _, _, q, _, cells, hc⟩ := hk
    rw [hbb] at hc
    cases hc)) (fun _ _ => trivial)
theorem see_named (b bm base : Nat) (L L' : List (Int × Int)) (v t : Int) (q : Bool) (f : Int) (w : World) (h : MkS w base b bm L) (hv : In64 v) (ht : In64 t) (h1 : (see L v t).1 = L') (h2 : (see L v t).2.1 = q) (h3 : (see L v t).2.2 = f) :
    Calls Try.prog 12 #[.pointer (some ⟨b, 0, none⟩), .int .i64 v, .int .i64 t] w fun e w' => e = .returned (.tuple #[.bool q, .int .i64 f]) ∧ MkS w' base b bm L' ∧ w.grownBy w' (some bm) := by
  subst h1
  subst h2
  subst h3
  exact see_any b bm base L v t w h hv.1 hv.2 ht.1 ht.2
set_option maxHeartbeats 4000000 in
set_option maxRecDepth 100000 in
theorem rises_ok (a0 : Int) (A1 : Option Addr) (c1 : Nat) (l1 : List (Int × Int)) (w : World) (a00 : 0 ≤ a0) (a01 : a0 < 256) (hr1 : kSeen.C w A1 l1.length l1) (hc1 : l1.length ≤ c1) (hN : l1.length ≤ 9223372036854775807) (hi : ∀ p ∈ l1, In64 p.1 ∧ In64 p.2) :
    Calls Try.prog 3 #[.int .u8 a0, .slice A1 l1.length c1] w fun e w' => e = .returned (.bool true) ∧ Below w.heap.size w w' := by
  have HC := Aside0.mk hr1
  have HI := Aside0.mk hi
  clear hr1 hi
  have HB := Aside0.mk (Below.refl w.heap.size w)
  obtain ⟨N, HN⟩ : ∃ N : Nat, Aside0 ((N : Int) = 1 + a0 % 6) := ⟨(1 + a0 % 6).toNat, ⟨by omega⟩⟩
  have hw1 : IntKind.u8.wrap (a0.tmod 6) = a0 % 6 := by rw [Int.tmod_eq_emod_of_nonneg a00]; simp [IntKind.wrap, IntKind.bits, IntKind.signed]; omega
  have hw2 : IntKind.i64.wrap (1 + a0 % 6) = (N : Int) := by rw [HN.out]; simp [IntKind.wrap, IntKind.bits, IntKind.signed]; omega
  have hw3 : IntKind.i64.wrap (a0 % 6) = a0 % 6 := by simp [IntKind.wrap, IntKind.bits, IntKind.signed]; omega
  have hn0 : 0 < N := by have := HN.out; omega
  have hn1 : N ≤ 6 := by have := HN.out; omega
  go_enter Try.func3, Try.ntmps3
  go_wp2_with fail
  refine (shown_ok _).mono ?_
  rintro e w1 ⟨rfl, hb_⟩
  have n0_ := Aside0.mk (below_step HB.out hb_); clear HB; have HB := n0_; clear n0_; clear hb_
  go_wp2_with fail
  go_loopw [7, 8] (fun v7 v8 wr => ∃ k : Nat, k ≤ N ∧ v8 = .int .i64 (k : Int) ∧ Aside0 ((Kd.int .i64).R 3 wr w.heap.size (fun _ => True) v7 (steps 3 k)) ∧ Aside0 (Below w.heap.size w wr)) (fun _ v8 _ => N - (intOf v8).toNat)
  case atStart => exact ⟨0, by omega, rfl, ⟨Kd.R_nil _ _ _ _ _⟩, HB⟩
  case round =>
    clear HB
    obtain ⟨k, hk, rfl, HO, HB⟩ := hrel
    by_cases hlt : k < N
    · have h1 : decide ((k : Int) < (N : Int)) = true := by simp; omega
      have h1b : decide (k < N) = true := by simp; omega
      obtain ⟨y, HY⟩ : ∃ y, Aside0 (3 * (k : Int) = y) := ⟨_, ⟨rfl⟩⟩
      have HT : Aside0 (steps 3 (k + 1) = steps 3 k ++ [y]) := ⟨by rw [steps_succ, HY.out]⟩
      have hw4 : IntKind.i64.wrap (3 * (k : Int)) = y := by rw [← HY.out]; simp [IntKind.wrap, IntKind.bits, IntKind.signed]; omega
      go_wp2_with (((with_reducible refine gate_builtin (b := .append) (xs := #[.tmp 27, .tmp 30]) rfl ?_); at_builtin; refine Kd.R_append (Kd.int .i64) (w0 := wr) w.heap.size rfl (.tmp 27) (.tmp 30) 24 3 (.int .i64 0) 8 rfl Try.underlying24 infoInt rfl (by decide) (by omega) u7 (steps 3 k) y [.int .i64 y] (fun _ => True) (fun _ => False) rfl rfl ?aP (fun _ hk => hk.elim) (fun _ _ => trivial) ?aO ?aB ?aS ?aL ?_; (try (case aP => exact rfl)); (case aB => exact (Below.refl _ _)); (case aO => exact (by (with_reducible repeat (first | apply Kd.R_alloc | apply Kd.R_drewN | apply Kd.R_drew)); exact HO.out)); (case aS => exact (below_size HB.out)); (case aL => rw [steps_len]; omega); intro v31 w31 ho_ hb hg hat; have n0_ := Aside0.mk (ho_); clear HO; have HO := n0_; clear n0_; have HB3 := Aside0.mk (HB.out.trans hb); clear ho_ hb hg hat))
      go_roundw
      case rel => exact ⟨k + 1, by omega, by go_num, ⟨by rw [HT.out]; exact HO.out⟩, HB3⟩
      case measure => simp [intOf]; omega
    · obtain rfl : k = N := by omega
      obtain ⟨A7, c7, rfl, hc7, hC_⟩ := Kd.R_reads HO.out
      rw [steps_len] at hc7 hC_
      rw [steps_len] at HO
      have HNK := Aside0.mk (steps_ok (c := 3) (by omega) hn0 (by omega : k ≤ 24))
      have HIN := Aside0.mk (show ∀ x ∈ steps 3 k, -9223372036854775808 ≤ x ∧ x ≤ 9223372036854775807 from fun x hx => by
        obtain ⟨i, hi, rfl⟩ := List.mem_map.1 hx
        have := List.mem_range.1 hi
        omega)
      have HC7 := Aside0.mk hC_
      clear hC_
      rw [steps_len]
      go_wp2_with fail
      refine (new_ok A7 c7 k (steps 3 k) _ (steps_len _ _) HC7.out hc7 HNK.out HIN.out).mono ?_
      rintro e w2 ⟨b1, m1, rfl, hr_, hb_⟩
      have HR1 := Aside0.mk (hr_.lower (below_size HB.out))
      have n0_ := Aside0.mk (below_step HB.out hb_); have n1_ := Aside0.mk (Kd.R_below HO.out hb_); clear HB; clear HO; have HB := n0_; have HO := n1_; clear n0_ n1_; clear hr_ hb_ HC7
      have HK := Aside0.mk (initL_keys (steps 3 k))
      obtain ⟨L0, HL0⟩ : ∃ y, Aside0 (initL (steps 3 k) = y) := ⟨_, ⟨rfl⟩⟩
      rw [HL0.out] at HR1 HK
      go_wp2_with fail
      go_loopw [11] (fun v11 wr => ∃ (j : Nat) (L : List (Int × Int)), j ≤ l1.length ∧ j ≤ 200 ∧ v11 = .int .i64 (j : Int) ∧ Aside0 (MkS wr w.heap.size b1 m1 L) ∧ Aside0 (L.map (·.1) = steps 3 k) ∧ Aside0 ((Kd.int .i64).R 3 wr w.heap.size (fun _ => True) (.slice A7 k c7) (steps 3 k)) ∧ Aside0 (Below w.heap.size w wr)) (fun v11 _ => 200 - (intOf v11).toNat)
      case atStart => exact ⟨0, L0, by omega, by omega, rfl, HR1, HK, HO, HB⟩
      case round =>
        clear HB HR1 HK HO
        obtain ⟨j, L, hj, hj2, rfl, HR1, HK, HO, HB⟩ := hrel
        by_cases hlj : j < l1.length
        · have h1 : decide ((j : Int) < (l1.length : Int)) = true := by simp; omega
          have h1b : decide (j < l1.length) = true := by simp; omega
          by_cases hl2 : j < 200
          · have h2 : decide ((j : Int) < 200) = true := by simp; omega
            have h2b : decide (j < 200) = true := by simp; omega
            obtain ⟨ad, rfl, hx1, hx2⟩ := at_seen (Kd.C_below HC.out HB.out) hlj
            obtain ⟨x, HX⟩ : ∃ x, Aside0 ((pt l1 j).1 = x) := ⟨_, ⟨rfl⟩⟩
            obtain ⟨y, HY⟩ : ∃ x, Aside0 ((pt l1 j).2 = x) := ⟨_, ⟨rfl⟩⟩
            have HCX := Aside0.mk (show ∀ W : World, Below w.heap.size w W → W.cell? (ad.add (j * 2)) = some (.int .i64 x) ∧ W.cell? ⟨(ad.add (j * 2)).block, (ad.add (j * 2)).off + 1, none⟩ = some (.int .i64 y) from fun W hW => by
              obtain ⟨ad2, e2, h1, h2⟩ := at_seen (Kd.C_below HC.out hW) hlj
              injection e2 with e2
              rw [e2, ← HX.out, ← HY.out]
              exact ⟨h1, h2⟩)
            have HI1 := Aside0.mk (HI.out _ (pt_mem hlj))
            rw [HX.out, HY.out] at HI1
            clear hx1 hx2
            have hG := HR1.out.good
            obtain ⟨L1, HL1⟩ : ∃ z, Aside0 ((see L x y).1 = z) := ⟨_, ⟨rfl⟩⟩
            obtain ⟨q, HQ⟩ : ∃ z, Aside0 ((see L x y).2.1 = z) := ⟨_, ⟨rfl⟩⟩
            obtain ⟨f, HF⟩ : ∃ z, Aside0 ((see L x y).2.2 = z) := ⟨_, ⟨rfl⟩⟩
            obtain ⟨n0, HM0⟩ : ∃ z, Aside0 (mark L = z) := ⟨_, ⟨rfl⟩⟩
            obtain ⟨n1, HM1⟩ : ∃ z, Aside0 (mark L1 = z) := ⟨_, ⟨rfl⟩⟩
            obtain ⟨s0, HS0⟩ : ∃ z, Aside0 (seen L x = z) := ⟨_, ⟨rfl⟩⟩
            obtain ⟨s1, HS1⟩ : ∃ z, Aside0 (seen L1 x = z) := ⟨_, ⟨rfl⟩⟩
            have HK1 := Aside0.mk (show L1.map (·.1) = steps 3 k by rw [← HL1.out, see_keys hG, HK.out])
            have hm1 : decide (n1 < n0) = false := by have := mark_rises hG x y; rw [HL1.out, HM0.out, HM1.out] at this; simp; omega
            have hs1 : decide (s1 < s0) = false := by have := seen_rises hG x y x; rw [HL1.out, HS0.out, HS1.out] at this; simp; omega
            have HMORE := Aside0.mk (see_more hG x y)
            rw [HQ.out, HF.out, HS0.out] at HMORE
            clear hG
            go_wp2_with fail
            refine (mark_any b1 m1 _ _ _ HR1.out).mono ?_
            rintro e w3 ⟨he_, hb_⟩
            rw [HM0.out] at he_
            subst he_
            have n0_ := Aside0.mk (below_step HB.out hb_); have n1_ := Aside0.mk (HR1.out.below hb_); have n2_ := Aside0.mk (Kd.R_below HO.out hb_); clear HB; clear HR1; clear HO; have HB := n0_; have HR1 := n1_; have HO := n2_; clear n0_ n1_ n2_; clear hb_
            have hx1 := (HCX.out _ HB.out).1
            go_wp2_with fail
            refine (seen_any b1 m1 _ _ _ _ HR1.out HI1.out.1.1 HI1.out.1.2).mono ?_
            rintro e w4 ⟨he_, rfl⟩
            rw [HS0.out] at he_
            subst he_
            go_wp2_with fail
            clear hx1
            refine start_ (n := 17) (S := fun w' => Below w3.heap.size w3 w') (ds := [11]) #[false, false, false, false, false, false, false, false, false, false, false, false, false, false, false, false, false] (by kernel_rfl) rfl rfl (below_drew (Below.refl _ _)) (fun hHeld => ?_)
            refine pure_ (i := 0) (N := some 63) (v := ?_) (a' := ?_) #[true, false, false, false, false, false, false, false, false, false, false, false, false, false, false, false, false] rfl rfl (by kernel_rfl) (fun _ _ _ h => h) (Or.inl ⟨by rfl, ?_⟩) ?_ ?_
            rotate_left
            · intro w'
              go_simp
              with_reducible rfl
            rotate_left
            · simp only [Act.put, List.setIfInBounds_toArray, List.set_cons_zero, List.set_cons_succ, i64_w, i32_w]
              rfl
            refine pure_ (i := 1) (N := some 64) (v := ?_) (a' := ?_) #[true, true, false, false, false, false, false, false, false, false, false, false, false, false, false, false, false] rfl rfl (by kernel_rfl) (fun _ _ _ h => h) (Or.inl ⟨by rfl, ?_⟩) ?_ ?_
            rotate_left
            · intro w'
              go_simp
              with_reducible rfl
            rotate_left
            · simp only [Act.put, List.setIfInBounds_toArray, List.set_cons_zero, List.set_cons_succ, i64_w, i32_w]
              rfl
            refine pure_ (i := 2) (N := some 65) (v := ?_) (a' := ?_) #[true, true, true, false, false, false, false, false, false, false, false, false, false, false, false, false, false] rfl rfl (by kernel_rfl) (fun _ _ _ h => h) (Or.inl ⟨by rfl, ?_⟩) ?_ ?_
            rotate_left
            · intro w'
              go_simp
              with_reducible rfl
            rotate_left
            · simp only [Act.put, List.setIfInBounds_toArray, List.set_cons_zero, List.set_cons_succ, i64_w, i32_w]
              rfl
            refine pure_ (i := 3) (N := some 66) (v := ?_) (a' := ?_) #[true, true, true, true, false, false, false, false, false, false, false, false, false, false, false, false, false] rfl rfl (by kernel_rfl) (fun _ _ _ h => h) (Or.inl ⟨by rfl, ?_⟩) ?_ ?_
            rotate_left
            · intro w'
              go_simp
              with_reducible rfl
            rotate_left
            · simp only [Act.put, List.setIfInBounds_toArray, List.set_cons_zero, List.set_cons_succ, i64_w, i32_w]
              rfl
            refine pure_ (i := 4) (N := some 67) (v := ?_) (a' := ?_) #[true, true, true, true, true, false, false, false, false, false, false, false, false, false, false, false, false] rfl rfl (by kernel_rfl) (fun _ _ _ h => h) (Or.inl ⟨by rfl, ?_⟩) ?_ ?_
            rotate_left
            · intro w'
              go_simp
              with_reducible rfl
            rotate_left
            · simp only [Act.put, List.setIfInBounds_toArray, List.set_cons_zero, List.set_cons_succ, i64_w, i32_w]
              rfl
            refine pure_ (i := 6) (N := some 69) (v := ?_) (a' := ?_) #[true, true, true, true, true, false, true, false, false, false, false, false, false, false, false, false, false] rfl rfl (by kernel_rfl) (fun _ _ _ h => h) (Or.inl ⟨by rfl, ?_⟩) ?_ ?_
            rotate_left
            · intro w'
              go_simp
              with_reducible rfl
            rotate_left
            · simp only [Act.put, List.setIfInBounds_toArray, List.set_cons_zero, List.set_cons_succ, i64_w, i32_w]
              rfl
            refine pure_ (i := 7) (N := some 70) (v := ?_) (a' := ?_) #[true, true, true, true, true, false, true, true, false, false, false, false, false, false, false, false, false] rfl rfl (by kernel_rfl) (fun _ _ _ h => h) (Or.inl ⟨by rfl, ?_⟩) ?_ ?_
            rotate_left
            · intro w'
              go_simp
              with_reducible rfl
            rotate_left
            · simp only [Act.put, List.setIfInBounds_toArray, List.set_cons_zero, List.set_cons_succ, i64_w, i32_w]
              rfl
            refine pure_ (i := 8) (N := some 71) (v := ?_) (a' := ?_) #[true, true, true, true, true, false, true, true, true, false, false, false, false, false, false, false, false] rfl rfl (by kernel_rfl) (fun _ _ _ h => h) (Or.inl ⟨by rfl, ?_⟩) ?_ ?_
            rotate_left
            · intro w'
              go_simp
              with_reducible rfl
            rotate_left
            · simp only [Act.put, List.setIfInBounds_toArray, List.set_cons_zero, List.set_cons_succ, i64_w, i32_w]
              rfl
            refine pure_ (i := 9) (N := some 72) (v := ?_) (a' := ?_) #[true, true, true, true, true, false, true, true, true, true, false, false, false, false, false, false, false] rfl rfl (by kernel_rfl) (fun _ _ _ h => h) (Or.inl ⟨by rfl, ?_⟩) ?_ ?_
            rotate_left
            · intro w'
              go_simp
              with_reducible rfl
            rotate_left
            · simp only [Act.put, List.setIfInBounds_toArray, List.set_cons_zero, List.set_cons_succ, i64_w, i32_w]
              rfl
            refine take_ (i := 5) (N := some 68) (v := ?_) (a' := ?_) #[true, true, true, true, true, true, true, true, true, true, false, false, false, false, false, false, false] rfl rfl (by kernel_rfl) (fun _ _ _ h => h) (Or.inl ⟨by rfl, ?_⟩) hHeld ?_ ?_
            rotate_left
            · intro w' hS
              have c_ := (HCX.out _ (below_step HB.out hS)).1
              go_simp
              with_reducible rfl
            rotate_left
            · simp only [Act.put, List.setIfInBounds_toArray, List.set_cons_zero, List.set_cons_succ, i64_w, i32_w]
              rfl
            refine take_ (i := 10) (N := some 73) (v := ?_) (a' := ?_) #[true, true, true, true, true, true, true, true, true, true, true, false, false, false, false, false, false] rfl rfl (by kernel_rfl) (fun _ _ _ h => h) (Or.inl ⟨by rfl, ?_⟩) hHeld ?_ ?_
            rotate_left
            · intro w' hS
              have c_ := (HCX.out _ (below_step HB.out hS)).2
              go_simp
              with_reducible rfl
            rotate_left
            · simp only [Act.put, List.setIfInBounds_toArray, List.set_cons_zero, List.set_cons_succ, i64_w, i32_w]
              rfl
            refine last_ (i := 11) (N := some 74) #[true, true, true, true, true, true, true, true, true, true, true, true, false, false, false, false, false] rfl rfl (by kernel_rfl) (by simp) (fun K hK => ?_)
            have hb_ := hHeld
            have n0_ := Aside0.mk (below_step HB.out hb_); have n1_ := Aside0.mk (HR1.out.below hb_); have n2_ := Aside0.mk (Kd.R_below HO.out hb_); clear HB; clear HR1; clear HO; have HB := n0_; have HR1 := n1_; have HO := n2_; clear n0_ n1_ n2_; clear hb_
            refine goes_ Try.func12 (by kernel_rfl) rfl #[.pointer (some ⟨b1, 0, none⟩), .int .i64 x, .int .i64 y] (by rfl) rfl rfl (by simp only [List.map_toArray, List.map_cons, List.map_nil]; rfl) ?_
            with_reducible refine (see_named b1 m1 _ _ L1 x y q f _ HR1.out HI1.out.1 HI1.out.2 HL1.out HQ.out HF.out).mono ?_
            rintro e w5 ⟨rfl, hn_, hg_⟩
            refine ⟨_, rfl, ?_⟩
            refine hK.out _ _ ?_
            clear hK K
            refine norm_ (a' := ?_) ?_ ?_
            rotate_left
            · show Act.put _ (some 74) _ = _
              simp only [Act.put, List.setIfInBounds_toArray, List.set_cons_zero, List.set_cons_succ, i64_w, i32_w]
              rfl
            have n0_ := Aside0.mk (HR1.out.from HB.out (below_size HB.out) hg_); have n1_ := Aside0.mk (R_mk HO.out HR1.out hg_); have n2_ := Aside0.mk (hn_); clear HB; clear HO; clear HR1; have HB := n0_; have HO := n1_; have HR1 := n2_; clear n0_ n1_ n2_; clear hn_ hg_
            refine pure_ (i := 12) (N := some 62) (v := ?_) (a' := ?_) #[true, true, true, true, true, true, true, true, true, true, true, true, true, false, false, false, false] rfl rfl (by kernel_rfl) (fun _ _ _ h => h) (Or.inl ⟨by rfl, ?_⟩) ?_ ?_
            rotate_left
            · intro w'
              go_simp
              with_reducible rfl
            rotate_left
            · simp only [Act.put, List.setIfInBounds_toArray, List.set_cons_zero, List.set_cons_succ, i64_w, i32_w]
              rfl
            refine pure_ (i := 13) (N := some 75) (v := ?_) (a' := ?_) #[true, true, true, true, true, true, true, true, true, true, true, true, true, true, false, false, false] rfl rfl (by kernel_rfl) (fun _ _ _ h => h) (Or.inl ⟨by rfl, ?_⟩) ?_ ?_
            rotate_left
            · intro w'
              go_simp
              with_reducible rfl
            rotate_left
            · simp only [Act.put, List.setIfInBounds_toArray, List.set_cons_zero, List.set_cons_succ, i64_w, i32_w]
              rfl
            refine pure_ (i := 14) (N := some 76) (v := ?_) (a' := ?_) #[true, true, true, true, true, true, true, true, true, true, true, true, true, true, true, false, false] rfl rfl (by kernel_rfl) (fun _ _ _ h => h) (Or.inl ⟨by rfl, ?_⟩) ?_ ?_
            rotate_left
            · intro w'
              go_simp
              with_reducible rfl
            rotate_left
            · simp only [Act.put, List.setIfInBounds_toArray, List.set_cons_zero, List.set_cons_succ, i64_w, i32_w]
              rfl
            refine pure_ (i := 15) (N := some 14) (v := ?_) (a' := ?_) #[true, true, true, true, true, true, true, true, true, true, true, true, true, true, true, true, false] rfl rfl (by kernel_rfl) (fun _ _ _ h => h) (Or.inl ⟨by rfl, ?_⟩) ?_ ?_
            rotate_left
            · intro w'
              go_simp
              with_reducible rfl
            rotate_left
            · simp only [Act.put, List.setIfInBounds_toArray, List.set_cons_zero, List.set_cons_succ, i64_w, i32_w]
              rfl
            refine pure_ (i := 16) (N := some 15) (v := ?_) (a' := ?_) #[true, true, true, true, true, true, true, true, true, true, true, true, true, true, true, true, true] rfl rfl (by kernel_rfl) (fun _ _ _ h => h) (Or.inl ⟨by rfl, ?_⟩) ?_ ?_
            rotate_left
            · intro w'
              go_simp
              with_reducible rfl
            rotate_left
            · simp only [Act.put, List.setIfInBounds_toArray, List.set_cons_zero, List.set_cons_succ, i64_w, i32_w]
              rfl
            refine done_ (by kernel_rfl) ?_

            go_wp2_with fail
            refine (mark_any b1 m1 _ _ _ HR1.out).mono ?_
            rintro e w6 ⟨he_, hb_⟩
            rw [HM1.out] at he_
            subst he_
            have n0_ := Aside0.mk (below_step HB.out hb_); have n1_ := Aside0.mk (HR1.out.below hb_); have n2_ := Aside0.mk (Kd.R_below HO.out hb_); clear HB; clear HR1; clear HO; have HB := n0_; have HR1 := n1_; have HO := n2_; clear n0_ n1_ n2_; clear hb_
            have hx1 := (HCX.out _ HB.out).1
            have hx2 := (HCX.out _ HB.out).2
            cases hf : (f == 0) with
            | true =>
              have hq : decide (s0 < y) = q := by rw [HMORE.out, hf]; rfl
              go_wp2_with fail
              refine (seen_any b1 m1 _ _ _ _ HR1.out HI1.out.1.1 HI1.out.1.2).mono ?_
              rintro e w7 ⟨he_, rfl⟩
              rw [HS1.out] at he_
              subst he_
              go_wp2_with fail
              go_loopw [16] (fun v16 wr => ∃ i : Nat, i ≤ k ∧ v16 = .int .i64 (i : Int) ∧ Aside0 (MkS wr w.heap.size b1 m1 L1) ∧ Aside0 ((Kd.int .i64).R 3 wr w.heap.size (fun _ => True) (.slice A7 k c7) (steps 3 k)) ∧ Aside0 (Below w.heap.size w wr)) (fun v16 _ => k - (intOf v16).toNat)
              case atStart => exact ⟨0, by omega, rfl, HR1, HO, HB⟩
              case round =>
                clear HB HR1 HO hx1 hx2
                obtain ⟨i, hi, rfl, HR1, HO, HB⟩ := hrel
                by_cases hli : i < k
                · have h1 : decide ((i : Int) < (k : Int)) = true := by simp; omega
                  have h1b : decide (i < k) = true := by simp; omega
                  obtain ⟨adI, hA, hx⟩ := Kd.at_int (Kd.R_reads' HO.out).2.2 i (by omega) (by rw [steps_len]; omega)
                  obtain ⟨z, HZ⟩ : ∃ z, Aside0 (rd (steps 3 k) i = z) := ⟨_, ⟨rfl⟩⟩
                  have hx3 : wr.cell? (adI.add i) = some (.int .i64 z) := by rw [← HZ.out]; exact hx
                  subst hA
                  rw [rd_nat, steps_get 3 hli] at HZ
                  obtain ⟨s, HS⟩ : ∃ s, Aside0 (seen L1 z = s) := ⟨_, ⟨rfl⟩⟩
                  have hsm : decide (s < n1) = false := by
                    have := mark_seen HR1.out.good (k := z) (by rw [HK1.out, ← HZ.out]; exact steps_mem hli)
                    rw [HM1.out, HS.out] at this
                    simp; omega
                  have HZI : Aside0 (In64 z) := ⟨by have := HZ.out; constructor <;> omega⟩
                  clear hx
                  go_wp2_with fail
                  refine (seen_any b1 m1 _ _ _ _ HR1.out HZI.out.1 HZI.out.2).mono ?_
                  rintro e w8 ⟨he_, rfl⟩
                  rw [HS.out] at he_
                  subst he_
                  go_wp2_with fail
                  refine (mark_any b1 m1 _ _ _ HR1.out).mono ?_
                  rintro e w9 ⟨he_, hb_⟩
                  rw [HM1.out] at he_
                  subst he_
                  have n0_ := Aside0.mk (below_step HB.out hb_); have n1_ := Aside0.mk (HR1.out.below hb_); have n2_ := Aside0.mk (Kd.R_below HO.out hb_); clear HB; clear HR1; clear HO; have HB := n0_; have HR1 := n1_; have HO := n2_; clear n0_ n1_ n2_; clear hb_
                  go_wp2
                  go_roundw
                  case rel => exact ⟨i + 1, by omega, by go_num, HR1, HO, HB⟩
                  case measure => simp [intOf]; omega
                · obtain rfl : i = k := by omega
                  go_wp2
                  go_roundw
                  case rel => exact ⟨j + 1, L1, by omega, by omega, by go_num, HR1, HK1, HO, HB⟩
                  case measure => simp [intOf]; omega
            | false =>
              obtain rfl : q = false := by rw [HMORE.out, hf]; rfl
              go_wp2_with fail
              refine (seen_any b1 m1 _ _ _ _ HR1.out HI1.out.1.1 HI1.out.1.2).mono ?_
              rintro e w7 ⟨he_, rfl⟩
              rw [HS1.out] at he_
              subst he_
              go_wp2_with fail
              go_loopw [16] (fun v16 wr => ∃ i : Nat, i ≤ k ∧ v16 = .int .i64 (i : Int) ∧ Aside0 (MkS wr w.heap.size b1 m1 L1) ∧ Aside0 ((Kd.int .i64).R 3 wr w.heap.size (fun _ => True) (.slice A7 k c7) (steps 3 k)) ∧ Aside0 (Below w.heap.size w wr)) (fun v16 _ => k - (intOf v16).toNat)
              case atStart => exact ⟨0, by omega, rfl, HR1, HO, HB⟩
              case round =>
                clear HB HR1 HO hx1 hx2
                obtain ⟨i, hi, rfl, HR1, HO, HB⟩ := hrel
                by_cases hli : i < k
                · have h1 : decide ((i : Int) < (k : Int)) = true := by simp; omega
                  have h1b : decide (i < k) = true := by simp; omega
                  obtain ⟨adI, hA, hx⟩ := Kd.at_int (Kd.R_reads' HO.out).2.2 i (by omega) (by rw [steps_len]; omega)
                  obtain ⟨z, HZ⟩ : ∃ z, Aside0 (rd (steps 3 k) i = z) := ⟨_, ⟨rfl⟩⟩
                  have hx3 : wr.cell? (adI.add i) = some (.int .i64 z) := by rw [← HZ.out]; exact hx
                  subst hA
                  rw [rd_nat, steps_get 3 hli] at HZ
                  obtain ⟨s, HS⟩ : ∃ s, Aside0 (seen L1 z = s) := ⟨_, ⟨rfl⟩⟩
                  have hsm : decide (s < n1) = false := by
                    have := mark_seen HR1.out.good (k := z) (by rw [HK1.out, ← HZ.out]; exact steps_mem hli)
                    rw [HM1.out, HS.out] at this
                    simp; omega
                  have HZI : Aside0 (In64 z) := ⟨by have := HZ.out; constructor <;> omega⟩
                  clear hx
                  go_wp2_with fail
                  refine (seen_any b1 m1 _ _ _ _ HR1.out HZI.out.1 HZI.out.2).mono ?_
                  rintro e w8 ⟨he_, rfl⟩
                  rw [HS.out] at he_
                  subst he_
                  go_wp2_with fail
                  refine (mark_any b1 m1 _ _ _ HR1.out).mono ?_
                  rintro e w9 ⟨he_, hb_⟩
                  rw [HM1.out] at he_
                  subst he_
                  have n0_ := Aside0.mk (below_step HB.out hb_); have n1_ := Aside0.mk (HR1.out.below hb_); have n2_ := Aside0.mk (Kd.R_below HO.out hb_); clear HB; clear HR1; clear HO; have HB := n0_; have HR1 := n1_; have HO := n2_; clear n0_ n1_ n2_; clear hb_
                  go_wp2
                  go_roundw
                  case rel => exact ⟨i + 1, by omega, by go_num, HR1, HO, HB⟩
                  case measure => simp [intOf]; omega
                · obtain rfl : i = k := by omega
                  go_wp2
                  go_roundw
                  case rel => exact ⟨j + 1, L1, by omega, by omega, by go_num, HR1, HK1, HO, HB⟩
                  case measure => simp [intOf]; omega
          · have h2 : decide ((j : Int) < 200) = false := by simp; omega
            have h2b : decide (j < 200) = false := by simp; omega
            go_wp2
            go_ret
            exact ⟨rfl, HB.out⟩
        · obtain rfl : j = l1.length := by omega
          go_wp2
          go_ret
          exact ⟨rfl, HB.out⟩
end Go.Proofs.Ytegfglmnlfkolaa.Mk
