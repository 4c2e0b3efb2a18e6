/- The statement MarkOrder: its body, walked. -/
import Derived.Test.YtegfglmnlfkolaaMkC
namespace Go.Proofs.Ytegfglmnlfkolaa.Mk
open Go Go.RowKit Go.Maps Go.Proofs.YtegfglmnlfkolaaW.PrintWords Go.Proofs.YtegfglmnlfkolaaW.PrintLast Go.Proofs.YtegfglmnlfkolaaW.PrintMore Go.Proofs.Ytegfglmnlfkolaa.Opn
set_option linter.unusedVariables false
set_option linter.unusedSimpArgs false
theorem infoInt : (Try.prog.info? 3).map (fun i => (i.zero, i.size, i.bytes)) = some (some (.int .i64 0), 1, 8) := by kernel_rfl
set_option maxHeartbeats 4000000 in
set_option maxRecDepth 100000 in
theorem order_ok (a0 : Int) (A1 : Option Addr) (c1 : Nat) (l1 : List (Int × Int)) (w : World) (a00 : 0 ≤ a0) (a01 : a0 < 256) (hr1 : kSeen.C w A1 l1.length l1) (hc1 : l1.length ≤ c1) (hN : l1.length ≤ 9223372036854775807) (hi : ∀ p ∈ l1, In64 p.1 ∧ In64 p.2) :
    Calls Try.prog 4 #[.int .u8 a0, .slice A1 l1.length c1] w fun e w' => e = .returned (.bool true) ∧ Below w.heap.size w w' := by
  have HC := Aside0.mk hr1
  have HI := Aside0.mk hi
  clear hr1 hi
  have HB := Aside0.mk (Below.refl w.heap.size w)
  obtain ⟨N, HN⟩ : ∃ N : Nat, Aside0 ((N : Int) = 1 + a0 % 6) := ⟨(1 + a0 % 6).toNat, ⟨by omega⟩⟩
  have hw1 : IntKind.u8.wrap (a0.tmod 6) = a0 % 6 := by rw [Int.tmod_eq_emod_of_nonneg a00]; simp [IntKind.wrap, IntKind.bits, IntKind.signed]; omega
  have hw2 : IntKind.i64.wrap (1 + a0 % 6) = (N : Int) := by rw [HN.out]; simp [IntKind.wrap, IntKind.bits, IntKind.signed]; omega
  have hw3 : IntKind.i64.wrap (a0 % 6) = a0 % 6 := by simp [IntKind.wrap, IntKind.bits, IntKind.signed]; omega
  have hn0 : 0 < N := by have := HN.out; omega
  have hn1 : N ≤ 6 := by have := HN.out; omega
  go_enter Try.func4, Try.ntmps4
  go_wp2_with fail
  refine (shown_ok _).mono ?_
  rintro e w1 ⟨rfl, hb_⟩
  have n0_ := Aside0.mk (below_step HB.out hb_); clear HB; have HB := n0_; clear n0_; clear hb_
  go_wp2_with fail
  go_loopw [7, 8] (fun v7 v8 wr => ∃ k : Nat, k ≤ N ∧ v8 = .int .i64 (k : Int) ∧ Aside0 ((Kd.int .i64).R 3 wr w.heap.size (fun _ => True) v7 (steps 1 k)) ∧ Aside0 (Below w.heap.size w wr)) (fun _ v8 _ => N - (intOf v8).toNat)
  case atStart => exact ⟨0, by omega, rfl, ⟨Kd.R_nil _ _ _ _ _⟩, HB⟩
  case round =>
    clear HB
    obtain ⟨k, hk, rfl, HO, HB⟩ := hrel
    by_cases hlt : k < N
    · have h1 : decide ((k : Int) < (N : Int)) = true := by simp; omega
      have h1b : decide (k < N) = true := by simp; omega
      have HT : Aside0 (steps 1 (k + 1) = steps 1 k ++ [(k : Int)]) := ⟨by rw [steps_succ, Int.one_mul]⟩
      go_wp2_with (((with_reducible refine gate_builtin (b := .append) (xs := #[.tmp 25, .tmp 27]) rfl ?_); at_builtin; refine Kd.R_append (Kd.int .i64) (w0 := wr) w.heap.size rfl (.tmp 25) (.tmp 27) 24 3 (.int .i64 0) 8 rfl Try.underlying24 infoInt rfl (by decide) (by omega) u7 (steps 1 k) (k : Int) [.int .i64 (k : Int)] (fun _ => True) (fun _ => False) rfl rfl ?aP (fun _ hk => hk.elim) (fun _ _ => trivial) ?aO ?aB ?aS ?aL ?_; (try (case aP => exact rfl)); (case aB => exact (Below.refl _ _)); (case aO => exact (by (with_reducible repeat (first | apply Kd.R_alloc | apply Kd.R_drewN | apply Kd.R_drew)); exact HO.out)); (case aS => exact (below_size HB.out)); (case aL => rw [steps_len]; omega); intro v28 w28 ho_ hb hg hat; have n0_ := Aside0.mk (ho_); clear HO; have HO := n0_; clear n0_; have HB3 := Aside0.mk (HB.out.trans hb); clear ho_ hb hg hat))
      go_roundw
      case rel => exact ⟨k + 1, by omega, by go_num, ⟨by rw [HT.out]; exact HO.out⟩, HB3⟩
      case measure => simp [intOf]; omega
    · obtain rfl : k = N := by omega
      obtain ⟨A7, c7, rfl, hc7, hC_⟩ := Kd.R_reads HO.out
      rw [steps_len] at hc7
      have HC7 := Aside0.mk hC_
      rw [steps_len] at HC7
      clear hC_ HO
      rw [steps_len]
      have HNK := Aside0.mk (steps_ok (c := 1) (by omega) hn0 (by omega : k ≤ 24))
      have HIN := Aside0.mk (show ∀ x ∈ steps 1 k, -9223372036854775808 ≤ x ∧ x ≤ 9223372036854775807 from fun x hx => by
        obtain ⟨i, hi, rfl⟩ := List.mem_map.1 hx
        have := List.mem_range.1 hi
        omega)
      go_wp2_with fail
      refine (new_ok A7 c7 k (steps 1 k) _ (steps_len _ _) HC7.out hc7 HNK.out HIN.out).mono ?_
      rintro e w2 ⟨b1, m1, rfl, hr_, hb_⟩
      have HR1 := Aside0.mk (hr_.lower (below_size HB.out))
      have n0_ := Aside0.mk (below_step HB.out hb_); have n1_ := Aside0.mk (Kd.C_below HC7.out hb_); clear HB; clear HC7; have HB := n0_; have HC7 := n1_; clear n0_ n1_; clear hr_ hb_
      go_wp2_with fail
      refine (new_ok A7 c7 k (steps 1 k) _ (steps_len _ _) HC7.out hc7 HNK.out HIN.out).mono ?_
      rintro e w3 ⟨b2, m2, rfl, hr_, hb_⟩
      have hne1 : m1 ≠ m2 := by have h1 := HR1.out.lt; have h2 := hr_.hm; omega
      have HR2 := Aside0.mk (hr_.lower (below_size HB.out))
      have n0_ := Aside0.mk (below_step HB.out hb_); have n1_ := Aside0.mk (Kd.C_below HC7.out hb_); have n2_ := Aside0.mk (HR1.out.below hb_); clear HB; clear HC7; clear HR1; have HB := n0_; have HC7 := n1_; have HR1 := n2_; clear n0_ n1_ n2_; clear hr_ hb_
      obtain ⟨L0, HL0⟩ : ∃ y, Aside0 (initL (steps 1 k) = y) := ⟨_, ⟨rfl⟩⟩
      rw [HL0.out] at HR1 HR2
      go_wp2_with fail
      go_loopw [13] (fun v13 wr => ∃ j : Nat, j ≤ l1.length ∧ v13 = .int .i64 (j : Int) ∧ Aside0 (MkS wr w.heap.size b1 m1 (seeAll L0 (l1.take j))) ∧ Aside0 (MkS wr w.heap.size b2 m2 (seeAll L0 (l1.reverse.take j))) ∧ Aside0 (Below w.heap.size w wr)) (fun v13 _ => l1.length - (intOf v13).toNat)
      case atStart => exact ⟨0, by omega, rfl, HR1, HR2, HB⟩
      case round =>
        clear HB HR1 HR2
        obtain ⟨j, hj, rfl, HR1, HR2, HB⟩ := hrel
        by_cases hlj : j < l1.length
        · have h1 : decide ((j : Int) < (l1.length : Int)) = true := by simp; omega
          have h1b : decide (j < l1.length) = true := by simp; omega
          obtain ⟨ad, rfl, hx1, hx2⟩ := at_seen (Kd.C_below HC.out HB.out) hlj
          obtain ⟨x, HX⟩ : ∃ x, Aside0 ((pt l1 j).1 = x) := ⟨_, ⟨rfl⟩⟩
          obtain ⟨y, HY⟩ : ∃ x, Aside0 ((pt l1 j).2 = x) := ⟨_, ⟨rfl⟩⟩
          have HCX := Aside0.mk (show ∀ W : World, Below w.heap.size w W → W.cell? (ad.add (j * 2)) = some (.int .i64 x) ∧ W.cell? ⟨(ad.add (j * 2)).block, (ad.add (j * 2)).off + 1, none⟩ = some (.int .i64 y) from fun W hW => by
            obtain ⟨ad2, e2, h1, h2⟩ := at_seen (Kd.C_below HC.out hW) hlj
            injection e2 with e2
            rw [e2, ← HX.out, ← HY.out]
            exact ⟨h1, h2⟩)
          have HI1 := Aside0.mk (HI.out _ (pt_mem hlj))
          rw [HX.out, HY.out] at HI1
          clear hx1 hx2
          go_wp2_with fail
          refine start_ (n := 12) (S := fun w' => Below wr.heap.size wr w') (ds := [11]) #[false, false, false, false, false, false, false, false, false, false, false, false] (by kernel_rfl) rfl rfl (below_drew (Below.refl _ _)) (fun hHeld => ?_)
          refine pure_ (i := 0) (N := some 59) (v := ?_) (a' := ?_) #[true, false, false, false, false, false, false, false, false, false, false, false] rfl rfl (by kernel_rfl) (fun _ _ _ h => h) (Or.inl ⟨by rfl, ?_⟩) ?_ ?_
          rotate_left
          · intro w'
            go_simp
            with_reducible rfl
          rotate_left
          · simp only [Act.put, List.setIfInBounds_toArray, List.set_cons_zero, List.set_cons_succ, i64_w, i32_w]
            rfl
          refine pure_ (i := 1) (N := some 60) (v := ?_) (a' := ?_) #[true, true, false, false, false, false, false, false, false, false, false, false] rfl rfl (by kernel_rfl) (fun _ _ _ h => h) (Or.inl ⟨by rfl, ?_⟩) ?_ ?_
          rotate_left
          · intro w'
            go_simp
            with_reducible rfl
          rotate_left
          · simp only [Act.put, List.setIfInBounds_toArray, List.set_cons_zero, List.set_cons_succ, i64_w, i32_w]
            rfl
          refine pure_ (i := 2) (N := some 61) (v := ?_) (a' := ?_) #[true, true, true, false, false, false, false, false, false, false, false, false] rfl rfl (by kernel_rfl) (fun _ _ _ h => h) (Or.inl ⟨by rfl, ?_⟩) ?_ ?_
          rotate_left
          · intro w'
            go_simp
            with_reducible rfl
          rotate_left
          · simp only [Act.put, List.setIfInBounds_toArray, List.set_cons_zero, List.set_cons_succ, i64_w, i32_w]
            rfl
          refine pure_ (i := 3) (N := some 62) (v := ?_) (a' := ?_) #[true, true, true, true, false, false, false, false, false, false, false, false] rfl rfl (by kernel_rfl) (fun _ _ _ h => h) (Or.inl ⟨by rfl, ?_⟩) ?_ ?_
          rotate_left
          · intro w'
            go_simp
            with_reducible rfl
          rotate_left
          · simp only [Act.put, List.setIfInBounds_toArray, List.set_cons_zero, List.set_cons_succ, i64_w, i32_w]
            rfl
          refine pure_ (i := 4) (N := some 63) (v := ?_) (a' := ?_) #[true, true, true, true, true, false, false, false, false, false, false, false] rfl rfl (by kernel_rfl) (fun _ _ _ h => h) (Or.inl ⟨by rfl, ?_⟩) ?_ ?_
          rotate_left
          · intro w'
            go_simp
            with_reducible rfl
          rotate_left
          · simp only [Act.put, List.setIfInBounds_toArray, List.set_cons_zero, List.set_cons_succ, i64_w, i32_w]
            rfl
          refine pure_ (i := 6) (N := some 65) (v := ?_) (a' := ?_) #[true, true, true, true, true, false, true, false, false, false, false, false] rfl rfl (by kernel_rfl) (fun _ _ _ h => h) (Or.inl ⟨by rfl, ?_⟩) ?_ ?_
          rotate_left
          · intro w'
            go_simp
            with_reducible rfl
          rotate_left
          · simp only [Act.put, List.setIfInBounds_toArray, List.set_cons_zero, List.set_cons_succ, i64_w, i32_w]
            rfl
          refine pure_ (i := 7) (N := some 66) (v := ?_) (a' := ?_) #[true, true, true, true, true, false, true, true, false, false, false, false] rfl rfl (by kernel_rfl) (fun _ _ _ h => h) (Or.inl ⟨by rfl, ?_⟩) ?_ ?_
          rotate_left
          · intro w'
            go_simp
            with_reducible rfl
          rotate_left
          · simp only [Act.put, List.setIfInBounds_toArray, List.set_cons_zero, List.set_cons_succ, i64_w, i32_w]
            rfl
          refine pure_ (i := 8) (N := some 67) (v := ?_) (a' := ?_) #[true, true, true, true, true, false, true, true, true, false, false, false] rfl rfl (by kernel_rfl) (fun _ _ _ h => h) (Or.inl ⟨by rfl, ?_⟩) ?_ ?_
          rotate_left
          · intro w'
            go_simp
            with_reducible rfl
          rotate_left
          · simp only [Act.put, List.setIfInBounds_toArray, List.set_cons_zero, List.set_cons_succ, i64_w, i32_w]
            rfl
          refine pure_ (i := 9) (N := some 68) (v := ?_) (a' := ?_) #[true, true, true, true, true, false, true, true, true, true, false, false] rfl rfl (by kernel_rfl) (fun _ _ _ h => h) (Or.inl ⟨by rfl, ?_⟩) ?_ ?_
          rotate_left
          · intro w'
            go_simp
            with_reducible rfl
          rotate_left
          · simp only [Act.put, List.setIfInBounds_toArray, List.set_cons_zero, List.set_cons_succ, i64_w, i32_w]
            rfl
          refine take_ (i := 5) (N := some 64) (v := ?_) (a' := ?_) #[true, true, true, true, true, true, true, true, true, true, false, false] rfl rfl (by kernel_rfl) (fun _ _ _ h => h) (Or.inl ⟨by rfl, ?_⟩) hHeld ?_ ?_
          rotate_left
          · intro w' hS
            have c_ := (HCX.out _ (below_step HB.out hS)).1
            go_simp
            with_reducible rfl
          rotate_left
          · simp only [Act.put, List.setIfInBounds_toArray, List.set_cons_zero, List.set_cons_succ, i64_w, i32_w]
            rfl
          refine take_ (i := 10) (N := some 69) (v := ?_) (a' := ?_) #[true, true, true, true, true, true, true, true, true, true, true, false] rfl rfl (by kernel_rfl) (fun _ _ _ h => h) (Or.inl ⟨by rfl, ?_⟩) hHeld ?_ ?_
          rotate_left
          · intro w' hS
            have c_ := (HCX.out _ (below_step HB.out hS)).2
            go_simp
            with_reducible rfl
          rotate_left
          · simp only [Act.put, List.setIfInBounds_toArray, List.set_cons_zero, List.set_cons_succ, i64_w, i32_w]
            rfl
          refine last_ (i := 11) (N := some 70) #[true, true, true, true, true, true, true, true, true, true, true, true] rfl rfl (by kernel_rfl) (by simp) (fun K hK => ?_)
          have hb_ := hHeld
          have n0_ := Aside0.mk (below_step HB.out hb_); have n1_ := Aside0.mk (HR1.out.below hb_); have n2_ := Aside0.mk (HR2.out.below hb_); clear HB; clear HR1; clear HR2; have HB := n0_; have HR1 := n1_; have HR2 := n2_; clear n0_ n1_ n2_; clear hb_
          refine goes_ Try.func12 (by kernel_rfl) rfl #[.pointer (some ⟨b1, 0, none⟩), .int .i64 x, .int .i64 y] (by rfl) rfl rfl (by simp only [List.map_toArray, List.map_cons, List.map_nil]; rfl) ?_
          with_reducible refine (see_any b1 m1 _ _ x y _ HR1.out HI1.out.1.1 HI1.out.1.2 HI1.out.2.1 HI1.out.2.2).mono ?_
          rintro e w4 ⟨rfl, hn_, hg_⟩
          refine ⟨_, rfl, ?_⟩
          refine hK.out _ _ ?_
          clear hK K
          refine norm_ (a' := ?_) ?_ ?_
          rotate_left
          · show Act.put _ (some 70) _ = _
            simp only [Act.put, List.setIfInBounds_toArray, List.set_cons_zero, List.set_cons_succ, i64_w, i32_w]
            rfl
          have n0_ := Aside0.mk (HR1.out.from HB.out (below_size HB.out) hg_); have n1_ := Aside0.mk (HR2.out.other HR1.out (by omega) hg_); have n2_ := Aside0.mk (hn_); clear HB; clear HR2; clear HR1; have HB := n0_; have HR2 := n1_; have HR1 := n2_; clear n0_ n1_ n2_; clear hn_ hg_
          refine done_ (by kernel_rfl) ?_

          obtain ⟨m, HM⟩ : ∃ m, Aside0 (m + 1 = l1.length) := ⟨l1.length - 1, ⟨by omega⟩⟩
          obtain ⟨q, HQ⟩ : ∃ q, Aside0 (q + j = m) := ⟨m - j, ⟨by have := HM.out; omega⟩⟩
          have hq1 : IntKind.i64.wrap ((l1.length : Int) - 1) = (m : Int) := by have := HM.out; simp [IntKind.wrap, IntKind.bits, IntKind.signed]; omega
          have hq2 : IntKind.i64.wrap ((m : Int) - (j : Int)) = (q : Int) := by have := HQ.out; have := HM.out; simp [IntKind.wrap, IntKind.bits, IntKind.signed]; omega
          have hql : q < l1.length := by have := HQ.out; have := HM.out; omega
          have hqi : ((q : Int) < (l1.length : Int)) := by omega
          have HREV := Aside0.mk (show pt l1.reverse j = pt l1 q by rw [pt_reverse hlj]; congr 1; have := HQ.out; have := HM.out; omega)
          obtain ⟨x2, HX2⟩ : ∃ x, Aside0 ((pt l1 q).1 = x) := ⟨_, ⟨rfl⟩⟩
          obtain ⟨y2, HY2⟩ : ∃ x, Aside0 ((pt l1 q).2 = x) := ⟨_, ⟨rfl⟩⟩
          have HCX2 := Aside0.mk (show ∀ W : World, Below w.heap.size w W → W.cell? (ad.add (q * 2)) = some (.int .i64 x2) ∧ W.cell? ⟨(ad.add (q * 2)).block, (ad.add (q * 2)).off + 1, none⟩ = some (.int .i64 y2) from fun W hW => by
            obtain ⟨ad2, e2, h1, h2⟩ := at_seen (Kd.C_below HC.out hW) hql
            injection e2 with e2
            rw [e2, ← HX2.out, ← HY2.out]
            exact ⟨h1, h2⟩)
          have HI2 := Aside0.mk (HI.out _ (pt_mem hql))
          rw [HX2.out, HY2.out] at HI2
          go_wp2_with fail
          refine start_ (n := 20) (S := fun w' => Below w4.heap.size w4 w') (ds := [19]) #[false, false, false, false, false, false, false, false, false, false, false, false, false, false, false, false, false, false, false, false] (by kernel_rfl) rfl rfl (below_drew (Below.refl _ _)) (fun hHeld => ?_)
          refine pure_ (i := 0) (N := some 71) (v := ?_) (a' := ?_) #[true, false, false, false, false, false, false, false, false, false, false, false, false, false, false, false, false, false, false, false] rfl rfl (by kernel_rfl) (fun _ _ _ h => h) (Or.inl ⟨by rfl, ?_⟩) ?_ ?_
          rotate_left
          · intro w'
            go_simp
            with_reducible rfl
          rotate_left
          · simp only [Act.put, List.setIfInBounds_toArray, List.set_cons_zero, List.set_cons_succ, i64_w, i32_w]
            rfl
          refine pure_ (i := 1) (N := some 72) (v := ?_) (a' := ?_) #[true, true, false, false, false, false, false, false, false, false, false, false, false, false, false, false, false, false, false, false] rfl rfl (by kernel_rfl) (fun _ _ _ h => h) (Or.inl ⟨by rfl, ?_⟩) ?_ ?_
          rotate_left
          · intro w'
            go_simp
            with_reducible rfl
          rotate_left
          · simp only [Act.put, List.setIfInBounds_toArray, List.set_cons_zero, List.set_cons_succ, i64_w, i32_w]
            rfl
          refine pure_ (i := 2) (N := some 73) (v := ?_) (a' := ?_) #[true, true, true, false, false, false, false, false, false, false, false, false, false, false, false, false, false, false, false, false] rfl rfl (by kernel_rfl) (fun _ _ _ h => h) (Or.inl ⟨by rfl, ?_⟩) ?_ ?_
          rotate_left
          · intro w'
            go_simp
            with_reducible rfl
          rotate_left
          · simp only [Act.put, List.setIfInBounds_toArray, List.set_cons_zero, List.set_cons_succ, i64_w, i32_w]
            rfl
          refine pure_ (i := 3) (N := some 74) (v := ?_) (a' := ?_) #[true, true, true, true, false, false, false, false, false, false, false, false, false, false, false, false, false, false, false, false] rfl rfl (by kernel_rfl) (fun _ _ _ h => h) (Or.inl ⟨by rfl, ?_⟩) ?_ ?_
          rotate_left
          · intro w'
            go_simp
            with_reducible rfl
          rotate_left
          · simp only [Act.put, List.setIfInBounds_toArray, List.set_cons_zero, List.set_cons_succ, i64_w, i32_w]
            rfl
          refine pure_ (i := 4) (N := some 75) (v := ?_) (a' := ?_) #[true, true, true, true, true, false, false, false, false, false, false, false, false, false, false, false, false, false, false, false] rfl rfl (by kernel_rfl) (fun _ _ _ h => h) (Or.inl ⟨by rfl, ?_⟩) ?_ ?_
          rotate_left
          · intro w'
            go_simp
            with_reducible rfl
          rotate_left
          · simp only [Act.put, List.setIfInBounds_toArray, List.set_cons_zero, List.set_cons_succ, i64_w, i32_w]
            rfl
          refine pure_ (i := 5) (N := some 76) (v := ?_) (a' := ?_) #[true, true, true, true, true, true, false, false, false, false, false, false, false, false, false, false, false, false, false, false] rfl rfl (by kernel_rfl) (fun _ _ _ h => h) (Or.inl ⟨by rfl, ?_⟩) ?_ ?_
          rotate_left
          · intro w'
            go_simp
            with_reducible rfl
          rotate_left
          · simp only [Act.put, List.setIfInBounds_toArray, List.set_cons_zero, List.set_cons_succ, i64_w, i32_w]
            rfl
          refine pure_ (i := 6) (N := some 77) (v := ?_) (a' := ?_) #[true, true, true, true, true, true, true, false, false, false, false, false, false, false, false, false, false, false, false, false] rfl rfl (by kernel_rfl) (fun _ _ _ h => h) (Or.inl ⟨by rfl, ?_⟩) ?_ ?_
          rotate_left
          · intro w'
            go_simp
            with_reducible rfl
          rotate_left
          · simp only [Act.put, List.setIfInBounds_toArray, List.set_cons_zero, List.set_cons_succ, i64_w, i32_w]
            rfl
          refine pure_ (i := 7) (N := some 78) (v := ?_) (a' := ?_) #[true, true, true, true, true, true, true, true, false, false, false, false, false, false, false, false, false, false, false, false] rfl rfl (by kernel_rfl) (fun _ _ _ h => h) (Or.inl ⟨by rfl, ?_⟩) ?_ ?_
          rotate_left
          · intro w'
            go_simp
            with_reducible rfl
          rotate_left
          · simp only [Act.put, List.setIfInBounds_toArray, List.set_cons_zero, List.set_cons_succ, i64_w, i32_w]
            rfl
          refine pure_ (i := 8) (N := some 79) (v := ?_) (a' := ?_) #[true, true, true, true, true, true, true, true, true, false, false, false, false, false, false, false, false, false, false, false] rfl rfl (by kernel_rfl) (fun _ _ _ h => h) (Or.inl ⟨by rfl, ?_⟩) ?_ ?_
          rotate_left
          · intro w'
            go_simp
            with_reducible rfl
          rotate_left
          · simp only [Act.put, List.setIfInBounds_toArray, List.set_cons_zero, List.set_cons_succ, i64_w, i32_w]
            rfl
          refine pure_ (i := 10) (N := some 81) (v := ?_) (a' := ?_) #[true, true, true, true, true, true, true, true, true, false, true, false, false, false, false, false, false, false, false, false] rfl rfl (by kernel_rfl) (fun _ _ _ h => h) (Or.inl ⟨by rfl, ?_⟩) ?_ ?_
          rotate_left
          · intro w'
            go_simp
            with_reducible rfl
          rotate_left
          · simp only [Act.put, List.setIfInBounds_toArray, List.set_cons_zero, List.set_cons_succ, i64_w, i32_w]
            rfl
          refine pure_ (i := 11) (N := some 82) (v := ?_) (a' := ?_) #[true, true, true, true, true, true, true, true, true, false, true, true, false, false, false, false, false, false, false, false] rfl rfl (by kernel_rfl) (fun _ _ _ h => h) (Or.inl ⟨by rfl, ?_⟩) ?_ ?_
          rotate_left
          · intro w'
            go_simp
            with_reducible rfl
          rotate_left
          · simp only [Act.put, List.setIfInBounds_toArray, List.set_cons_zero, List.set_cons_succ, i64_w, i32_w]
            rfl
          refine pure_ (i := 12) (N := some 83) (v := ?_) (a' := ?_) #[true, true, true, true, true, true, true, true, true, false, true, true, true, false, false, false, false, false, false, false] rfl rfl (by kernel_rfl) (fun _ _ _ h => h) (Or.inl ⟨by rfl, ?_⟩) ?_ ?_
          rotate_left
          · intro w'
            go_simp
            with_reducible rfl
          rotate_left
          · simp only [Act.put, List.setIfInBounds_toArray, List.set_cons_zero, List.set_cons_succ, i64_w, i32_w]
            rfl
          refine pure_ (i := 13) (N := some 84) (v := ?_) (a' := ?_) #[true, true, true, true, true, true, true, true, true, false, true, true, true, true, false, false, false, false, false, false] rfl rfl (by kernel_rfl) (fun _ _ _ h => h) (Or.inl ⟨by rfl, ?_⟩) ?_ ?_
          rotate_left
          · intro w'
            go_simp
            with_reducible rfl
          rotate_left
          · simp only [Act.put, List.setIfInBounds_toArray, List.set_cons_zero, List.set_cons_succ, i64_w, i32_w]
            rfl
          refine pure_ (i := 14) (N := some 85) (v := ?_) (a' := ?_) #[true, true, true, true, true, true, true, true, true, false, true, true, true, true, true, false, false, false, false, false] rfl rfl (by kernel_rfl) (fun _ _ _ h => h) (Or.inl ⟨by rfl, ?_⟩) ?_ ?_
          rotate_left
          · intro w'
            go_simp
            with_reducible rfl
          rotate_left
          · simp only [Act.put, List.setIfInBounds_toArray, List.set_cons_zero, List.set_cons_succ, i64_w, i32_w]
            rfl
          refine pure_ (i := 15) (N := some 86) (v := ?_) (a' := ?_) #[true, true, true, true, true, true, true, true, true, false, true, true, true, true, true, true, false, false, false, false] rfl rfl (by kernel_rfl) (fun _ _ _ h => h) (Or.inl ⟨by rfl, ?_⟩) ?_ ?_
          rotate_left
          · intro w'
            go_simp
            with_reducible rfl
          rotate_left
          · simp only [Act.put, List.setIfInBounds_toArray, List.set_cons_zero, List.set_cons_succ, i64_w, i32_w]
            rfl
          refine pure_ (i := 16) (N := some 87) (v := ?_) (a' := ?_) #[true, true, true, true, true, true, true, true, true, false, true, true, true, true, true, true, true, false, false, false] rfl rfl (by kernel_rfl) (fun _ _ _ h => h) (Or.inl ⟨by rfl, ?_⟩) ?_ ?_
          rotate_left
          · intro w'
            go_simp
            with_reducible rfl
          rotate_left
          · simp only [Act.put, List.setIfInBounds_toArray, List.set_cons_zero, List.set_cons_succ, i64_w, i32_w]
            rfl
          refine pure_ (i := 17) (N := some 88) (v := ?_) (a' := ?_) #[true, true, true, true, true, true, true, true, true, false, true, true, true, true, true, true, true, true, false, false] rfl rfl (by kernel_rfl) (fun _ _ _ h => h) (Or.inl ⟨by rfl, ?_⟩) ?_ ?_
          rotate_left
          · intro w'
            go_simp
            with_reducible rfl
          rotate_left
          · simp only [Act.put, List.setIfInBounds_toArray, List.set_cons_zero, List.set_cons_succ, i64_w, i32_w]
            rfl
          refine take_ (i := 9) (N := some 80) (v := ?_) (a' := ?_) #[true, true, true, true, true, true, true, true, true, true, true, true, true, true, true, true, true, true, false, false] rfl rfl (by kernel_rfl) (fun _ _ _ h => h) (Or.inl ⟨by rfl, ?_⟩) hHeld ?_ ?_
          rotate_left
          · intro w' hS
            have c_ := (HCX2.out _ (below_step HB.out hS)).1
            go_simp
            with_reducible rfl
          rotate_left
          · simp only [Act.put, List.setIfInBounds_toArray, List.set_cons_zero, List.set_cons_succ, i64_w, i32_w]
            rfl
          refine take_ (i := 18) (N := some 89) (v := ?_) (a' := ?_) #[true, true, true, true, true, true, true, true, true, true, true, true, true, true, true, true, true, true, true, false] rfl rfl (by kernel_rfl) (fun _ _ _ h => h) (Or.inl ⟨by rfl, ?_⟩) hHeld ?_ ?_
          rotate_left
          · intro w' hS
            have c_ := (HCX2.out _ (below_step HB.out hS)).2
            go_simp
            with_reducible rfl
          rotate_left
          · simp only [Act.put, List.setIfInBounds_toArray, List.set_cons_zero, List.set_cons_succ, i64_w, i32_w]
            rfl
          refine last_ (i := 19) (N := some 90) #[true, true, true, true, true, true, true, true, true, true, true, true, true, true, true, true, true, true, true, true] rfl rfl (by kernel_rfl) (by simp) (fun K hK => ?_)
          have hb_ := hHeld
          have n0_ := Aside0.mk (below_step HB.out hb_); have n1_ := Aside0.mk (HR1.out.below hb_); have n2_ := Aside0.mk (HR2.out.below hb_); clear HB; clear HR1; clear HR2; have HB := n0_; have HR1 := n1_; have HR2 := n2_; clear n0_ n1_ n2_; clear hb_
          refine goes_ Try.func12 (by kernel_rfl) rfl #[.pointer (some ⟨b2, 0, none⟩), .int .i64 x2, .int .i64 y2] (by rfl) rfl rfl (by simp only [List.map_toArray, List.map_cons, List.map_nil]; rfl) ?_
          with_reducible refine (see_any b2 m2 _ _ x2 y2 _ HR2.out HI2.out.1.1 HI2.out.1.2 HI2.out.2.1 HI2.out.2.2).mono ?_
          rintro e w5 ⟨rfl, hn_, hg_⟩
          refine ⟨_, rfl, ?_⟩
          refine hK.out _ _ ?_
          clear hK K
          refine norm_ (a' := ?_) ?_ ?_
          rotate_left
          · show Act.put _ (some 90) _ = _
            simp only [Act.put, List.setIfInBounds_toArray, List.set_cons_zero, List.set_cons_succ, i64_w, i32_w]
            rfl
          have n0_ := Aside0.mk (HR2.out.from HB.out (below_size HB.out) hg_); have n1_ := Aside0.mk (HR1.out.other HR2.out (by omega) hg_); have n2_ := Aside0.mk (hn_); clear HB; clear HR1; clear HR2; have HB := n0_; have HR1 := n1_; have HR2 := n2_; clear n0_ n1_ n2_; clear hn_ hg_
          refine done_ (by kernel_rfl) ?_

          go_wp2_with fail
          go_roundw
          case rel => exact ⟨j + 1, by omega, by go_num, ⟨by rw [seeAll_take hlj, HX.out, HY.out]; exact HR1.out⟩, ⟨by rw [seeAll_take (by simpa using hlj), HREV.out, HX2.out, HY2.out]; exact HR2.out⟩, HB⟩
          case measure => simp [intOf]; omega
        · obtain rfl : j = l1.length := by omega
          rw [List.take_length] at HR1
          rw [show l1.reverse.take l1.length = l1.reverse by rw [← List.length_reverse, List.take_length], seeAll_reverse (by rw [← HL0.out]; exact good_steps (by omega : (0:Int) < 1) (by omega) hn0 (by omega))] at HR2
          obtain ⟨L, HL⟩ : ∃ L, Aside0 (seeAll L0 l1 = L) := ⟨_, ⟨rfl⟩⟩
          rw [HL.out] at HR1 HR2
          go_wp2_with fail
          go_loopw [14] (fun v14 wr => ∃ i : Nat, i ≤ k ∧ v14 = .int .i64 (i : Int) ∧ Aside0 (MkS wr w.heap.size b1 m1 L) ∧ Aside0 (MkS wr w.heap.size b2 m2 L) ∧ Aside0 (Below w.heap.size w wr)) (fun v14 _ => k - (intOf v14).toNat)
          case atStart => exact ⟨0, by omega, rfl, HR1, HR2, HB⟩
          case round =>
            clear HB HR1 HR2
            obtain ⟨i, hi, rfl, HR1, HR2, HB⟩ := hrel
            by_cases hli : i < k
            · have h1 : decide ((i : Int) < (k : Int)) = true := by simp; omega
              have h1b : decide (i < k) = true := by simp; omega
              obtain ⟨s, HS⟩ : ∃ s, Aside0 (seen L (i : Int) = s) := ⟨_, ⟨rfl⟩⟩
              go_wp2_with fail
              refine (seen_any b1 m1 _ _ _ _ HR1.out (by omega) (by omega)).mono ?_
              rintro e w6 ⟨he_, rfl⟩
              rw [HS.out] at he_
              subst he_
              go_wp2_with fail
              refine (seen_any b2 m2 _ _ _ _ HR2.out (by omega) (by omega)).mono ?_
              rintro e w6 ⟨he_, rfl⟩
              rw [HS.out] at he_
              subst he_
              go_wp2
              go_roundw
              case rel => exact ⟨i + 1, by omega, by go_num, HR1, HR2, HB⟩
              case measure => simp [intOf]; omega
            · obtain rfl : i = k := by omega
              obtain ⟨s, HS⟩ : ∃ s, Aside0 (mark L = s) := ⟨_, ⟨rfl⟩⟩
              go_wp2_with fail
              refine (mark_any b1 m1 _ _ _ HR1.out).mono ?_
              rintro e w6 ⟨he_, hb_⟩
              rw [HS.out] at he_
              subst he_
              have n0_ := Aside0.mk (below_step HB.out hb_); have n1_ := Aside0.mk (HR1.out.below hb_); have n2_ := Aside0.mk (HR2.out.below hb_); clear HB; clear HR1; clear HR2; have HB := n0_; have HR1 := n1_; have HR2 := n2_; clear n0_ n1_ n2_; clear hb_
              go_wp2_with fail
              refine (mark_any b2 m2 _ _ _ HR2.out).mono ?_
              rintro e w7 ⟨he_, hb_⟩
              rw [HS.out] at he_
              subst he_
              have n0_ := Aside0.mk (below_step HB.out hb_); have n1_ := Aside0.mk (HR1.out.below hb_); have n2_ := Aside0.mk (HR2.out.below hb_); clear HB; clear HR1; clear HR2; have HB := n0_; have HR1 := n1_; have HR2 := n2_; clear n0_ n1_ n2_; clear hb_
              go_wp2
              go_ret
              exact ⟨by simp, HB.out⟩
end Go.Proofs.Ytegfglmnlfkolaa.Mk
