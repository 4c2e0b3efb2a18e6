/- The statement KvLast. -/
import Derived.Test.YtlnpnlacalppjaaKvDeed
namespace Go.Proofs.Ytlnpnlacalppjaa.Kv
open Go Go.RowKit Go.Proofs.YtlnpnlacalppjaaW.PrintWords Go.Proofs.YtlnpnlacalppjaaW.PrintLast Go.Proofs.YtlnpnlacalppjaaW.PrintMore Go.Proofs.Ytlnpnlacalppjaa.Rw Go.Proofs.Ytlnpnlacalppjaa.Ex
set_option linter.unusedVariables false
set_option linter.unusedSimpArgs false
theorem at_key {w : World} {A : Option Addr} {n : Nat} {M : KL} (h : Kd.C k30 w A n (M.map chgOf)) {i : Nat} {p : Int × Int} (hp : M[i]? = some p) : ∃ ad, A = some ad ∧ w.cell? (ad.add (i * 5)) = some (.int .i64 p.1) := by
  have hlt := (List.getElem?_eq_some_iff.1 hp).1
  obtain ⟨ad, e, hc⟩ := h.2.2 (by have := h.1; rw [List.length_map] at this; omega)
  obtain ⟨c, hs, hk, hcell⟩ := hc i (chgOf p) (by rw [List.getElem?_map, hp]; rfl)
  have := k30_open hk
  subst this
  exact ⟨ad, e, hcell 0 _ rfl⟩
set_option maxHeartbeats 4000000 in
set_option maxRecDepth 100000 in
theorem last_ok (A0 : Option Addr) (c0 : Nat) (l : List Deed) (key val other : Int) (w : World) (hr0 : kDeed.C w A0 l.length l) (hc0 : l.length ≤ c0) (hN : l.length ≤ 9223372036854775807) (hi : ∀ d ∈ l, DOk d) (hk : In64 key) (hv : In64 val) (ho : In64 other) :
    Calls Try.prog 6 #[.slice A0 l.length c0, .int .i64 key, .int .i64 val, .int .i64 other] w fun e w' => e = .returned (.bool true) ∧ Below w.heap.size w w' := by
  have HCD := Aside0.mk hr0
  have HID := Aside0.mk hi
  have HK := Aside0.mk hk
  have HV := Aside0.mk hv
  clear hr0 hi hk hv ho
  have HB := Aside0.mk (Below.refl w.heap.size w)
  obtain ⟨n0, HN0⟩ : ∃ n, Aside0 (l.length = n) := ⟨_, ⟨rfl⟩⟩
  rw [HN0.out] at HCD hc0 hN ⊢
  go_enter Try.func6, Try.ntmps6
  go_wp2_with fail
  refine (shown_ok _).mono ?_
  rintro e w1 ⟨rfl, hb_⟩
  replace HB := Aside0.mk (below_step HB.out hb_)
  clear hb_
  go_wp2_with fail
  refine (new1 1024 w _ HB.out (by omega) (by omega)).mono ?_
  rintro e w2 ⟨b, rfl, hs_, _⟩
  have HS := Aside0.mk hs_
  clear hs_ HB
  go_wp2_with fail
  go_loopw [12] (fun v12 wr => ∃ (i : Nat) (L : KL), i ≤ n0 ∧ i ≤ 300 ∧ v12 = .int .i64 (i : Int) ∧ Aside0 (L.length ≤ i) ∧ Aside0 (St1 w wr b 1024 L)) (fun v12 _ => 300 - (intOf v12).toNat)
  case atStart => exact ⟨0, [], by omega, by omega, rfl, ⟨Nat.le_refl _⟩, HS⟩
  case round =>
    clear HS
    obtain ⟨i, L, hi, hi3, rfl, HLN, HS⟩ := hrel
    by_cases hlt : i < n0
    · have h1 : decide ((i : Int) < (n0 : Int)) = true := by simp; omega
      have h1b : decide (i < n0) = true := by simp; omega
      by_cases hl3 : i < 300
      · have h2 : decide ((i : Int) < 300) = true := by simp; omega
        have h2b : decide (i < 300) = true := by simp; omega
        obtain ⟨d, hd⟩ : ∃ d, l[i]? = some d := ⟨_, List.getElem?_eq_getElem (by rw [HN0.out]; omega)⟩
        obtain ⟨ad, rfl, _⟩ := at_deed (Kd.C_below HCD.out HS.out.bl) hd
        obtain ⟨x, HX⟩ : ∃ x, Aside0 (d.2.1 = x) := ⟨_, ⟨rfl⟩⟩
        obtain ⟨y, HY⟩ : ∃ x, Aside0 (d.2.2.1 = x) := ⟨_, ⟨rfl⟩⟩
        have HCX := Aside0.mk (show ∀ W : World, Below wr.heap.size wr W → W.cell? ⟨(ad.add (i * 8)).block, (ad.add (i * 8)).off + 1, none⟩ = some (.int .i64 x) ∧ W.cell? ⟨(ad.add (i * 8)).block, (ad.add (i * 8)).off + 2, none⟩ = some (.int .i64 y) from fun W hW => by
          obtain ⟨ad2, e2, _, h1, h2, _⟩ := at_deed (Kd.C_below HCD.out (below_step HS.out.bl hW)) hd
          injection e2 with e2
          rw [e2, ← HX.out, ← HY.out]
          exact ⟨h1, h2⟩)
        have HXI : Aside0 (In64 x ∧ In64 y) := ⟨by have := HID.out d (List.mem_of_getElem? hd); rw [← HX.out, ← HY.out]; exact ⟨this.key, this.val⟩⟩
        have HM : Aside0 (mayPut 1024 L x = true) := ⟨may_small (by have := HLN.out; omega) x⟩
        have HLE : Aside0 ((put L x y).length ≤ i + 1) := ⟨by have := len_put_le HS.out.kv.1 x y; have := HLN.out; omega⟩
        obtain ⟨L1, HL1⟩ : ∃ y_, Aside0 (put L x y = y_) := ⟨_, ⟨rfl⟩⟩
        clear hd
        go_wp2_with fail
        refine start_ (n := 12) (S := fun w' => Below wr.heap.size wr w') (ds := [11]) #[false, false, false, false, false, false, false, false, false, false, false, false] (by kernel_rfl) rfl rfl (below_drew (Below.refl _ _)) (fun hHeld => ?_)
        refine pure_ (i := 0) (N := some 50) (v := ?_) (a' := ?_) #[true, false, false, false, false, false, false, false, false, false, false, false] rfl rfl (by kernel_rfl) (fun _ _ _ h => h) (Or.inl ⟨by rfl, ?_⟩) ?_ ?_
        rotate_left
        · intro w'
          go_simp
          with_reducible rfl
        rotate_left
        · simp only [Act.put, List.setIfInBounds_toArray, List.set_cons_zero, List.set_cons_succ, i64_w, i32_w]
          rfl
        refine pure_ (i := 1) (N := some 51) (v := ?_) (a' := ?_) #[true, true, false, false, false, false, false, false, false, false, false, false] rfl rfl (by kernel_rfl) (fun _ _ _ h => h) (Or.inl ⟨by rfl, ?_⟩) ?_ ?_
        rotate_left
        · intro w'
          go_simp
          with_reducible rfl
        rotate_left
        · simp only [Act.put, List.setIfInBounds_toArray, List.set_cons_zero, List.set_cons_succ, i64_w, i32_w]
          rfl
        refine pure_ (i := 2) (N := some 52) (v := ?_) (a' := ?_) #[true, true, true, false, false, false, false, false, false, false, false, false] rfl rfl (by kernel_rfl) (fun _ _ _ h => h) (Or.inl ⟨by rfl, ?_⟩) ?_ ?_
        rotate_left
        · intro w'
          go_simp
          with_reducible rfl
        rotate_left
        · simp only [Act.put, List.setIfInBounds_toArray, List.set_cons_zero, List.set_cons_succ, i64_w, i32_w]
          rfl
        refine pure_ (i := 3) (N := some 53) (v := ?_) (a' := ?_) #[true, true, true, true, false, false, false, false, false, false, false, false] rfl rfl (by kernel_rfl) (fun _ _ _ h => h) (Or.inl ⟨by rfl, ?_⟩) ?_ ?_
        rotate_left
        · intro w'
          go_simp
          with_reducible rfl
        rotate_left
        · simp only [Act.put, List.setIfInBounds_toArray, List.set_cons_zero, List.set_cons_succ, i64_w, i32_w]
          rfl
        refine pure_ (i := 4) (N := some 54) (v := ?_) (a' := ?_) #[true, true, true, true, true, false, false, false, false, false, false, false] rfl rfl (by kernel_rfl) (fun _ _ _ h => h) (Or.inl ⟨by rfl, ?_⟩) ?_ ?_
        rotate_left
        · intro w'
          go_simp
          with_reducible rfl
        rotate_left
        · simp only [Act.put, List.setIfInBounds_toArray, List.set_cons_zero, List.set_cons_succ, i64_w, i32_w]
          rfl
        refine pure_ (i := 6) (N := some 56) (v := ?_) (a' := ?_) #[true, true, true, true, true, false, true, false, false, false, false, false] rfl rfl (by kernel_rfl) (fun _ _ _ h => h) (Or.inl ⟨by rfl, ?_⟩) ?_ ?_
        rotate_left
        · intro w'
          go_simp
          with_reducible rfl
        rotate_left
        · simp only [Act.put, List.setIfInBounds_toArray, List.set_cons_zero, List.set_cons_succ, i64_w, i32_w]
          rfl
        refine pure_ (i := 7) (N := some 57) (v := ?_) (a' := ?_) #[true, true, true, true, true, false, true, true, false, false, false, false] rfl rfl (by kernel_rfl) (fun _ _ _ h => h) (Or.inl ⟨by rfl, ?_⟩) ?_ ?_
        rotate_left
        · intro w'
          go_simp
          with_reducible rfl
        rotate_left
        · simp only [Act.put, List.setIfInBounds_toArray, List.set_cons_zero, List.set_cons_succ, i64_w, i32_w]
          rfl
        refine pure_ (i := 8) (N := some 58) (v := ?_) (a' := ?_) #[true, true, true, true, true, false, true, true, true, false, false, false] rfl rfl (by kernel_rfl) (fun _ _ _ h => h) (Or.inl ⟨by rfl, ?_⟩) ?_ ?_
        rotate_left
        · intro w'
          go_simp
          with_reducible rfl
        rotate_left
        · simp only [Act.put, List.setIfInBounds_toArray, List.set_cons_zero, List.set_cons_succ, i64_w, i32_w]
          rfl
        refine pure_ (i := 9) (N := some 59) (v := ?_) (a' := ?_) #[true, true, true, true, true, false, true, true, true, true, false, false] rfl rfl (by kernel_rfl) (fun _ _ _ h => h) (Or.inl ⟨by rfl, ?_⟩) ?_ ?_
        rotate_left
        · intro w'
          go_simp
          with_reducible rfl
        rotate_left
        · simp only [Act.put, List.setIfInBounds_toArray, List.set_cons_zero, List.set_cons_succ, i64_w, i32_w]
          rfl
        refine take_ (i := 5) (N := some 55) (v := ?_) (a' := ?_) #[true, true, true, true, true, true, true, true, true, true, false, false] rfl rfl (by kernel_rfl) (fun _ _ _ h => h) (Or.inl ⟨by rfl, ?_⟩) hHeld ?_ ?_
        rotate_left
        · intro w' hS
          have c_ := (HCX.out _ hS).1
          go_simp
          with_reducible rfl
        rotate_left
        · simp only [Act.put, List.setIfInBounds_toArray, List.set_cons_zero, List.set_cons_succ, i64_w, i32_w]
          rfl
        refine take_ (i := 10) (N := some 60) (v := ?_) (a' := ?_) #[true, true, true, true, true, true, true, true, true, true, true, false] rfl rfl (by kernel_rfl) (fun _ _ _ h => h) (Or.inl ⟨by rfl, ?_⟩) hHeld ?_ ?_
        rotate_left
        · intro w' hS
          have c_ := (HCX.out _ hS).2
          go_simp
          with_reducible rfl
        rotate_left
        · simp only [Act.put, List.setIfInBounds_toArray, List.set_cons_zero, List.set_cons_succ, i64_w, i32_w]
          rfl
        refine last_ (i := 11) (N := some 61) #[true, true, true, true, true, true, true, true, true, true, true, true] rfl rfl (by kernel_rfl) (by simp) (fun K hK => ?_)
        replace HS := Aside0.mk (HS.out.below hHeld)
        refine goes_ Try.func11 (by kernel_rfl) rfl #[.pointer (some ⟨b, 0, none⟩), .int .i64 x, .int .i64 y] (by rfl) rfl rfl (by simp only [List.map_toArray, List.map_cons, List.map_nil]; rfl) ?_
        with_reducible refine (HS.out.put x y HXI.out.1 HXI.out.2 HM.out).mono ?_
        rintro e w5 ⟨rfl, hs_⟩
        refine ⟨_, rfl, ?_⟩
        refine hK.out _ _ ?_
        clear hK K
        refine norm_ (a' := ?_) ?_ ?_
        rotate_left
        · show Act.put _ (some 61) _ = _
          simp only [Act.put, List.setIfInBounds_toArray, List.set_cons_zero, List.set_cons_succ, i64_w, i32_w]
          rfl
        replace HS := Aside0.mk hs_
        clear hs_
        refine done_ (by kernel_rfl) ?_

        go_wp2_with fail
        go_roundw
        case rel => exact ⟨i + 1, _, by omega, by omega, by go_num, HLE, HS⟩
        case measure => simp [intOf]; omega
      · have h2 : decide ((i : Int) < 300) = false := by simp; omega
        have h2b : decide (i < 300) = false := by simp; omega
        clear hlt hl3
        go_wp2_with fail
        refine (HS.out.get other).mono ?_
        rintro e w5 ⟨rfl, hs_, _⟩
        replace HS := Aside0.mk hs_
        clear hs_
        obtain ⟨a, HA⟩ : ∃ a, Aside0 ((get L other).getD 0 = a) := ⟨_, ⟨rfl⟩⟩
        obtain ⟨q, HQ⟩ : ∃ a, Aside0 ((get L other).isSome = a) := ⟨_, ⟨rfl⟩⟩
        rw [HA.out, HQ.out]
        obtain ⟨M, HLM⟩ : ∃ M, Aside0 (put L key val = M) := ⟨_, ⟨rfl⟩⟩
        have HRI := Aside0.mk HS.out.kv.1
        have HGK := Aside0.mk (get_put_same HRI.out key val)
        have HRM := Aside0.mk (HRI.out.put key val)
        rw [HLM.out] at HGK HRM
        have HMP : Aside0 (mayPut 1024 L key = true) := ⟨may_small (by have := HLN.out; omega) key⟩
        go_wp2_with fail
        refine ((HS.out.below (by repeat (first | exact Below.refl _ _ | apply below_alloc | (refine below_set ?_ (Nat.le_refl _))))).put key val HK.out HV.out HMP.out).mono ?_
        rintro e w6 ⟨rfl, hs_⟩
        rw [HLM.out] at hs_
        replace HS := Aside0.mk hs_
        clear hs_
        go_wp2_with fail
        refine ((HS.out.below (by repeat (first | exact Below.refl _ _ | apply below_alloc | (refine below_set ?_ (Nat.le_refl _))))).get key).mono ?_
        rintro e w7 ⟨he_, hs_, _⟩
        rw [HGK.out] at he_
        simp only [Option.getD_some, Option.isSome_some] at he_
        subst he_
        replace HS := Aside0.mk hs_
        clear hs_
        obtain ⟨c, HC⟩ : ∃ a, Aside0 ((get M other).getD 0 = a) := ⟨_, ⟨rfl⟩⟩
        obtain ⟨d, HD⟩ : ∃ a, Aside0 ((get M other).isSome = a) := ⟨_, ⟨rfl⟩⟩
        go_wp2_with fail
        refine ((HS.out.below (by repeat (first | exact Below.refl _ _ | apply below_alloc | (refine below_set ?_ (Nat.le_refl _))))).get other).mono ?_
        rintro e w8 ⟨he_, hs_, _⟩
        rw [HC.out, HD.out] at he_
        subst he_
        replace HS := Aside0.mk hs_
        clear hs_
        have hne : (key != other) = false ∨ ((key != other) = true ∧ c = a ∧ d = q) := by
          by_cases e : key = other
          · exact .inl (by simpa using e)
          · refine .inr ⟨by simpa using e, ?_, ?_⟩
            · rw [← HC.out, ← HA.out, ← HLM.out, get_put_other HRI.out (Ne.symm e)]
            · rw [← HD.out, ← HQ.out, ← HLM.out, get_put_other HRI.out (Ne.symm e)]
        have ha1 : (a != a) = false := by simp
        have ha2 : (q != q) = false := by simp
        have ha3 : (val != val) = false := by simp
        obtain ⟨n, HN⟩ : ∃ n, Aside0 (M.length = n) := ⟨_, ⟨rfl⟩⟩
        have HN0 : Aside0 (0 < n) := ⟨by rw [← HN.out, ← HLM.out]; cases hm : put L key val with | nil => have := HGK.out; rw [← HLM.out, hm] at this; cases this | cons a b => simp⟩
        have hn1 : n ≤ 1024 := by rw [← HN.out]; exact HS.out.kv.2.2
        have hn0 := HN0.out
        rcases hne with hne | ⟨hne, rfl, rfl⟩
        · skip
          go_wp2_with fail
          refine ((HS.out.below (by repeat (first | exact Below.refl _ _ | apply below_alloc | (refine below_set ?_ (Nat.le_refl _))))).list).mono ?_
          rintro e w9 ⟨v0, rfl, hr_, hb_⟩
          replace HS := Aside0.mk (HS.out.below (below_step (by repeat (first | exact Below.refl _ _ | apply below_alloc | (refine below_set ?_ (Nat.le_refl _)))) hb_))
          obtain ⟨A9, c9, rfl⟩ := Kd.R_slice hr_
          have HR := Aside0.mk (Kd.R_reads' hr_).2.2
          rw [chg_len, HN.out] at HR ⊢
          clear hr_ hb_
          go_wp2_with fail
          go_loopw [22] (fun v22 wr => ∃ i : Nat, i < n ∧ v22 = .int .i64 ((i + 1 : Nat) : Int) ∧ Aside0 (Below w9.heap.size w9 wr)) (fun v22 _ => n - (intOf v22).toNat)
          case atStart => exact ⟨0, hn0, rfl, ⟨Below.refl _ _⟩⟩
          case round =>
            obtain ⟨i, hi, rfl, HB9⟩ := hrel
            by_cases hlt : i + 1 < n
            · have h1 : decide (((i + 1 : Nat) : Int) < (n : Int)) = true := by simp; omega
              have h1b : decide (i + 1 < n) = true := by simp; omega
              obtain ⟨p, hp⟩ : ∃ p, M[i]? = some p := ⟨_, List.getElem?_eq_getElem (by rw [HN.out]; omega)⟩
              obtain ⟨p2, hp2⟩ : ∃ p, M[i + 1]? = some p := ⟨_, List.getElem?_eq_getElem (by rw [HN.out]; omega)⟩
              have hle : decide (p2.1 ≤ p.1) = false := by have := HRM.out.lt hp hp2; simp; omega
              obtain ⟨ad, rfl, x1⟩ := at_key (Kd.C_below HR.out HB9.out) hp
              obtain ⟨ad2, e2, x2⟩ := at_key (Kd.C_below HR.out HB9.out) hp2
              injection e2 with e2
              subst e2
              have hw1 : IntKind.i64.wrap (((i + 1 : Nat) : Int) - 1) = (i : Int) := by rw [IntKind.wrap_i64]; omega
              have hw2 : ((i + 1 : Nat) : Int) - 1 = (i : Int) := by omega
              have hi1 : (0 : Int) ≤ ((i + 1 : Nat) : Int) := by omega
              have hi2 : ((i + 1 : Nat) : Int) < (n : Int) := by omega
              have hi3 : (i : Int) < (n : Int) := by omega
              have htn : (((i + 1 : Nat) : Int)).toNat = i + 1 := by omega
              generalize p.1 = y1 at *
              generalize p2.1 = y2 at *
              clear hp hp2
              go_wp2_with fail
              go_quiet (fail)
              go_wp2_with fail
              go_roundw
              case rel => exact ⟨i + 1, by omega, by go_num, ⟨below_step HB9.out (pw_below_drewN (Below.refl _ _) _)⟩⟩
              case measure => simp [intOf]; omega
            · obtain rfl : n = i + 1 := by omega
              clear hlt
              have HS2 := Aside0.mk (HS.out.below HB9.out)
              obtain ⟨M2, HM2⟩ : ∃ M2, Aside0 (del M key = M2) := ⟨_, ⟨rfl⟩⟩
              have HG2 := Aside0.mk (get_del_same HRM.out key)
              rw [HM2.out] at HG2
              have HL2 := Aside0.mk (len_del_has HRM.out HGK.out)
              rw [HM2.out, HN.out] at HL2
              go_wp2_with fail
              refine ((HS2.out.below (by repeat (first | exact Below.refl _ _ | apply below_alloc | (refine below_set ?_ (Nat.le_refl _))))).del key (by rw [HGK.out]; rfl)).mono ?_
              rintro e w11 ⟨rfl, hs_⟩
              rw [HM2.out] at hs_
              replace HS2 := Aside0.mk hs_
              clear hs_
              go_wp2_with fail
              refine ((HS2.out.below (by repeat (first | exact Below.refl _ _ | apply below_alloc | (refine below_set ?_ (Nat.le_refl _))))).get key).mono ?_
              rintro e w12 ⟨he_, hs_, _⟩
              rw [HG2.out] at he_
              simp only [Option.getD_none, Option.isSome_none] at he_
              subst he_
              replace HS2 := Aside0.mk hs_
              clear hs_
              go_wp2_with fail
              refine ((HS2.out.below (by repeat (first | exact Below.refl _ _ | apply below_alloc | (refine below_set ?_ (Nat.le_refl _))))).delN key HG2.out).mono ?_
              rintro e w13 ⟨rfl, hs_⟩
              replace HS2 := Aside0.mk hs_
              clear hs_
              obtain ⟨m, HMM⟩ : ∃ m, Aside0 (M2.length = m) := ⟨_, ⟨rfl⟩⟩
              obtain rfl : m = i := by have := HL2.out; have := HMM.out; omega
              have hmn : ((m + 1 : Nat) : Int) - 1 = (m : Int) := by omega
              have hmw : IntKind.i64.wrap (((m + 1 : Nat) : Int) - 1) = (m : Int) := by rw [IntKind.wrap_i64]; omega
              go_wp2_with fail
              refine ((HS2.out.below (by repeat (first | exact Below.refl _ _ | apply below_alloc | (refine below_set ?_ (Nat.le_refl _))))).len).mono ?_
              rintro e w14 ⟨rfl, hw_⟩
              rw [HMM.out]
              subst hw_
              go_wp2_with fail
              go_ret
              exact ⟨rfl, below_step HS2.out.bl (by repeat (first | exact Below.refl _ _ | apply below_alloc | (refine below_set ?_ (Nat.le_refl _))))⟩
        · skip
          go_wp2_with fail
          refine ((HS.out.below (by repeat (first | exact Below.refl _ _ | apply below_alloc | (refine below_set ?_ (Nat.le_refl _))))).list).mono ?_
          rintro e w9 ⟨v0, rfl, hr_, hb_⟩
          replace HS := Aside0.mk (HS.out.below (below_step (by repeat (first | exact Below.refl _ _ | apply below_alloc | (refine below_set ?_ (Nat.le_refl _)))) hb_))
          obtain ⟨A9, c9, rfl⟩ := Kd.R_slice hr_
          have HR := Aside0.mk (Kd.R_reads' hr_).2.2
          rw [chg_len, HN.out] at HR ⊢
          clear hr_ hb_
          go_wp2_with fail
          go_loopw [22] (fun v22 wr => ∃ i : Nat, i < n ∧ v22 = .int .i64 ((i + 1 : Nat) : Int) ∧ Aside0 (Below w9.heap.size w9 wr)) (fun v22 _ => n - (intOf v22).toNat)
          case atStart => exact ⟨0, hn0, rfl, ⟨Below.refl _ _⟩⟩
          case round =>
            obtain ⟨i, hi, rfl, HB9⟩ := hrel
            by_cases hlt : i + 1 < n
            · have h1 : decide (((i + 1 : Nat) : Int) < (n : Int)) = true := by simp; omega
              have h1b : decide (i + 1 < n) = true := by simp; omega
              obtain ⟨p, hp⟩ : ∃ p, M[i]? = some p := ⟨_, List.getElem?_eq_getElem (by rw [HN.out]; omega)⟩
              obtain ⟨p2, hp2⟩ : ∃ p, M[i + 1]? = some p := ⟨_, List.getElem?_eq_getElem (by rw [HN.out]; omega)⟩
              have hle : decide (p2.1 ≤ p.1) = false := by have := HRM.out.lt hp hp2; simp; omega
              obtain ⟨ad, rfl, x1⟩ := at_key (Kd.C_below HR.out HB9.out) hp
              obtain ⟨ad2, e2, x2⟩ := at_key (Kd.C_below HR.out HB9.out) hp2
              injection e2 with e2
              subst e2
              have hw1 : IntKind.i64.wrap (((i + 1 : Nat) : Int) - 1) = (i : Int) := by rw [IntKind.wrap_i64]; omega
              have hw2 : ((i + 1 : Nat) : Int) - 1 = (i : Int) := by omega
              have hi1 : (0 : Int) ≤ ((i + 1 : Nat) : Int) := by omega
              have hi2 : ((i + 1 : Nat) : Int) < (n : Int) := by omega
              have hi3 : (i : Int) < (n : Int) := by omega
              have htn : (((i + 1 : Nat) : Int)).toNat = i + 1 := by omega
              generalize p.1 = y1 at *
              generalize p2.1 = y2 at *
              clear hp hp2
              go_wp2_with fail
              go_quiet (fail)
              go_wp2_with fail
              go_roundw
              case rel => exact ⟨i + 1, by omega, by go_num, ⟨below_step HB9.out (pw_below_drewN (Below.refl _ _) _)⟩⟩
              case measure => simp [intOf]; omega
            · obtain rfl : n = i + 1 := by omega
              clear hlt
              have HS2 := Aside0.mk (HS.out.below HB9.out)
              obtain ⟨M2, HM2⟩ : ∃ M2, Aside0 (del M key = M2) := ⟨_, ⟨rfl⟩⟩
              have HG2 := Aside0.mk (get_del_same HRM.out key)
              rw [HM2.out] at HG2
              have HL2 := Aside0.mk (len_del_has HRM.out HGK.out)
              rw [HM2.out, HN.out] at HL2
              go_wp2_with fail
              refine ((HS2.out.below (by repeat (first | exact Below.refl _ _ | apply below_alloc | (refine below_set ?_ (Nat.le_refl _))))).del key (by rw [HGK.out]; rfl)).mono ?_
              rintro e w11 ⟨rfl, hs_⟩
              rw [HM2.out] at hs_
              replace HS2 := Aside0.mk hs_
              clear hs_
              go_wp2_with fail
              refine ((HS2.out.below (by repeat (first | exact Below.refl _ _ | apply below_alloc | (refine below_set ?_ (Nat.le_refl _))))).get key).mono ?_
              rintro e w12 ⟨he_, hs_, _⟩
              rw [HG2.out] at he_
              simp only [Option.getD_none, Option.isSome_none] at he_
              subst he_
              replace HS2 := Aside0.mk hs_
              clear hs_
              go_wp2_with fail
              refine ((HS2.out.below (by repeat (first | exact Below.refl _ _ | apply below_alloc | (refine below_set ?_ (Nat.le_refl _))))).delN key HG2.out).mono ?_
              rintro e w13 ⟨rfl, hs_⟩
              replace HS2 := Aside0.mk hs_
              clear hs_
              obtain ⟨m, HMM⟩ : ∃ m, Aside0 (M2.length = m) := ⟨_, ⟨rfl⟩⟩
              obtain rfl : m = i := by have := HL2.out; have := HMM.out; omega
              have hmn : ((m + 1 : Nat) : Int) - 1 = (m : Int) := by omega
              have hmw : IntKind.i64.wrap (((m + 1 : Nat) : Int) - 1) = (m : Int) := by rw [IntKind.wrap_i64]; omega
              go_wp2_with fail
              refine ((HS2.out.below (by repeat (first | exact Below.refl _ _ | apply below_alloc | (refine below_set ?_ (Nat.le_refl _))))).len).mono ?_
              rintro e w14 ⟨rfl, hw_⟩
              rw [HMM.out]
              subst hw_
              go_wp2_with fail
              go_ret
              exact ⟨rfl, below_step HS2.out.bl (by repeat (first | exact Below.refl _ _ | apply below_alloc | (refine below_set ?_ (Nat.le_refl _))))⟩
    · obtain rfl : i = n0 := by omega
      clear hlt
      go_wp2_with fail
      refine (HS.out.get other).mono ?_
      rintro e w5 ⟨rfl, hs_, _⟩
      replace HS := Aside0.mk hs_
      clear hs_
      obtain ⟨a, HA⟩ : ∃ a, Aside0 ((get L other).getD 0 = a) := ⟨_, ⟨rfl⟩⟩
      obtain ⟨q, HQ⟩ : ∃ a, Aside0 ((get L other).isSome = a) := ⟨_, ⟨rfl⟩⟩
      rw [HA.out, HQ.out]
      obtain ⟨M, HLM⟩ : ∃ M, Aside0 (put L key val = M) := ⟨_, ⟨rfl⟩⟩
      have HRI := Aside0.mk HS.out.kv.1
      have HGK := Aside0.mk (get_put_same HRI.out key val)
      have HRM := Aside0.mk (HRI.out.put key val)
      rw [HLM.out] at HGK HRM
      have HMP : Aside0 (mayPut 1024 L key = true) := ⟨may_small (by have := HLN.out; omega) key⟩
      go_wp2_with fail
      refine ((HS.out.below (by repeat (first | exact Below.refl _ _ | apply below_alloc | (refine below_set ?_ (Nat.le_refl _))))).put key val HK.out HV.out HMP.out).mono ?_
      rintro e w6 ⟨rfl, hs_⟩
      rw [HLM.out] at hs_
      replace HS := Aside0.mk hs_
      clear hs_
      go_wp2_with fail
      refine ((HS.out.below (by repeat (first | exact Below.refl _ _ | apply below_alloc | (refine below_set ?_ (Nat.le_refl _))))).get key).mono ?_
      rintro e w7 ⟨he_, hs_, _⟩
      rw [HGK.out] at he_
      simp only [Option.getD_some, Option.isSome_some] at he_
      subst he_
      replace HS := Aside0.mk hs_
      clear hs_
      obtain ⟨c, HC⟩ : ∃ a, Aside0 ((get M other).getD 0 = a) := ⟨_, ⟨rfl⟩⟩
      obtain ⟨d, HD⟩ : ∃ a, Aside0 ((get M other).isSome = a) := ⟨_, ⟨rfl⟩⟩
      go_wp2_with fail
      refine ((HS.out.below (by repeat (first | exact Below.refl _ _ | apply below_alloc | (refine below_set ?_ (Nat.le_refl _))))).get other).mono ?_
      rintro e w8 ⟨he_, hs_, _⟩
      rw [HC.out, HD.out] at he_
      subst he_
      replace HS := Aside0.mk hs_
      clear hs_
      have hne : (key != other) = false ∨ ((key != other) = true ∧ c = a ∧ d = q) := by
        by_cases e : key = other
        · exact .inl (by simpa using e)
        · refine .inr ⟨by simpa using e, ?_, ?_⟩
          · rw [← HC.out, ← HA.out, ← HLM.out, get_put_other HRI.out (Ne.symm e)]
          · rw [← HD.out, ← HQ.out, ← HLM.out, get_put_other HRI.out (Ne.symm e)]
      have ha1 : (a != a) = false := by simp
      have ha2 : (q != q) = false := by simp
      have ha3 : (val != val) = false := by simp
      obtain ⟨n, HN⟩ : ∃ n, Aside0 (M.length = n) := ⟨_, ⟨rfl⟩⟩
      have HN0 : Aside0 (0 < n) := ⟨by rw [← HN.out, ← HLM.out]; cases hm : put L key val with | nil => have := HGK.out; rw [← HLM.out, hm] at this; cases this | cons a b => simp⟩
      have hn1 : n ≤ 1024 := by rw [← HN.out]; exact HS.out.kv.2.2
      have hn0 := HN0.out
      rcases hne with hne | ⟨hne, rfl, rfl⟩
      · skip
        go_wp2_with fail
        refine ((HS.out.below (by repeat (first | exact Below.refl _ _ | apply below_alloc | (refine below_set ?_ (Nat.le_refl _))))).list).mono ?_
        rintro e w9 ⟨v0, rfl, hr_, hb_⟩
        replace HS := Aside0.mk (HS.out.below (below_step (by repeat (first | exact Below.refl _ _ | apply below_alloc | (refine below_set ?_ (Nat.le_refl _)))) hb_))
        obtain ⟨A9, c9, rfl⟩ := Kd.R_slice hr_
        have HR := Aside0.mk (Kd.R_reads' hr_).2.2
        rw [chg_len, HN.out] at HR ⊢
        clear hr_ hb_
        go_wp2_with fail
        go_loopw [22] (fun v22 wr => ∃ i : Nat, i < n ∧ v22 = .int .i64 ((i + 1 : Nat) : Int) ∧ Aside0 (Below w9.heap.size w9 wr)) (fun v22 _ => n - (intOf v22).toNat)
        case atStart => exact ⟨0, hn0, rfl, ⟨Below.refl _ _⟩⟩
        case round =>
          obtain ⟨i, hi, rfl, HB9⟩ := hrel
          by_cases hlt : i + 1 < n
          · have h1 : decide (((i + 1 : Nat) : Int) < (n : Int)) = true := by simp; omega
            have h1b : decide (i + 1 < n) = true := by simp; omega
            obtain ⟨p, hp⟩ : ∃ p, M[i]? = some p := ⟨_, List.getElem?_eq_getElem (by rw [HN.out]; omega)⟩
            obtain ⟨p2, hp2⟩ : ∃ p, M[i + 1]? = some p := ⟨_, List.getElem?_eq_getElem (by rw [HN.out]; omega)⟩
            have hle : decide (p2.1 ≤ p.1) = false := by have := HRM.out.lt hp hp2; simp; omega
            obtain ⟨ad, rfl, x1⟩ := at_key (Kd.C_below HR.out HB9.out) hp
            obtain ⟨ad2, e2, x2⟩ := at_key (Kd.C_below HR.out HB9.out) hp2
            injection e2 with e2
            subst e2
            have hw1 : IntKind.i64.wrap (((i + 1 : Nat) : Int) - 1) = (i : Int) := by rw [IntKind.wrap_i64]; omega
            have hw2 : ((i + 1 : Nat) : Int) - 1 = (i : Int) := by omega
            have hi1 : (0 : Int) ≤ ((i + 1 : Nat) : Int) := by omega
            have hi2 : ((i + 1 : Nat) : Int) < (n : Int) := by omega
            have hi3 : (i : Int) < (n : Int) := by omega
            have htn : (((i + 1 : Nat) : Int)).toNat = i + 1 := by omega
            generalize p.1 = y1 at *
            generalize p2.1 = y2 at *
            clear hp hp2
            go_wp2_with fail
            go_quiet (fail)
            go_wp2_with fail
            go_roundw
            case rel => exact ⟨i + 1, by omega, by go_num, ⟨below_step HB9.out (pw_below_drewN (Below.refl _ _) _)⟩⟩
            case measure => simp [intOf]; omega
          · obtain rfl : n = i + 1 := by omega
            clear hlt
            have HS2 := Aside0.mk (HS.out.below HB9.out)
            obtain ⟨M2, HM2⟩ : ∃ M2, Aside0 (del M key = M2) := ⟨_, ⟨rfl⟩⟩
            have HG2 := Aside0.mk (get_del_same HRM.out key)
            rw [HM2.out] at HG2
            have HL2 := Aside0.mk (len_del_has HRM.out HGK.out)
            rw [HM2.out, HN.out] at HL2
            go_wp2_with fail
            refine ((HS2.out.below (by repeat (first | exact Below.refl _ _ | apply below_alloc | (refine below_set ?_ (Nat.le_refl _))))).del key (by rw [HGK.out]; rfl)).mono ?_
            rintro e w11 ⟨rfl, hs_⟩
            rw [HM2.out] at hs_
            replace HS2 := Aside0.mk hs_
            clear hs_
            go_wp2_with fail
            refine ((HS2.out.below (by repeat (first | exact Below.refl _ _ | apply below_alloc | (refine below_set ?_ (Nat.le_refl _))))).get key).mono ?_
            rintro e w12 ⟨he_, hs_, _⟩
            rw [HG2.out] at he_
            simp only [Option.getD_none, Option.isSome_none] at he_
            subst he_
            replace HS2 := Aside0.mk hs_
            clear hs_
            go_wp2_with fail
            refine ((HS2.out.below (by repeat (first | exact Below.refl _ _ | apply below_alloc | (refine below_set ?_ (Nat.le_refl _))))).delN key HG2.out).mono ?_
            rintro e w13 ⟨rfl, hs_⟩
            replace HS2 := Aside0.mk hs_
            clear hs_
            obtain ⟨m, HMM⟩ : ∃ m, Aside0 (M2.length = m) := ⟨_, ⟨rfl⟩⟩
            obtain rfl : m = i := by have := HL2.out; have := HMM.out; omega
            have hmn : ((m + 1 : Nat) : Int) - 1 = (m : Int) := by omega
            have hmw : IntKind.i64.wrap (((m + 1 : Nat) : Int) - 1) = (m : Int) := by rw [IntKind.wrap_i64]; omega
            go_wp2_with fail
            refine ((HS2.out.below (by repeat (first | exact Below.refl _ _ | apply below_alloc | (refine below_set ?_ (Nat.le_refl _))))).len).mono ?_
            rintro e w14 ⟨rfl, hw_⟩
            rw [HMM.out]
            subst hw_
            go_wp2_with fail
            go_ret
            exact ⟨rfl, below_step HS2.out.bl (by repeat (first | exact Below.refl _ _ | apply below_alloc | (refine below_set ?_ (Nat.le_refl _))))⟩
      · skip
        go_wp2_with fail
        refine ((HS.out.below (by repeat (first | exact Below.refl _ _ | apply below_alloc | (refine below_set ?_ (Nat.le_refl _))))).list).mono ?_
        rintro e w9 ⟨v0, rfl, hr_, hb_⟩
        replace HS := Aside0.mk (HS.out.below (below_step (by repeat (first | exact Below.refl _ _ | apply below_alloc | (refine below_set ?_ (Nat.le_refl _)))) hb_))
        obtain ⟨A9, c9, rfl⟩ := Kd.R_slice hr_
        have HR := Aside0.mk (Kd.R_reads' hr_).2.2
        rw [chg_len, HN.out] at HR ⊢
        clear hr_ hb_
        go_wp2_with fail
        go_loopw [22] (fun v22 wr => ∃ i : Nat, i < n ∧ v22 = .int .i64 ((i + 1 : Nat) : Int) ∧ Aside0 (Below w9.heap.size w9 wr)) (fun v22 _ => n - (intOf v22).toNat)
        case atStart => exact ⟨0, hn0, rfl, ⟨Below.refl _ _⟩⟩
        case round =>
          obtain ⟨i, hi, rfl, HB9⟩ := hrel
          by_cases hlt : i + 1 < n
          · have h1 : decide (((i + 1 : Nat) : Int) < (n : Int)) = true := by simp; omega
            have h1b : decide (i + 1 < n) = true := by simp; omega
            obtain ⟨p, hp⟩ : ∃ p, M[i]? = some p := ⟨_, List.getElem?_eq_getElem (by rw [HN.out]; omega)⟩
            obtain ⟨p2, hp2⟩ : ∃ p, M[i + 1]? = some p := ⟨_, List.getElem?_eq_getElem (by rw [HN.out]; omega)⟩
            have hle : decide (p2.1 ≤ p.1) = false := by have := HRM.out.lt hp hp2; simp; omega
            obtain ⟨ad, rfl, x1⟩ := at_key (Kd.C_below HR.out HB9.out) hp
            obtain ⟨ad2, e2, x2⟩ := at_key (Kd.C_below HR.out HB9.out) hp2
            injection e2 with e2
            subst e2
            have hw1 : IntKind.i64.wrap (((i + 1 : Nat) : Int) - 1) = (i : Int) := by rw [IntKind.wrap_i64]; omega
            have hw2 : ((i + 1 : Nat) : Int) - 1 = (i : Int) := by omega
            have hi1 : (0 : Int) ≤ ((i + 1 : Nat) : Int) := by omega
            have hi2 : ((i + 1 : Nat) : Int) < (n : Int) := by omega
            have hi3 : (i : Int) < (n : Int) := by omega
            have htn : (((i + 1 : Nat) : Int)).toNat = i + 1 := by omega
            generalize p.1 = y1 at *
            generalize p2.1 = y2 at *
            clear hp hp2
            go_wp2_with fail
            go_quiet (fail)
            go_wp2_with fail
            go_roundw
            case rel => exact ⟨i + 1, by omega, by go_num, ⟨below_step HB9.out (pw_below_drewN (Below.refl _ _) _)⟩⟩
            case measure => simp [intOf]; omega
          · obtain rfl : n = i + 1 := by omega
            clear hlt
            have HS2 := Aside0.mk (HS.out.below HB9.out)
            obtain ⟨M2, HM2⟩ : ∃ M2, Aside0 (del M key = M2) := ⟨_, ⟨rfl⟩⟩
            have HG2 := Aside0.mk (get_del_same HRM.out key)
            rw [HM2.out] at HG2
            have HL2 := Aside0.mk (len_del_has HRM.out HGK.out)
            rw [HM2.out, HN.out] at HL2
            go_wp2_with fail
            refine ((HS2.out.below (by repeat (first | exact Below.refl _ _ | apply below_alloc | (refine below_set ?_ (Nat.le_refl _))))).del key (by rw [HGK.out]; rfl)).mono ?_
            rintro e w11 ⟨rfl, hs_⟩
            rw [HM2.out] at hs_
            replace HS2 := Aside0.mk hs_
            clear hs_
            go_wp2_with fail
            refine ((HS2.out.below (by repeat (first | exact Below.refl _ _ | apply below_alloc | (refine below_set ?_ (Nat.le_refl _))))).get key).mono ?_
            rintro e w12 ⟨he_, hs_, _⟩
            rw [HG2.out] at he_
            simp only [Option.getD_none, Option.isSome_none] at he_
            subst he_
            replace HS2 := Aside0.mk hs_
            clear hs_
            go_wp2_with fail
            refine ((HS2.out.below (by repeat (first | exact Below.refl _ _ | apply below_alloc | (refine below_set ?_ (Nat.le_refl _))))).delN key HG2.out).mono ?_
            rintro e w13 ⟨rfl, hs_⟩
            replace HS2 := Aside0.mk hs_
            clear hs_
            obtain ⟨m, HMM⟩ : ∃ m, Aside0 (M2.length = m) := ⟨_, ⟨rfl⟩⟩
            obtain rfl : m = i := by have := HL2.out; have := HMM.out; omega
            have hmn : ((m + 1 : Nat) : Int) - 1 = (m : Int) := by omega
            have hmw : IntKind.i64.wrap (((m + 1 : Nat) : Int) - 1) = (m : Int) := by rw [IntKind.wrap_i64]; omega
            go_wp2_with fail
            refine ((HS2.out.below (by repeat (first | exact Below.refl _ _ | apply below_alloc | (refine below_set ?_ (Nat.le_refl _))))).len).mono ?_
            rintro e w14 ⟨rfl, hw_⟩
            rw [HMM.out]
            subst hw_
            go_wp2_with fail
            go_ret
            exact ⟨rfl, below_step HS2.out.bl (by repeat (first | exact Below.refl _ _ | apply below_alloc | (refine below_set ?_ (Nat.le_refl _))))⟩
end Go.Proofs.Ytlnpnlacalppjaa.Kv
