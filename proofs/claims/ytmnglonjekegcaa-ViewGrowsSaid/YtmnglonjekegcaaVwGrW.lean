/- (c11) ViewGrows' body. -/
import Derived.Test.YtmnglonjekegcaaVwEn
namespace Go.Proofs.Ytmnglonjekegcaa.Vw
open Go Go.RowKit Go.Maps Go.Proofs.Ytmnglonjekegcaa.Mk Go.Proofs.Ytmnglonjekegcaa.Rp Go.Proofs.YtmnglonjekegcaaW.PrintWords Go.Proofs.YtmnglonjekegcaaW.PrintLast Go.Proofs.YtmnglonjekegcaaW.PrintMore Go.Proofs.Ytmnglonjekegcaa.Rw Go.Proofs.Ytmnglonjekegcaa.Ow Go.Proofs.Ytmnglonjekegcaa.Mono
set_option linter.unusedVariables false
set_option linter.unusedSimpArgs false
set_option maxRecDepth 100000
theorem take_C {α : Type} {d : Kd α} {w : World} {A : Option Addr} {n : Nat} {xs ys : List α} (h : Kd.C d w A n (xs ++ ys)) : Kd.C d w A xs.length xs := by
  obtain ⟨h1, h2, h3⟩ := h
  rw [List.length_append] at h1
  refine ⟨rfl, by omega, fun h0 => ?_⟩
  obtain ⟨ad, e, he⟩ := h3 (by omega)
  refine ⟨ad, e, fun j p hj => he j p ?_⟩
  rw [List.getElem?_append_left (List.getElem?_eq_some_iff.1 hj).1]
  exact hj
theorem told_sizes (l m : List S47) (hl : l.length ≤ 200) (hm : m.length ≤ 200) {L1 L2 : List S36} {T1 T2 : List S41} {p1 p2 q1 q2 : Nat} (h1 : (readV l).f0 = L1) (h2 : (readV l).f1 = T1) (h3 : (readV (l ++ m)).f0 = L2) (h4 : (readV (l ++ m)).f1 = T2) (e1 : L1.length = p1) (e2 : T1.length = p2) (e3 : L2.length = q1) (e4 : T2.length = q2) :
    p1 ≤ 100000 ∧ p2 ≤ 100000 ∧ q1 ≤ 1000000 ∧ q2 ≤ 1000000 := by
  have k1 : ∀ l : List S47, (readV l).f0.length ≤ l.length * l.length := fun l => by
    have := (StInv.through l).bl.1
    have e := congrArg List.length (told_keys l)
    rw [List.length_map] at e
    unfold sortI at e
    rw [List.length_mergeSort, List.length_map] at e
    omega
  have k2 : ∀ l : List S47, (readV l).f1.length ≤ l.length := fun l => by
    have := (StInv.through l).tl
    have e := congrArg List.length (told_keysT l)
    rw [List.length_map] at e
    unfold sortI at e
    rw [List.length_mergeSort, List.length_map] at e
    omega
  have a1 := k1 l
  have a2 := k2 l
  have a3 := k1 (l ++ m)
  have a4 := k2 (l ++ m)
  have hlm : (l ++ m).length ≤ 400 := by rw [List.length_append]; omega
  have b1 := Nat.mul_le_mul hl hl
  have b2 := Nat.mul_le_mul hlm hlm
  rw [h1] at a1
  rw [h2] at a2
  rw [h3] at a3
  rw [h4] at a4
  omega
set_option maxHeartbeats 4000000 in
theorem grows_ok (A A' : Option Addr) (n c n' c' : Nat) (l m : List S47) (w : World) (hC : Kd.C k47 w A n l) (hnc : n ≤ c) (hC' : Kd.C k47 w A' n' m) (hnc' : n' ≤ c') : Calls Try.prog 4 #[.slice A n c, .slice A' n' c'] w fun e w' => e = .returned (.bool true) ∧ Below w.heap.size w w' := by
  have HC := Aside0.mk (few_C hC)
  have HC' := Aside0.mk (few_C hC')
  have HNC := Aside0.mk (And.intro hnc hnc')
  clear hC hC'
  obtain ⟨l1, HL1⟩ : ∃ x, Aside0 (l.take 200 = x) := ⟨_, ⟨rfl⟩⟩
  obtain ⟨m1, HM1⟩ : ∃ x, Aside0 (m.take 200 = x) := ⟨_, ⟨rfl⟩⟩
  rw [HL1.out] at HC
  rw [HM1.out] at HC'
  have HLn := Aside0.mk HC.out.1
  have HMn := Aside0.mk HC'.out.1
  go_enter Try.func4, Try.ntmps4
  go_wp2_with fail
  refine (shown_ok w).mono ?_
  rintro e_ w1 ⟨rfl, hb_⟩
  have HB := Aside0.mk hb_
  clear hb_
  go_wp2_with fail
  refine (few_ok A n c w1 hnc).mono ?_
  rintro e_ w1_ ⟨rfl, rfl⟩
  go_wp2_with fail
  refine (few_ok A' n' c' w1_ hnc').mono ?_
  rintro e_ w2_ ⟨rfl, rfl⟩
  obtain ⟨n1, HN1⟩ : ∃ x, Aside0 (min n 200 = x) := ⟨_, ⟨rfl⟩⟩
  obtain ⟨m2, HM2⟩ : ∃ x, Aside0 (min n' 200 = x) := ⟨_, ⟨rfl⟩⟩
  have hn1 : n1 ≤ 200 ∧ n1 ≤ c := by have := HN1.out; omega
  have hm2 : m2 ≤ 200 ∧ m2 ≤ c' := by have := HM2.out; omega
  rw [HN1.out] at HC HLn ⊢
  rw [HM2.out] at HC' HMn ⊢
  clear hnc hnc' HN1 HM2 HNC
  go_wp2_with fail
  refine (read_ok A n1 c l1 w2_ (Kd.C_below HC.out HB.out) (by omega) hn1.2).mono ?_
  rintro e_ w3 ⟨A1, c1, A2, c2, rfl, hb_, q1_, g1_, q2_, g2_⟩
  rw [HLn.out]
  obtain ⟨L1, HLL⟩ : ∃ x, Aside0 ((readV l1).f0 = x) := ⟨_, ⟨rfl⟩⟩
  obtain ⟨T1, HTT⟩ : ∃ x, Aside0 ((readV l1).f1 = x) := ⟨_, ⟨rfl⟩⟩
  rw [HLL.out] at q1_ g1_ ⊢
  rw [HTT.out] at q2_ g2_ ⊢
  obtain ⟨p1, HP1⟩ : ∃ x, Aside0 (L1.length = x) := ⟨_, ⟨rfl⟩⟩
  obtain ⟨p2, HP2⟩ : ∃ x, Aside0 (T1.length = x) := ⟨_, ⟨rfl⟩⟩
  rw [HP1.out] at q1_ g1_ ⊢
  rw [HP2.out] at q2_ g2_ ⊢
  have HG1 := Aside0.mk (And.intro g1_ q1_)
  have HG2 := Aside0.mk (And.intro g2_ q2_)
  replace HB := Aside0.mk (below_step HB.out hb_)
  clear hb_ q1_ g1_ q2_ g2_
  go_upto_region 5 with fail
  have HOA := Aside0.mk (heap_alloc_new w3 (.cells #[.slice A1 p1 c1, .slice A2 p2 c2, .int .i64 (n1 : Int)] 29))
  have hb_ := below_alloc (Below.refl w3.heap.size w3) (.cells #[.slice A1 p1 c1, .slice A2 p2 c2, .int .i64 (n1 : Int)] 29)
  have hs_ : (w3.alloc (.cells #[.slice A1 p1 c1, .slice A2 p2 c2, .int .i64 (n1 : Int)] 29)).heap.size = w3.heap.size + 1 := by simp
  generalize w3.alloc (.cells #[.slice A1 p1 c1, .slice A2 p2 c2, .int .i64 (n1 : Int)] 29) = w4 at HOA hb_ hs_ ⊢
  replace HB := Aside0.mk (below_step HB.out hb_)
  replace HG1 := Aside0.mk (And.intro (Kd.C_below HG1.out.1 hb_) HG1.out.2)
  replace HG2 := Aside0.mk (And.intro (Kd.C_below HG2.out.1 hb_) HG2.out.2)
  clear hb_
  clear hs_
  obtain ⟨ga, Hga⟩ : ∃ g, Aside0 (w3.heap.size = g) := ⟨_, ⟨rfl⟩⟩
  rw [Hga.out] at HOA ⊢
  obtain ⟨v1, wa, hr1_, he1_, hb1_, hs1_, B1, d1, rfl⟩ := (EO.lit w w4 (Nat.le_refl w4.heap.size)).app (below_alloc HB.out _) (by simp) A n1 c HC.out (by simp; omega) 22 rfl
  simp only [List.length_nil, Nat.zero_add, List.nil_append] at hr1_ he1_
  have hb4 := hb1_ _ w4 (Nat.le_refl _) (below_alloc (Below.refl w4.heap.size w4) _)
  obtain ⟨v2, wb, hr2_, he2_, hb2_, hs2_, B2, d2, rfl⟩ := he1_.app (below_step HB.out hb4) hs1_ A' m2 c' HC'.out (by rw [HLn.out]; omega) 22 rfl
  rw [HLn.out] at hr2_ he2_
  have hb5 := hb2_ _ w4 (Nat.le_refl _) hb4
  obtain ⟨B3, d3, hv2, hbd, hdm, hbc⟩ := he2_.C (below_step HB.out hb5)
  have hln : (l1 ++ m1).length = n1 + m2 := by rw [List.length_append, HLn.out, HMn.out]
  rw [hln] at hbc hbd hv2
  obtain ⟨rfl, rfl⟩ : B2 = B3 ∧ d2 = d3 := by injection hv2 with e1 _ e2; exact ⟨e1, e2⟩
  have HBC := Aside0.mk hbc
  have HBD := Aside0.mk (And.intro hbd hdm)
  have HR1 := Aside0.mk hr1_
  have HR2 := Aside0.mk hr2_
  replace HB := Aside0.mk (below_step HB.out hb5)
  replace HOA := Aside0.mk (blk_below HOA.out hb5)
  replace HG1 := Aside0.mk (And.intro (Kd.C_below HG1.out.1 hb5) HG1.out.2)
  replace HG2 := Aside0.mk (And.intro (Kd.C_below HG2.out.1 hb5) HG2.out.2)
  clear hr1_ he1_ hb1_ hs1_ hr2_ he2_ hb2_ hs2_ hb4 hb5 hv2 hbd hdm hbc
  go_wp2_with (at_builtin; first | refine wpList_append_eq _ rfl (.tmp 20) (.tmp 21) 22 22 rfl _ _ rfl rfl HR1.out ?_ | refine wpList_append_eq _ rfl (.tmp 22) (.tmp 23) 22 22 rfl _ _ rfl rfl HR2.out ?_)
  refine (read_ok B2 (n1 + m2) d2 (l1 ++ m1) wb HBC.out (by omega) HBD.out.1).mono ?_
  rintro e_ w5 ⟨C1, e1, C2, e2, rfl, hb_, q1_, g1_, q2_, g2_⟩
  rw [hln]
  obtain ⟨L2, HL2⟩ : ∃ x, Aside0 ((readV (l1 ++ m1)).f0 = x) := ⟨_, ⟨rfl⟩⟩
  obtain ⟨T2, HT2⟩ : ∃ x, Aside0 ((readV (l1 ++ m1)).f1 = x) := ⟨_, ⟨rfl⟩⟩
  rw [HL2.out] at q1_ g1_ ⊢
  rw [HT2.out] at q2_ g2_ ⊢
  obtain ⟨q1, HQ1⟩ : ∃ x, Aside0 (L2.length = x) := ⟨_, ⟨rfl⟩⟩
  obtain ⟨q2, HQ2⟩ : ∃ x, Aside0 (T2.length = x) := ⟨_, ⟨rfl⟩⟩
  rw [HQ1.out] at q1_ g1_ ⊢
  rw [HQ2.out] at q2_ g2_ ⊢
  replace HB := Aside0.mk (below_step HB.out hb_)
  replace HOA := Aside0.mk (blk_below HOA.out hb_)
  replace HG1 := Aside0.mk (And.intro (Kd.C_below HG1.out.1 hb_) HG1.out.2)
  replace HG2 := Aside0.mk (And.intro (Kd.C_below HG2.out.1 hb_) HG2.out.2)
  have HH1 := Aside0.mk (And.intro g1_ q1_)
  have HH2 := Aside0.mk (And.intro g2_ q2_)
  clear hb_ q1_ g1_ q2_ g2_ HR1 HR2 HBC HBD
  go_upto_region 6 with fail
  have HOB := Aside0.mk (heap_alloc_new w5 (.cells #[.slice C1 q1 e1, .slice C2 q2 e2, .int .i64 ((n1 : Int) + (m2 : Int))] 29))
  have hb_ := below_alloc (Below.refl w5.heap.size w5) (.cells #[.slice C1 q1 e1, .slice C2 q2 e2, .int .i64 ((n1 : Int) + (m2 : Int))] 29)
  have hs_ : (w5.alloc (.cells #[.slice C1 q1 e1, .slice C2 q2 e2, .int .i64 ((n1 : Int) + (m2 : Int))] 29)).heap.size = w5.heap.size + 1 := by simp
  generalize w5.alloc (.cells #[.slice C1 q1 e1, .slice C2 q2 e2, .int .i64 ((n1 : Int) + (m2 : Int))] 29) = w6 at HOB hb_ hs_ ⊢
  replace HOA := Aside0.mk (blk_below HOA.out hb_)
  replace HB := Aside0.mk (below_step HB.out hb_)
  replace HG1 := Aside0.mk (And.intro (Kd.C_below HG1.out.1 hb_) HG1.out.2)
  replace HG2 := Aside0.mk (And.intro (Kd.C_below HG2.out.1 hb_) HG2.out.2)
  replace HH1 := Aside0.mk (And.intro (Kd.C_below HH1.out.1 hb_) HH1.out.2)
  replace HH2 := Aside0.mk (And.intro (Kd.C_below HH2.out.1 hb_) HH2.out.2)
  clear hb_
  clear hs_
  obtain ⟨gb, Hgb⟩ : ∃ g, Aside0 (w5.heap.size = g) := ⟨_, ⟨rfl⟩⟩
  rw [Hgb.out] at HOB ⊢
  have HBND : Aside0 (∀ x ∈ L1, x.f1.length ≤ 100000) := ⟨fun x hx => by
    rw [← HLL.out] at hx
    have h1 := ((StInv.through l1).bl.2 x (told_logs.1 hx)).1
    have h2 := Nat.mul_le_mul (show l1.length ≤ 200 by rw [HLn.out]; omega) (show l1.length ≤ 200 by rw [HLn.out]; omega)
    omega⟩
  have HSZ : Aside0 (p1 ≤ 100000 ∧ p2 ≤ 100000 ∧ q1 ≤ 1000000 ∧ q2 ≤ 1000000) := ⟨told_sizes l1 m1 (by rw [HLn.out]; omega) (by rw [HMn.out]; omega) HLL.out HTT.out HL2.out HT2.out HP1.out HP2.out HQ1.out HQ2.out⟩
  have hq1 := HSZ.out.2.2.1
  have hq2 := HSZ.out.2.2.2
  have hp1 := HSZ.out.1
  have hp2 := HSZ.out.2.1
  go_wp2_with fail
  go_loopw [8] (fun v8 wr => ∃ i : Nat, i ≤ p1 ∧ v8 = .int .i64 (i : Int) ∧ Aside0 (Below w6.heap.size w6 wr)) (fun v8 _ => p1 - (intOf v8).toNat)
  case atStart => exact ⟨0, Nat.zero_le _, rfl, ⟨Below.refl _ _⟩⟩
  case round =>
    obtain ⟨i, hi, rfl, HB2⟩ := hrel
    have HOAr := Aside0.mk (blk_below HOA.out HB2.out)
    have HOBr := Aside0.mk (blk_below HOB.out HB2.out)
    have HH1r := Aside0.mk (Kd.C_below HH1.out.1 HB2.out)
    have a0_ := (blk_cell HOAr.out 0).trans (rfl : _ = some (.slice A1 p1 c1 : Value))
    by_cases hlt : i < p1
    · have h1 : decide ((i : Int) < (p1 : Int)) = true := by simp; omega
      have h1b : decide (i < p1) = true := by simp; omega
      obtain ⟨x, hx⟩ : ∃ x, L1[i]? = some x := ⟨_, List.getElem?_eq_getElem (by rw [HP1.out]; exact hlt)⟩
      obtain ⟨ad, X1, dx1, X2, dx2, rfl, hcells⟩ := at_T36 HG1.out.1 (i : Int) (Int.natCast_nonneg _) (Int.ofNat_lt.2 hlt)
      have hrd : rd_T36 L1 (i : Int) = x := by
        unfold rd_T36
        rw [Int.toNat_natCast, List.getD_eq_getElem?_getD, hx]
        rfl
      rw [hrd] at hcells
      obtain ⟨x0_, x1_, x2_, lx1, gx1, lx2, gx2⟩ := hcells
      replace x0_ := pw_cell_below HB2.out x0_
      replace x1_ := pw_cell_below HB2.out x1_
      rw [Int.toNat_natCast] at x0_ x1_
      have HX0 := Aside0.mk x0_
      have hmem : x ∈ (readV l1).f0 := by rw [HLL.out]; exact List.mem_of_getElem? hx
      have hbx := HBND.out x (List.mem_of_getElem? hx)
      obtain ⟨r, hr⟩ := grows_log (m := m1) hmem
      rw [HL2.out] at hr
      have HGR := Aside0.mk hr
      have HXC := Aside0.mk (And.intro lx1 (Kd.C_below gx1 HB2.out))
      clear hx hrd hmem hr lx1 gx1 lx2 gx2 x2_
      go_upto_region 10 with fail
      clear x0_ x1_ a0_
      refine start_ (n := 10) (S := fun w' => Below wr.heap.size wr w') (ds := []) #[false, false, false, false, false, false, false, false, false, false] (by kernel_rfl) rfl rfl (below_drew (Below.refl _ _)) (fun hHeld => ?_)
      refine pure_ (i := 1) (N := some 40) (v := ?_) (a' := ?_) #[false, true, false, false, false, false, false, false, false, false] rfl rfl (by kernel_rfl) (fun _ _ _ h => h) (Or.inl ⟨by rfl, ?_⟩) ?_ ?_
      rotate_left
      · intro w'
        go_simp
        with_reducible rfl
      rotate_left
      · simp only [Act.put, List.setIfInBounds_toArray, List.set_cons_zero, List.set_cons_succ, i64_w, i32_w]
        rfl
      refine pure_ (i := 3) (N := some 42) (v := ?_) (a' := ?_) #[false, true, false, true, false, false, false, false, false, false] rfl rfl (by kernel_rfl) (fun _ _ _ h => h) (Or.inl ⟨by rfl, ?_⟩) ?_ ?_
      rotate_left
      · intro w'
        go_simp
        with_reducible rfl
      rotate_left
      · simp only [Act.put, List.setIfInBounds_toArray, List.set_cons_zero, List.set_cons_succ, i64_w, i32_w]
        rfl
      refine take_ (i := 0) (N := some 39) (v := ?_) (a' := ?_) #[true, true, false, true, false, false, false, false, false, false] rfl rfl (by kernel_rfl) (fun _ _ _ h => h) (Or.inl ⟨by rfl, ?_⟩) hHeld ?_ ?_
      rotate_left
      · intro w' hS
        have b0_ := (blk_cell (blk_below HOBr.out hS) 0).trans (rfl : _ = some (.slice C1 q1 e1 : Value))
        have b1_ := (blk_cell (blk_below HOBr.out hS) 1).trans (rfl : _ = some (.slice C2 q2 e2 : Value))
        have b2_ := (blk_cell (blk_below HOBr.out hS) 2).trans (rfl : _ = some (.int .i64 ((n1 : Int) + (m2 : Int)) : Value))
        go_simp
        with_reducible rfl
      rotate_left
      · simp only [Act.put, List.setIfInBounds_toArray, List.set_cons_zero, List.set_cons_succ, i64_w, i32_w]
        rfl
      refine take_ (i := 2) (N := some 41) (v := ?_) (a' := ?_) #[true, true, true, true, false, false, false, false, false, false] rfl rfl (by kernel_rfl) (fun _ _ _ h => h) (Or.inl ⟨by rfl, ?_⟩) hHeld ?_ ?_
      rotate_left
      · intro w' hS
        have c_ := (blk_cell (blk_below HOAr.out hS) 0).trans (rfl : _ = some (.slice (some ad) p1 c1 : Value))
        go_simp
        with_reducible rfl
      rotate_left
      · simp only [Act.put, List.setIfInBounds_toArray, List.set_cons_zero, List.set_cons_succ, i64_w, i32_w]
        rfl
      refine pure_ (i := 4) (N := some 43) (v := ?_) (a' := ?_) #[true, true, true, true, true, false, false, false, false, false] rfl rfl (by kernel_rfl) (fun _ _ _ h => h) (Or.inl ⟨by rfl, ?_⟩) ?_ ?_
      rotate_left
      · intro w'
        go_simp
        with_reducible rfl
      rotate_left
      · simp only [Act.put, List.setIfInBounds_toArray, List.set_cons_zero, List.set_cons_succ, i64_w, i32_w]
        rfl
      refine pure_ (i := 5) (N := some 44) (v := ?_) (a' := ?_) #[true, true, true, true, true, true, false, false, false, false] rfl rfl (by kernel_rfl) (fun _ _ _ h => h) (Or.inl ⟨by rfl, ?_⟩) ?_ ?_
      rotate_left
      · intro w'
        go_simp
        with_reducible rfl
      rotate_left
      · simp only [Act.put, List.setIfInBounds_toArray, List.set_cons_zero, List.set_cons_succ, i64_w, i32_w]
        rfl
      refine take_ (i := 6) (N := some 45) (v := ?_) (a' := ?_) #[true, true, true, true, true, true, true, false, false, false] rfl rfl (by kernel_rfl) (fun _ _ _ h => h) (Or.inl ⟨by rfl, ?_⟩) hHeld ?_ ?_
      rotate_left
      · intro w' hS
        have k_ := pw_cell_below hS HX0.out
        go_simp
        with_reducible rfl
      rotate_left
      · simp only [Act.put, List.setIfInBounds_toArray, List.set_cons_zero, List.set_cons_succ, i64_w, i32_w]
        rfl
      refine one_ (i := 7) (N := some 46) #[true, true, true, true, true, true, true, true, false, false] rfl rfl (by kernel_rfl) (by simp) (fun K hK => ?_)
      refine goes_ Try.func16 (by kernel_rfl) rfl #[.agg #[.slice C1 q1 e1, .slice C2 q2 e2, .int .i64 ((n1 : Int) + (m2 : Int))], .int .i64 x.f0] (by rfl) rfl rfl (by simp only [List.map_toArray, List.map_cons, List.map_nil]; rfl) ?_
      with_reducible refine (log_ok C1 C2 q1 e1 q2 e2 _ x.f0 L2 _ (Kd.C_below HH1r.out hHeld) (by omega) HH1.out.2).mono ?_
      rintro e_ w7 ⟨Y1, dy1, Y2, dy2, rfl, hb_, hy1_, gy1_, hy2_, gy2_⟩
      refine ⟨_, rfl, ?_⟩
      replace hb_ := below_step hHeld hb_
      refine hK.out _ _ hb_ (fun _ => ?_)
      clear hK K
      refine norm_ (a' := ?_) ?_ ?_
      rotate_left
      · show Act.put _ (some 46) _ = _
        simp only [Act.put, List.setIfInBounds_toArray, List.set_cons_zero, List.set_cons_succ, i64_w, i32_w]
        rfl
      have HBY := Aside0.mk hb_
      have HY1 := Aside0.mk (And.intro hy1_ gy1_)
      clear hy1_ gy1_ hy2_ gy2_
      obtain ⟨y, HY⟩ : ∃ y, Aside0 (getLV L2 x.f0 = y) := ⟨_, ⟨rfl⟩⟩
      rw [HY.out] at HY1 ⊢
      replace hHeld := hb_
      clear hb_
      refine pure_ (i := 8) (N := some 47) (v := ?_) (a' := ?_) #[true, true, true, true, true, true, true, true, true, false] rfl rfl (by kernel_rfl) (fun _ _ _ h => h) (Or.inl ⟨by rfl, ?_⟩) ?_ ?_
      rotate_left
      · intro w'
        have fr_ := field_recs y.f0 Y1 Y2 y.f1.length dy1 y.f2.length dy2 w'
        go_simp
        with_reducible rfl
      rotate_left
      · simp only [Act.put, List.setIfInBounds_toArray, List.set_cons_zero, List.set_cons_succ, i64_w, i32_w]
        rfl
      refine pure_ (i := 9) (N := some 10) (v := ?_) (a' := ?_) #[true, true, true, true, true, true, true, true, true, true] rfl rfl (by kernel_rfl) (fun _ _ _ h => h) (Or.inl ⟨by rfl, ?_⟩) ?_ ?_
      rotate_left
      · intro w'
        go_simp
        with_reducible rfl
      rotate_left
      · simp only [Act.put, List.setIfInBounds_toArray, List.set_cons_zero, List.set_cons_succ, i64_w, i32_w]
        rfl
      refine done_ (by kernel_rfl) ?_

      have HB3 := Aside0.mk (below_step HB2.out hHeld)
      replace HXC := Aside0.mk (And.intro HXC.out.1 (Kd.C_below HXC.out.2 hHeld))
      rw [HY.out] at HGR
      have hyl : y.f1.length = x.f1.length + r.length := by rw [HGR.out, List.length_append]
      have hyc := HY1.out.1
      have hlb : decide ((y.f1.length : Int) < (x.f1.length : Int)) = false := decide_eq_false (by omega)
      have hlb2 : decide (y.f1.length < x.f1.length) = false := decide_eq_false (by omega)
      have hx0 : (0 : Int) ≤ (x.f1.length : Int) := Int.natCast_nonneg _
      have hxd : (x.f1.length : Int) ≤ (dy1 : Int) := by omega
      have hxd2 : x.f1.length ≤ dy1 := by omega
      have HYC : Aside0 (Kd.C k45 w7 Y1 x.f1.length x.f1) := ⟨by have h := HY1.out.2; rw [HGR.out] at h; exact take_C h⟩
      clear hHeld
      go_wp2_with fail
      refine (tidemillref11_Recs.calls (x.f1.length + 1) Y1 dy1 x.f1 X1 dx1 x.f1 true w7 HYC.out hxd2 HXC.out.2 HXC.out.1 (recs_same x.f1 hbx)).mono ?_
      rintro e_ w8 ⟨rfl, hd_⟩
      have HB4 := Aside0.mk (below_step HB3.out hd_.below)
      clear hd_
      go_wp2_with fail
      go_roundw
      case rel => exact ⟨i + 1, by omega, by go_num, HB4⟩
      case measure => simp [intOf]; omega
    · obtain rfl : p1 = i := by omega
      have h1b : decide (p1 < p1) = false := by simp
      go_wp2_with fail
      clear a0_ HH1r HOBr HOAr
      go_loopw [11] (fun v11 wr => ∃ j : Nat, j ≤ p2 ∧ v11 = .int .i64 (j : Int) ∧ Aside0 (Below w6.heap.size w6 wr)) (fun v11 _ => p2 - (intOf v11).toNat)
      case atStart => exact ⟨0, Nat.zero_le _, rfl, HB2⟩
      case round =>
        clear HB2
        obtain ⟨j, hj, rfl, HB2⟩ := hrel
        have HOAr := Aside0.mk (blk_below HOA.out HB2.out)
        have HOBr := Aside0.mk (blk_below HOB.out HB2.out)
        have HH2r := Aside0.mk (Kd.C_below HH2.out.1 HB2.out)
        have a1_ := (blk_cell HOAr.out 1).trans (rfl : _ = some (.slice A2 p2 c2 : Value))
        by_cases hlt : j < p2
        · have h1 : decide ((j : Int) < (p2 : Int)) = true := by simp; omega
          have h1b : decide (j < p2) = true := by simp; omega
          obtain ⟨x, hx⟩ : ∃ x, T1[j]? = some x := ⟨_, List.getElem?_eq_getElem (by rw [HP2.out]; exact hlt)⟩
          obtain ⟨ad, X3, dx3, X4, dx4, rfl, hcells⟩ := at_T41 HG2.out.1 (j : Int) (Int.natCast_nonneg _) (Int.ofNat_lt.2 hlt)
          have hrd : rd_T41 T1 (j : Int) = x := by
            unfold rd_T41
            rw [Int.toNat_natCast, List.getD_eq_getElem?_getD, hx]
            rfl
          rw [hrd] at hcells
          obtain ⟨x0_, x1_, x2_, x3_, x4_, x5_, _, _, _, _⟩ := hcells
          replace x0_ := pw_cell_below HB2.out x0_
          rw [Int.toNat_natCast] at x0_ x1_ x2_ x4_
          have HX0 := Aside0.mk x0_
          have HXA := Aside0.mk (And.intro x1_ (And.intro x2_ x4_))
          have hmem : x ∈ (readV l1).f1 := by rw [HTT.out]; exact List.mem_of_getElem? hx
          have hgr := grows_task (m := m1) hmem
          rw [HT2.out] at hgr
          obtain ⟨y, HY⟩ : ∃ y, Aside0 (getTV T2 x.f0 = y) := ⟨_, ⟨rfl⟩⟩
          rw [HY.out] at hgr
          have HGR := Aside0.mk hgr
          clear hx hrd hmem hgr x0_ x1_ x2_ x3_ x4_ x5_
          go_upto_region 16 with fail
          clear a1_
          go_cut [12] (fun v12 wc => ∃ (gt : Nat) (Y3 : Option Addr) (dy3 : Nat) (Y4 : Option Addr) (dy4 : Nat), v12 = .pointer (some ⟨gt, 0, none⟩) ∧ wc.heap[gt]? = some (.cells #[.int .i64 y.f0, .int .i64 y.f1, .int .i64 y.f2, .slice Y3 y.f3.length dy3, .slice Y4 y.f4.length dy4, .int .i64 y.f5] 41 (0, 0)) ∧ Below w6.heap.size w6 wc)
          case first =>
            refine start_ (n := 10) (S := fun w' => Below wr.heap.size wr w') (ds := [9]) #[false, false, false, false, false, false, false, false, false, false] (by kernel_rfl) rfl rfl (below_drew (Below.refl _ _)) (fun hHeld => ?_)
            refine pure_ (i := 1) (N := some 70) (v := ?_) (a' := ?_) #[false, true, false, false, false, false, false, false, false, false] rfl rfl (by kernel_rfl) (fun _ _ _ h => h) (Or.inl ⟨by rfl, ?_⟩) ?_ ?_
            rotate_left
            · intro w'
              go_simp
              with_reducible rfl
            rotate_left
            · simp only [Act.put, List.setIfInBounds_toArray, List.set_cons_zero, List.set_cons_succ, i64_w, i32_w]
              rfl
            refine pure_ (i := 3) (N := some 72) (v := ?_) (a' := ?_) #[false, true, false, true, false, false, false, false, false, false] rfl rfl (by kernel_rfl) (fun _ _ _ h => h) (Or.inl ⟨by rfl, ?_⟩) ?_ ?_
            rotate_left
            · intro w'
              go_simp
              with_reducible rfl
            rotate_left
            · simp only [Act.put, List.setIfInBounds_toArray, List.set_cons_zero, List.set_cons_succ, i64_w, i32_w]
              rfl
            refine take_ (i := 0) (N := some 69) (v := ?_) (a' := ?_) #[true, true, false, true, false, false, false, false, false, false] rfl rfl (by kernel_rfl) (fun _ _ _ h => h) (Or.inl ⟨by rfl, ?_⟩) hHeld ?_ ?_
            rotate_left
            · intro w' hS
              have b0_ := (blk_cell (blk_below HOBr.out hS) 0).trans (rfl : _ = some (.slice C1 q1 e1 : Value))
              have b1_ := (blk_cell (blk_below HOBr.out hS) 1).trans (rfl : _ = some (.slice C2 q2 e2 : Value))
              have b2_ := (blk_cell (blk_below HOBr.out hS) 2).trans (rfl : _ = some (.int .i64 ((n1 : Int) + (m2 : Int)) : Value))
              go_simp
              with_reducible rfl
            rotate_left
            · simp only [Act.put, List.setIfInBounds_toArray, List.set_cons_zero, List.set_cons_succ, i64_w, i32_w]
              rfl
            refine take_ (i := 2) (N := some 71) (v := ?_) (a' := ?_) #[true, true, true, true, false, false, false, false, false, false] rfl rfl (by kernel_rfl) (fun _ _ _ h => h) (Or.inl ⟨by rfl, ?_⟩) hHeld ?_ ?_
            rotate_left
            · intro w' hS
              have c_ := (blk_cell (blk_below HOAr.out hS) 1).trans (rfl : _ = some (.slice (some ad) p2 c2 : Value))
              go_simp
              with_reducible rfl
            rotate_left
            · simp only [Act.put, List.setIfInBounds_toArray, List.set_cons_zero, List.set_cons_succ, i64_w, i32_w]
              rfl
            refine pure_ (i := 4) (N := some 73) (v := ?_) (a' := ?_) #[true, true, true, true, true, false, false, false, false, false] rfl rfl (by kernel_rfl) (fun _ _ _ h => h) (Or.inl ⟨by rfl, ?_⟩) ?_ ?_
            rotate_left
            · intro w'
              go_simp
              with_reducible rfl
            rotate_left
            · simp only [Act.put, List.setIfInBounds_toArray, List.set_cons_zero, List.set_cons_succ, i64_w, i32_w]
              rfl
            refine pure_ (i := 5) (N := some 74) (v := ?_) (a' := ?_) #[true, true, true, true, true, true, false, false, false, false] rfl rfl (by kernel_rfl) (fun _ _ _ h => h) (Or.inl ⟨by rfl, ?_⟩) ?_ ?_
            rotate_left
            · intro w'
              go_simp
              with_reducible rfl
            rotate_left
            · simp only [Act.put, List.setIfInBounds_toArray, List.set_cons_zero, List.set_cons_succ, i64_w, i32_w]
              rfl
            refine take_ (i := 6) (N := some 75) (v := ?_) (a' := ?_) #[true, true, true, true, true, true, true, false, false, false] rfl rfl (by kernel_rfl) (fun _ _ _ h => h) (Or.inl ⟨by rfl, ?_⟩) hHeld ?_ ?_
            rotate_left
            · intro w' hS
              have k_ := pw_cell_below hS HX0.out
              go_simp
              with_reducible rfl
            rotate_left
            · simp only [Act.put, List.setIfInBounds_toArray, List.set_cons_zero, List.set_cons_succ, i64_w, i32_w]
              rfl
            refine two_ (i := 7) (j := 8) (Ni := some 76) (Nj := some 12) #[true, true, true, true, true, true, true, true, false, false] #[true, true, true, true, true, true, true, false, true, false] rfl rfl rfl rfl (by kernel_rfl) (by simp) (by simp) (fun K hK => ?_) (fun K hK => ?_)
            · skip
              refine goes_ Try.func18 (by kernel_rfl) rfl #[.agg #[.slice C1 q1 e1, .slice C2 q2 e2, .int .i64 ((n1 : Int) + (m2 : Int))], .int .i64 x.f0] (by rfl) rfl rfl (by simp only [List.map_toArray, List.map_cons, List.map_nil]; rfl) ?_
              with_reducible refine (taskv_ok C1 C2 q1 e1 q2 e2 _ x.f0 T2 _ (Kd.C_below HH2r.out hHeld) (by omega) HH2.out.2).mono ?_
              rintro e_ w7 ⟨Y3, dy3, Y4, dy4, rfl, hb_, hy1_, hy2_, hy3_, hy4_⟩
              refine ⟨_, rfl, ?_⟩
              refine hK.out _ _ (below_step hHeld hb_) (fun hHeld => ?_)
              clear hK K
              refine norm_ (a' := ?_) ?_ ?_
              rotate_left
              · show Act.put _ (some 76) _ = _
                simp only [Act.put, List.setIfInBounds_toArray, List.set_cons_zero, List.set_cons_succ, i64_w, i32_w]
                rfl
              try replace HZ := Aside0.mk (blk_below HZ.out hb_)
              clear hb_ hy1_ hy2_ hy3_ hy4_
              rw [HY.out]
              refine one_ (i := 8) (N := some 12) #[true, true, true, true, true, true, true, true, true, false] rfl rfl (by kernel_rfl) (by simp) (fun K hK => ?_)
              have hge_ := Nat.le_trans HB2.out.size hHeld.size
              refine value_ (w1 := w7.alloc (.cells #[.int .i64 0, .int .i64 0, .int .i64 0, .slice none 0 0, .slice none 0 0, .int .i64 0] 41)) (v := .pointer (some ⟨w7.heap.size, 0, none⟩)) (by rfl) rfl (by first | (go_simp; done) | (go_simp; rfl)) ?_
              refine hK.out _ _ (below_alloc hHeld _) (fun hHeld => ?_)
              clear hK K
              refine norm_ (a' := ?_) ?_ ?_
              rotate_left
              · show Act.put _ (some 12) _ = _
                simp only [Act.put, List.setIfInBounds_toArray, List.set_cons_zero, List.set_cons_succ, i64_w, i32_w]
                rfl
              have HZ := Aside0.mk (heap_alloc_new w7 (.cells #[.int .i64 0, .int .i64 0, .int .i64 0, .slice none 0 0, .slice none 0 0, .int .i64 0] 41))
              generalize w7.alloc (.cells #[.int .i64 0, .int .i64 0, .int .i64 0, .slice none 0 0, .slice none 0 0, .int .i64 0] 41) = w9 at HZ hHeld ⊢
              have HGE := Aside0.mk hge_
              clear hge_
              obtain ⟨gt, HGT⟩ : ∃ g, Aside0 (w7.heap.size = g) := ⟨_, ⟨rfl⟩⟩
              rw [HGT.out] at HZ HGE ⊢
              refine last_ (i := 9) (N := none) #[true, true, true, true, true, true, true, true, true, true] rfl rfl (by kernel_rfl) (by simp) (fun K hK => ?_)
              have z0_ := (blk_cell HZ.out 0).trans (rfl : _ = some (.int .i64 0 : Value))
              have z1_ := (blk_cell HZ.out 1).trans (rfl : _ = some (.int .i64 0 : Value))
              have z2_ := (blk_cell HZ.out 2).trans (rfl : _ = some (.int .i64 0 : Value))
              have z3_ := (blk_cell HZ.out 3).trans (rfl : _ = some (.slice none 0 0 : Value))
              have z4_ := (blk_cell HZ.out 4).trans (rfl : _ = some (.slice none 0 0 : Value))
              have z5_ := (blk_cell HZ.out 5).trans (rfl : _ = some (.int .i64 0 : Value))
              have f0_ := blk_frozen HZ.out 0
              have f1_ := blk_frozen HZ.out 1
              have f2_ := blk_frozen HZ.out 2
              have f3_ := blk_frozen HZ.out 3
              have f4_ := blk_frozen HZ.out 4
              have f5_ := blk_frozen HZ.out 5
              refine skip_ (w1 := ((((((w9).setCell ⟨gt, 0, none⟩ (.int .i64 y.f0)).setCell ⟨gt, 1, none⟩ (.int .i64 y.f1)).setCell ⟨gt, 2, none⟩ (.int .i64 y.f2)).setCell ⟨gt, 3, none⟩ (.slice Y3 y.f3.length dy3)).setCell ⟨gt, 4, none⟩ (.slice Y4 y.f4.length dy4)).setCell ⟨gt, 5, none⟩ (.int .i64 y.f5)) (by rfl) rfl (by first | (go_simp; done) | (go_simp; rfl)) ?_
              clear z0_ f0_ z1_ f1_ z2_ f2_ z3_ f3_ z4_ f4_ z5_ f5_
              refine hK.out _ _ ?_
              clear hK K
              refine done_ (by kernel_rfl) ?_
              have hp0 := blk_put HZ.out 0 (.int .i64 y.f0) (rfl : _ = (#[.int .i64 y.f0, .int .i64 0, .int .i64 0, .slice none 0 0, .slice none 0 0, .int .i64 0] : Array Value))
              have hp1 := blk_put hp0 1 (.int .i64 y.f1) (rfl : _ = (#[.int .i64 y.f0, .int .i64 y.f1, .int .i64 0, .slice none 0 0, .slice none 0 0, .int .i64 0] : Array Value))
              have hp2 := blk_put hp1 2 (.int .i64 y.f2) (rfl : _ = (#[.int .i64 y.f0, .int .i64 y.f1, .int .i64 y.f2, .slice none 0 0, .slice none 0 0, .int .i64 0] : Array Value))
              have hp3 := blk_put hp2 3 (.slice Y3 y.f3.length dy3) (rfl : _ = (#[.int .i64 y.f0, .int .i64 y.f1, .int .i64 y.f2, .slice Y3 y.f3.length dy3, .slice none 0 0, .int .i64 0] : Array Value))
              have hp4 := blk_put hp3 4 (.slice Y4 y.f4.length dy4) (rfl : _ = (#[.int .i64 y.f0, .int .i64 y.f1, .int .i64 y.f2, .slice Y3 y.f3.length dy3, .slice Y4 y.f4.length dy4, .int .i64 0] : Array Value))
              have hp5 := blk_put hp4 5 (.int .i64 y.f5) (rfl : _ = (#[.int .i64 y.f0, .int .i64 y.f1, .int .i64 y.f2, .slice Y3 y.f3.length dy3, .slice Y4 y.f4.length dy4, .int .i64 y.f5] : Array Value))
              have hbf := ((((((below_step HB2.out hHeld).setCell (p := ⟨gt, 0, none⟩) HGE.out (.int .i64 y.f0)).setCell (p := ⟨gt, 1, none⟩) HGE.out (.int .i64 y.f1)).setCell (p := ⟨gt, 2, none⟩) HGE.out (.int .i64 y.f2)).setCell (p := ⟨gt, 3, none⟩) HGE.out (.slice Y3 y.f3.length dy3)).setCell (p := ⟨gt, 4, none⟩) HGE.out (.slice Y4 y.f4.length dy4)).setCell (p := ⟨gt, 5, none⟩) HGE.out (.int .i64 y.f5)
              go_wp2_with fail
              go_meet
              case rel => exact ⟨gt, Y3, dy3, Y4, dy4, rfl, hp5, hbf⟩
            · skip
              have hge_ := Nat.le_trans HB2.out.size hHeld.size
              refine value_ (w1 := wr.drew.alloc (.cells #[.int .i64 0, .int .i64 0, .int .i64 0, .slice none 0 0, .slice none 0 0, .int .i64 0] 41)) (v := .pointer (some ⟨wr.drew.heap.size, 0, none⟩)) (by rfl) rfl (by first | (go_simp; done) | (go_simp; rfl)) ?_
              refine hK.out _ _ (below_alloc hHeld _) (fun hHeld => ?_)
              clear hK K
              refine norm_ (a' := ?_) ?_ ?_
              rotate_left
              · show Act.put _ (some 12) _ = _
                simp only [Act.put, List.setIfInBounds_toArray, List.set_cons_zero, List.set_cons_succ, i64_w, i32_w]
                rfl
              have HZ := Aside0.mk (heap_alloc_new wr.drew (.cells #[.int .i64 0, .int .i64 0, .int .i64 0, .slice none 0 0, .slice none 0 0, .int .i64 0] 41))
              generalize wr.drew.alloc (.cells #[.int .i64 0, .int .i64 0, .int .i64 0, .slice none 0 0, .slice none 0 0, .int .i64 0] 41) = w9 at HZ hHeld ⊢
              have HGE := Aside0.mk hge_
              clear hge_
              obtain ⟨gt, HGT⟩ : ∃ g, Aside0 (wr.drew.heap.size = g) := ⟨_, ⟨rfl⟩⟩
              rw [HGT.out] at HZ HGE ⊢
              refine one_ (i := 7) (N := some 76) #[true, true, true, true, true, true, true, true, true, false] rfl rfl (by kernel_rfl) (by simp) (fun K hK => ?_)
              refine goes_ Try.func18 (by kernel_rfl) rfl #[.agg #[.slice C1 q1 e1, .slice C2 q2 e2, .int .i64 ((n1 : Int) + (m2 : Int))], .int .i64 x.f0] (by rfl) rfl rfl (by simp only [List.map_toArray, List.map_cons, List.map_nil]; rfl) ?_
              with_reducible refine (taskv_ok C1 C2 q1 e1 q2 e2 _ x.f0 T2 _ (Kd.C_below HH2r.out hHeld) (by omega) HH2.out.2).mono ?_
              rintro e_ w7 ⟨Y3, dy3, Y4, dy4, rfl, hb_, hy1_, hy2_, hy3_, hy4_⟩
              refine ⟨_, rfl, ?_⟩
              refine hK.out _ _ (below_step hHeld hb_) (fun hHeld => ?_)
              clear hK K
              refine norm_ (a' := ?_) ?_ ?_
              rotate_left
              · show Act.put _ (some 76) _ = _
                simp only [Act.put, List.setIfInBounds_toArray, List.set_cons_zero, List.set_cons_succ, i64_w, i32_w]
                rfl
              try replace HZ := Aside0.mk (blk_below HZ.out hb_)
              clear hb_ hy1_ hy2_ hy3_ hy4_
              rw [HY.out]
              refine last_ (i := 9) (N := none) #[true, true, true, true, true, true, true, true, true, true] rfl rfl (by kernel_rfl) (by simp) (fun K hK => ?_)
              have z0_ := (blk_cell HZ.out 0).trans (rfl : _ = some (.int .i64 0 : Value))
              have z1_ := (blk_cell HZ.out 1).trans (rfl : _ = some (.int .i64 0 : Value))
              have z2_ := (blk_cell HZ.out 2).trans (rfl : _ = some (.int .i64 0 : Value))
              have z3_ := (blk_cell HZ.out 3).trans (rfl : _ = some (.slice none 0 0 : Value))
              have z4_ := (blk_cell HZ.out 4).trans (rfl : _ = some (.slice none 0 0 : Value))
              have z5_ := (blk_cell HZ.out 5).trans (rfl : _ = some (.int .i64 0 : Value))
              have f0_ := blk_frozen HZ.out 0
              have f1_ := blk_frozen HZ.out 1
              have f2_ := blk_frozen HZ.out 2
              have f3_ := blk_frozen HZ.out 3
              have f4_ := blk_frozen HZ.out 4
              have f5_ := blk_frozen HZ.out 5
              refine skip_ (w1 := ((((((w7).setCell ⟨gt, 0, none⟩ (.int .i64 y.f0)).setCell ⟨gt, 1, none⟩ (.int .i64 y.f1)).setCell ⟨gt, 2, none⟩ (.int .i64 y.f2)).setCell ⟨gt, 3, none⟩ (.slice Y3 y.f3.length dy3)).setCell ⟨gt, 4, none⟩ (.slice Y4 y.f4.length dy4)).setCell ⟨gt, 5, none⟩ (.int .i64 y.f5)) (by rfl) rfl (by first | (go_simp; done) | (go_simp; rfl)) ?_
              clear z0_ f0_ z1_ f1_ z2_ f2_ z3_ f3_ z4_ f4_ z5_ f5_
              refine hK.out _ _ ?_
              clear hK K
              refine done_ (by kernel_rfl) ?_
              have hp0 := blk_put HZ.out 0 (.int .i64 y.f0) (rfl : _ = (#[.int .i64 y.f0, .int .i64 0, .int .i64 0, .slice none 0 0, .slice none 0 0, .int .i64 0] : Array Value))
              have hp1 := blk_put hp0 1 (.int .i64 y.f1) (rfl : _ = (#[.int .i64 y.f0, .int .i64 y.f1, .int .i64 0, .slice none 0 0, .slice none 0 0, .int .i64 0] : Array Value))
              have hp2 := blk_put hp1 2 (.int .i64 y.f2) (rfl : _ = (#[.int .i64 y.f0, .int .i64 y.f1, .int .i64 y.f2, .slice none 0 0, .slice none 0 0, .int .i64 0] : Array Value))
              have hp3 := blk_put hp2 3 (.slice Y3 y.f3.length dy3) (rfl : _ = (#[.int .i64 y.f0, .int .i64 y.f1, .int .i64 y.f2, .slice Y3 y.f3.length dy3, .slice none 0 0, .int .i64 0] : Array Value))
              have hp4 := blk_put hp3 4 (.slice Y4 y.f4.length dy4) (rfl : _ = (#[.int .i64 y.f0, .int .i64 y.f1, .int .i64 y.f2, .slice Y3 y.f3.length dy3, .slice Y4 y.f4.length dy4, .int .i64 0] : Array Value))
              have hp5 := blk_put hp4 5 (.int .i64 y.f5) (rfl : _ = (#[.int .i64 y.f0, .int .i64 y.f1, .int .i64 y.f2, .slice Y3 y.f3.length dy3, .slice Y4 y.f4.length dy4, .int .i64 y.f5] : Array Value))
              have hbf := ((((((below_step HB2.out hHeld).setCell (p := ⟨gt, 0, none⟩) HGE.out (.int .i64 y.f0)).setCell (p := ⟨gt, 1, none⟩) HGE.out (.int .i64 y.f1)).setCell (p := ⟨gt, 2, none⟩) HGE.out (.int .i64 y.f2)).setCell (p := ⟨gt, 3, none⟩) HGE.out (.slice Y3 y.f3.length dy3)).setCell (p := ⟨gt, 4, none⟩) HGE.out (.slice Y4 y.f4.length dy4)).setCell (p := ⟨gt, 5, none⟩) HGE.out (.int .i64 y.f5)
              go_wp2_with fail
              go_meet
              case rel => exact ⟨gt, Y3, dy3, Y4, dy4, rfl, hp5, hbf⟩

          case rest =>
            clear HB2 HOAr HOBr HH2r HX0
            obtain ⟨gt, Y3, dy3, Y4, dy4, rfl, ht_, hb_⟩ := hcut
            have HT := Aside0.mk ht_
            have HB2 := Aside0.mk hb_
            have HOAc := Aside0.mk (blk_below HOA.out hb_)
            have HX1 := Aside0.mk (pw_cell_below hb_ HXA.out.1)
            have HX2 := Aside0.mk (pw_cell_below hb_ HXA.out.2.1)
            have HX4 := Aside0.mk (pw_cell_below hb_ HXA.out.2.2)
            have d1_ : decide (y.f1 < x.f1) = false := decide_eq_false (by have := HGR.out.1; omega)
            have d2_ : decide (y.f2 < x.f2) = false := decide_eq_false (by have := HGR.out.2.1; omega)
            have d3_ : decide ((y.f4.length : Int) < (x.f4.length : Int)) = false := decide_eq_false (by have := HGR.out.2.2; omega)
            have d4_ : decide (y.f4.length < x.f4.length) = false := decide_eq_false (by have := HGR.out.2.2; omega)
            clear ht_ hb_
            go_upto_region 17 with fail
            refine start_ (n := 33) (S := fun w' => Below wc.heap.size wc w') (ds := []) #[false, false, false, false, false, false, false, false, false, false, false, false, false, false, false, false, false, false, false, false, false, false, false, false, false, false, false, false, false, false, false, false, false] (by kernel_rfl) rfl rfl (below_drew (Below.refl _ _)) (fun hHeld => ?_)
            refine pure_ (i := 0) (N := some 77) (v := ?_) (a' := ?_) #[true, false, false, false, false, false, false, false, false, false, false, false, false, false, false, false, false, false, false, false, false, false, false, false, false, false, false, false, false, false, false, false, false] rfl rfl (by kernel_rfl) (fun _ _ _ h => h) (Or.inl ⟨by rfl, ?_⟩) ?_ ?_
            rotate_left
            · intro w'
              go_simp
              with_reducible rfl
            rotate_left
            · simp only [Act.put, List.setIfInBounds_toArray, List.set_cons_zero, List.set_cons_succ, i64_w, i32_w]
              rfl
            refine pure_ (i := 2) (N := some 79) (v := ?_) (a' := ?_) #[true, false, true, false, false, false, false, false, false, false, false, false, false, false, false, false, false, false, false, false, false, false, false, false, false, false, false, false, false, false, false, false, false] rfl rfl (by kernel_rfl) (fun _ _ _ h => h) (Or.inl ⟨by rfl, ?_⟩) ?_ ?_
            rotate_left
            · intro w'
              go_simp
              with_reducible rfl
            rotate_left
            · simp only [Act.put, List.setIfInBounds_toArray, List.set_cons_zero, List.set_cons_succ, i64_w, i32_w]
              rfl
            refine pure_ (i := 4) (N := some 81) (v := ?_) (a' := ?_) #[true, false, true, false, true, false, false, false, false, false, false, false, false, false, false, false, false, false, false, false, false, false, false, false, false, false, false, false, false, false, false, false, false] rfl rfl (by kernel_rfl) (fun _ _ _ h => h) (Or.inl ⟨by rfl, ?_⟩) ?_ ?_
            rotate_left
            · intro w'
              go_simp
              with_reducible rfl
            rotate_left
            · simp only [Act.put, List.setIfInBounds_toArray, List.set_cons_zero, List.set_cons_succ, i64_w, i32_w]
              rfl
            refine take_ (i := 1) (N := some 78) (v := ?_) (a' := ?_) #[true, true, true, false, true, false, false, false, false, false, false, false, false, false, false, false, false, false, false, false, false, false, false, false, false, false, false, false, false, false, false, false, false] rfl rfl (by kernel_rfl) (fun _ _ _ h => h) (Or.inl ⟨by rfl, ?_⟩) hHeld ?_ ?_
            rotate_left
            · intro w' hS
              have y1_ := (blk_cell (blk_below HT.out hS) 1).trans (rfl : _ = some (.int .i64 y.f1 : Value))
              go_simp
              with_reducible rfl
            rotate_left
            · simp only [Act.put, List.setIfInBounds_toArray, List.set_cons_zero, List.set_cons_succ, i64_w, i32_w]
              rfl
            refine take_ (i := 3) (N := some 80) (v := ?_) (a' := ?_) #[true, true, true, true, true, false, false, false, false, false, false, false, false, false, false, false, false, false, false, false, false, false, false, false, false, false, false, false, false, false, false, false, false] rfl rfl (by kernel_rfl) (fun _ _ _ h => h) (Or.inl ⟨by rfl, ?_⟩) hHeld ?_ ?_
            rotate_left
            · intro w' hS
              have c_ := (blk_cell (blk_below HOAc.out hS) 1).trans (rfl : _ = some (.slice (some ad) p2 c2 : Value))
              go_simp
              with_reducible rfl
            rotate_left
            · simp only [Act.put, List.setIfInBounds_toArray, List.set_cons_zero, List.set_cons_succ, i64_w, i32_w]
              rfl
            refine pure_ (i := 5) (N := some 82) (v := ?_) (a' := ?_) #[true, true, true, true, true, true, false, false, false, false, false, false, false, false, false, false, false, false, false, false, false, false, false, false, false, false, false, false, false, false, false, false, false] rfl rfl (by kernel_rfl) (fun _ _ _ h => h) (Or.inl ⟨by rfl, ?_⟩) ?_ ?_
            rotate_left
            · intro w'
              go_simp
              with_reducible rfl
            rotate_left
            · simp only [Act.put, List.setIfInBounds_toArray, List.set_cons_zero, List.set_cons_succ, i64_w, i32_w]
              rfl
            refine pure_ (i := 6) (N := some 83) (v := ?_) (a' := ?_) #[true, true, true, true, true, true, true, false, false, false, false, false, false, false, false, false, false, false, false, false, false, false, false, false, false, false, false, false, false, false, false, false, false] rfl rfl (by kernel_rfl) (fun _ _ _ h => h) (Or.inl ⟨by rfl, ?_⟩) ?_ ?_
            rotate_left
            · intro w'
              go_simp
              with_reducible rfl
            rotate_left
            · simp only [Act.put, List.setIfInBounds_toArray, List.set_cons_zero, List.set_cons_succ, i64_w, i32_w]
              rfl
            refine take_ (i := 7) (N := some 84) (v := ?_) (a' := ?_) #[true, true, true, true, true, true, true, true, false, false, false, false, false, false, false, false, false, false, false, false, false, false, false, false, false, false, false, false, false, false, false, false, false] rfl rfl (by kernel_rfl) (fun _ _ _ h => h) (Or.inl ⟨by rfl, ?_⟩) hHeld ?_ ?_
            rotate_left
            · intro w' hS
              have k_ := pw_cell_below hS HX1.out
              go_simp
              with_reducible rfl
            rotate_left
            · simp only [Act.put, List.setIfInBounds_toArray, List.set_cons_zero, List.set_cons_succ, i64_w, i32_w]
              rfl
            refine pure_ (i := 8) (N := some 85) (v := ?_) (a' := ?_) #[true, true, true, true, true, true, true, true, true, false, false, false, false, false, false, false, false, false, false, false, false, false, false, false, false, false, false, false, false, false, false, false, false] rfl rfl (by kernel_rfl) (fun _ _ _ h => h) (Or.inl ⟨by rfl, ?_⟩) ?_ ?_
            rotate_left
            · intro w'
              go_simp
              with_reducible rfl
            rotate_left
            · simp only [Act.put, List.setIfInBounds_toArray, List.set_cons_zero, List.set_cons_succ, i64_w, i32_w]
              rfl
            refine pure_ (i := 9) (N := some 86) (v := ?_) (a' := ?_) #[true, true, true, true, true, true, true, true, true, true, false, false, false, false, false, false, false, false, false, false, false, false, false, false, false, false, false, false, false, false, false, false, false] rfl rfl (by kernel_rfl) (fun _ _ _ h => h) (Or.inl ⟨by rfl, ?_⟩) ?_ ?_
            rotate_left
            · intro w'
              go_simp
              with_reducible rfl
            rotate_left
            · simp only [Act.put, List.setIfInBounds_toArray, List.set_cons_zero, List.set_cons_succ, i64_w, i32_w]
              rfl
            refine pure_ (i := 10) (N := some 87) (v := ?_) (a' := ?_) #[true, true, true, true, true, true, true, true, true, true, true, false, false, false, false, false, false, false, false, false, false, false, false, false, false, false, false, false, false, false, false, false, false] rfl rfl (by kernel_rfl) (fun _ _ _ h => h) (Or.inl ⟨by rfl, ?_⟩) ?_ ?_
            rotate_left
            · intro w'
              go_simp
              with_reducible rfl
            rotate_left
            · simp only [Act.put, List.setIfInBounds_toArray, List.set_cons_zero, List.set_cons_succ, i64_w, i32_w]
              rfl
            refine pure_ (i := 12) (N := some 89) (v := ?_) (a' := ?_) #[true, true, true, true, true, true, true, true, true, true, true, false, true, false, false, false, false, false, false, false, false, false, false, false, false, false, false, false, false, false, false, false, false] rfl rfl (by kernel_rfl) (fun _ _ _ h => h) (Or.inl ⟨by rfl, ?_⟩) ?_ ?_
            rotate_left
            · intro w'
              go_simp
              with_reducible rfl
            rotate_left
            · simp only [Act.put, List.setIfInBounds_toArray, List.set_cons_zero, List.set_cons_succ, i64_w, i32_w]
              rfl
            refine pure_ (i := 14) (N := some 91) (v := ?_) (a' := ?_) #[true, true, true, true, true, true, true, true, true, true, true, false, true, false, true, false, false, false, false, false, false, false, false, false, false, false, false, false, false, false, false, false, false] rfl rfl (by kernel_rfl) (fun _ _ _ h => h) (Or.inl ⟨by rfl, ?_⟩) ?_ ?_
            rotate_left
            · intro w'
              go_simp
              with_reducible rfl
            rotate_left
            · simp only [Act.put, List.setIfInBounds_toArray, List.set_cons_zero, List.set_cons_succ, i64_w, i32_w]
              rfl
            refine take_ (i := 11) (N := some 88) (v := ?_) (a' := ?_) #[true, true, true, true, true, true, true, true, true, true, true, true, true, false, true, false, false, false, false, false, false, false, false, false, false, false, false, false, false, false, false, false, false] rfl rfl (by kernel_rfl) (fun _ _ _ h => h) (Or.inl ⟨by rfl, ?_⟩) hHeld ?_ ?_
            rotate_left
            · intro w' hS
              have y2_ := (blk_cell (blk_below HT.out hS) 2).trans (rfl : _ = some (.int .i64 y.f2 : Value))
              go_simp
              with_reducible rfl
            rotate_left
            · simp only [Act.put, List.setIfInBounds_toArray, List.set_cons_zero, List.set_cons_succ, i64_w, i32_w]
              rfl
            refine take_ (i := 13) (N := some 90) (v := ?_) (a' := ?_) #[true, true, true, true, true, true, true, true, true, true, true, true, true, true, true, false, false, false, false, false, false, false, false, false, false, false, false, false, false, false, false, false, false] rfl rfl (by kernel_rfl) (fun _ _ _ h => h) (Or.inl ⟨by rfl, ?_⟩) hHeld ?_ ?_
            rotate_left
            · intro w' hS
              have c_ := (blk_cell (blk_below HOAc.out hS) 1).trans (rfl : _ = some (.slice (some ad) p2 c2 : Value))
              go_simp
              with_reducible rfl
            rotate_left
            · simp only [Act.put, List.setIfInBounds_toArray, List.set_cons_zero, List.set_cons_succ, i64_w, i32_w]
              rfl
            refine pure_ (i := 15) (N := some 92) (v := ?_) (a' := ?_) #[true, true, true, true, true, true, true, true, true, true, true, true, true, true, true, true, false, false, false, false, false, false, false, false, false, false, false, false, false, false, false, false, false] rfl rfl (by kernel_rfl) (fun _ _ _ h => h) (Or.inl ⟨by rfl, ?_⟩) ?_ ?_
            rotate_left
            · intro w'
              go_simp
              with_reducible rfl
            rotate_left
            · simp only [Act.put, List.setIfInBounds_toArray, List.set_cons_zero, List.set_cons_succ, i64_w, i32_w]
              rfl
            refine pure_ (i := 16) (N := some 93) (v := ?_) (a' := ?_) #[true, true, true, true, true, true, true, true, true, true, true, true, true, true, true, true, true, false, false, false, false, false, false, false, false, false, false, false, false, false, false, false, false] rfl rfl (by kernel_rfl) (fun _ _ _ h => h) (Or.inl ⟨by rfl, ?_⟩) ?_ ?_
            rotate_left
            · intro w'
              go_simp
              with_reducible rfl
            rotate_left
            · simp only [Act.put, List.setIfInBounds_toArray, List.set_cons_zero, List.set_cons_succ, i64_w, i32_w]
              rfl
            refine take_ (i := 17) (N := some 94) (v := ?_) (a' := ?_) #[true, true, true, true, true, true, true, true, true, true, true, true, true, true, true, true, true, true, false, false, false, false, false, false, false, false, false, false, false, false, false, false, false] rfl rfl (by kernel_rfl) (fun _ _ _ h => h) (Or.inl ⟨by rfl, ?_⟩) hHeld ?_ ?_
            rotate_left
            · intro w' hS
              have k_ := pw_cell_below hS HX2.out
              go_simp
              with_reducible rfl
            rotate_left
            · simp only [Act.put, List.setIfInBounds_toArray, List.set_cons_zero, List.set_cons_succ, i64_w, i32_w]
              rfl
            refine pure_ (i := 18) (N := some 95) (v := ?_) (a' := ?_) #[true, true, true, true, true, true, true, true, true, true, true, true, true, true, true, true, true, true, true, false, false, false, false, false, false, false, false, false, false, false, false, false, false] rfl rfl (by kernel_rfl) (fun _ _ _ h => h) (Or.inl ⟨by rfl, ?_⟩) ?_ ?_
            rotate_left
            · intro w'
              go_simp
              with_reducible rfl
            rotate_left
            · simp only [Act.put, List.setIfInBounds_toArray, List.set_cons_zero, List.set_cons_succ, i64_w, i32_w]
              rfl
            refine pure_ (i := 19) (N := some 96) (v := ?_) (a' := ?_) #[true, true, true, true, true, true, true, true, true, true, true, true, true, true, true, true, true, true, true, true, false, false, false, false, false, false, false, false, false, false, false, false, false] rfl rfl (by kernel_rfl) (fun _ _ _ h => h) (Or.inl ⟨by rfl, ?_⟩) ?_ ?_
            rotate_left
            · intro w'
              go_simp
              with_reducible rfl
            rotate_left
            · simp only [Act.put, List.setIfInBounds_toArray, List.set_cons_zero, List.set_cons_succ, i64_w, i32_w]
              rfl
            refine pure_ (i := 20) (N := some 97) (v := ?_) (a' := ?_) #[true, true, true, true, true, true, true, true, true, true, true, true, true, true, true, true, true, true, true, true, true, false, false, false, false, false, false, false, false, false, false, false, false] rfl rfl (by kernel_rfl) (fun _ _ _ h => h) (Or.inl ⟨by rfl, ?_⟩) ?_ ?_
            rotate_left
            · intro w'
              go_simp
              with_reducible rfl
            rotate_left
            · simp only [Act.put, List.setIfInBounds_toArray, List.set_cons_zero, List.set_cons_succ, i64_w, i32_w]
              rfl
            refine pure_ (i := 21) (N := some 98) (v := ?_) (a' := ?_) #[true, true, true, true, true, true, true, true, true, true, true, true, true, true, true, true, true, true, true, true, true, true, false, false, false, false, false, false, false, false, false, false, false] rfl rfl (by kernel_rfl) (fun _ _ _ h => h) (Or.inl ⟨by rfl, ?_⟩) ?_ ?_
            rotate_left
            · intro w'
              go_simp
              with_reducible rfl
            rotate_left
            · simp only [Act.put, List.setIfInBounds_toArray, List.set_cons_zero, List.set_cons_succ, i64_w, i32_w]
              rfl
            refine pure_ (i := 24) (N := some 101) (v := ?_) (a' := ?_) #[true, true, true, true, true, true, true, true, true, true, true, true, true, true, true, true, true, true, true, true, true, true, false, false, true, false, false, false, false, false, false, false, false] rfl rfl (by kernel_rfl) (fun _ _ _ h => h) (Or.inl ⟨by rfl, ?_⟩) ?_ ?_
            rotate_left
            · intro w'
              go_simp
              with_reducible rfl
            rotate_left
            · simp only [Act.put, List.setIfInBounds_toArray, List.set_cons_zero, List.set_cons_succ, i64_w, i32_w]
              rfl
            refine pure_ (i := 26) (N := some 103) (v := ?_) (a' := ?_) #[true, true, true, true, true, true, true, true, true, true, true, true, true, true, true, true, true, true, true, true, true, true, false, false, true, false, true, false, false, false, false, false, false] rfl rfl (by kernel_rfl) (fun _ _ _ h => h) (Or.inl ⟨by rfl, ?_⟩) ?_ ?_
            rotate_left
            · intro w'
              go_simp
              with_reducible rfl
            rotate_left
            · simp only [Act.put, List.setIfInBounds_toArray, List.set_cons_zero, List.set_cons_succ, i64_w, i32_w]
              rfl
            refine take_ (i := 22) (N := some 99) (v := ?_) (a' := ?_) #[true, true, true, true, true, true, true, true, true, true, true, true, true, true, true, true, true, true, true, true, true, true, true, false, true, false, true, false, false, false, false, false, false] rfl rfl (by kernel_rfl) (fun _ _ _ h => h) (Or.inl ⟨by rfl, ?_⟩) hHeld ?_ ?_
            rotate_left
            · intro w' hS
              have y4_ := (blk_cell (blk_below HT.out hS) 4).trans (rfl : _ = some (.slice Y4 y.f4.length dy4 : Value))
              go_simp
              with_reducible rfl
            rotate_left
            · simp only [Act.put, List.setIfInBounds_toArray, List.set_cons_zero, List.set_cons_succ, i64_w, i32_w]
              rfl
            refine pure_ (i := 23) (N := some 100) (v := ?_) (a' := ?_) #[true, true, true, true, true, true, true, true, true, true, true, true, true, true, true, true, true, true, true, true, true, true, true, true, true, false, true, false, false, false, false, false, false] rfl rfl (by kernel_rfl) (fun _ _ _ h => h) (Or.inl ⟨by rfl, ?_⟩) ?_ ?_
            rotate_left
            · intro w'
              go_simp
              with_reducible rfl
            rotate_left
            · simp only [Act.put, List.setIfInBounds_toArray, List.set_cons_zero, List.set_cons_succ, i64_w, i32_w]
              rfl
            refine take_ (i := 25) (N := some 102) (v := ?_) (a' := ?_) #[true, true, true, true, true, true, true, true, true, true, true, true, true, true, true, true, true, true, true, true, true, true, true, true, true, true, true, false, false, false, false, false, false] rfl rfl (by kernel_rfl) (fun _ _ _ h => h) (Or.inl ⟨by rfl, ?_⟩) hHeld ?_ ?_
            rotate_left
            · intro w' hS
              have c_ := (blk_cell (blk_below HOAc.out hS) 1).trans (rfl : _ = some (.slice (some ad) p2 c2 : Value))
              go_simp
              with_reducible rfl
            rotate_left
            · simp only [Act.put, List.setIfInBounds_toArray, List.set_cons_zero, List.set_cons_succ, i64_w, i32_w]
              rfl
            refine pure_ (i := 27) (N := some 104) (v := ?_) (a' := ?_) #[true, true, true, true, true, true, true, true, true, true, true, true, true, true, true, true, true, true, true, true, true, true, true, true, true, true, true, true, false, false, false, false, false] rfl rfl (by kernel_rfl) (fun _ _ _ h => h) (Or.inl ⟨by rfl, ?_⟩) ?_ ?_
            rotate_left
            · intro w'
              go_simp
              with_reducible rfl
            rotate_left
            · simp only [Act.put, List.setIfInBounds_toArray, List.set_cons_zero, List.set_cons_succ, i64_w, i32_w]
              rfl
            refine pure_ (i := 28) (N := some 105) (v := ?_) (a' := ?_) #[true, true, true, true, true, true, true, true, true, true, true, true, true, true, true, true, true, true, true, true, true, true, true, true, true, true, true, true, true, false, false, false, false] rfl rfl (by kernel_rfl) (fun _ _ _ h => h) (Or.inl ⟨by rfl, ?_⟩) ?_ ?_
            rotate_left
            · intro w'
              go_simp
              with_reducible rfl
            rotate_left
            · simp only [Act.put, List.setIfInBounds_toArray, List.set_cons_zero, List.set_cons_succ, i64_w, i32_w]
              rfl
            refine take_ (i := 29) (N := some 106) (v := ?_) (a' := ?_) #[true, true, true, true, true, true, true, true, true, true, true, true, true, true, true, true, true, true, true, true, true, true, true, true, true, true, true, true, true, true, false, false, false] rfl rfl (by kernel_rfl) (fun _ _ _ h => h) (Or.inl ⟨by rfl, ?_⟩) hHeld ?_ ?_
            rotate_left
            · intro w' hS
              have k_ := pw_cell_below hS HX4.out
              go_simp
              with_reducible rfl
            rotate_left
            · simp only [Act.put, List.setIfInBounds_toArray, List.set_cons_zero, List.set_cons_succ, i64_w, i32_w]
              rfl
            refine pure_ (i := 30) (N := some 107) (v := ?_) (a' := ?_) #[true, true, true, true, true, true, true, true, true, true, true, true, true, true, true, true, true, true, true, true, true, true, true, true, true, true, true, true, true, true, true, false, false] rfl rfl (by kernel_rfl) (fun _ _ _ h => h) (Or.inl ⟨by rfl, ?_⟩) ?_ ?_
            rotate_left
            · intro w'
              go_simp
              with_reducible rfl
            rotate_left
            · simp only [Act.put, List.setIfInBounds_toArray, List.set_cons_zero, List.set_cons_succ, i64_w, i32_w]
              rfl
            refine pure_ (i := 31) (N := some 108) (v := ?_) (a' := ?_) #[true, true, true, true, true, true, true, true, true, true, true, true, true, true, true, true, true, true, true, true, true, true, true, true, true, true, true, true, true, true, true, true, false] rfl rfl (by kernel_rfl) (fun _ _ _ h => h) (Or.inl ⟨by rfl, ?_⟩) ?_ ?_
            rotate_left
            · intro w'
              go_simp
              with_reducible rfl
            rotate_left
            · simp only [Act.put, List.setIfInBounds_toArray, List.set_cons_zero, List.set_cons_succ, i64_w, i32_w]
              rfl
            refine pure_ (i := 32) (N := some 109) (v := ?_) (a' := ?_) #[true, true, true, true, true, true, true, true, true, true, true, true, true, true, true, true, true, true, true, true, true, true, true, true, true, true, true, true, true, true, true, true, true] rfl rfl (by kernel_rfl) (fun _ _ _ h => h) (Or.inl ⟨by rfl, ?_⟩) ?_ ?_
            rotate_left
            · intro w'
              go_simp
              with_reducible rfl
            rotate_left
            · simp only [Act.put, List.setIfInBounds_toArray, List.set_cons_zero, List.set_cons_succ, i64_w, i32_w]
              rfl
            refine done_ (by kernel_rfl) ?_

            have HB5 := Aside0.mk (below_step HB2.out hHeld)
            clear hHeld
            go_wp2_with fail
            go_roundw
            case rel => exact ⟨j + 1, by omega, by go_num, HB5⟩
            case measure => simp [intOf]; omega
        · obtain rfl : p2 = j := by omega
          have h2b : decide (p2 < p2) = false := by simp
          go_wp2_with fail
          go_ret
          exact ⟨rfl, below_step HB.out HB2.out⟩
end Go.Proofs.Ytmnglonjekegcaa.Vw
