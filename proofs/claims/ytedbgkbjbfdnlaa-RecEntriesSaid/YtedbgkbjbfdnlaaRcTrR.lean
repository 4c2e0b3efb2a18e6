/- The document's own record reader, in the form of the printer's own contracts. -/
import Derived.Test.YtedbgkbjbfdnlaaRcTr
import Derived.Test.YtedbgkbjbfdnlaaRcRd
namespace Go.Proofs.Ytedbgkbjbfdnlaa.Rc
open Go Go.RowKit Go.Proofs.YtedbgkbjbfdnlaaW.PrintWords Go.Proofs.YtedbgkbjbfdnlaaW.PrintLast Go.Proofs.YtedbgkbjbfdnlaaW.PrintMore Go.Proofs.Ytedbgkbjbfdnlaa.Pk
set_option linter.unusedVariables false
set_option linter.unusedSimpArgs false
/-- A reading in memory: what was read, what is left (a row of old), the error. -/
structure GotAt (w : World) (g : Nat) (n : Int) (A : Option Addr) (m c : Nat) (e : Int) : Prop where
  b : w.heap[g]? = some (.cells #[.int .u64 n, .slice A m c, .int .i64 e] 75 (0, 0))
theorem GotAt.below {w w1 : World} {g : Nat} {n : Int} {A : Option Addr} {m c : Nat} {e : Int} (h : GotAt w g n A m c e) (hb : Below w.heap.size w w1) : GotAt w1 g n A m c e := ⟨blk_below h.b hb⟩
theorem GotAt.cells {w : World} {g : Nat} {n : Int} {A : Option Addr} {m c : Nat} {e : Int} (h : GotAt w g n A m c e) : w.cell? ⟨g, 0, none⟩ = some (.int .u64 n) ∧ w.cell? ⟨g, 1, none⟩ = some (.slice A m c) ∧ w.cell? ⟨g, 2, none⟩ = some (.int .i64 e) :=
  ⟨(blk_cell h.b 0).trans rfl, (blk_cell h.b 1).trans rfl, (blk_cell h.b 2).trans rfl⟩
/-- What the walk knows between two readings. -/
structure TR (w0 w : World) (g2 : Nat) (A : Option Addr) (c : Nat) (xs : List Int) : Prop where
  b2 : w.heap[g2]? = some (.cells #[.int .i64 0, .int .i64 0, .int .i64 0] 23 (0, 0))
  l2 : w0.heap.size ≤ g2
  hb : Below w0.heap.size w0 w
/-- Three numbers read, and what is left. -/
def T3 (w : World) (q : (Int × Int × Int) × Int × List Int) (e : Ending) (w' : World) : Prop := ∃ A2 c2, e = .returned (.tuple #[.agg #[.int .i64 q.1.1, .int .i64 q.1.2.1, .int .i64 q.1.2.2], .slice A2 q.2.2.length c2, .int .i64 q.2.1]) ∧ Kd.C (Kd.int .u8) w A2 q.2.2.length q.2.2 ∧ q.2.2.length ≤ c2 ∧ Below w.heap.size w w'
set_option maxHeartbeats 4000000 in
set_option maxRecDepth 100000 in
theorem three_ok (w00 : World) (A0 : Option Addr) (c0 : Nat) (l0 : List Int) (w : World) (hr0 : Kd.C (Kd.int .u8) w A0 l0.length l0) (hc0 : l0.length ≤ c0) (hby : Byt l0) :
    Calls Try.prog 30 #[.slice A0 l0.length c0] w (T3 w (rec3 l0)) := by
  have HC0 := Aside0.mk hr0
  have HBY := Aside0.mk hby
  have HBB := Aside0.mk (Below.refl w.heap.size w)
  clear hr0 hby
  obtain ⟨q, HQ⟩ : ∃ q, Aside0 (rec3 l0 = q) := ⟨_, ⟨rfl⟩⟩
  rw [HQ.out]
  obtain ⟨n0, HN0⟩ : ∃ n0, Aside0 (l0.length = n0) := ⟨_, ⟨rfl⟩⟩
  rw [HN0.out]
  go_enter Try.func30, Try.ntmps30
  go_upto_region 1 with fail
  have BK2 := Aside0.mk (heap_alloc_new w (.cells #[.int .i64 0, .int .i64 0, .int .i64 0] 23))
  have HB := Aside0.mk (below_alloc HBB.out (.cells #[.int .i64 0, .int .i64 0, .int .i64 0] 23))
  generalize w.alloc (.cells #[.int .i64 0, .int .i64 0, .int .i64 0] 23) = w0 at BK2 HB ⊢
  obtain ⟨g2, HG2⟩ : ∃ g2, Aside0 (w.heap.size = g2) := ⟨_, ⟨rfl⟩⟩
  have HL2 : Aside0 (w.heap.size ≤ g2) := ⟨by rw [HG2.out]; omega⟩
  replace BK2 : Aside0 (w0.heap[g2]? = some (.cells #[.int .i64 0, .int .i64 0, .int .i64 0] 23 (0, 0))) := ⟨by rw [← HG2.out]; exact BK2.out⟩
  go_wp2_with fail
  rw [HG2.out]
  rw [← HN0.out]
  refine (refuint w A0 c0 l0 _ HC0.out hc0 HBY.out HB.out).mono ?_
  rintro e w11 ⟨A1, c1, he_, hC_, hc1, hb_⟩
  rw [HN0.out]
  obtain ⟨n1, HN1⟩ : ∃ x, Aside0 ((rdU l0).1 = x) := ⟨_, ⟨rfl⟩⟩
  obtain ⟨e1, HE1⟩ : ∃ x, Aside0 ((rdU l0).2.1 = x) := ⟨_, ⟨rfl⟩⟩
  obtain ⟨r1, HR1⟩ : ∃ x, Aside0 ((rdU l0).2.2 = x) := ⟨_, ⟨rfl⟩⟩
  have HY1 := Aside0.mk (rdU_byt HBY.out)
  have HX1 := Aside0.mk (rdU_range HBY.out)
  rw [HR1.out] at hC_ hc1 HY1
  rw [HN1.out] at HX1
  have HC1 := Aside0.mk hC_
  rw [HN1.out, HE1.out, HR1.out] at he_
  obtain ⟨m1, HM1⟩ : ∃ x, Aside0 (r1.length = x) := ⟨_, ⟨rfl⟩⟩
  rw [HM1.out] at he_ hc1
  subst he_
  clear hC_
  replace BK2 := Aside0.mk (blk_below BK2.out hb_)
  replace HB := Aside0.mk (below_step HB.out hb_)
  clear hb_
  go_upto_region 2 with fail
  have BK5 := Aside0.mk (GotAt.mk (heap_alloc_new w11 (.cells #[.int .u64 n1, .slice A1 m1 c1, .int .i64 e1] 75)))
  have hb_ := below_alloc (Below.refl w11.heap.size w11) (.cells #[.int .u64 n1, .slice A1 m1 c1, .int .i64 e1] 75)
  generalize w11.alloc (.cells #[.int .u64 n1, .slice A1 m1 c1, .int .i64 e1] 75) = w12 at BK5 hb_ ⊢
  have LL5 := Aside0.mk (Array.getElem?_eq_some_iff.1 BK2.out).1
  replace BK2 := Aside0.mk (blk_below BK2.out hb_)
  replace HB := Aside0.mk (below_step HB.out hb_)
  clear hb_
  generalize w11.heap.size = g5 at BK5 LL5 ⊢
  have L5_ : g5 ≠ g2 := by have := LL5.out; omega
  by_cases he : e1 = 0
  · skip
    have z1 := he
    have hz1 : (e1 != 0) = false := by simpa using he
    clear he
    obtain ⟨x0_, x1_, x2_⟩ := BK5.out.cells
    go_wp2_with fail
    clear x0_ x1_ x2_
    rw [← HM1.out]
    refine (refuint w A1 c1 r1 _ HC1.out (by rw [HM1.out]; exact hc1) HY1.out HB.out).mono ?_
    rintro e w21 ⟨A2, c2, he_, hC_, hc2, hb_⟩
    rw [HM1.out]
    obtain ⟨n2, HN2⟩ : ∃ x, Aside0 ((rdU r1).1 = x) := ⟨_, ⟨rfl⟩⟩
    obtain ⟨e2, HE2⟩ : ∃ x, Aside0 ((rdU r1).2.1 = x) := ⟨_, ⟨rfl⟩⟩
    obtain ⟨r2, HR2⟩ : ∃ x, Aside0 ((rdU r1).2.2 = x) := ⟨_, ⟨rfl⟩⟩
    have HY2 := Aside0.mk (rdU_byt HY1.out)
    have HX2 := Aside0.mk (rdU_range HY1.out)
    rw [HR2.out] at hC_ hc2 HY2
    rw [HN2.out] at HX2
    have HC2 := Aside0.mk hC_
    rw [HN2.out, HE2.out, HR2.out] at he_
    obtain ⟨m2, HM2⟩ : ∃ x, Aside0 (r2.length = x) := ⟨_, ⟨rfl⟩⟩
    rw [HM2.out] at he_ hc2
    subst he_
    clear hC_
    replace BK2 := Aside0.mk (blk_below BK2.out hb_)
    replace BK5 := Aside0.mk (BK5.out.below hb_)
    replace HB := Aside0.mk (below_step HB.out hb_)
    clear hb_
    go_upto_region 5 with fail
    have BK6 := Aside0.mk (GotAt.mk (heap_alloc_new w21 (.cells #[.int .u64 n2, .slice A2 m2 c2, .int .i64 e2] 75)))
    have hb_ := below_alloc (Below.refl w21.heap.size w21) (.cells #[.int .u64 n2, .slice A2 m2 c2, .int .i64 e2] 75)
    generalize w21.alloc (.cells #[.int .u64 n2, .slice A2 m2 c2, .int .i64 e2] 75) = w22 at BK6 hb_ ⊢
    have LL6 := Aside0.mk (Array.getElem?_eq_some_iff.1 BK2.out).1
    replace BK2 := Aside0.mk (blk_below BK2.out hb_)
    replace BK5 := Aside0.mk (BK5.out.below hb_)
    replace HB := Aside0.mk (below_step HB.out hb_)
    clear hb_
    generalize w21.heap.size = g6 at BK6 LL6 ⊢
    have L6_ : g6 ≠ g2 := by have := LL6.out; omega
    by_cases he : e2 = 0
    · skip
      have z2 := he
      have hz2 : (e2 != 0) = false := by simpa using he
      clear he
      obtain ⟨x0_, x1_, x2_⟩ := BK6.out.cells
      go_wp2_with fail
      clear x0_ x1_ x2_
      rw [← HM2.out]
      refine (refuint w A2 c2 r2 _ HC2.out (by rw [HM2.out]; exact hc2) HY2.out HB.out).mono ?_
      rintro e w31 ⟨A3, c3, he_, hC_, hc3, hb_⟩
      rw [HM2.out]
      obtain ⟨n3, HN3⟩ : ∃ x, Aside0 ((rdU r2).1 = x) := ⟨_, ⟨rfl⟩⟩
      obtain ⟨e3, HE3⟩ : ∃ x, Aside0 ((rdU r2).2.1 = x) := ⟨_, ⟨rfl⟩⟩
      obtain ⟨r3, HR3⟩ : ∃ x, Aside0 ((rdU r2).2.2 = x) := ⟨_, ⟨rfl⟩⟩
      have HY3 := Aside0.mk (rdU_byt HY2.out)
      have HX3 := Aside0.mk (rdU_range HY2.out)
      rw [HR3.out] at hC_ hc3 HY3
      rw [HN3.out] at HX3
      have HC3 := Aside0.mk hC_
      rw [HN3.out, HE3.out, HR3.out] at he_
      obtain ⟨m3, HM3⟩ : ∃ x, Aside0 (r3.length = x) := ⟨_, ⟨rfl⟩⟩
      rw [HM3.out] at he_ hc3
      subst he_
      clear hC_
      replace BK2 := Aside0.mk (blk_below BK2.out hb_)
      replace BK5 := Aside0.mk (BK5.out.below hb_)
      replace BK6 := Aside0.mk (BK6.out.below hb_)
      replace HB := Aside0.mk (below_step HB.out hb_)
      clear hb_
      go_upto_region 8 with fail
      have BK7 := Aside0.mk (GotAt.mk (heap_alloc_new w31 (.cells #[.int .u64 n3, .slice A3 m3 c3, .int .i64 e3] 75)))
      have hb_ := below_alloc (Below.refl w31.heap.size w31) (.cells #[.int .u64 n3, .slice A3 m3 c3, .int .i64 e3] 75)
      generalize w31.alloc (.cells #[.int .u64 n3, .slice A3 m3 c3, .int .i64 e3] 75) = w32 at BK7 hb_ ⊢
      have LL7 := Aside0.mk (Array.getElem?_eq_some_iff.1 BK2.out).1
      replace BK2 := Aside0.mk (blk_below BK2.out hb_)
      replace BK5 := Aside0.mk (BK5.out.below hb_)
      replace BK6 := Aside0.mk (BK6.out.below hb_)
      replace HB := Aside0.mk (below_step HB.out hb_)
      clear hb_
      generalize w31.heap.size = g7 at BK7 LL7 ⊢
      have L7_ : g7 ≠ g2 := by have := LL7.out; omega
      by_cases he : e3 = 0
      · skip
        have z3 := he
        have hz3 : (e3 != 0) = false := by simpa using he
        clear he
        obtain rfl : q = ((sgn n1, sgn n2, sgn n3), 0, r3) := by rw [← HQ.out]; unfold rec3; rw [HR1.out, HR2.out, HR3.out, if_neg (by rw [HE1.out, z1]; simp), if_neg (by rw [HE2.out, z2]; simp), if_neg (by rw [HE3.out, z3]; simp), HN1.out, HN2.out, HN3.out]
        obtain ⟨x0_, x1_, x2_⟩ := BK7.out.cells
        go_wp2_with fail
        clear x0_ x1_ x2_
        replace BK2 : Aside0 (w32.drew.heap[g2]? = some (.cells #[.int .i64 0, .int .i64 0, .int .i64 0] 23 (0, 0))) := ⟨BK2.out⟩
        replace HB := Aside0.mk (below_drew HB.out)
        refine start_ (n := 15) (S := fun w' => GotAt w' g5 n1 A1 m1 c1 e1 ∧ GotAt w' g6 n2 A2 m2 c2 e2 ∧ GotAt w' g7 n3 A3 m3 c3 e3) (ds := []) #[false, false, false, false, false, false, false, false, false, false, false, false, false, false, false] (by kernel_rfl) rfl rfl (⟨⟨BK5.out.b⟩, ⟨BK6.out.b⟩, ⟨BK7.out.b⟩⟩) (fun hHeld => ?_)
        refine pure_ (i := 0) (N := some 37) (v := ?_) (a' := ?_) #[true, false, false, false, false, false, false, false, false, false, false, false, false, false, false] rfl rfl (by kernel_rfl) (fun _ _ _ h => h) (Or.inl ⟨by rfl, ?_⟩) ?_ ?_
        rotate_left
        · intro w'
          go_simp
          with_reducible rfl
        rotate_left
        · simp only [Act.put, List.setIfInBounds_toArray, List.set_cons_zero, List.set_cons_succ, i64_w, i32_w]
          rfl
        refine pure_ (i := 3) (N := some 40) (v := ?_) (a' := ?_) #[true, false, false, true, false, false, false, false, false, false, false, false, false, false, false] rfl rfl (by kernel_rfl) (fun _ _ _ h => h) (Or.inl ⟨by rfl, ?_⟩) ?_ ?_
        rotate_left
        · intro w'
          go_simp
          with_reducible rfl
        rotate_left
        · simp only [Act.put, List.setIfInBounds_toArray, List.set_cons_zero, List.set_cons_succ, i64_w, i32_w]
          rfl
        refine pure_ (i := 6) (N := some 43) (v := ?_) (a' := ?_) #[true, false, false, true, false, false, true, false, false, false, false, false, false, false, false] rfl rfl (by kernel_rfl) (fun _ _ _ h => h) (Or.inl ⟨by rfl, ?_⟩) ?_ ?_
        rotate_left
        · intro w'
          go_simp
          with_reducible rfl
        rotate_left
        · simp only [Act.put, List.setIfInBounds_toArray, List.set_cons_zero, List.set_cons_succ, i64_w, i32_w]
          rfl
        refine pure_ (i := 10) (N := some 47) (v := ?_) (a' := ?_) #[true, false, false, true, false, false, true, false, false, false, true, false, false, false, false] rfl rfl (by kernel_rfl) (fun _ _ _ h => h) (Or.inl ⟨by rfl, ?_⟩) ?_ ?_
        rotate_left
        · intro w'
          go_simp
          with_reducible rfl
        rotate_left
        · simp only [Act.put, List.setIfInBounds_toArray, List.set_cons_zero, List.set_cons_succ, i64_w, i32_w]
          rfl
        refine take_ (i := 1) (N := some 38) (v := ?_) (a' := ?_) #[true, true, false, true, false, false, true, false, false, false, true, false, false, false, false] rfl rfl (by kernel_rfl) (fun _ _ _ h => h) (Or.inl ⟨by rfl, ?_⟩) hHeld ?_ ?_
        rotate_left
        · intro w' hS
          obtain ⟨c_, _, _⟩ := hS.1.cells
          go_simp
          with_reducible rfl
        rotate_left
        · simp only [Act.put, List.setIfInBounds_toArray, List.set_cons_zero, List.set_cons_succ, i64_w, i32_w]
          rfl
        refine take_ (i := 4) (N := some 41) (v := ?_) (a' := ?_) #[true, true, false, true, true, false, true, false, false, false, true, false, false, false, false] rfl rfl (by kernel_rfl) (fun _ _ _ h => h) (Or.inl ⟨by rfl, ?_⟩) hHeld ?_ ?_
        rotate_left
        · intro w' hS
          obtain ⟨c_, _, _⟩ := hS.2.1.cells
          go_simp
          with_reducible rfl
        rotate_left
        · simp only [Act.put, List.setIfInBounds_toArray, List.set_cons_zero, List.set_cons_succ, i64_w, i32_w]
          rfl
        refine take_ (i := 7) (N := some 44) (v := ?_) (a' := ?_) #[true, true, false, true, true, false, true, true, false, false, true, false, false, false, false] rfl rfl (by kernel_rfl) (fun _ _ _ h => h) (Or.inl ⟨by rfl, ?_⟩) hHeld ?_ ?_
        rotate_left
        · intro w' hS
          obtain ⟨c_, _, _⟩ := hS.2.2.cells
          go_simp
          with_reducible rfl
        rotate_left
        · simp only [Act.put, List.setIfInBounds_toArray, List.set_cons_zero, List.set_cons_succ, i64_w, i32_w]
          rfl
        refine take_ (i := 11) (N := some 48) (v := ?_) (a' := ?_) #[true, true, false, true, true, false, true, true, false, false, true, true, false, false, false] rfl rfl (by kernel_rfl) (fun _ _ _ h => h) (Or.inl ⟨by rfl, ?_⟩) hHeld ?_ ?_
        rotate_left
        · intro w' hS
          obtain ⟨_, c_, _⟩ := hS.2.2.cells
          go_simp
          with_reducible rfl
        rotate_left
        · simp only [Act.put, List.setIfInBounds_toArray, List.set_cons_zero, List.set_cons_succ, i64_w, i32_w]
          rfl
        refine one_ (i := 2) (N := some 39) #[true, true, true, true, true, false, true, true, false, false, true, true, false, false, false] rfl rfl (by kernel_rfl) (by simp) (fun K hK => ?_)
        refine goes_ Try.func43 (by kernel_rfl) rfl #[.int .u64 n1] (by rfl) rfl rfl (by simp only [List.map_toArray, List.map_cons, List.map_nil]; rfl) ?_
        with_reducible refine (signed_any n1 _ HX1.out.1 HX1.out.2).mono ?_
        rintro e_ w41 ⟨rfl, hb_⟩
        refine ⟨_, rfl, ?_⟩
        refine hK.out _ _ (⟨hHeld.1.below hb_, hHeld.2.1.below hb_, hHeld.2.2.below hb_⟩) (fun hHeld => ?_)
        clear hK K
        refine norm_ (a' := ?_) ?_ ?_
        rotate_left
        · show Act.put _ (some 39) _ = _
          simp only [Act.put, List.setIfInBounds_toArray, List.set_cons_zero, List.set_cons_succ, i64_w, i32_w]
          rfl
        replace BK2 := Aside0.mk (blk_below BK2.out hb_)
        replace HB := Aside0.mk (below_step HB.out hb_)
        clear hb_
        refine one_ (i := 5) (N := some 42) #[true, true, true, true, true, true, true, true, false, false, true, true, false, false, false] rfl rfl (by kernel_rfl) (by simp) (fun K hK => ?_)
        refine goes_ Try.func43 (by kernel_rfl) rfl #[.int .u64 n2] (by rfl) rfl rfl (by simp only [List.map_toArray, List.map_cons, List.map_nil]; rfl) ?_
        with_reducible refine (signed_any n2 _ HX2.out.1 HX2.out.2).mono ?_
        rintro e_ w42 ⟨rfl, hb_⟩
        refine ⟨_, rfl, ?_⟩
        refine hK.out _ _ (⟨hHeld.1.below hb_, hHeld.2.1.below hb_, hHeld.2.2.below hb_⟩) (fun hHeld => ?_)
        clear hK K
        refine norm_ (a' := ?_) ?_ ?_
        rotate_left
        · show Act.put _ (some 42) _ = _
          simp only [Act.put, List.setIfInBounds_toArray, List.set_cons_zero, List.set_cons_succ, i64_w, i32_w]
          rfl
        replace BK2 := Aside0.mk (blk_below BK2.out hb_)
        replace HB := Aside0.mk (below_step HB.out hb_)
        clear hb_
        refine one_ (i := 8) (N := some 45) #[true, true, true, true, true, true, true, true, true, false, true, true, false, false, false] rfl rfl (by kernel_rfl) (by simp) (fun K hK => ?_)
        refine goes_ Try.func43 (by kernel_rfl) rfl #[.int .u64 n3] (by rfl) rfl rfl (by simp only [List.map_toArray, List.map_cons, List.map_nil]; rfl) ?_
        with_reducible refine (signed_any n3 _ HX3.out.1 HX3.out.2).mono ?_
        rintro e_ w43 ⟨rfl, hb_⟩
        refine ⟨_, rfl, ?_⟩
        refine hK.out _ _ (⟨hHeld.1.below hb_, hHeld.2.1.below hb_, hHeld.2.2.below hb_⟩) (fun hHeld => ?_)
        clear hK K
        refine norm_ (a' := ?_) ?_ ?_
        rotate_left
        · show Act.put _ (some 45) _ = _
          simp only [Act.put, List.setIfInBounds_toArray, List.set_cons_zero, List.set_cons_succ, i64_w, i32_w]
          rfl
        replace BK2 := Aside0.mk (blk_below BK2.out hb_)
        replace HB := Aside0.mk (below_step HB.out hb_)
        clear hb_
        refine pure_ (i := 9) (N := some 46) (v := ?_) (a' := ?_) #[true, true, true, true, true, true, true, true, true, true, true, true, false, false, false] rfl rfl (by kernel_rfl) (fun _ _ _ h => h) (Or.inl ⟨by rfl, ?_⟩) ?_ ?_
        rotate_left
        · intro w'
          go_simp
          with_reducible rfl
        rotate_left
        · simp only [Act.put, List.setIfInBounds_toArray, List.set_cons_zero, List.set_cons_succ, i64_w, i32_w]
          rfl
        refine one_ (i := 12) (N := none) #[true, true, true, true, true, true, true, true, true, true, true, true, true, false, false] rfl rfl (by kernel_rfl) (by simp) (fun K hK => ?_)
        have d0_ := (blk_cell BK2.out 0).trans (rfl : _ = some (.int .i64 0 : Value))
        have d1_ := (blk_cell BK2.out 1).trans (rfl : _ = some (.int .i64 0 : Value))
        have d2_ := (blk_cell BK2.out 2).trans (rfl : _ = some (.int .i64 0 : Value))
        have k0_ := blk_frozen BK2.out 0
        have k1_ := blk_frozen BK2.out 1
        have k2_ := blk_frozen BK2.out 2
        refine skip_ (w1 := ((w43.setCell ⟨g2, 0, none⟩ (.int .i64 (sgn n1))).setCell ⟨g2, 1, none⟩ (.int .i64 (sgn n2))).setCell ⟨g2, 2, none⟩ (.int .i64 (sgn n3))) (by rfl) rfl (by go_simp; done) ?_
        refine hK.out _ _ (⟨⟨blk_far (blk_far (blk_far hHeld.1.b (p := ⟨g2, 0, none⟩) L5_ _) (p := ⟨g2, 1, none⟩) L5_ _) (p := ⟨g2, 2, none⟩) L5_ _⟩, ⟨blk_far (blk_far (blk_far hHeld.2.1.b (p := ⟨g2, 0, none⟩) L6_ _) (p := ⟨g2, 1, none⟩) L6_ _) (p := ⟨g2, 2, none⟩) L6_ _⟩, ⟨blk_far (blk_far (blk_far hHeld.2.2.b (p := ⟨g2, 0, none⟩) L7_ _) (p := ⟨g2, 1, none⟩) L7_ _) (p := ⟨g2, 2, none⟩) L7_ _⟩⟩) (fun hHeld => ?_)
        clear hK K
        clear d0_ d1_ d2_ k0_ k1_ k2_ hHeld
        refine pure_ (i := 13) (N := some 3) (v := ?_) (a' := ?_) #[true, true, true, true, true, true, true, true, true, true, true, true, true, true, false] rfl rfl (by kernel_rfl) (fun _ _ _ h => h) (Or.inl ⟨by rfl, ?_⟩) ?_ ?_
        rotate_left
        · intro w'
          go_simp
          with_reducible rfl
        rotate_left
        · simp only [Act.put, List.setIfInBounds_toArray, List.set_cons_zero, List.set_cons_succ, i64_w, i32_w]
          rfl
        refine pure_ (i := 14) (N := some 4) (v := ?_) (a' := ?_) #[true, true, true, true, true, true, true, true, true, true, true, true, true, true, true] rfl rfl (by kernel_rfl) (fun _ _ _ h => h) (Or.inl ⟨by rfl, ?_⟩) ?_ ?_
        rotate_left
        · intro w'
          go_simp
          with_reducible rfl
        rotate_left
        · simp only [Act.put, List.setIfInBounds_toArray, List.set_cons_zero, List.set_cons_succ, i64_w, i32_w]
          rfl
        refine done_ (by kernel_rfl) ?_
        have B_ := blk_put (blk_put (blk_put BK2.out 0 (.int .i64 (sgn n1)) rfl) 1 (.int .i64 (sgn n2)) rfl) 2 (.int .i64 (sgn n3)) rfl
        have G_ := below_set (j := 2) (v := .int .i64 (sgn n3)) (below_set (j := 1) (v := .int .i64 (sgn n2)) (below_set (j := 0) (v := .int .i64 (sgn n1)) HB.out HL2.out) HL2.out) HL2.out
        generalize ((w43.setCell ⟨g2, 0, none⟩ (.int .i64 (sgn n1))).setCell ⟨g2, 1, none⟩ (.int .i64 (sgn n2))).setCell ⟨g2, 2, none⟩ (.int .i64 (sgn n3)) = w99 at B_ G_ ⊢
        have p0_ : w99.cell? ⟨g2, 0, none⟩ = some (.int .i64 (sgn n1)) := (blk_cell B_ 0).trans rfl
        have p1_ : w99.cell? ⟨g2, 1, none⟩ = some (.int .i64 (sgn n2)) := (blk_cell B_ 1).trans rfl
        have p2_ : w99.cell? ⟨g2, 2, none⟩ = some (.int .i64 (sgn n3)) := (blk_cell B_ 2).trans rfl
        go_wp2
        refine bodyPost_ret (v := .tuple #[.agg #[.int .i64 (sgn n1), .int .i64 (sgn n2), .int .i64 (sgn n3)], .slice A3 m3 c3, .int .i64 0]) (by simp [results, Try.results30, go_sem, p0_, p1_, p2_]) rfl ?_
        exact ⟨A3, c3, by rw [HM3.out], HC3.out, (by rw [HM3.out]; exact hc3), G_⟩
      · skip
        have hz : (e3 != 0) = true := by simpa using he
        obtain rfl : q = ((0, 0, 0), e3, l0) := by rw [← HQ.out]; unfold rec3; rw [HR1.out, HR2.out, if_neg (by rw [HE1.out, z1]; simp), if_neg (by rw [HE2.out, z2]; simp), if_pos (by rw [HE3.out]; exact he), HE3.out]
        obtain ⟨x0_, x1_, x2_⟩ := BK7.out.cells
        have d0_ := (blk_cell BK2.out 0).trans (rfl : _ = some (.int .i64 0 : Value))
        have d1_ := (blk_cell BK2.out 1).trans (rfl : _ = some (.int .i64 0 : Value))
        have d2_ := (blk_cell BK2.out 2).trans (rfl : _ = some (.int .i64 0 : Value))
        have k0_ := blk_frozen BK2.out 0
        have k1_ := blk_frozen BK2.out 1
        have k2_ := blk_frozen BK2.out 2
        go_wp2_with fail
        clear x0_ x1_
        refine start_ (n := 7) (S := fun w' => w'.cell? ⟨g7, 2, none⟩ = some (.int .i64 e3)) (ds := []) #[false, false, false, false, false, false, false] (by kernel_rfl) rfl rfl (x2_) (fun hHeld => ?_)
        refine pure_ (i := 0) (N := some 33) (v := ?_) (a' := ?_) #[true, false, false, false, false, false, false] rfl rfl (by kernel_rfl) (fun _ _ _ h => h) (Or.inl ⟨by rfl, ?_⟩) ?_ ?_
        rotate_left
        · intro w'
          go_simp
          with_reducible rfl
        rotate_left
        · simp only [Act.put, List.setIfInBounds_toArray, List.set_cons_zero, List.set_cons_succ, i64_w, i32_w]
          rfl
        refine pure_ (i := 1) (N := some 34) (v := ?_) (a' := ?_) #[true, true, false, false, false, false, false] rfl rfl (by kernel_rfl) (fun _ _ _ h => h) (Or.inl ⟨by rfl, ?_⟩) ?_ ?_
        rotate_left
        · intro w'
          go_simp
          with_reducible rfl
        rotate_left
        · simp only [Act.put, List.setIfInBounds_toArray, List.set_cons_zero, List.set_cons_succ, i64_w, i32_w]
          rfl
        refine pure_ (i := 2) (N := some 35) (v := ?_) (a' := ?_) #[true, true, true, false, false, false, false] rfl rfl (by kernel_rfl) (fun _ _ _ h => h) (Or.inl ⟨by rfl, ?_⟩) ?_ ?_
        rotate_left
        · intro w'
          go_simp
          with_reducible rfl
        rotate_left
        · simp only [Act.put, List.setIfInBounds_toArray, List.set_cons_zero, List.set_cons_succ, i64_w, i32_w]
          rfl
        refine take_ (i := 3) (N := some 36) (v := ?_) (a' := ?_) #[true, true, true, true, false, false, false] rfl rfl (by kernel_rfl) (fun _ _ _ h => h) (Or.inl ⟨by rfl, ?_⟩) hHeld ?_ ?_
        rotate_left
        · intro w' hS
          have c_ := hS
          go_simp
          with_reducible rfl
        rotate_left
        · simp only [Act.put, List.setIfInBounds_toArray, List.set_cons_zero, List.set_cons_succ, i64_w, i32_w]
          rfl
        refine one_ (i := 4) (N := none) #[true, true, true, true, true, false, false] rfl rfl (by kernel_rfl) (by simp) (fun K hK => ?_)
        refine skip_ (w1 := ((w32.drew.setCell ⟨g2, 0, none⟩ (.int .i64 0)).setCell ⟨g2, 1, none⟩ (.int .i64 0)).setCell ⟨g2, 2, none⟩ (.int .i64 0)) (by rfl) rfl (by go_simp; done) ?_
        refine hK.out _ _ ((blk_cell (blk_far (blk_far (blk_far BK7.out.b (p := ⟨g2, 0, none⟩) L7_ _) (p := ⟨g2, 1, none⟩) L7_ _) (p := ⟨g2, 2, none⟩) L7_ _) 2).trans rfl) (fun hHeld => ?_)
        clear hK K
        refine pure_ (i := 5) (N := some 3) (v := ?_) (a' := ?_) #[true, true, true, true, true, true, false] rfl rfl (by kernel_rfl) (fun _ _ _ h => h) (Or.inl ⟨by rfl, ?_⟩) ?_ ?_
        rotate_left
        · intro w'
          go_simp
          with_reducible rfl
        rotate_left
        · simp only [Act.put, List.setIfInBounds_toArray, List.set_cons_zero, List.set_cons_succ, i64_w, i32_w]
          rfl
        refine pure_ (i := 6) (N := some 4) (v := ?_) (a' := ?_) #[true, true, true, true, true, true, true] rfl rfl (by kernel_rfl) (fun _ _ _ h => h) (Or.inl ⟨by rfl, ?_⟩) ?_ ?_
        rotate_left
        · intro w'
          go_simp
          with_reducible rfl
        rotate_left
        · simp only [Act.put, List.setIfInBounds_toArray, List.set_cons_zero, List.set_cons_succ, i64_w, i32_w]
          rfl
        refine done_ (by kernel_rfl) ?_
        replace BK2 : Aside0 (w32.drew.heap[g2]? = some (.cells #[.int .i64 0, .int .i64 0, .int .i64 0] 23 (0, 0))) := ⟨BK2.out⟩
        replace HB := Aside0.mk (below_drew HB.out)
        clear hHeld d0_ d1_ d2_ k0_ k1_ k2_ x2_
        have B_ := blk_put (blk_put (blk_put BK2.out 0 (.int .i64 0) rfl) 1 (.int .i64 0) rfl) 2 (.int .i64 0) rfl
        have G_ := below_set (j := 2) (v := .int .i64 0) (below_set (j := 1) (v := .int .i64 0) (below_set (j := 0) (v := .int .i64 0) HB.out HL2.out) HL2.out) HL2.out
        generalize ((w32.drew.setCell ⟨g2, 0, none⟩ (.int .i64 0)).setCell ⟨g2, 1, none⟩ (.int .i64 0)).setCell ⟨g2, 2, none⟩ (.int .i64 0) = w99 at B_ G_ ⊢
        have p0_ : w99.cell? ⟨g2, 0, none⟩ = some (.int .i64 0) := (blk_cell B_ 0).trans rfl
        have p1_ : w99.cell? ⟨g2, 1, none⟩ = some (.int .i64 0) := (blk_cell B_ 1).trans rfl
        have p2_ : w99.cell? ⟨g2, 2, none⟩ = some (.int .i64 0) := (blk_cell B_ 2).trans rfl
        go_wp2
        refine bodyPost_ret (v := .tuple #[.agg #[.int .i64 0, .int .i64 0, .int .i64 0], .slice A0 n0 c0, .int .i64 e3]) (by simp [results, Try.results30, go_sem, p0_, p1_, p2_]) rfl ?_
        exact ⟨A0, c0, by rw [HN0.out], HC0.out, hc0, G_⟩
    · skip
      have hz : (e2 != 0) = true := by simpa using he
      obtain rfl : q = ((0, 0, 0), e2, l0) := by rw [← HQ.out]; unfold rec3; rw [HR1.out, if_neg (by rw [HE1.out, z1]; simp), if_pos (by rw [HE2.out]; exact he), HE2.out]
      obtain ⟨x0_, x1_, x2_⟩ := BK6.out.cells
      have d0_ := (blk_cell BK2.out 0).trans (rfl : _ = some (.int .i64 0 : Value))
      have d1_ := (blk_cell BK2.out 1).trans (rfl : _ = some (.int .i64 0 : Value))
      have d2_ := (blk_cell BK2.out 2).trans (rfl : _ = some (.int .i64 0 : Value))
      have k0_ := blk_frozen BK2.out 0
      have k1_ := blk_frozen BK2.out 1
      have k2_ := blk_frozen BK2.out 2
      go_wp2_with fail
      clear x0_ x1_
      refine start_ (n := 7) (S := fun w' => w'.cell? ⟨g6, 2, none⟩ = some (.int .i64 e2)) (ds := []) #[false, false, false, false, false, false, false] (by kernel_rfl) rfl rfl (x2_) (fun hHeld => ?_)
      refine pure_ (i := 0) (N := some 23) (v := ?_) (a' := ?_) #[true, false, false, false, false, false, false] rfl rfl (by kernel_rfl) (fun _ _ _ h => h) (Or.inl ⟨by rfl, ?_⟩) ?_ ?_
      rotate_left
      · intro w'
        go_simp
        with_reducible rfl
      rotate_left
      · simp only [Act.put, List.setIfInBounds_toArray, List.set_cons_zero, List.set_cons_succ, i64_w, i32_w]
        rfl
      refine pure_ (i := 1) (N := some 24) (v := ?_) (a' := ?_) #[true, true, false, false, false, false, false] rfl rfl (by kernel_rfl) (fun _ _ _ h => h) (Or.inl ⟨by rfl, ?_⟩) ?_ ?_
      rotate_left
      · intro w'
        go_simp
        with_reducible rfl
      rotate_left
      · simp only [Act.put, List.setIfInBounds_toArray, List.set_cons_zero, List.set_cons_succ, i64_w, i32_w]
        rfl
      refine pure_ (i := 2) (N := some 25) (v := ?_) (a' := ?_) #[true, true, true, false, false, false, false] rfl rfl (by kernel_rfl) (fun _ _ _ h => h) (Or.inl ⟨by rfl, ?_⟩) ?_ ?_
      rotate_left
      · intro w'
        go_simp
        with_reducible rfl
      rotate_left
      · simp only [Act.put, List.setIfInBounds_toArray, List.set_cons_zero, List.set_cons_succ, i64_w, i32_w]
        rfl
      refine take_ (i := 3) (N := some 26) (v := ?_) (a' := ?_) #[true, true, true, true, false, false, false] rfl rfl (by kernel_rfl) (fun _ _ _ h => h) (Or.inl ⟨by rfl, ?_⟩) hHeld ?_ ?_
      rotate_left
      · intro w' hS
        have c_ := hS
        go_simp
        with_reducible rfl
      rotate_left
      · simp only [Act.put, List.setIfInBounds_toArray, List.set_cons_zero, List.set_cons_succ, i64_w, i32_w]
        rfl
      refine one_ (i := 4) (N := none) #[true, true, true, true, true, false, false] rfl rfl (by kernel_rfl) (by simp) (fun K hK => ?_)
      refine skip_ (w1 := ((w22.drew.setCell ⟨g2, 0, none⟩ (.int .i64 0)).setCell ⟨g2, 1, none⟩ (.int .i64 0)).setCell ⟨g2, 2, none⟩ (.int .i64 0)) (by rfl) rfl (by go_simp; done) ?_
      refine hK.out _ _ ((blk_cell (blk_far (blk_far (blk_far BK6.out.b (p := ⟨g2, 0, none⟩) L6_ _) (p := ⟨g2, 1, none⟩) L6_ _) (p := ⟨g2, 2, none⟩) L6_ _) 2).trans rfl) (fun hHeld => ?_)
      clear hK K
      refine pure_ (i := 5) (N := some 3) (v := ?_) (a' := ?_) #[true, true, true, true, true, true, false] rfl rfl (by kernel_rfl) (fun _ _ _ h => h) (Or.inl ⟨by rfl, ?_⟩) ?_ ?_
      rotate_left
      · intro w'
        go_simp
        with_reducible rfl
      rotate_left
      · simp only [Act.put, List.setIfInBounds_toArray, List.set_cons_zero, List.set_cons_succ, i64_w, i32_w]
        rfl
      refine pure_ (i := 6) (N := some 4) (v := ?_) (a' := ?_) #[true, true, true, true, true, true, true] rfl rfl (by kernel_rfl) (fun _ _ _ h => h) (Or.inl ⟨by rfl, ?_⟩) ?_ ?_
      rotate_left
      · intro w'
        go_simp
        with_reducible rfl
      rotate_left
      · simp only [Act.put, List.setIfInBounds_toArray, List.set_cons_zero, List.set_cons_succ, i64_w, i32_w]
        rfl
      refine done_ (by kernel_rfl) ?_
      replace BK2 : Aside0 (w22.drew.heap[g2]? = some (.cells #[.int .i64 0, .int .i64 0, .int .i64 0] 23 (0, 0))) := ⟨BK2.out⟩
      replace HB := Aside0.mk (below_drew HB.out)
      clear hHeld d0_ d1_ d2_ k0_ k1_ k2_ x2_
      have B_ := blk_put (blk_put (blk_put BK2.out 0 (.int .i64 0) rfl) 1 (.int .i64 0) rfl) 2 (.int .i64 0) rfl
      have G_ := below_set (j := 2) (v := .int .i64 0) (below_set (j := 1) (v := .int .i64 0) (below_set (j := 0) (v := .int .i64 0) HB.out HL2.out) HL2.out) HL2.out
      generalize ((w22.drew.setCell ⟨g2, 0, none⟩ (.int .i64 0)).setCell ⟨g2, 1, none⟩ (.int .i64 0)).setCell ⟨g2, 2, none⟩ (.int .i64 0) = w99 at B_ G_ ⊢
      have p0_ : w99.cell? ⟨g2, 0, none⟩ = some (.int .i64 0) := (blk_cell B_ 0).trans rfl
      have p1_ : w99.cell? ⟨g2, 1, none⟩ = some (.int .i64 0) := (blk_cell B_ 1).trans rfl
      have p2_ : w99.cell? ⟨g2, 2, none⟩ = some (.int .i64 0) := (blk_cell B_ 2).trans rfl
      go_wp2
      refine bodyPost_ret (v := .tuple #[.agg #[.int .i64 0, .int .i64 0, .int .i64 0], .slice A0 n0 c0, .int .i64 e2]) (by simp [results, Try.results30, go_sem, p0_, p1_, p2_]) rfl ?_
      exact ⟨A0, c0, by rw [HN0.out], HC0.out, hc0, G_⟩
  · skip
    have hz : (e1 != 0) = true := by simpa using he
    obtain rfl : q = ((0, 0, 0), e1, l0) := by rw [← HQ.out]; unfold rec3; rw [if_pos (by rw [HE1.out]; exact he), HE1.out]
    obtain ⟨x0_, x1_, x2_⟩ := BK5.out.cells
    have d0_ := (blk_cell BK2.out 0).trans (rfl : _ = some (.int .i64 0 : Value))
    have d1_ := (blk_cell BK2.out 1).trans (rfl : _ = some (.int .i64 0 : Value))
    have d2_ := (blk_cell BK2.out 2).trans (rfl : _ = some (.int .i64 0 : Value))
    have k0_ := blk_frozen BK2.out 0
    have k1_ := blk_frozen BK2.out 1
    have k2_ := blk_frozen BK2.out 2
    go_wp2_with fail
    clear x0_ x1_
    refine start_ (n := 7) (S := fun w' => w'.cell? ⟨g5, 2, none⟩ = some (.int .i64 e1)) (ds := []) #[false, false, false, false, false, false, false] (by kernel_rfl) rfl rfl (x2_) (fun hHeld => ?_)
    refine pure_ (i := 0) (N := some 13) (v := ?_) (a' := ?_) #[true, false, false, false, false, false, false] rfl rfl (by kernel_rfl) (fun _ _ _ h => h) (Or.inl ⟨by rfl, ?_⟩) ?_ ?_
    rotate_left
    · intro w'
      go_simp
      with_reducible rfl
    rotate_left
    · simp only [Act.put, List.setIfInBounds_toArray, List.set_cons_zero, List.set_cons_succ, i64_w, i32_w]
      rfl
    refine pure_ (i := 1) (N := some 14) (v := ?_) (a' := ?_) #[true, true, false, false, false, false, false] rfl rfl (by kernel_rfl) (fun _ _ _ h => h) (Or.inl ⟨by rfl, ?_⟩) ?_ ?_
    rotate_left
    · intro w'
      go_simp
      with_reducible rfl
    rotate_left
    · simp only [Act.put, List.setIfInBounds_toArray, List.set_cons_zero, List.set_cons_succ, i64_w, i32_w]
      rfl
    refine pure_ (i := 2) (N := some 15) (v := ?_) (a' := ?_) #[true, true, true, false, false, false, false] rfl rfl (by kernel_rfl) (fun _ _ _ h => h) (Or.inl ⟨by rfl, ?_⟩) ?_ ?_
    rotate_left
    · intro w'
      go_simp
      with_reducible rfl
    rotate_left
    · simp only [Act.put, List.setIfInBounds_toArray, List.set_cons_zero, List.set_cons_succ, i64_w, i32_w]
      rfl
    refine take_ (i := 3) (N := some 16) (v := ?_) (a' := ?_) #[true, true, true, true, false, false, false] rfl rfl (by kernel_rfl) (fun _ _ _ h => h) (Or.inl ⟨by rfl, ?_⟩) hHeld ?_ ?_
    rotate_left
    · intro w' hS
      have c_ := hS
      go_simp
      with_reducible rfl
    rotate_left
    · simp only [Act.put, List.setIfInBounds_toArray, List.set_cons_zero, List.set_cons_succ, i64_w, i32_w]
      rfl
    refine one_ (i := 4) (N := none) #[true, true, true, true, true, false, false] rfl rfl (by kernel_rfl) (by simp) (fun K hK => ?_)
    refine skip_ (w1 := ((w12.drew.setCell ⟨g2, 0, none⟩ (.int .i64 0)).setCell ⟨g2, 1, none⟩ (.int .i64 0)).setCell ⟨g2, 2, none⟩ (.int .i64 0)) (by rfl) rfl (by go_simp; done) ?_
    refine hK.out _ _ ((blk_cell (blk_far (blk_far (blk_far BK5.out.b (p := ⟨g2, 0, none⟩) L5_ _) (p := ⟨g2, 1, none⟩) L5_ _) (p := ⟨g2, 2, none⟩) L5_ _) 2).trans rfl) (fun hHeld => ?_)
    clear hK K
    refine pure_ (i := 5) (N := some 3) (v := ?_) (a' := ?_) #[true, true, true, true, true, true, false] rfl rfl (by kernel_rfl) (fun _ _ _ h => h) (Or.inl ⟨by rfl, ?_⟩) ?_ ?_
    rotate_left
    · intro w'
      go_simp
      with_reducible rfl
    rotate_left
    · simp only [Act.put, List.setIfInBounds_toArray, List.set_cons_zero, List.set_cons_succ, i64_w, i32_w]
      rfl
    refine pure_ (i := 6) (N := some 4) (v := ?_) (a' := ?_) #[true, true, true, true, true, true, true] rfl rfl (by kernel_rfl) (fun _ _ _ h => h) (Or.inl ⟨by rfl, ?_⟩) ?_ ?_
    rotate_left
    · intro w'
      go_simp
      with_reducible rfl
    rotate_left
    · simp only [Act.put, List.setIfInBounds_toArray, List.set_cons_zero, List.set_cons_succ, i64_w, i32_w]
      rfl
    refine done_ (by kernel_rfl) ?_
    replace BK2 : Aside0 (w12.drew.heap[g2]? = some (.cells #[.int .i64 0, .int .i64 0, .int .i64 0] 23 (0, 0))) := ⟨BK2.out⟩
    replace HB := Aside0.mk (below_drew HB.out)
    clear hHeld d0_ d1_ d2_ k0_ k1_ k2_ x2_
    have B_ := blk_put (blk_put (blk_put BK2.out 0 (.int .i64 0) rfl) 1 (.int .i64 0) rfl) 2 (.int .i64 0) rfl
    have G_ := below_set (j := 2) (v := .int .i64 0) (below_set (j := 1) (v := .int .i64 0) (below_set (j := 0) (v := .int .i64 0) HB.out HL2.out) HL2.out) HL2.out
    generalize ((w12.drew.setCell ⟨g2, 0, none⟩ (.int .i64 0)).setCell ⟨g2, 1, none⟩ (.int .i64 0)).setCell ⟨g2, 2, none⟩ (.int .i64 0) = w99 at B_ G_ ⊢
    have p0_ : w99.cell? ⟨g2, 0, none⟩ = some (.int .i64 0) := (blk_cell B_ 0).trans rfl
    have p1_ : w99.cell? ⟨g2, 1, none⟩ = some (.int .i64 0) := (blk_cell B_ 1).trans rfl
    have p2_ : w99.cell? ⟨g2, 2, none⟩ = some (.int .i64 0) := (blk_cell B_ 2).trans rfl
    go_wp2
    refine bodyPost_ret (v := .tuple #[.agg #[.int .i64 0, .int .i64 0, .int .i64 0], .slice A0 n0 c0, .int .i64 e1]) (by simp [results, Try.results30, go_sem, p0_, p1_, p2_]) rfl ?_
    exact ⟨A0, c0, by rw [HN0.out], HC0.out, hc0, G_⟩
theorem reftime_ok (n : Int) (w : World) : Calls Try.prog 31 #[.int .i64 n] w fun e w' => e = .returned (.bool (timeOk n)) ∧ Below w.heap.size w w' :=
  (Rp.tidemillref03_Time.calls n (timeOk n) w (by
    unfold Rp.tidemillref03_Time.f timeOk
    by_cases h : n ≥ 0
    · rw [if_pos h]; simp; omega
    · rw [if_neg h]; simp; omega)).mono fun e w' h => ⟨h.1, h.2.below⟩
set_option maxHeartbeats 4000000 in
set_option maxRecDepth 100000 in
theorem refToRec_ok (A0 : Option Addr) (c0 : Nat) (l0 : List Int) (w : World) (hr0 : Kd.C (Kd.int .u8) w A0 l0.length l0) (hc0 : l0.length ≤ c0) (hby : Byt l0) :
    Calls Try.prog 14 #[.slice A0 l0.length c0] w fun e w' => e = .returned (.tuple #[.agg #[.int .i64 (toRec l0).1, .int .i64 (toRec l0).2.1, .int .i64 (toRec l0).2.2.1], .int .i64 (toRec l0).2.2.2]) ∧ Below w.heap.size w w' := by
  have HC0 := Aside0.mk hr0
  have HBY := Aside0.mk hby
  clear hr0 hby
  obtain ⟨q, HQ⟩ : ∃ q, Aside0 (rec3 l0 = q) := ⟨_, ⟨rfl⟩⟩
  obtain ⟨t, HT⟩ : ∃ q, Aside0 (toRec l0 = q) := ⟨_, ⟨rfl⟩⟩
  have HT2 : Aside0 ((if q.2.1 ≠ 0 then (0, 0, 0, q.2.1) else if timeOk q.1.2.2 = false then (0, 0, 0, 2) else if q.2.2.length ≠ 0 then (0, 0, 0, 5) else (q.1.1, q.1.2.1, q.1.2.2, 0)) = t) := ⟨by rw [← HT.out, ← HQ.out]; rfl⟩
  rw [HT.out]
  obtain ⟨n0, HN0⟩ : ∃ n0, Aside0 (l0.length = n0) := ⟨_, ⟨rfl⟩⟩
  rw [HN0.out]
  go_enter Try.func14, Try.ntmps14
  go_upto_region 1 with fail
  have BK2 := Aside0.mk (heap_alloc_new w (.cells #[.int .i64 0, .int .i64 0, .int .i64 0] 23))
  have hb_ := below_alloc (Below.refl w.heap.size w) (.cells #[.int .i64 0, .int .i64 0, .int .i64 0] 23)
  have HB := Aside0.mk hb_
  generalize w.alloc (.cells #[.int .i64 0, .int .i64 0, .int .i64 0] 23) = w0 at BK2 hb_ HB ⊢
  replace HC0 := Aside0.mk (Kd.C_below HC0.out hb_)
  obtain ⟨g2, HG2⟩ : ∃ g2, Aside0 (w.heap.size = g2) := ⟨_, ⟨rfl⟩⟩
  have HL2 : Aside0 (w.heap.size ≤ g2) := ⟨by rw [HG2.out]; omega⟩
  replace BK2 : Aside0 (w0.heap[g2]? = some (.cells #[.int .i64 0, .int .i64 0, .int .i64 0] 23 (0, 0))) := ⟨by rw [← HG2.out]; exact BK2.out⟩
  clear hb_
  go_wp2_with fail
  rw [HG2.out]
  rw [← HN0.out]
  refine (three_ok w0 A0 c0 l0 _ HC0.out hc0 HBY.out).mono ?_
  rintro e w1 ⟨A2, c2, he_, _, _, hb_⟩
  rw [HN0.out]
  rw [HQ.out] at he_
  obtain ⟨⟨x, y, z⟩, e_, rest⟩ := q
  simp only at HT2 he_
  obtain ⟨m, HM⟩ : ∃ m, Aside0 (rest.length = m) := ⟨_, ⟨rfl⟩⟩
  rw [HM.out] at HT2 he_
  subst he_
  replace BK2 := Aside0.mk (blk_below BK2.out hb_)
  replace HB := Aside0.mk (below_step HB.out hb_)
  clear hb_
  go_upto_region 2 with fail
  have BK5 := Aside0.mk (heap_alloc_new w1 (.cells #[.int .i64 x, .int .i64 y, .int .i64 z] 23))
  have hb_ := below_alloc (Below.refl w1.heap.size w1) (.cells #[.int .i64 x, .int .i64 y, .int .i64 z] 23)
  generalize w1.alloc (.cells #[.int .i64 x, .int .i64 y, .int .i64 z] 23) = w3 at BK5 hb_ ⊢
  replace BK2 := Aside0.mk (blk_below BK2.out hb_)
  replace HB := Aside0.mk (below_step HB.out hb_)
  generalize w1.heap.size = g5 at BK5 ⊢
  clear hb_
  by_cases he : e_ = 0
  · subst he
    have c2_ : w3.cell? ⟨g5, 2, none⟩ = some (.int .i64 z) := (blk_cell BK5.out 2).trans rfl
    go_wp2_with fail
    refine (reftime_ok z _).mono ?_
    rintro e w4 ⟨he_, hb_⟩
    obtain ⟨tb, HTB⟩ : ∃ tb, Aside0 (timeOk z = tb) := ⟨_, ⟨rfl⟩⟩
    rw [HTB.out] at he_ HT2
    subst he_
    clear c2_
    replace BK2 := Aside0.mk (blk_below BK2.out hb_)
    replace BK5 := Aside0.mk (blk_below BK5.out hb_)
    replace HB := Aside0.mk (below_step HB.out hb_)
    clear hb_
    cases tb with
    | false =>
      obtain rfl : (0, 0, 0, 2) = t := HT2.out
      have d0_ := (blk_cell BK2.out 0).trans (rfl : _ = some (.int .i64 0 : Value))
      have d1_ := (blk_cell BK2.out 1).trans (rfl : _ = some (.int .i64 0 : Value))
      have d2_ := (blk_cell BK2.out 2).trans (rfl : _ = some (.int .i64 0 : Value))
      have k0_ := blk_frozen BK2.out 0
      have k1_ := blk_frozen BK2.out 1
      have k2_ := blk_frozen BK2.out 2
      go_wp2
      have B_ := blk_put (blk_put (blk_put BK2.out 0 (.int .i64 0) rfl) 1 (.int .i64 0) rfl) 2 (.int .i64 0) rfl
      have G_ := below_set (j := 2) (v := .int .i64 0) (below_set (j := 1) (v := .int .i64 0) (below_set (j := 0) (v := .int .i64 0) HB.out HL2.out) HL2.out) HL2.out
      generalize (((w4.setCell ⟨g2, 0, none⟩ (.int .i64 0)).setCell ⟨g2, 1, none⟩ (.int .i64 0)).setCell ⟨g2, 2, none⟩ (.int .i64 0)) = w99 at B_ G_ ⊢
      have p0_ : w99.cell? ⟨g2, 0, none⟩ = some (.int .i64 0) := (blk_cell B_ 0).trans rfl
      have p1_ : w99.cell? ⟨g2, 1, none⟩ = some (.int .i64 0) := (blk_cell B_ 1).trans rfl
      have p2_ : w99.cell? ⟨g2, 2, none⟩ = some (.int .i64 0) := (blk_cell B_ 2).trans rfl
      refine bodyPost_ret (v := .tuple #[.agg #[.int .i64 0, .int .i64 0, .int .i64 0], .int .i64 2]) (by simp [results, Try.results14, go_sem, p0_, p1_, p2_]) rfl ?_
      exact ⟨rfl, G_⟩
    | true =>
      by_cases hm : m = 0
      · subst hm
        obtain rfl : (x, y, z, 0) = t := HT2.out
        have c0_ : w4.cell? ⟨g5, 0, none⟩ = some (.int .i64 x) := (blk_cell BK5.out 0).trans rfl
        have c1_ : w4.cell? ⟨g5, 1, none⟩ = some (.int .i64 y) := (blk_cell BK5.out 1).trans rfl
        have c2_ : w4.cell? ⟨g5, 2, none⟩ = some (.int .i64 z) := (blk_cell BK5.out 2).trans rfl
        have d0_ := (blk_cell BK2.out 0).trans (rfl : _ = some (.int .i64 0 : Value))
        have d1_ := (blk_cell BK2.out 1).trans (rfl : _ = some (.int .i64 0 : Value))
        have d2_ := (blk_cell BK2.out 2).trans (rfl : _ = some (.int .i64 0 : Value))
        have k0_ := blk_frozen BK2.out 0
        have k1_ := blk_frozen BK2.out 1
        have k2_ := blk_frozen BK2.out 2
        go_wp2
        have B_ := blk_put (blk_put (blk_put BK2.out 0 (.int .i64 x) rfl) 1 (.int .i64 y) rfl) 2 (.int .i64 z) rfl
        have G_ := below_set (j := 2) (v := .int .i64 z) (below_set (j := 1) (v := .int .i64 y) (below_set (j := 0) (v := .int .i64 x) HB.out HL2.out) HL2.out) HL2.out
        generalize (((w4.setCell ⟨g2, 0, none⟩ (.int .i64 x)).setCell ⟨g2, 1, none⟩ (.int .i64 y)).setCell ⟨g2, 2, none⟩ (.int .i64 z)) = w99 at B_ G_ ⊢
        have p0_ : w99.cell? ⟨g2, 0, none⟩ = some (.int .i64 x) := (blk_cell B_ 0).trans rfl
        have p1_ : w99.cell? ⟨g2, 1, none⟩ = some (.int .i64 y) := (blk_cell B_ 1).trans rfl
        have p2_ : w99.cell? ⟨g2, 2, none⟩ = some (.int .i64 z) := (blk_cell B_ 2).trans rfl
        refine bodyPost_ret (v := .tuple #[.agg #[.int .i64 x, .int .i64 y, .int .i64 z], .int .i64 0]) (by simp [results, Try.results14, go_sem, p0_, p1_, p2_]) rfl ?_
        exact ⟨rfl, G_⟩
      · have hz : ((m : Int) != 0) = true := by simp; omega
        obtain rfl : (0, 0, 0, 5) = t := by have h := HT2.out; rw [if_neg (by simp), if_neg (by simp), if_pos hm] at h; exact h
        have d0_ := (blk_cell BK2.out 0).trans (rfl : _ = some (.int .i64 0 : Value))
        have d1_ := (blk_cell BK2.out 1).trans (rfl : _ = some (.int .i64 0 : Value))
        have d2_ := (blk_cell BK2.out 2).trans (rfl : _ = some (.int .i64 0 : Value))
        have k0_ := blk_frozen BK2.out 0
        have k1_ := blk_frozen BK2.out 1
        have k2_ := blk_frozen BK2.out 2
        go_wp2
        have B_ := blk_put (blk_put (blk_put BK2.out 0 (.int .i64 0) rfl) 1 (.int .i64 0) rfl) 2 (.int .i64 0) rfl
        have G_ := below_set (j := 2) (v := .int .i64 0) (below_set (j := 1) (v := .int .i64 0) (below_set (j := 0) (v := .int .i64 0) HB.out HL2.out) HL2.out) HL2.out
        generalize (((w4.setCell ⟨g2, 0, none⟩ (.int .i64 0)).setCell ⟨g2, 1, none⟩ (.int .i64 0)).setCell ⟨g2, 2, none⟩ (.int .i64 0)) = w99 at B_ G_ ⊢
        have p0_ : w99.cell? ⟨g2, 0, none⟩ = some (.int .i64 0) := (blk_cell B_ 0).trans rfl
        have p1_ : w99.cell? ⟨g2, 1, none⟩ = some (.int .i64 0) := (blk_cell B_ 1).trans rfl
        have p2_ : w99.cell? ⟨g2, 2, none⟩ = some (.int .i64 0) := (blk_cell B_ 2).trans rfl
        refine bodyPost_ret (v := .tuple #[.agg #[.int .i64 0, .int .i64 0, .int .i64 0], .int .i64 5]) (by simp [results, Try.results14, go_sem, p0_, p1_, p2_]) rfl ?_
        exact ⟨rfl, G_⟩
  · have hz : (e_ != 0) = true := by simpa using he
    obtain rfl : (0, 0, 0, e_) = t := by have h := HT2.out; rw [if_pos he] at h; exact h
    have d0_ := (blk_cell BK2.out 0).trans (rfl : _ = some (.int .i64 0 : Value))
    have d1_ := (blk_cell BK2.out 1).trans (rfl : _ = some (.int .i64 0 : Value))
    have d2_ := (blk_cell BK2.out 2).trans (rfl : _ = some (.int .i64 0 : Value))
    have k0_ := blk_frozen BK2.out 0
    have k1_ := blk_frozen BK2.out 1
    have k2_ := blk_frozen BK2.out 2
    go_wp2
    have B_ := blk_put (blk_put (blk_put BK2.out 0 (.int .i64 0) rfl) 1 (.int .i64 0) rfl) 2 (.int .i64 0) rfl
    have G_ := below_set (j := 2) (v := .int .i64 0) (below_set (j := 1) (v := .int .i64 0) (below_set (j := 0) (v := .int .i64 0) HB.out HL2.out) HL2.out) HL2.out
    generalize (((w3.setCell ⟨g2, 0, none⟩ (.int .i64 0)).setCell ⟨g2, 1, none⟩ (.int .i64 0)).setCell ⟨g2, 2, none⟩ (.int .i64 0)) = w99 at B_ G_ ⊢
    have p0_ : w99.cell? ⟨g2, 0, none⟩ = some (.int .i64 0) := (blk_cell B_ 0).trans rfl
    have p1_ : w99.cell? ⟨g2, 1, none⟩ = some (.int .i64 0) := (blk_cell B_ 1).trans rfl
    have p2_ : w99.cell? ⟨g2, 2, none⟩ = some (.int .i64 0) := (blk_cell B_ 2).trans rfl
    refine bodyPost_ret (v := .tuple #[.agg #[.int .i64 0, .int .i64 0, .int .i64 0], .int .i64 e_]) (by simp [results, Try.results14, go_sem, p0_, p1_, p2_]) rfl ?_
    exact ⟨rfl, G_⟩
end Go.Proofs.Ytedbgkbjbfdnlaa.Rc
namespace Go.Proofs.Ytedbgkbjbfdnlaa.Rp
open Go Go.RowKit Go.Proofs.YtedbgkbjbfdnlaaW.PrintWords Go.Proofs.YtedbgkbjbfdnlaaW.PrintLast Go.Proofs.YtedbgkbjbfdnlaaW.PrintMore
set_option linter.unusedVariables false
set_option linter.unusedSimpArgs false
def tidemillref03_ToRecord.f (l0 : List Int) : Option (Int × Int × Int × Int) := if Rc.bytesB l0 = true then some (Rc.toRec l0) else none
theorem tidemillref03_ToRecord.calls (A0 : Option Addr) (c0 : Nat) (l0 : List Int) (r1 r2 r3 r4 : Int) (w : World) (hr0 : Kd.C (Kd.int .u8) w A0 l0.length l0) (hc0 : l0.length ≤ c0) (h : tidemillref03_ToRecord.f l0 = some (r1, r2, r3, r4)) :
    Calls Try.prog 14 #[.slice A0 l0.length c0] w fun e w' => e = .returned (.tuple #[.agg #[.int .i64 r1, .int .i64 r2, .int .i64 r3], .int .i64 r4]) ∧ Below w.heap.size w w' := by
  unfold tidemillref03_ToRecord.f at h
  by_cases hB : Rc.bytesB l0 = true
  · rw [if_pos hB] at h
    injection h with h
    have := Rc.refToRec_ok A0 c0 l0 w hr0 hc0 (Rc.bytesB_iff.1 hB).1
    rw [h] at this
    exact this
  · rw [if_neg hB] at h
    cases h
end Go.Proofs.Ytedbgkbjbfdnlaa.Rp
