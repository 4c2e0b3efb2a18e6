/- (c14) The contract of sess.order. -/
import Derived.Test.YtpjfmilokadchaaSeTo
import Derived.LoopN
namespace Go.Proofs.Ytpjfmilokadchaa.Se
open Go Go.RowKit Go.Proofs.YtpjfmilokadchaaW.PrintWords Go.Proofs.YtpjfmilokadchaaW.PrintLast Go.Proofs.YtpjfmilokadchaaW.PrintMore Go.Proofs.Ytpjfmilokadchaa.Rw Go.Proofs.Ytpjfmilokadchaa.Mono
set_option linter.unusedVariables false
set_option linter.unusedSimpArgs false
theorem cmp_E (a b : Int) (w : World) : Calls Try.prog 35 #[.int .i64 a, .int .i64 b] w fun e w' => e = .returned (.int .i64 (cmpI a b)) ∧ Below w.heap.size w w' :=
  (cmp_ok a b w).mono fun e w' h => ⟨h.1, by rw [← h.2]; exact Below.refl _ _⟩
def ordI (x y : Ses) : Int := if cmpI x.k y.k ≠ 0 then cmpI x.k y.k else if cmpI x.a y.a ≠ 0 then cmpI x.a y.a else cmpI x.b y.b
set_option maxHeartbeats 2000000 in
set_option maxRecDepth 100000 in
theorem order_ok (x y : Ses) (hx : Span x) (hy : Span y) (w : World) : Calls Try.prog 30 #[.agg #[.int .i64 x.k, spanV x.a x.b, .int .i64 x.v], .agg #[.int .i64 y.k, spanV y.a y.b, .int .i64 y.v]] w fun e w' => e = .returned (.int .i64 (ordI x y)) ∧ Below w.heap.size w w' := by
  have HX := Aside0.mk hx
  have HY := Aside0.mk hy
  obtain ⟨o, HO⟩ : ∃ o, Aside0 (ordI x y = o) := ⟨_, ⟨rfl⟩⟩
  rw [HO.out]
  go_enter Try.func30, Try.ntmps30
  go_upto_region 1 with fail
  have HPX := Aside0.mk (heap_alloc_new w (.cells #[.int .i64 x.k, spanV x.a x.b, .int .i64 x.v] 53))
  have HB := Aside0.mk (below_alloc (Below.refl w.heap.size w) (.cells #[.int .i64 x.k, spanV x.a x.b, .int .i64 x.v] 53))
  have hs1 : (w.alloc (.cells #[.int .i64 x.k, spanV x.a x.b, .int .i64 x.v] 53)).heap.size = w.heap.size + 1 := by simp
  generalize w.alloc (.cells #[.int .i64 x.k, spanV x.a x.b, .int .i64 x.v] 53) = w1 at HPX HB hs1 ⊢
  have hbc := below_alloc (Below.refl w1.heap.size w1) (.cells #[.int .i64 y.k, spanV y.a y.b, .int .i64 y.v] 53)
  have HPY := Aside0.mk (heap_alloc_new w1 (.cells #[.int .i64 y.k, spanV y.a y.b, .int .i64 y.v] 53))
  replace HPX := Aside0.mk (blk_below HPX.out hbc)
  replace HB := Aside0.mk (below_step HB.out hbc)
  generalize w1.alloc (.cells #[.int .i64 y.k, spanV y.a y.b, .int .i64 y.v] 53) = w2 at HPX HPY HB ⊢
  rw [hs1] at HPY
  clear hbc hs1
  refine start_ (n := 18) (S := fun w' => Below w2.heap.size w2 w') (ds := []) #[false, false, false, false, false, false, false, false, false, false, false, false, false, false, false, false, false, false] (by kernel_rfl) rfl rfl (below_drew (Below.refl _ _)) (fun hHeld => ?_)
  refine pure_ (i := 0) (N := some 7) (v := ?_) (a' := ?_) #[true, false, false, false, false, false, false, false, false, false, false, false, false, false, false, false, false, false] rfl rfl (by kernel_rfl) (fun _ _ _ h => h) (Or.inl ⟨by rfl, ?_⟩) ?_ ?_
  rotate_left
  · intro w'
    go_simp
    with_reducible rfl
  rotate_left
  · simp only [Act.put, List.setIfInBounds_toArray, List.set_cons_zero, List.set_cons_succ, i64_w, i32_w]
    rfl
  refine pure_ (i := 2) (N := some 9) (v := ?_) (a' := ?_) #[true, false, true, false, false, false, false, false, false, false, false, false, false, false, false, false, false, false] rfl rfl (by kernel_rfl) (fun _ _ _ h => h) (Or.inl ⟨by rfl, ?_⟩) ?_ ?_
  rotate_left
  · intro w'
    go_simp
    with_reducible rfl
  rotate_left
  · simp only [Act.put, List.setIfInBounds_toArray, List.set_cons_zero, List.set_cons_succ, i64_w, i32_w]
    rfl
  refine pure_ (i := 17) (N := some 24) (v := ?_) (a' := ?_) #[true, false, true, false, false, false, false, false, false, false, false, false, false, false, false, false, false, true] rfl rfl (by kernel_rfl) (fun _ _ _ h => h) (Or.inl ⟨by rfl, ?_⟩) ?_ ?_
  rotate_left
  · intro w'
    go_simp
    with_reducible rfl
  rotate_left
  · simp only [Act.put, List.setIfInBounds_toArray, List.set_cons_zero, List.set_cons_succ, i64_w, i32_w]
    rfl
  refine take_ (i := 1) (N := some 8) (v := ?_) (a' := ?_) #[true, true, true, false, false, false, false, false, false, false, false, false, false, false, false, false, false, true] rfl rfl (by kernel_rfl) (fun _ _ _ h => h) (Or.inl ⟨by rfl, ?_⟩) hHeld ?_ ?_
  rotate_left
  · intro w' hS
    have p0_ := (blk_cell (blk_below HPX.out hS) 0).trans (rfl : _ = some (.int .i64 x.k : Value))
    have p1_ := (blk_cell (blk_below HPX.out hS) 1).trans (rfl : _ = some (spanV x.a x.b : Value))
    have p2_ := (blk_cell (blk_below HPX.out hS) 2).trans (rfl : _ = some (.int .i64 x.v : Value))
    go_simp
    with_reducible rfl
  rotate_left
  · simp only [Act.put, List.setIfInBounds_toArray, List.set_cons_zero, List.set_cons_succ, i64_w, i32_w]
    rfl
  refine take_ (i := 3) (N := some 10) (v := ?_) (a' := ?_) #[true, true, true, true, false, false, false, false, false, false, false, false, false, false, false, false, false, true] rfl rfl (by kernel_rfl) (fun _ _ _ h => h) (Or.inl ⟨by rfl, ?_⟩) hHeld ?_ ?_
  rotate_left
  · intro w' hS
    have p0_ := (blk_cell (blk_below HPY.out hS) 0).trans (rfl : _ = some (.int .i64 y.k : Value))
    have p1_ := (blk_cell (blk_below HPY.out hS) 1).trans (rfl : _ = some (spanV y.a y.b : Value))
    have p2_ := (blk_cell (blk_below HPY.out hS) 2).trans (rfl : _ = some (.int .i64 y.v : Value))
    go_simp
    with_reducible rfl
  rotate_left
  · simp only [Act.put, List.setIfInBounds_toArray, List.set_cons_zero, List.set_cons_succ, i64_w, i32_w]
    rfl
  refine take_ (i := 5) (N := some 12) (v := ?_) (a' := ?_) #[true, true, true, true, false, true, false, false, false, false, false, false, false, false, false, false, false, true] rfl rfl (by kernel_rfl) (fun _ _ _ h => h) (Or.inl ⟨by rfl, ?_⟩) hHeld ?_ ?_
  rotate_left
  · intro w' hS
    have p0_ := (blk_cell (blk_below HPX.out hS) 0).trans (rfl : _ = some (.int .i64 x.k : Value))
    have p1_ := (blk_cell (blk_below HPX.out hS) 1).trans (rfl : _ = some (spanV x.a x.b : Value))
    have p2_ := (blk_cell (blk_below HPX.out hS) 2).trans (rfl : _ = some (.int .i64 x.v : Value))
    go_simp
    with_reducible rfl
  rotate_left
  · simp only [Act.put, List.setIfInBounds_toArray, List.set_cons_zero, List.set_cons_succ, i64_w, i32_w]
    rfl
  refine take_ (i := 7) (N := some 14) (v := ?_) (a' := ?_) #[true, true, true, true, false, true, false, true, false, false, false, false, false, false, false, false, false, true] rfl rfl (by kernel_rfl) (fun _ _ _ h => h) (Or.inl ⟨by rfl, ?_⟩) hHeld ?_ ?_
  rotate_left
  · intro w' hS
    have p0_ := (blk_cell (blk_below HPY.out hS) 0).trans (rfl : _ = some (.int .i64 y.k : Value))
    have p1_ := (blk_cell (blk_below HPY.out hS) 1).trans (rfl : _ = some (spanV y.a y.b : Value))
    have p2_ := (blk_cell (blk_below HPY.out hS) 2).trans (rfl : _ = some (.int .i64 y.v : Value))
    go_simp
    with_reducible rfl
  rotate_left
  · simp only [Act.put, List.setIfInBounds_toArray, List.set_cons_zero, List.set_cons_succ, i64_w, i32_w]
    rfl
  refine take_ (i := 10) (N := some 17) (v := ?_) (a' := ?_) #[true, true, true, true, false, true, false, true, false, false, true, false, false, false, false, false, false, true] rfl rfl (by kernel_rfl) (fun _ _ _ h => h) (Or.inl ⟨by rfl, ?_⟩) hHeld ?_ ?_
  rotate_left
  · intro w' hS
    have p0_ := (blk_cell (blk_below HPX.out hS) 0).trans (rfl : _ = some (.int .i64 x.k : Value))
    have p1_ := (blk_cell (blk_below HPX.out hS) 1).trans (rfl : _ = some (spanV x.a x.b : Value))
    have p2_ := (blk_cell (blk_below HPX.out hS) 2).trans (rfl : _ = some (.int .i64 x.v : Value))
    go_simp
    with_reducible rfl
  rotate_left
  · simp only [Act.put, List.setIfInBounds_toArray, List.set_cons_zero, List.set_cons_succ, i64_w, i32_w]
    rfl
  refine take_ (i := 12) (N := some 19) (v := ?_) (a' := ?_) #[true, true, true, true, false, true, false, true, false, false, true, false, true, false, false, false, false, true] rfl rfl (by kernel_rfl) (fun _ _ _ h => h) (Or.inl ⟨by rfl, ?_⟩) hHeld ?_ ?_
  rotate_left
  · intro w' hS
    have p0_ := (blk_cell (blk_below HPY.out hS) 0).trans (rfl : _ = some (.int .i64 y.k : Value))
    have p1_ := (blk_cell (blk_below HPY.out hS) 1).trans (rfl : _ = some (spanV y.a y.b : Value))
    have p2_ := (blk_cell (blk_below HPY.out hS) 2).trans (rfl : _ = some (.int .i64 y.v : Value))
    go_simp
    with_reducible rfl
  rotate_left
  · simp only [Act.put, List.setIfInBounds_toArray, List.set_cons_zero, List.set_cons_succ, i64_w, i32_w]
    rfl
  refine one_ (i := 4) (N := some 11) #[true, true, true, true, true, true, false, true, false, false, true, false, true, false, false, false, false, true] rfl rfl (by kernel_rfl) (by simp) (fun K hK => ?_)
  refine goes_ Try.func35 (by kernel_rfl) rfl #[.int .i64 x.k, .int .i64 y.k] (by rfl) rfl rfl (by simp only [List.map_toArray, List.map_cons, List.map_nil]; rfl) ?_
  with_reducible refine (cmp_E x.k y.k _).mono ?_
  rintro e w3 ⟨rfl, hb_⟩
  refine ⟨_, rfl, ?_⟩
  replace hb_ := below_step hHeld hb_
  refine hK.out _ _ hb_ (fun _ => ?_)
  clear hK K
  refine norm_ (a' := ?_) ?_ ?_
  rotate_left
  · show Act.put _ (some 11) _ = _
    simp only [Act.put, List.setIfInBounds_toArray, List.set_cons_zero, List.set_cons_succ, i64_w, i32_w]
    rfl
  replace hHeld := hb_
  clear hb_
  refine one_ (i := 6) (N := some 13) #[true, true, true, true, true, true, true, true, false, false, true, false, true, false, false, false, false, true] rfl rfl (by kernel_rfl) (by simp) (fun K hK => ?_)
  refine goes_ Try.func19 (by kernel_rfl) rfl #[.agg #[.int .i64 x.k, spanV x.a x.b, .int .i64 x.v]] (by rfl) rfl rfl (by simp only [List.map_toArray, List.map_cons, List.map_nil]; rfl) ?_
  with_reducible refine (from_ok x HX.out _).mono ?_
  rintro e w4 ⟨rfl, hb_⟩
  refine ⟨_, rfl, ?_⟩
  replace hb_ := below_step hHeld hb_
  refine hK.out _ _ hb_ (fun _ => ?_)
  clear hK K
  refine norm_ (a' := ?_) ?_ ?_
  rotate_left
  · show Act.put _ (some 13) _ = _
    simp only [Act.put, List.setIfInBounds_toArray, List.set_cons_zero, List.set_cons_succ, i64_w, i32_w]
    rfl
  replace hHeld := hb_
  clear hb_
  refine one_ (i := 8) (N := some 15) #[true, true, true, true, true, true, true, true, true, false, true, false, true, false, false, false, false, true] rfl rfl (by kernel_rfl) (by simp) (fun K hK => ?_)
  refine goes_ Try.func19 (by kernel_rfl) rfl #[.agg #[.int .i64 y.k, spanV y.a y.b, .int .i64 y.v]] (by rfl) rfl rfl (by simp only [List.map_toArray, List.map_cons, List.map_nil]; rfl) ?_
  with_reducible refine (from_ok y HY.out _).mono ?_
  rintro e w5 ⟨rfl, hb_⟩
  refine ⟨_, rfl, ?_⟩
  replace hb_ := below_step hHeld hb_
  refine hK.out _ _ hb_ (fun _ => ?_)
  clear hK K
  refine norm_ (a' := ?_) ?_ ?_
  rotate_left
  · show Act.put _ (some 15) _ = _
    simp only [Act.put, List.setIfInBounds_toArray, List.set_cons_zero, List.set_cons_succ, i64_w, i32_w]
    rfl
  replace hHeld := hb_
  clear hb_
  refine one_ (i := 9) (N := some 16) #[true, true, true, true, true, true, true, true, true, true, true, false, true, false, false, false, false, true] rfl rfl (by kernel_rfl) (by simp) (fun K hK => ?_)
  refine goes_ Try.func35 (by kernel_rfl) rfl #[.int .i64 x.a, .int .i64 y.a] (by rfl) rfl rfl (by simp only [List.map_toArray, List.map_cons, List.map_nil]; rfl) ?_
  with_reducible refine (cmp_E x.a y.a _).mono ?_
  rintro e w6 ⟨rfl, hb_⟩
  refine ⟨_, rfl, ?_⟩
  replace hb_ := below_step hHeld hb_
  refine hK.out _ _ hb_ (fun _ => ?_)
  clear hK K
  refine norm_ (a' := ?_) ?_ ?_
  rotate_left
  · show Act.put _ (some 16) _ = _
    simp only [Act.put, List.setIfInBounds_toArray, List.set_cons_zero, List.set_cons_succ, i64_w, i32_w]
    rfl
  replace hHeld := hb_
  clear hb_
  refine one_ (i := 11) (N := some 18) #[true, true, true, true, true, true, true, true, true, true, true, true, true, false, false, false, false, true] rfl rfl (by kernel_rfl) (by simp) (fun K hK => ?_)
  refine goes_ Try.func20 (by kernel_rfl) rfl #[.agg #[.int .i64 x.k, spanV x.a x.b, .int .i64 x.v]] (by rfl) rfl rfl (by simp only [List.map_toArray, List.map_cons, List.map_nil]; rfl) ?_
  with_reducible refine (to_ok x HX.out _).mono ?_
  rintro e w7 ⟨rfl, hb_⟩
  refine ⟨_, rfl, ?_⟩
  replace hb_ := below_step hHeld hb_
  refine hK.out _ _ hb_ (fun _ => ?_)
  clear hK K
  refine norm_ (a' := ?_) ?_ ?_
  rotate_left
  · show Act.put _ (some 18) _ = _
    simp only [Act.put, List.setIfInBounds_toArray, List.set_cons_zero, List.set_cons_succ, i64_w, i32_w]
    rfl
  replace hHeld := hb_
  clear hb_
  refine one_ (i := 13) (N := some 20) #[true, true, true, true, true, true, true, true, true, true, true, true, true, true, false, false, false, true] rfl rfl (by kernel_rfl) (by simp) (fun K hK => ?_)
  refine goes_ Try.func20 (by kernel_rfl) rfl #[.agg #[.int .i64 y.k, spanV y.a y.b, .int .i64 y.v]] (by rfl) rfl rfl (by simp only [List.map_toArray, List.map_cons, List.map_nil]; rfl) ?_
  with_reducible refine (to_ok y HY.out _).mono ?_
  rintro e w8 ⟨rfl, hb_⟩
  refine ⟨_, rfl, ?_⟩
  replace hb_ := below_step hHeld hb_
  refine hK.out _ _ hb_ (fun _ => ?_)
  clear hK K
  refine norm_ (a' := ?_) ?_ ?_
  rotate_left
  · show Act.put _ (some 20) _ = _
    simp only [Act.put, List.setIfInBounds_toArray, List.set_cons_zero, List.set_cons_succ, i64_w, i32_w]
    rfl
  replace hHeld := hb_
  clear hb_
  refine one_ (i := 14) (N := some 21) #[true, true, true, true, true, true, true, true, true, true, true, true, true, true, true, false, false, true] rfl rfl (by kernel_rfl) (by simp) (fun K hK => ?_)
  refine goes_ Try.func35 (by kernel_rfl) rfl #[.int .i64 x.b, .int .i64 y.b] (by rfl) rfl rfl (by simp only [List.map_toArray, List.map_cons, List.map_nil]; rfl) ?_
  with_reducible refine (cmp_E x.b y.b _).mono ?_
  rintro e w9 ⟨rfl, hb_⟩
  refine ⟨_, rfl, ?_⟩
  replace hb_ := below_step hHeld hb_
  refine hK.out _ _ hb_ (fun _ => ?_)
  clear hK K
  refine norm_ (a' := ?_) ?_ ?_
  rotate_left
  · show Act.put _ (some 21) _ = _
    simp only [Act.put, List.setIfInBounds_toArray, List.set_cons_zero, List.set_cons_succ, i64_w, i32_w]
    rfl
  replace hHeld := hb_
  clear hb_
  refine one_ (i := 15) (N := some 22) #[true, true, true, true, true, true, true, true, true, true, true, true, true, true, true, true, false, true] rfl rfl (by kernel_rfl) (by simp) (fun K hK => ?_)
  refine value_ (w1 := w9.alloc (.cells #[.int .i64 (cmpI x.k y.k), .int .i64 (cmpI x.a y.a), .int .i64 (cmpI x.b y.b)] 2)) (v := .slice (some ⟨w9.heap.size, 0, none⟩) 3 3) (by rfl) rfl (by first | (go_simp; done) | (go_simp; rfl)) ?_
  have hb_ := below_alloc (Below.refl w9.heap.size w9) (.cells #[.int .i64 (cmpI x.k y.k), .int .i64 (cmpI x.a y.a), .int .i64 (cmpI x.b y.b)] 2)
  have HL := Aside0.mk (heap_alloc_new w9 (.cells #[.int .i64 (cmpI x.k y.k), .int .i64 (cmpI x.a y.a), .int .i64 (cmpI x.b y.b)] 2))
  generalize w9.alloc (.cells #[.int .i64 (cmpI x.k y.k), .int .i64 (cmpI x.a y.a), .int .i64 (cmpI x.b y.b)] 2) = w10 at HL hb_ ⊢
  generalize w9.heap.size = gl at HL ⊢
  replace hb_ := below_step hHeld hb_
  refine hK.out _ _ hb_ (fun _ => ?_)
  clear hK K
  refine norm_ (a' := ?_) ?_ ?_
  rotate_left
  · show Act.put _ (some 22) _ = _
    simp only [Act.put, List.setIfInBounds_toArray, List.set_cons_zero, List.set_cons_succ, i64_w, i32_w]
    rfl
  replace hHeld := hb_
  clear hb_
  refine pure_ (i := 16) (N := some 23) (v := ?_) (a' := ?_) #[true, true, true, true, true, true, true, true, true, true, true, true, true, true, true, true, true, true] rfl rfl (by kernel_rfl) (fun _ _ _ h => h) (Or.inl ⟨by rfl, ?_⟩) ?_ ?_
  rotate_left
  · intro w'
    go_simp
    with_reducible rfl
  rotate_left
  · simp only [Act.put, List.setIfInBounds_toArray, List.set_cons_zero, List.set_cons_succ, i64_w, i32_w]
    rfl
  refine done_ (by kernel_rfl) ?_

  have HF := Aside0.mk (below_step HB.out hHeld)
  have m0_ := (blk_cell HL.out 0).trans (rfl : _ = some (.int .i64 (cmpI x.k y.k) : Value))
  have m1_ := (blk_cell HL.out 1).trans (rfl : _ = some (.int .i64 (cmpI x.a y.a) : Value))
  have m2_ := (blk_cell HL.out 2).trans (rfl : _ = some (.int .i64 (cmpI x.b y.b) : Value))
  clear hHeld HPX HPY HL
  have ho := HO.out
  unfold ordI at ho
  generalize cmpI x.k y.k = k0 at m0_ ho ⊢
  generalize cmpI x.a y.a = k1 at m1_ ho ⊢
  generalize cmpI x.b y.b = k2 at m2_ ho ⊢
  by_cases h0 : k0 = 0
  · have h0b : (k0 != 0) = false := by simpa using h0
    rw [if_neg (by simpa using h0)] at ho
    by_cases h1 : k1 = 0
    · have h1b : (k1 != 0) = false := by simpa using h1
      rw [if_neg (by simpa using h1)] at ho
      by_cases h2 : k2 = 0
      · have h2b : (k2 != 0) = false := by simpa using h2
        obtain rfl : (0 : Int) = o := by rw [← ho, h2]
        clear h0 h1 h2 ho HO
        go_wp2
        refine wp_loop_rounds 4 ?_
        rw [rounds_succ]
        go_wp2
        rw [rounds_succ]
        go_wp2
        rw [rounds_succ]
        go_wp2
        rw [rounds_succ]
        go_wp2
        go_ret
        exact ⟨rfl, HF.out⟩
      · have h2b : (k2 != 0) = true := by simpa using h2
        obtain rfl : k2 = o := ho
        clear h0 h1 h2 HO
        go_wp2
        refine wp_loop_rounds 4 ?_
        rw [rounds_succ]
        go_wp2
        rw [rounds_succ]
        go_wp2
        rw [rounds_succ]
        go_wp2
        go_ret
        exact ⟨rfl, HF.out⟩
    · have h1b : (k1 != 0) = true := by simpa using h1
      obtain rfl : k1 = o := by rw [← ho, if_pos h1]
      clear h0 h1 ho HO
      go_wp2
      refine wp_loop_rounds 4 ?_
      rw [rounds_succ]
      go_wp2
      rw [rounds_succ]
      go_wp2
      go_ret
      exact ⟨rfl, HF.out⟩
  · have h0b : (k0 != 0) = true := by simpa using h0
    obtain rfl : k0 = o := by rw [← ho, if_pos h0]
    clear h0 ho HO
    go_wp2
    refine wp_loop_rounds 4 ?_
    rw [rounds_succ]
    go_wp2
    go_ret
    exact ⟨rfl, HF.out⟩
end Go.Proofs.Ytpjfmilokadchaa.Se
