/- (c14) A store's Do, where it goes well. -/
import Derived.Test.YtpjfmilokadchaaSeDoP
namespace Go.Proofs.Ytpjfmilokadchaa.Se
open Go Go.RowKit Go.Proofs.YtpjfmilokadchaaW.PrintWords Go.Proofs.YtpjfmilokadchaaW.PrintLast Go.Proofs.YtpjfmilokadchaaW.PrintMore Go.Proofs.Ytpjfmilokadchaa.Rw Go.Proofs.Ytpjfmilokadchaa.Ex Go.Proofs.Ytpjfmilokadchaa.Mono
set_option linter.unusedVariables false
set_option linter.unusedSimpArgs false
attribute [local go_sem] run_store_span run_store_cplx
theorem OpPost.from {base b : Nat} {room gap : Int} {v : Value} {L' : List Ses} {x : Value} {w w2 w' : World} {e : Ending} (hb : Below w.heap.size w w2) (h : OpPost base b room gap v L' x w2 e w') : OpPost base b room gap v L' x w e w' := by
  obtain ⟨v', he, hs, hc, hh⟩ := h
  exact ⟨v', he, hs, (Chg.of_below hb).trans hc, hh.lower hb.size⟩
theorem mem_get {L : List Ses} {i : Nat} {p : Ses} (h : L[i]? = some p) : p ∈ L := List.mem_of_getElem? h
set_option maxHeartbeats 4000000 in
set_option maxRecDepth 100000 in
theorem do_del (base b : Nat) (room gap : Int) (v : Value) (L : List Ses) (ck cf ct : Int) (w : World) (h : SeS w base b room gap v L) (hbs : base ≤ w.heap.size) (hx : Span ⟨ck, cf, ct, 0⟩) (hk : In64 ck ∧ In64 0) (hq : hasS L ⟨ck, cf, ct, 0⟩ = true) :
    Calls Try.prog 16 #[.pointer (some ⟨b, 0, none⟩), .agg #[.int .i64 ck, .int .i64 cf, .int .i64 ct, .int .i64 0, .bool true]] w (OpPost base b room gap v (delS L ⟨ck, cf, ct, 0⟩) (.int .i64 0) w) := by
  obtain ⟨L2, HL2⟩ : ∃ y, Aside0 (delS L ⟨ck, cf, ct, 0⟩ = y) := ⟨_, ⟨rfl⟩⟩
  rw [HL2.out]
  have HK0 := Aside0.mk h
  have HRI := Aside0.mk h.rise
  have HSP := Aside0.mk h.span
  have HX := Aside0.mk hx
  have HKX := Aside0.mk hk
  have HBS0 := Aside0.mk hbs
  have hm1 : mayT cf = true := by unfold Span at hx; simp only at hx; unfold mayT; simp only [Bool.and_eq_true, decide_eq_true_eq]; omega
  have hm2 : mayT ct = true := by unfold Span at hx; simp only at hx; unfold mayT; simp only [Bool.and_eq_true, decide_eq_true_eq]; omega
  have hlt : decide (ct < cf) = false := by unfold Span at hx; simp only at hx; simp; omega
  obtain ⟨A, c, hv, hnc, hcm⟩ := slice_of h.row
  obtain ⟨n, HN⟩ : ∃ n, Aside0 (L.length = n) := ⟨_, ⟨rfl⟩⟩
  have hn : n ≤ 1024 := by rw [← HN.out]; exact h.len
  rw [HN.out] at hv hnc
  subst hv
  have hcm2 : c ≤ 9223372036854775807 := Nat.le_trans hcm (by decide)
  obtain ⟨i, HI⟩ : ∃ i, Aside0 (idxS L ⟨ck, cf, ct, 0⟩ = i) := ⟨_, ⟨rfl⟩⟩
  have HQ := Aside0.mk hq
  clear h hx hk hbs hcm hq
  go_enter Try.func16, Try.ntmps16
  go_upto_region 3 with fail
  have HB := Aside0.mk (Below.refl w.heap.size w)
  have HPC := Aside0.mk (heap_alloc_new w (.cells #[.int .i64 ck, .int .i64 cf, .int .i64 ct, .int .i64 0, .bool true] 33))
  have hb_ := below_alloc (Below.refl w.heap.size w) (.cells #[.int .i64 ck, .int .i64 cf, .int .i64 ct, .int .i64 0, .bool true] 33)
  have hs_ : (w.alloc (.cells #[.int .i64 ck, .int .i64 cf, .int .i64 ct, .int .i64 0, .bool true] 33)).heap.size = w.heap.size + 1 := by simp
  generalize w.alloc (.cells #[.int .i64 ck, .int .i64 cf, .int .i64 ct, .int .i64 0, .bool true] 33) = w1 at HPC hb_ hs_ ⊢
  replace HB := Aside0.mk (below_step HB.out hb_)
  clear hb_
  clear hs_
  obtain ⟨gc, HGC⟩ : ∃ g, Aside0 (w.heap.size = g) := ⟨_, ⟨rfl⟩⟩
  rw [HGC.out] at HPC ⊢
  have p0_ := (blk_cell HPC.out 0).trans (rfl : _ = some (.int .i64 ck : Value))
  have p1_ := (blk_cell HPC.out 1).trans (rfl : _ = some (.int .i64 cf : Value))
  have p2_ := (blk_cell HPC.out 2).trans (rfl : _ = some (.int .i64 ct : Value))
  have p3_ := (blk_cell HPC.out 3).trans (rfl : _ = some (.int .i64 0 : Value))
  have p4_ := (blk_cell HPC.out 4).trans (rfl : _ = some (.bool true : Value))
  go_wp2_with fail
  refine (may_ok cf _).mono ?_
  rintro e w2 ⟨rfl, rfl⟩
  rw [hm1]
  go_wp2_with fail
  refine (may_ok ct _).mono ?_
  rintro e w2 ⟨rfl, rfl⟩
  rw [hm2]
  go_upto_region 5 with fail
  clear p0_ p1_ p2_ p3_ p4_
  have HK1 := Aside0.mk (HK0.out.below HB.out)
  have hp1 := Aside0.mk (Below.refl w1.heap.size w1)
  go_cut [5] (fun v5 w2 => ∃ gs, v5 = .pointer (some ⟨gs, 0, none⟩) ∧ Aside0 (w2.heap[gs]? = some (.cells #[.int .i64 ck, spanV cf ct, .int .i64 0] 53 (0, 0))) ∧ Aside0 (Below w1.heap.size w1 w2))
  case first =>
    refine start_ (n := 12) (S := fun w' => Below w1.heap.size w1 w') (ds := []) #[false, false, false, false, false, false, false, false, false, false, false, false] (by kernel_rfl) rfl rfl (below_drew (Below.refl _ _)) (fun hHeld => ?_)
    refine pure_ (i := 0) (N := some 36) (v := ?_) (a' := ?_) #[true, false, false, false, false, false, false, false, false, false, false, false] rfl rfl (by kernel_rfl) (fun _ _ _ h => h) (Or.inl ⟨by rfl, ?_⟩) ?_ ?_
    rotate_left
    · intro w'
      go_simp
      with_reducible rfl
    rotate_left
    · simp only [Act.put, List.setIfInBounds_toArray, List.set_cons_zero, List.set_cons_succ, i64_w, i32_w]
      rfl
    refine pure_ (i := 2) (N := some 38) (v := ?_) (a' := ?_) #[true, false, true, false, false, false, false, false, false, false, false, false] rfl rfl (by kernel_rfl) (fun _ _ _ h => h) (Or.inl ⟨by rfl, ?_⟩) ?_ ?_
    rotate_left
    · intro w'
      go_simp
      with_reducible rfl
    rotate_left
    · simp only [Act.put, List.setIfInBounds_toArray, List.set_cons_zero, List.set_cons_succ, i64_w, i32_w]
      rfl
    refine pure_ (i := 4) (N := some 40) (v := ?_) (a' := ?_) #[true, false, true, false, true, false, false, false, false, false, false, false] rfl rfl (by kernel_rfl) (fun _ _ _ h => h) (Or.inl ⟨by rfl, ?_⟩) ?_ ?_
    rotate_left
    · intro w'
      go_simp
      with_reducible rfl
    rotate_left
    · simp only [Act.put, List.setIfInBounds_toArray, List.set_cons_zero, List.set_cons_succ, i64_w, i32_w]
      rfl
    refine pure_ (i := 7) (N := some 43) (v := ?_) (a' := ?_) #[true, false, true, false, true, false, false, true, false, false, false, false] rfl rfl (by kernel_rfl) (fun _ _ _ h => h) (Or.inl ⟨by rfl, ?_⟩) ?_ ?_
    rotate_left
    · intro w'
      go_simp
      with_reducible rfl
    rotate_left
    · simp only [Act.put, List.setIfInBounds_toArray, List.set_cons_zero, List.set_cons_succ, i64_w, i32_w]
      rfl
    refine take_ (i := 1) (N := some 37) (v := ?_) (a' := ?_) #[true, true, true, false, true, false, false, true, false, false, false, false] rfl rfl (by kernel_rfl) (fun _ _ _ h => h) (Or.inl ⟨by rfl, ?_⟩) hHeld ?_ ?_
    rotate_left
    · intro w' hS
      have b0_ := (blk_cell (blk_below HPC.out hS) 0).trans (rfl : _ = some (.int .i64 ck : Value))
      have b1_ := (blk_cell (blk_below HPC.out hS) 1).trans (rfl : _ = some (.int .i64 cf : Value))
      have b2_ := (blk_cell (blk_below HPC.out hS) 2).trans (rfl : _ = some (.int .i64 ct : Value))
      have b3_ := (blk_cell (blk_below HPC.out hS) 3).trans (rfl : _ = some (.int .i64 0 : Value))
      have b4_ := (blk_cell (blk_below HPC.out hS) 4).trans (rfl : _ = some (.bool true : Value))
      go_simp
      with_reducible rfl
    rotate_left
    · simp only [Act.put, List.setIfInBounds_toArray, List.set_cons_zero, List.set_cons_succ, i64_w, i32_w]
      rfl
    refine take_ (i := 3) (N := some 39) (v := ?_) (a' := ?_) #[true, true, true, true, true, false, false, true, false, false, false, false] rfl rfl (by kernel_rfl) (fun _ _ _ h => h) (Or.inl ⟨by rfl, ?_⟩) hHeld ?_ ?_
    rotate_left
    · intro w' hS
      have b0_ := (blk_cell (blk_below HPC.out hS) 0).trans (rfl : _ = some (.int .i64 ck : Value))
      have b1_ := (blk_cell (blk_below HPC.out hS) 1).trans (rfl : _ = some (.int .i64 cf : Value))
      have b2_ := (blk_cell (blk_below HPC.out hS) 2).trans (rfl : _ = some (.int .i64 ct : Value))
      have b3_ := (blk_cell (blk_below HPC.out hS) 3).trans (rfl : _ = some (.int .i64 0 : Value))
      have b4_ := (blk_cell (blk_below HPC.out hS) 4).trans (rfl : _ = some (.bool true : Value))
      go_simp
      with_reducible rfl
    rotate_left
    · simp only [Act.put, List.setIfInBounds_toArray, List.set_cons_zero, List.set_cons_succ, i64_w, i32_w]
      rfl
    refine take_ (i := 5) (N := some 41) (v := ?_) (a' := ?_) #[true, true, true, true, true, true, false, true, false, false, false, false] rfl rfl (by kernel_rfl) (fun _ _ _ h => h) (Or.inl ⟨by rfl, ?_⟩) hHeld ?_ ?_
    rotate_left
    · intro w' hS
      have b0_ := (blk_cell (blk_below HPC.out hS) 0).trans (rfl : _ = some (.int .i64 ck : Value))
      have b1_ := (blk_cell (blk_below HPC.out hS) 1).trans (rfl : _ = some (.int .i64 cf : Value))
      have b2_ := (blk_cell (blk_below HPC.out hS) 2).trans (rfl : _ = some (.int .i64 ct : Value))
      have b3_ := (blk_cell (blk_below HPC.out hS) 3).trans (rfl : _ = some (.int .i64 0 : Value))
      have b4_ := (blk_cell (blk_below HPC.out hS) 4).trans (rfl : _ = some (.bool true : Value))
      go_simp
      with_reducible rfl
    rotate_left
    · simp only [Act.put, List.setIfInBounds_toArray, List.set_cons_zero, List.set_cons_succ, i64_w, i32_w]
      rfl
    refine take_ (i := 8) (N := some 44) (v := ?_) (a' := ?_) #[true, true, true, true, true, true, false, true, true, false, false, false] rfl rfl (by kernel_rfl) (fun _ _ _ h => h) (Or.inl ⟨by rfl, ?_⟩) hHeld ?_ ?_
    rotate_left
    · intro w' hS
      have b0_ := (blk_cell (blk_below HPC.out hS) 0).trans (rfl : _ = some (.int .i64 ck : Value))
      have b1_ := (blk_cell (blk_below HPC.out hS) 1).trans (rfl : _ = some (.int .i64 cf : Value))
      have b2_ := (blk_cell (blk_below HPC.out hS) 2).trans (rfl : _ = some (.int .i64 ct : Value))
      have b3_ := (blk_cell (blk_below HPC.out hS) 3).trans (rfl : _ = some (.int .i64 0 : Value))
      have b4_ := (blk_cell (blk_below HPC.out hS) 4).trans (rfl : _ = some (.bool true : Value))
      go_simp
      with_reducible rfl
    rotate_left
    · simp only [Act.put, List.setIfInBounds_toArray, List.set_cons_zero, List.set_cons_succ, i64_w, i32_w]
      rfl
    refine two_ (i := 6) (j := 10) (Ni := some 42) (Nj := some 5) #[true, true, true, true, true, true, true, true, true, false, false, false] #[true, true, true, true, true, true, false, true, true, false, true, false] rfl rfl rfl rfl (by kernel_rfl) (by simp) (by simp) (fun K hK => ?_) (fun K hK => ?_)
    · skip
      refine goes_ Try.func22 (by kernel_rfl) rfl #[.int .i64 cf, .int .i64 ct] (by rfl) rfl rfl (by simp only [List.map_toArray, List.map_cons, List.map_nil]; rfl) ?_
      with_reducible refine (times_ok cf ct _).mono ?_
      rintro e w9 ⟨rfl, rfl⟩
      refine ⟨_, rfl, ?_⟩
      refine hK.out _ _ (hHeld) (fun hHeld => ?_)
      clear hK K
      refine norm_ (a' := ?_) ?_ ?_
      rotate_left
      · show Act.put _ (some 42) _ = _
        simp only [Act.put, List.setIfInBounds_toArray, List.set_cons_zero, List.set_cons_succ, i64_w, i32_w]
        rfl
      rw [show spanV cf ct = .complex .f64 (fl cf) (fl ct) from rfl]
      refine pure_ (i := 9) (N := some 45) (v := ?_) (a' := ?_) #[true, true, true, true, true, true, true, true, true, true, false, false] rfl rfl (by kernel_rfl) (fun _ _ _ h => h) (Or.inl ⟨by rfl, ?_⟩) ?_ ?_
      rotate_left
      · intro w'
        go_simp
        with_reducible rfl
      rotate_left
      · simp only [Act.put, List.setIfInBounds_toArray, List.set_cons_zero, List.set_cons_succ, i64_w, i32_w]
        rfl
      refine one_ (i := 10) (N := some 5) #[true, true, true, true, true, true, true, true, true, true, true, false] rfl rfl (by kernel_rfl) (by simp) (fun K hK => ?_)
      refine value_ (w1 := w1.drew.alloc (.cells #[.int .i64 0, .complex .f64 0 0, .int .i64 0] 53)) (v := .pointer (some ⟨w1.drew.heap.size, 0, none⟩)) (by rfl) rfl (by first | (go_simp; done) | (go_simp; rfl)) ?_
      refine hK.out _ _ (below_alloc hHeld _) (fun hHeld => ?_)
      clear hK K
      refine norm_ (a' := ?_) ?_ ?_
      rotate_left
      · show Act.put _ (some 5) _ = _
        simp only [Act.put, List.setIfInBounds_toArray, List.set_cons_zero, List.set_cons_succ, i64_w, i32_w]
        rfl
      refine one_ (i := 11) (N := none) #[true, true, true, true, true, true, true, true, true, true, true, true] rfl rfl (by kernel_rfl) (by simp) (fun K hK => ?_)
      have HZ := heap_alloc_new w1.drew (.cells #[.int .i64 0, .complex .f64 0 0, .int .i64 0] 53)
      have c0_ := (blk_cell HZ 0).trans rfl
      have c1_ := (blk_cell HZ 1).trans rfl
      have c2_ := (blk_cell HZ 2).trans rfl
      have f0_ := blk_frozen HZ 0
      have f1_ := blk_frozen HZ 1
      have f2_ := blk_frozen HZ 2
      refine skip_ (w1 := (((w1.drew.alloc (.cells #[.int .i64 0, .complex .f64 0 0, .int .i64 0] 53)).setCell ⟨w1.drew.heap.size, 0, none⟩ (.int .i64 ck)).setCell ⟨w1.drew.heap.size, 1, none⟩ (.complex .f64 (fl cf) (fl ct))).setCell ⟨w1.drew.heap.size, 2, none⟩ (.int .i64 0)) (by rfl) rfl (by first | (go_simp; done) | (go_simp; rfl)) ?_
      refine hK.out _ _ (below_set (below_set (below_set hHeld (Nat.le_refl w1.heap.size)) (Nat.le_refl w1.heap.size)) (Nat.le_refl w1.heap.size)) (fun hHeld => ?_)
      clear hK K
      refine done_ (by kernel_rfl) ?_
      have HZ := heap_alloc_new w1.drew (.cells #[.int .i64 0, .complex .f64 0 0, .int .i64 0] 53)
      have HX3 := Aside0.mk (blk_put (blk_set (blk_set HZ 0 (.int .i64 ck)) 1 (.complex .f64 (fl cf) (fl ct))) 2 (.int .i64 0) (rfl : _ = (#[.int .i64 ck, .complex .f64 (fl cf) (fl ct), .int .i64 0] : Array Value)))
      have HH := Aside0.mk hHeld
      clear hHeld HZ
      go_wp2_with fail
      go_meet
      case rel => exact ⟨_, rfl, HX3, HH⟩
    · skip
      refine value_ (w1 := w1.drew.alloc (.cells #[.int .i64 0, .complex .f64 0 0, .int .i64 0] 53)) (v := .pointer (some ⟨w1.drew.heap.size, 0, none⟩)) (by rfl) rfl (by first | (go_simp; done) | (go_simp; rfl)) ?_
      refine hK.out _ _ (below_alloc hHeld _) (fun hHeld => ?_)
      clear hK K
      refine norm_ (a' := ?_) ?_ ?_
      rotate_left
      · show Act.put _ (some 5) _ = _
        simp only [Act.put, List.setIfInBounds_toArray, List.set_cons_zero, List.set_cons_succ, i64_w, i32_w]
        rfl
      refine one_ (i := 6) (N := some 42) #[true, true, true, true, true, true, true, true, true, false, true, false] rfl rfl (by kernel_rfl) (by simp) (fun K hK => ?_)
      refine goes_ Try.func22 (by kernel_rfl) rfl #[.int .i64 cf, .int .i64 ct] (by rfl) rfl rfl (by simp only [List.map_toArray, List.map_cons, List.map_nil]; rfl) ?_
      with_reducible refine (times_ok cf ct _).mono ?_
      rintro e w9 ⟨rfl, rfl⟩
      refine ⟨_, rfl, ?_⟩
      refine hK.out _ _ (hHeld) (fun hHeld => ?_)
      clear hK K
      refine norm_ (a' := ?_) ?_ ?_
      rotate_left
      · show Act.put _ (some 42) _ = _
        simp only [Act.put, List.setIfInBounds_toArray, List.set_cons_zero, List.set_cons_succ, i64_w, i32_w]
        rfl
      rw [show spanV cf ct = .complex .f64 (fl cf) (fl ct) from rfl]
      refine pure_ (i := 9) (N := some 45) (v := ?_) (a' := ?_) #[true, true, true, true, true, true, true, true, true, true, true, false] rfl rfl (by kernel_rfl) (fun _ _ _ h => h) (Or.inl ⟨by rfl, ?_⟩) ?_ ?_
      rotate_left
      · intro w'
        go_simp
        with_reducible rfl
      rotate_left
      · simp only [Act.put, List.setIfInBounds_toArray, List.set_cons_zero, List.set_cons_succ, i64_w, i32_w]
        rfl
      refine one_ (i := 11) (N := none) #[true, true, true, true, true, true, true, true, true, true, true, true] rfl rfl (by kernel_rfl) (by simp) (fun K hK => ?_)
      have HZ := heap_alloc_new w1.drew (.cells #[.int .i64 0, .complex .f64 0 0, .int .i64 0] 53)
      have c0_ := (blk_cell HZ 0).trans rfl
      have c1_ := (blk_cell HZ 1).trans rfl
      have c2_ := (blk_cell HZ 2).trans rfl
      have f0_ := blk_frozen HZ 0
      have f1_ := blk_frozen HZ 1
      have f2_ := blk_frozen HZ 2
      refine skip_ (w1 := (((w1.drew.alloc (.cells #[.int .i64 0, .complex .f64 0 0, .int .i64 0] 53)).setCell ⟨w1.drew.heap.size, 0, none⟩ (.int .i64 ck)).setCell ⟨w1.drew.heap.size, 1, none⟩ (.complex .f64 (fl cf) (fl ct))).setCell ⟨w1.drew.heap.size, 2, none⟩ (.int .i64 0)) (by rfl) rfl (by first | (go_simp; done) | (go_simp; rfl)) ?_
      refine hK.out _ _ (below_set (below_set (below_set hHeld (Nat.le_refl w1.heap.size)) (Nat.le_refl w1.heap.size)) (Nat.le_refl w1.heap.size)) (fun hHeld => ?_)
      clear hK K
      refine done_ (by kernel_rfl) ?_
      have HZ := heap_alloc_new w1.drew (.cells #[.int .i64 0, .complex .f64 0 0, .int .i64 0] 53)
      have HX3 := Aside0.mk (blk_put (blk_set (blk_set HZ 0 (.int .i64 ck)) 1 (.complex .f64 (fl cf) (fl ct))) 2 (.int .i64 0) (rfl : _ = (#[.int .i64 ck, .complex .f64 (fl cf) (fl ct), .int .i64 0] : Array Value)))
      have HH := Aside0.mk hHeld
      clear hHeld HZ
      go_wp2_with fail
      go_meet
      case rel => exact ⟨_, rfl, HX3, HH⟩

  case rest =>
  obtain ⟨gs, rfl, HPB, HBC⟩ := hcut
  have HK := Aside0.mk (HK1.out.below HBC.out)
  replace HPC := Aside0.mk (blk_below HPC.out HBC.out)
  replace HB := Aside0.mk (below_step HB.out HBC.out)
  have HST := Aside0.mk HK.out.cell
  have HOW : Aside0 (wc.ownsRow base 53 3 (.slice A n c) n (cellsS L)) := ⟨by have := HK.out.row; rwa [HN.out] at this⟩
  go_upto_region 6 with fail
  refine start_ (n := 11) (S := fun w' => Below wc.heap.size wc w') (ds := []) #[false, false, false, false, false, false, false, false, false, false, false] (by kernel_rfl) rfl rfl (below_drew (Below.refl _ _)) (fun hHeld => ?_)
  refine pure_ (i := 0) (N := some 47) (v := ?_) (a' := ?_) #[true, false, false, false, false, false, false, false, false, false, false] rfl rfl (by kernel_rfl) (fun _ _ _ h => h) (Or.inl ⟨by rfl, ?_⟩) ?_ ?_
  rotate_left
  · intro w'
    go_simp
    with_reducible rfl
  rotate_left
  · simp only [Act.put, List.setIfInBounds_toArray, List.set_cons_zero, List.set_cons_succ, i64_w, i32_w]
    rfl
  refine pure_ (i := 1) (N := some 48) (v := ?_) (a' := ?_) #[true, true, false, false, false, false, false, false, false, false, false] rfl rfl (by kernel_rfl) (fun _ _ _ h => h) (Or.inl ⟨by rfl, ?_⟩) ?_ ?_
  rotate_left
  · intro w'
    go_simp
    with_reducible rfl
  rotate_left
  · simp only [Act.put, List.setIfInBounds_toArray, List.set_cons_zero, List.set_cons_succ, i64_w, i32_w]
    rfl
  refine pure_ (i := 2) (N := some 49) (v := ?_) (a' := ?_) #[true, true, true, false, false, false, false, false, false, false, false] rfl rfl (by kernel_rfl) (fun _ _ _ h => h) (Or.inl ⟨by rfl, ?_⟩) ?_ ?_
  rotate_left
  · intro w'
    go_simp
    with_reducible rfl
  rotate_left
  · simp only [Act.put, List.setIfInBounds_toArray, List.set_cons_zero, List.set_cons_succ, i64_w, i32_w]
    rfl
  refine take_ (i := 3) (N := some 50) (v := ?_) (a' := ?_) #[true, true, true, true, false, false, false, false, false, false, false] rfl rfl (by kernel_rfl) (fun _ _ _ h => h) (Or.inl ⟨by rfl, ?_⟩) hHeld ?_ ?_
  rotate_left
  · intro w' hS
    have s_ := (blk_cell (blk_below HST.out hS) 2).trans (rfl : _ = some (.slice A n c : Value))
    go_simp
    with_reducible rfl
  rotate_left
  · simp only [Act.put, List.setIfInBounds_toArray, List.set_cons_zero, List.set_cons_succ, i64_w, i32_w]
    rfl
  refine take_ (i := 4) (N := some 51) (v := ?_) (a' := ?_) #[true, true, true, true, true, false, false, false, false, false, false] rfl rfl (by kernel_rfl) (fun _ _ _ h => h) (Or.inl ⟨by rfl, ?_⟩) hHeld ?_ ?_
  rotate_left
  · intro w' hS
    have b0_ := (blk_cell (blk_below HPB.out hS) 0).trans (rfl : _ = some (.int .i64 ck : Value))
    have b1_ := (blk_cell (blk_below HPB.out hS) 1).trans (rfl : _ = some (spanV cf ct : Value))
    have b2_ := (blk_cell (blk_below HPB.out hS) 2).trans (rfl : _ = some (.int .i64 0 : Value))
    go_simp
    with_reducible rfl
  rotate_left
  · simp only [Act.put, List.setIfInBounds_toArray, List.set_cons_zero, List.set_cons_succ, i64_w, i32_w]
    rfl
  refine one_ (i := 5) (N := some 52) #[true, true, true, true, true, true, false, false, false, false, false] rfl rfl (by kernel_rfl) (by simp) (fun K hK => ?_)
  refine goes_ Try.func29 (by kernel_rfl) rfl #[.slice A n c, .agg #[.int .i64 ck, spanV cf ct, .int .i64 0], .func (.func 30) #[] #[]] (by rfl) rfl rfl (by simp only [List.map_toArray, List.map_cons, List.map_nil]; rfl) ?_
  with_reducible refine (bs_ok base n c A L ⟨ck, cf, ct, 0⟩ _ HN.out (own_below HOW.out hHeld) HRI.out (by omega) HX.out HSP.out).mono ?_
  rintro e w3 ⟨rfl, hb_⟩
  refine ⟨_, rfl, ?_⟩
  replace hb_ := below_step hHeld hb_
  refine hK.out _ _ hb_ (fun _ => ?_)
  clear hK K
  refine norm_ (a' := ?_) ?_ ?_
  rotate_left
  · show Act.put _ (some 52) _ = _
    simp only [Act.put, List.setIfInBounds_toArray, List.set_cons_zero, List.set_cons_succ, i64_w, i32_w]
    rfl
  replace hHeld := hb_
  rw [HI.out, HQ.out]
  clear hb_
  refine pure_ (i := 6) (N := some 46) (v := ?_) (a' := ?_) #[true, true, true, true, true, true, true, false, false, false, false] rfl rfl (by kernel_rfl) (fun _ _ _ h => h) (Or.inl ⟨by rfl, ?_⟩) ?_ ?_
  rotate_left
  · intro w'
    go_simp
    with_reducible rfl
  rotate_left
  · simp only [Act.put, List.setIfInBounds_toArray, List.set_cons_zero, List.set_cons_succ, i64_w, i32_w]
    rfl
  refine pure_ (i := 7) (N := some 53) (v := ?_) (a' := ?_) #[true, true, true, true, true, true, true, true, false, false, false] rfl rfl (by kernel_rfl) (fun _ _ _ h => h) (Or.inl ⟨by rfl, ?_⟩) ?_ ?_
  rotate_left
  · intro w'
    go_simp
    with_reducible rfl
  rotate_left
  · simp only [Act.put, List.setIfInBounds_toArray, List.set_cons_zero, List.set_cons_succ, i64_w, i32_w]
    rfl
  refine pure_ (i := 8) (N := some 54) (v := ?_) (a' := ?_) #[true, true, true, true, true, true, true, true, true, false, false] rfl rfl (by kernel_rfl) (fun _ _ _ h => h) (Or.inl ⟨by rfl, ?_⟩) ?_ ?_
  rotate_left
  · intro w'
    go_simp
    with_reducible rfl
  rotate_left
  · simp only [Act.put, List.setIfInBounds_toArray, List.set_cons_zero, List.set_cons_succ, i64_w, i32_w]
    rfl
  refine pure_ (i := 9) (N := some 6) (v := ?_) (a' := ?_) #[true, true, true, true, true, true, true, true, true, true, false] rfl rfl (by kernel_rfl) (fun _ _ _ h => h) (Or.inl ⟨by rfl, ?_⟩) ?_ ?_
  rotate_left
  · intro w'
    go_simp
    with_reducible rfl
  rotate_left
  · simp only [Act.put, List.setIfInBounds_toArray, List.set_cons_zero, List.set_cons_succ, i64_w, i32_w]
    rfl
  refine pure_ (i := 10) (N := some 7) (v := ?_) (a' := ?_) #[true, true, true, true, true, true, true, true, true, true, true] rfl rfl (by kernel_rfl) (fun _ _ _ h => h) (Or.inl ⟨by rfl, ?_⟩) ?_ ?_
  rotate_left
  · intro w'
    go_simp
    with_reducible rfl
  rotate_left
  · simp only [Act.put, List.setIfInBounds_toArray, List.set_cons_zero, List.set_cons_succ, i64_w, i32_w]
    rfl
  refine done_ (by kernel_rfl) ?_

  replace HK := Aside0.mk (HK.out.below hHeld)
  replace HPC := Aside0.mk (blk_below HPC.out hHeld)
  replace HPB := Aside0.mk (blk_below HPB.out hHeld)
  replace HB := Aside0.mk (below_step HB.out hHeld)
  replace HST := Aside0.mk HK.out.cell
  replace HOW := Aside0.mk (own_below HOW.out hHeld)
  clear hHeld HBC HK1 hp1
  have p0_ := (blk_cell HPC.out 0).trans (rfl : _ = some (.int .i64 ck : Value))
  have p1_ := (blk_cell HPC.out 1).trans (rfl : _ = some (.int .i64 cf : Value))
  have p2_ := (blk_cell HPC.out 2).trans (rfl : _ = some (.int .i64 ct : Value))
  have p3_ := (blk_cell HPC.out 3).trans (rfl : _ = some (.int .i64 0 : Value))
  have p4_ := (blk_cell HPC.out 4).trans (rfl : _ = some (.bool true : Value))

  obtain ⟨y, hy, hsy⟩ := has_get HRI.out HQ.out
  have HDA := Aside0.mk (del_at HRI.out hy hsy)
  rw [HI.out] at hy HDA
  have hilt : i < n := by have := (List.getElem?_eq_some_iff.1 hy).1; rw [HN.out] at this; exact this
  have HSUB : Aside0 (L2.Sublist L) := ⟨by rw [← HL2.out]; exact List.filter_sublist⟩
  have HLN : Aside0 (L2.length = n - 1) := ⟨by rw [← HL2.out, ← HDA.out, List.length_append, List.length_take, List.length_drop, HN.out]; omega⟩
  have HCE : Aside0 ((cellsS L).take (i * 3) ++ (cellsS L).drop ((i + 1) * 3) = cellsS L2) := ⟨by rw [← HL2.out, ← HDA.out, cellsS_append, ← cellsS_take, ← cellsS_drop]⟩
  have HNL : Aside0 (n ≤ 5000) := ⟨by omega⟩
  have s_ := (blk_cell HST.out 2).trans (rfl : _ = some (.slice A n c : Value))
  have hin : (i : Int) ≤ 1000000 := by omega
  have hlt2 : (i : Int) < (n : Int) := by omega
  obtain ⟨m, HM⟩ : ∃ m, Aside0 (n - 1 = m) := ⟨_, ⟨rfl⟩⟩
  clear hy hsy
  go_wp2_with fail
  refine (delete_any base n i (.slice A n c) (cellsS L) _ HOW.out cellsS_one hilt HNL.out).mono ?_
  rintro e w4 ⟨v', rfl, ho, hgr, hh⟩
  rw [HCE.out] at ho
  have ho' := ho
  rw [show n - 1 = L2.length by rw [HLN.out]] at ho
  have HFR := Aside0.mk (HK.out.row' (Below.refl _ _) hgr ho hh (HRI.out.sublist HSUB.out) (fun x hx => HSP.out x (HSUB.out.subset hx)) (fun x hx => HK.out.keys x (HSUB.out.subset hx)) (Nat.le_trans HSUB.out.length_le HK.out.len))
  have hmid := HK.out.mid (Below.refl _ _) hgr
  obtain ⟨A', c', hv', _, _⟩ := slice_of ho'
  rw [HM.out] at hv'
  subst hv'
  have y1 := (blk_cell hmid 2).trans (rfl : _ = some (.slice A n c : Value))
  have y2 := blk_frozen hmid 2
  clear s_ ho ho' hgr hh hmid p0_ p1_ p2_ p3_ p4_
  have HP : Aside0 (OpPost base b room gap (.slice A n c) L2 (.int .i64 0) w (.returned (.int .i64 0)) (w4.setCell ⟨b, 2, none⟩ (.slice A' m c'))) := ⟨OpPost.from HB.out ⟨_, rfl, HFR.out.1, HFR.out.2.1, HFR.out.2.2⟩⟩
  clear HFR
  go_wp2_with fail
  go_ret
  exact HP.out
set_option maxHeartbeats 4000000 in
set_option maxRecDepth 100000 in
theorem do_set (base b : Nat) (room gap : Int) (v : Value) (L : List Ses) (ck cf ct cv : Int) (w : World) (h : SeS w base b room gap v L) (hbs : base ≤ w.heap.size) (hx : Span ⟨ck, cf, ct, cv⟩) (hk : In64 ck ∧ In64 cv) (hq : hasS L ⟨ck, cf, ct, cv⟩ = true) :
    Calls Try.prog 16 #[.pointer (some ⟨b, 0, none⟩), .agg #[.int .i64 ck, .int .i64 cf, .int .i64 ct, .int .i64 cv, .bool false]] w (OpPost base b room gap v (insS (delS L ⟨ck, cf, ct, cv⟩) ⟨ck, cf, ct, cv⟩) (.int .i64 0) w) := by
  obtain ⟨L2, HL2⟩ : ∃ y, Aside0 (insS (delS L ⟨ck, cf, ct, cv⟩) ⟨ck, cf, ct, cv⟩ = y) := ⟨_, ⟨rfl⟩⟩
  rw [HL2.out]
  have HK0 := Aside0.mk h
  have HRI := Aside0.mk h.rise
  have HSP := Aside0.mk h.span
  have HX := Aside0.mk hx
  have HKX := Aside0.mk hk
  have HBS0 := Aside0.mk hbs
  have hm1 : mayT cf = true := by unfold Span at hx; simp only at hx; unfold mayT; simp only [Bool.and_eq_true, decide_eq_true_eq]; omega
  have hm2 : mayT ct = true := by unfold Span at hx; simp only at hx; unfold mayT; simp only [Bool.and_eq_true, decide_eq_true_eq]; omega
  have hlt : decide (ct < cf) = false := by unfold Span at hx; simp only at hx; simp; omega
  obtain ⟨A, c, hv, hnc, hcm⟩ := slice_of h.row
  obtain ⟨n, HN⟩ : ∃ n, Aside0 (L.length = n) := ⟨_, ⟨rfl⟩⟩
  have hn : n ≤ 1024 := by rw [← HN.out]; exact h.len
  rw [HN.out] at hv hnc
  subst hv
  have hcm2 : c ≤ 9223372036854775807 := Nat.le_trans hcm (by decide)
  obtain ⟨i, HI⟩ : ∃ i, Aside0 (idxS L ⟨ck, cf, ct, cv⟩ = i) := ⟨_, ⟨rfl⟩⟩
  have HQ := Aside0.mk hq
  clear h hx hk hbs hcm hq
  go_enter Try.func16, Try.ntmps16
  go_upto_region 3 with fail
  have HB := Aside0.mk (Below.refl w.heap.size w)
  have HPC := Aside0.mk (heap_alloc_new w (.cells #[.int .i64 ck, .int .i64 cf, .int .i64 ct, .int .i64 cv, .bool false] 33))
  have hb_ := below_alloc (Below.refl w.heap.size w) (.cells #[.int .i64 ck, .int .i64 cf, .int .i64 ct, .int .i64 cv, .bool false] 33)
  have hs_ : (w.alloc (.cells #[.int .i64 ck, .int .i64 cf, .int .i64 ct, .int .i64 cv, .bool false] 33)).heap.size = w.heap.size + 1 := by simp
  generalize w.alloc (.cells #[.int .i64 ck, .int .i64 cf, .int .i64 ct, .int .i64 cv, .bool false] 33) = w1 at HPC hb_ hs_ ⊢
  replace HB := Aside0.mk (below_step HB.out hb_)
  clear hb_
  clear hs_
  obtain ⟨gc, HGC⟩ : ∃ g, Aside0 (w.heap.size = g) := ⟨_, ⟨rfl⟩⟩
  rw [HGC.out] at HPC ⊢
  have p0_ := (blk_cell HPC.out 0).trans (rfl : _ = some (.int .i64 ck : Value))
  have p1_ := (blk_cell HPC.out 1).trans (rfl : _ = some (.int .i64 cf : Value))
  have p2_ := (blk_cell HPC.out 2).trans (rfl : _ = some (.int .i64 ct : Value))
  have p3_ := (blk_cell HPC.out 3).trans (rfl : _ = some (.int .i64 cv : Value))
  have p4_ := (blk_cell HPC.out 4).trans (rfl : _ = some (.bool false : Value))
  go_wp2_with fail
  refine (may_ok cf _).mono ?_
  rintro e w2 ⟨rfl, rfl⟩
  rw [hm1]
  go_wp2_with fail
  refine (may_ok ct _).mono ?_
  rintro e w2 ⟨rfl, rfl⟩
  rw [hm2]
  go_upto_region 5 with fail
  clear p0_ p1_ p2_ p3_ p4_
  have HK1 := Aside0.mk (HK0.out.below HB.out)
  have hp1 := Aside0.mk (Below.refl w1.heap.size w1)
  go_cut [5] (fun v5 w2 => ∃ gs, v5 = .pointer (some ⟨gs, 0, none⟩) ∧ Aside0 (w2.heap[gs]? = some (.cells #[.int .i64 ck, spanV cf ct, .int .i64 cv] 53 (0, 0))) ∧ Aside0 (Below w1.heap.size w1 w2))
  case first =>
    refine start_ (n := 12) (S := fun w' => Below w1.heap.size w1 w') (ds := []) #[false, false, false, false, false, false, false, false, false, false, false, false] (by kernel_rfl) rfl rfl (below_drew (Below.refl _ _)) (fun hHeld => ?_)
    refine pure_ (i := 0) (N := some 36) (v := ?_) (a' := ?_) #[true, false, false, false, false, false, false, false, false, false, false, false] rfl rfl (by kernel_rfl) (fun _ _ _ h => h) (Or.inl ⟨by rfl, ?_⟩) ?_ ?_
    rotate_left
    · intro w'
      go_simp
      with_reducible rfl
    rotate_left
    · simp only [Act.put, List.setIfInBounds_toArray, List.set_cons_zero, List.set_cons_succ, i64_w, i32_w]
      rfl
    refine pure_ (i := 2) (N := some 38) (v := ?_) (a' := ?_) #[true, false, true, false, false, false, false, false, false, false, false, false] rfl rfl (by kernel_rfl) (fun _ _ _ h => h) (Or.inl ⟨by rfl, ?_⟩) ?_ ?_
    rotate_left
    · intro w'
      go_simp
      with_reducible rfl
    rotate_left
    · simp only [Act.put, List.setIfInBounds_toArray, List.set_cons_zero, List.set_cons_succ, i64_w, i32_w]
      rfl
    refine pure_ (i := 4) (N := some 40) (v := ?_) (a' := ?_) #[true, false, true, false, true, false, false, false, false, false, false, false] rfl rfl (by kernel_rfl) (fun _ _ _ h => h) (Or.inl ⟨by rfl, ?_⟩) ?_ ?_
    rotate_left
    · intro w'
      go_simp
      with_reducible rfl
    rotate_left
    · simp only [Act.put, List.setIfInBounds_toArray, List.set_cons_zero, List.set_cons_succ, i64_w, i32_w]
      rfl
    refine pure_ (i := 7) (N := some 43) (v := ?_) (a' := ?_) #[true, false, true, false, true, false, false, true, false, false, false, false] rfl rfl (by kernel_rfl) (fun _ _ _ h => h) (Or.inl ⟨by rfl, ?_⟩) ?_ ?_
    rotate_left
    · intro w'
      go_simp
      with_reducible rfl
    rotate_left
    · simp only [Act.put, List.setIfInBounds_toArray, List.set_cons_zero, List.set_cons_succ, i64_w, i32_w]
      rfl
    refine take_ (i := 1) (N := some 37) (v := ?_) (a' := ?_) #[true, true, true, false, true, false, false, true, false, false, false, false] rfl rfl (by kernel_rfl) (fun _ _ _ h => h) (Or.inl ⟨by rfl, ?_⟩) hHeld ?_ ?_
    rotate_left
    · intro w' hS
      have b0_ := (blk_cell (blk_below HPC.out hS) 0).trans (rfl : _ = some (.int .i64 ck : Value))
      have b1_ := (blk_cell (blk_below HPC.out hS) 1).trans (rfl : _ = some (.int .i64 cf : Value))
      have b2_ := (blk_cell (blk_below HPC.out hS) 2).trans (rfl : _ = some (.int .i64 ct : Value))
      have b3_ := (blk_cell (blk_below HPC.out hS) 3).trans (rfl : _ = some (.int .i64 cv : Value))
      have b4_ := (blk_cell (blk_below HPC.out hS) 4).trans (rfl : _ = some (.bool false : Value))
      go_simp
      with_reducible rfl
    rotate_left
    · simp only [Act.put, List.setIfInBounds_toArray, List.set_cons_zero, List.set_cons_succ, i64_w, i32_w]
      rfl
    refine take_ (i := 3) (N := some 39) (v := ?_) (a' := ?_) #[true, true, true, true, true, false, false, true, false, false, false, false] rfl rfl (by kernel_rfl) (fun _ _ _ h => h) (Or.inl ⟨by rfl, ?_⟩) hHeld ?_ ?_
    rotate_left
    · intro w' hS
      have b0_ := (blk_cell (blk_below HPC.out hS) 0).trans (rfl : _ = some (.int .i64 ck : Value))
      have b1_ := (blk_cell (blk_below HPC.out hS) 1).trans (rfl : _ = some (.int .i64 cf : Value))
      have b2_ := (blk_cell (blk_below HPC.out hS) 2).trans (rfl : _ = some (.int .i64 ct : Value))
      have b3_ := (blk_cell (blk_below HPC.out hS) 3).trans (rfl : _ = some (.int .i64 cv : Value))
      have b4_ := (blk_cell (blk_below HPC.out hS) 4).trans (rfl : _ = some (.bool false : Value))
      go_simp
      with_reducible rfl
    rotate_left
    · simp only [Act.put, List.setIfInBounds_toArray, List.set_cons_zero, List.set_cons_succ, i64_w, i32_w]
      rfl
    refine take_ (i := 5) (N := some 41) (v := ?_) (a' := ?_) #[true, true, true, true, true, true, false, true, false, false, false, false] rfl rfl (by kernel_rfl) (fun _ _ _ h => h) (Or.inl ⟨by rfl, ?_⟩) hHeld ?_ ?_
    rotate_left
    · intro w' hS
      have b0_ := (blk_cell (blk_below HPC.out hS) 0).trans (rfl : _ = some (.int .i64 ck : Value))
      have b1_ := (blk_cell (blk_below HPC.out hS) 1).trans (rfl : _ = some (.int .i64 cf : Value))
      have b2_ := (blk_cell (blk_below HPC.out hS) 2).trans (rfl : _ = some (.int .i64 ct : Value))
      have b3_ := (blk_cell (blk_below HPC.out hS) 3).trans (rfl : _ = some (.int .i64 cv : Value))
      have b4_ := (blk_cell (blk_below HPC.out hS) 4).trans (rfl : _ = some (.bool false : Value))
      go_simp
      with_reducible rfl
    rotate_left
    · simp only [Act.put, List.setIfInBounds_toArray, List.set_cons_zero, List.set_cons_succ, i64_w, i32_w]
      rfl
    refine take_ (i := 8) (N := some 44) (v := ?_) (a' := ?_) #[true, true, true, true, true, true, false, true, true, false, false, false] rfl rfl (by kernel_rfl) (fun _ _ _ h => h) (Or.inl ⟨by rfl, ?_⟩) hHeld ?_ ?_
    rotate_left
    · intro w' hS
      have b0_ := (blk_cell (blk_below HPC.out hS) 0).trans (rfl : _ = some (.int .i64 ck : Value))
      have b1_ := (blk_cell (blk_below HPC.out hS) 1).trans (rfl : _ = some (.int .i64 cf : Value))
      have b2_ := (blk_cell (blk_below HPC.out hS) 2).trans (rfl : _ = some (.int .i64 ct : Value))
      have b3_ := (blk_cell (blk_below HPC.out hS) 3).trans (rfl : _ = some (.int .i64 cv : Value))
      have b4_ := (blk_cell (blk_below HPC.out hS) 4).trans (rfl : _ = some (.bool false : Value))
      go_simp
      with_reducible rfl
    rotate_left
    · simp only [Act.put, List.setIfInBounds_toArray, List.set_cons_zero, List.set_cons_succ, i64_w, i32_w]
      rfl
    refine two_ (i := 6) (j := 10) (Ni := some 42) (Nj := some 5) #[true, true, true, true, true, true, true, true, true, false, false, false] #[true, true, true, true, true, true, false, true, true, false, true, false] rfl rfl rfl rfl (by kernel_rfl) (by simp) (by simp) (fun K hK => ?_) (fun K hK => ?_)
    · skip
      refine goes_ Try.func22 (by kernel_rfl) rfl #[.int .i64 cf, .int .i64 ct] (by rfl) rfl rfl (by simp only [List.map_toArray, List.map_cons, List.map_nil]; rfl) ?_
      with_reducible refine (times_ok cf ct _).mono ?_
      rintro e w9 ⟨rfl, rfl⟩
      refine ⟨_, rfl, ?_⟩
      refine hK.out _ _ (hHeld) (fun hHeld => ?_)
      clear hK K
      refine norm_ (a' := ?_) ?_ ?_
      rotate_left
      · show Act.put _ (some 42) _ = _
        simp only [Act.put, List.setIfInBounds_toArray, List.set_cons_zero, List.set_cons_succ, i64_w, i32_w]
        rfl
      rw [show spanV cf ct = .complex .f64 (fl cf) (fl ct) from rfl]
      refine pure_ (i := 9) (N := some 45) (v := ?_) (a' := ?_) #[true, true, true, true, true, true, true, true, true, true, false, false] rfl rfl (by kernel_rfl) (fun _ _ _ h => h) (Or.inl ⟨by rfl, ?_⟩) ?_ ?_
      rotate_left
      · intro w'
        go_simp
        with_reducible rfl
      rotate_left
      · simp only [Act.put, List.setIfInBounds_toArray, List.set_cons_zero, List.set_cons_succ, i64_w, i32_w]
        rfl
      refine one_ (i := 10) (N := some 5) #[true, true, true, true, true, true, true, true, true, true, true, false] rfl rfl (by kernel_rfl) (by simp) (fun K hK => ?_)
      refine value_ (w1 := w1.drew.alloc (.cells #[.int .i64 0, .complex .f64 0 0, .int .i64 0] 53)) (v := .pointer (some ⟨w1.drew.heap.size, 0, none⟩)) (by rfl) rfl (by first | (go_simp; done) | (go_simp; rfl)) ?_
      refine hK.out _ _ (below_alloc hHeld _) (fun hHeld => ?_)
      clear hK K
      refine norm_ (a' := ?_) ?_ ?_
      rotate_left
      · show Act.put _ (some 5) _ = _
        simp only [Act.put, List.setIfInBounds_toArray, List.set_cons_zero, List.set_cons_succ, i64_w, i32_w]
        rfl
      refine one_ (i := 11) (N := none) #[true, true, true, true, true, true, true, true, true, true, true, true] rfl rfl (by kernel_rfl) (by simp) (fun K hK => ?_)
      have HZ := heap_alloc_new w1.drew (.cells #[.int .i64 0, .complex .f64 0 0, .int .i64 0] 53)
      have c0_ := (blk_cell HZ 0).trans rfl
      have c1_ := (blk_cell HZ 1).trans rfl
      have c2_ := (blk_cell HZ 2).trans rfl
      have f0_ := blk_frozen HZ 0
      have f1_ := blk_frozen HZ 1
      have f2_ := blk_frozen HZ 2
      refine skip_ (w1 := (((w1.drew.alloc (.cells #[.int .i64 0, .complex .f64 0 0, .int .i64 0] 53)).setCell ⟨w1.drew.heap.size, 0, none⟩ (.int .i64 ck)).setCell ⟨w1.drew.heap.size, 1, none⟩ (.complex .f64 (fl cf) (fl ct))).setCell ⟨w1.drew.heap.size, 2, none⟩ (.int .i64 cv)) (by rfl) rfl (by first | (go_simp; done) | (go_simp; rfl)) ?_
      refine hK.out _ _ (below_set (below_set (below_set hHeld (Nat.le_refl w1.heap.size)) (Nat.le_refl w1.heap.size)) (Nat.le_refl w1.heap.size)) (fun hHeld => ?_)
      clear hK K
      refine done_ (by kernel_rfl) ?_
      have HZ := heap_alloc_new w1.drew (.cells #[.int .i64 0, .complex .f64 0 0, .int .i64 0] 53)
      have HX3 := Aside0.mk (blk_put (blk_set (blk_set HZ 0 (.int .i64 ck)) 1 (.complex .f64 (fl cf) (fl ct))) 2 (.int .i64 cv) (rfl : _ = (#[.int .i64 ck, .complex .f64 (fl cf) (fl ct), .int .i64 cv] : Array Value)))
      have HH := Aside0.mk hHeld
      clear hHeld HZ
      go_wp2_with fail
      go_meet
      case rel => exact ⟨_, rfl, HX3, HH⟩
    · skip
      refine value_ (w1 := w1.drew.alloc (.cells #[.int .i64 0, .complex .f64 0 0, .int .i64 0] 53)) (v := .pointer (some ⟨w1.drew.heap.size, 0, none⟩)) (by rfl) rfl (by first | (go_simp; done) | (go_simp; rfl)) ?_
      refine hK.out _ _ (below_alloc hHeld _) (fun hHeld => ?_)
      clear hK K
      refine norm_ (a' := ?_) ?_ ?_
      rotate_left
      · show Act.put _ (some 5) _ = _
        simp only [Act.put, List.setIfInBounds_toArray, List.set_cons_zero, List.set_cons_succ, i64_w, i32_w]
        rfl
      refine one_ (i := 6) (N := some 42) #[true, true, true, true, true, true, true, true, true, false, true, false] rfl rfl (by kernel_rfl) (by simp) (fun K hK => ?_)
      refine goes_ Try.func22 (by kernel_rfl) rfl #[.int .i64 cf, .int .i64 ct] (by rfl) rfl rfl (by simp only [List.map_toArray, List.map_cons, List.map_nil]; rfl) ?_
      with_reducible refine (times_ok cf ct _).mono ?_
      rintro e w9 ⟨rfl, rfl⟩
      refine ⟨_, rfl, ?_⟩
      refine hK.out _ _ (hHeld) (fun hHeld => ?_)
      clear hK K
      refine norm_ (a' := ?_) ?_ ?_
      rotate_left
      · show Act.put _ (some 42) _ = _
        simp only [Act.put, List.setIfInBounds_toArray, List.set_cons_zero, List.set_cons_succ, i64_w, i32_w]
        rfl
      rw [show spanV cf ct = .complex .f64 (fl cf) (fl ct) from rfl]
      refine pure_ (i := 9) (N := some 45) (v := ?_) (a' := ?_) #[true, true, true, true, true, true, true, true, true, true, true, false] rfl rfl (by kernel_rfl) (fun _ _ _ h => h) (Or.inl ⟨by rfl, ?_⟩) ?_ ?_
      rotate_left
      · intro w'
        go_simp
        with_reducible rfl
      rotate_left
      · simp only [Act.put, List.setIfInBounds_toArray, List.set_cons_zero, List.set_cons_succ, i64_w, i32_w]
        rfl
      refine one_ (i := 11) (N := none) #[true, true, true, true, true, true, true, true, true, true, true, true] rfl rfl (by kernel_rfl) (by simp) (fun K hK => ?_)
      have HZ := heap_alloc_new w1.drew (.cells #[.int .i64 0, .complex .f64 0 0, .int .i64 0] 53)
      have c0_ := (blk_cell HZ 0).trans rfl
      have c1_ := (blk_cell HZ 1).trans rfl
      have c2_ := (blk_cell HZ 2).trans rfl
      have f0_ := blk_frozen HZ 0
      have f1_ := blk_frozen HZ 1
      have f2_ := blk_frozen HZ 2
      refine skip_ (w1 := (((w1.drew.alloc (.cells #[.int .i64 0, .complex .f64 0 0, .int .i64 0] 53)).setCell ⟨w1.drew.heap.size, 0, none⟩ (.int .i64 ck)).setCell ⟨w1.drew.heap.size, 1, none⟩ (.complex .f64 (fl cf) (fl ct))).setCell ⟨w1.drew.heap.size, 2, none⟩ (.int .i64 cv)) (by rfl) rfl (by first | (go_simp; done) | (go_simp; rfl)) ?_
      refine hK.out _ _ (below_set (below_set (below_set hHeld (Nat.le_refl w1.heap.size)) (Nat.le_refl w1.heap.size)) (Nat.le_refl w1.heap.size)) (fun hHeld => ?_)
      clear hK K
      refine done_ (by kernel_rfl) ?_
      have HZ := heap_alloc_new w1.drew (.cells #[.int .i64 0, .complex .f64 0 0, .int .i64 0] 53)
      have HX3 := Aside0.mk (blk_put (blk_set (blk_set HZ 0 (.int .i64 ck)) 1 (.complex .f64 (fl cf) (fl ct))) 2 (.int .i64 cv) (rfl : _ = (#[.int .i64 ck, .complex .f64 (fl cf) (fl ct), .int .i64 cv] : Array Value)))
      have HH := Aside0.mk hHeld
      clear hHeld HZ
      go_wp2_with fail
      go_meet
      case rel => exact ⟨_, rfl, HX3, HH⟩

  case rest =>
  obtain ⟨gs, rfl, HPB, HBC⟩ := hcut
  have HK := Aside0.mk (HK1.out.below HBC.out)
  replace HPC := Aside0.mk (blk_below HPC.out HBC.out)
  replace HB := Aside0.mk (below_step HB.out HBC.out)
  have HST := Aside0.mk HK.out.cell
  have HOW : Aside0 (wc.ownsRow base 53 3 (.slice A n c) n (cellsS L)) := ⟨by have := HK.out.row; rwa [HN.out] at this⟩
  go_upto_region 6 with fail
  refine start_ (n := 11) (S := fun w' => Below wc.heap.size wc w') (ds := []) #[false, false, false, false, false, false, false, false, false, false, false] (by kernel_rfl) rfl rfl (below_drew (Below.refl _ _)) (fun hHeld => ?_)
  refine pure_ (i := 0) (N := some 47) (v := ?_) (a' := ?_) #[true, false, false, false, false, false, false, false, false, false, false] rfl rfl (by kernel_rfl) (fun _ _ _ h => h) (Or.inl ⟨by rfl, ?_⟩) ?_ ?_
  rotate_left
  · intro w'
    go_simp
    with_reducible rfl
  rotate_left
  · simp only [Act.put, List.setIfInBounds_toArray, List.set_cons_zero, List.set_cons_succ, i64_w, i32_w]
    rfl
  refine pure_ (i := 1) (N := some 48) (v := ?_) (a' := ?_) #[true, true, false, false, false, false, false, false, false, false, false] rfl rfl (by kernel_rfl) (fun _ _ _ h => h) (Or.inl ⟨by rfl, ?_⟩) ?_ ?_
  rotate_left
  · intro w'
    go_simp
    with_reducible rfl
  rotate_left
  · simp only [Act.put, List.setIfInBounds_toArray, List.set_cons_zero, List.set_cons_succ, i64_w, i32_w]
    rfl
  refine pure_ (i := 2) (N := some 49) (v := ?_) (a' := ?_) #[true, true, true, false, false, false, false, false, false, false, false] rfl rfl (by kernel_rfl) (fun _ _ _ h => h) (Or.inl ⟨by rfl, ?_⟩) ?_ ?_
  rotate_left
  · intro w'
    go_simp
    with_reducible rfl
  rotate_left
  · simp only [Act.put, List.setIfInBounds_toArray, List.set_cons_zero, List.set_cons_succ, i64_w, i32_w]
    rfl
  refine take_ (i := 3) (N := some 50) (v := ?_) (a' := ?_) #[true, true, true, true, false, false, false, false, false, false, false] rfl rfl (by kernel_rfl) (fun _ _ _ h => h) (Or.inl ⟨by rfl, ?_⟩) hHeld ?_ ?_
  rotate_left
  · intro w' hS
    have s_ := (blk_cell (blk_below HST.out hS) 2).trans (rfl : _ = some (.slice A n c : Value))
    go_simp
    with_reducible rfl
  rotate_left
  · simp only [Act.put, List.setIfInBounds_toArray, List.set_cons_zero, List.set_cons_succ, i64_w, i32_w]
    rfl
  refine take_ (i := 4) (N := some 51) (v := ?_) (a' := ?_) #[true, true, true, true, true, false, false, false, false, false, false] rfl rfl (by kernel_rfl) (fun _ _ _ h => h) (Or.inl ⟨by rfl, ?_⟩) hHeld ?_ ?_
  rotate_left
  · intro w' hS
    have b0_ := (blk_cell (blk_below HPB.out hS) 0).trans (rfl : _ = some (.int .i64 ck : Value))
    have b1_ := (blk_cell (blk_below HPB.out hS) 1).trans (rfl : _ = some (spanV cf ct : Value))
    have b2_ := (blk_cell (blk_below HPB.out hS) 2).trans (rfl : _ = some (.int .i64 cv : Value))
    go_simp
    with_reducible rfl
  rotate_left
  · simp only [Act.put, List.setIfInBounds_toArray, List.set_cons_zero, List.set_cons_succ, i64_w, i32_w]
    rfl
  refine one_ (i := 5) (N := some 52) #[true, true, true, true, true, true, false, false, false, false, false] rfl rfl (by kernel_rfl) (by simp) (fun K hK => ?_)
  refine goes_ Try.func29 (by kernel_rfl) rfl #[.slice A n c, .agg #[.int .i64 ck, spanV cf ct, .int .i64 cv], .func (.func 30) #[] #[]] (by rfl) rfl rfl (by simp only [List.map_toArray, List.map_cons, List.map_nil]; rfl) ?_
  with_reducible refine (bs_ok base n c A L ⟨ck, cf, ct, cv⟩ _ HN.out (own_below HOW.out hHeld) HRI.out (by omega) HX.out HSP.out).mono ?_
  rintro e w3 ⟨rfl, hb_⟩
  refine ⟨_, rfl, ?_⟩
  replace hb_ := below_step hHeld hb_
  refine hK.out _ _ hb_ (fun _ => ?_)
  clear hK K
  refine norm_ (a' := ?_) ?_ ?_
  rotate_left
  · show Act.put _ (some 52) _ = _
    simp only [Act.put, List.setIfInBounds_toArray, List.set_cons_zero, List.set_cons_succ, i64_w, i32_w]
    rfl
  replace hHeld := hb_
  rw [HI.out, HQ.out]
  clear hb_
  refine pure_ (i := 6) (N := some 46) (v := ?_) (a' := ?_) #[true, true, true, true, true, true, true, false, false, false, false] rfl rfl (by kernel_rfl) (fun _ _ _ h => h) (Or.inl ⟨by rfl, ?_⟩) ?_ ?_
  rotate_left
  · intro w'
    go_simp
    with_reducible rfl
  rotate_left
  · simp only [Act.put, List.setIfInBounds_toArray, List.set_cons_zero, List.set_cons_succ, i64_w, i32_w]
    rfl
  refine pure_ (i := 7) (N := some 53) (v := ?_) (a' := ?_) #[true, true, true, true, true, true, true, true, false, false, false] rfl rfl (by kernel_rfl) (fun _ _ _ h => h) (Or.inl ⟨by rfl, ?_⟩) ?_ ?_
  rotate_left
  · intro w'
    go_simp
    with_reducible rfl
  rotate_left
  · simp only [Act.put, List.setIfInBounds_toArray, List.set_cons_zero, List.set_cons_succ, i64_w, i32_w]
    rfl
  refine pure_ (i := 8) (N := some 54) (v := ?_) (a' := ?_) #[true, true, true, true, true, true, true, true, true, false, false] rfl rfl (by kernel_rfl) (fun _ _ _ h => h) (Or.inl ⟨by rfl, ?_⟩) ?_ ?_
  rotate_left
  · intro w'
    go_simp
    with_reducible rfl
  rotate_left
  · simp only [Act.put, List.setIfInBounds_toArray, List.set_cons_zero, List.set_cons_succ, i64_w, i32_w]
    rfl
  refine pure_ (i := 9) (N := some 6) (v := ?_) (a' := ?_) #[true, true, true, true, true, true, true, true, true, true, false] rfl rfl (by kernel_rfl) (fun _ _ _ h => h) (Or.inl ⟨by rfl, ?_⟩) ?_ ?_
  rotate_left
  · intro w'
    go_simp
    with_reducible rfl
  rotate_left
  · simp only [Act.put, List.setIfInBounds_toArray, List.set_cons_zero, List.set_cons_succ, i64_w, i32_w]
    rfl
  refine pure_ (i := 10) (N := some 7) (v := ?_) (a' := ?_) #[true, true, true, true, true, true, true, true, true, true, true] rfl rfl (by kernel_rfl) (fun _ _ _ h => h) (Or.inl ⟨by rfl, ?_⟩) ?_ ?_
  rotate_left
  · intro w'
    go_simp
    with_reducible rfl
  rotate_left
  · simp only [Act.put, List.setIfInBounds_toArray, List.set_cons_zero, List.set_cons_succ, i64_w, i32_w]
    rfl
  refine done_ (by kernel_rfl) ?_

  replace HK := Aside0.mk (HK.out.below hHeld)
  replace HPC := Aside0.mk (blk_below HPC.out hHeld)
  replace HPB := Aside0.mk (blk_below HPB.out hHeld)
  replace HB := Aside0.mk (below_step HB.out hHeld)
  replace HST := Aside0.mk HK.out.cell
  replace HOW := Aside0.mk (own_below HOW.out hHeld)
  clear hHeld HBC HK1 hp1
  have p0_ := (blk_cell HPC.out 0).trans (rfl : _ = some (.int .i64 ck : Value))
  have p1_ := (blk_cell HPC.out 1).trans (rfl : _ = some (.int .i64 cf : Value))
  have p2_ := (blk_cell HPC.out 2).trans (rfl : _ = some (.int .i64 ct : Value))
  have p3_ := (blk_cell HPC.out 3).trans (rfl : _ = some (.int .i64 cv : Value))
  have p4_ := (blk_cell HPC.out 4).trans (rfl : _ = some (.bool false : Value))

  obtain ⟨y, hy, hsy⟩ := has_get HRI.out HQ.out
  have HDA := Aside0.mk (set_at HRI.out hy hsy)
  rw [HI.out, HL2.out] at HDA
  rw [HI.out] at hy
  have hilt : i < n := by have := (List.getElem?_eq_some_iff.1 hy).1; rw [HN.out] at this; exact this
  have HY := Aside0.mk hy
  have HRI2 : Aside0 (Rise L2) := ⟨by
    rw [← HL2.out]
    refine rise_ins (HRI.out.sublist List.filter_sublist) (fun z hz => ?_)
    have := (List.mem_filter.1 hz).2
    simpa using this⟩
  have HMM : Aside0 (∀ z ∈ L2, z = ⟨ck, cf, ct, cv⟩ ∨ z ∈ L) := ⟨fun z hz => by
    rw [← HL2.out] at hz
    rcases mem_insS.1 hz with e | hz
    · exact .inl e
    · exact .inr (List.mem_filter.1 hz).1⟩
  have HLN : Aside0 (L2.length = n) := ⟨by rw [← HDA.out, List.length_set, HN.out]⟩
  have hlt2 : (i : Int) < (n : Int) := by omega
  obtain ⟨g, hA, hcells⟩ := own_cells HOW.out rfl hy
  subst hA
  clear hy hsy hcells
  go_upto_region 13 with fail
  refine start_ (n := 8) (S := fun w' => Below w3.heap.size w3 w') (ds := [7]) #[false, false, false, false, false, false, false, false] (by kernel_rfl) rfl rfl (below_drew (Below.refl _ _)) (fun hHeld => ?_)
  refine pure_ (i := 0) (N := some 81) (v := ?_) (a' := ?_) #[true, false, false, false, false, false, false, false] rfl rfl (by kernel_rfl) (fun _ _ _ h => h) (Or.inl ⟨by rfl, ?_⟩) ?_ ?_
  rotate_left
  · intro w'
    go_simp
    with_reducible rfl
  rotate_left
  · simp only [Act.put, List.setIfInBounds_toArray, List.set_cons_zero, List.set_cons_succ, i64_w, i32_w]
    rfl
  refine pure_ (i := 1) (N := some 82) (v := ?_) (a' := ?_) #[true, true, false, false, false, false, false, false] rfl rfl (by kernel_rfl) (fun _ _ _ h => h) (Or.inl ⟨by rfl, ?_⟩) ?_ ?_
  rotate_left
  · intro w'
    go_simp
    with_reducible rfl
  rotate_left
  · simp only [Act.put, List.setIfInBounds_toArray, List.set_cons_zero, List.set_cons_succ, i64_w, i32_w]
    rfl
  refine pure_ (i := 2) (N := some 83) (v := ?_) (a' := ?_) #[true, true, true, false, false, false, false, false] rfl rfl (by kernel_rfl) (fun _ _ _ h => h) (Or.inl ⟨by rfl, ?_⟩) ?_ ?_
  rotate_left
  · intro w'
    go_simp
    with_reducible rfl
  rotate_left
  · simp only [Act.put, List.setIfInBounds_toArray, List.set_cons_zero, List.set_cons_succ, i64_w, i32_w]
    rfl
  refine pure_ (i := 4) (N := some 85) (v := ?_) (a' := ?_) #[true, true, true, false, true, false, false, false] rfl rfl (by kernel_rfl) (fun _ _ _ h => h) (Or.inl ⟨by rfl, ?_⟩) ?_ ?_
  rotate_left
  · intro w'
    go_simp
    with_reducible rfl
  rotate_left
  · simp only [Act.put, List.setIfInBounds_toArray, List.set_cons_zero, List.set_cons_succ, i64_w, i32_w]
    rfl
  refine take_ (i := 3) (N := some 84) (v := ?_) (a' := ?_) #[true, true, true, true, true, false, false, false] rfl rfl (by kernel_rfl) (fun _ _ _ h => h) (Or.inl ⟨by rfl, ?_⟩) hHeld ?_ ?_
  rotate_left
  · intro w' hS
    have s_ := (blk_cell (blk_below HST.out hS) 2).trans (rfl : _ = some (.slice (some ⟨g, 0, none⟩) n c : Value))
    go_simp
    with_reducible rfl
  rotate_left
  · simp only [Act.put, List.setIfInBounds_toArray, List.set_cons_zero, List.set_cons_succ, i64_w, i32_w]
    rfl
  refine take_ (i := 5) (N := some 86) (v := ?_) (a' := ?_) #[true, true, true, true, true, true, false, false] rfl rfl (by kernel_rfl) (fun _ _ _ h => h) (Or.inl ⟨by rfl, ?_⟩) hHeld ?_ ?_
  rotate_left
  · intro w' hS
    have b0_ := (blk_cell (blk_below HPB.out hS) 0).trans (rfl : _ = some (.int .i64 ck : Value))
    have b1_ := (blk_cell (blk_below HPB.out hS) 1).trans (rfl : _ = some (spanV cf ct : Value))
    have b2_ := (blk_cell (blk_below HPB.out hS) 2).trans (rfl : _ = some (.int .i64 cv : Value))
    go_simp
    with_reducible rfl
  rotate_left
  · simp only [Act.put, List.setIfInBounds_toArray, List.set_cons_zero, List.set_cons_succ, i64_w, i32_w]
    rfl
  refine pure_ (i := 6) (N := some 87) (v := ?_) (a' := ?_) #[true, true, true, true, true, true, true, false] rfl rfl (by kernel_rfl) (fun _ _ _ h => h) (Or.inl ⟨by rfl, ?_⟩) ?_ ?_
  rotate_left
  · intro w'
    go_simp
    with_reducible rfl
  rotate_left
  · simp only [Act.put, List.setIfInBounds_toArray, List.set_cons_zero, List.set_cons_succ, i64_w, i32_w]
    rfl
  refine last_ (i := 7) (N := none) #[true, true, true, true, true, true, true, true] rfl rfl (by kernel_rfl) (by simp) (fun K hK => ?_)
  generalize w3.drew = w4 at hHeld ⊢
  have HK4 := Aside0.mk (HK.out.below hHeld)
  have HOW4 := Aside0.mk (own_below HOW.out hHeld)
  obtain ⟨c0_, c1_, c2_⟩ := cellsS_own HOW4.out HY.out
  obtain ⟨cur, hcur⟩ := own_block HOW4.out (k := g) rfl
  have f0_ := blk_frozen hcur (i * 3)
  have f1_ := blk_frozen hcur (i * 3 + 1)
  have f2_ := blk_frozen hcur (i * 3 + 2)
  have HFR : Aside0 (OpPost base b room gap (.slice (some ⟨g, 0, none⟩) n c) L2 (.int .i64 0) w3 (.returned (.int .i64 0)) ((((w4).setCell ⟨g, i * 3, none⟩ (.int .i64 ck)).setCell ⟨g, i * 3 + 1, none⟩ (spanV cf ct)).setCell ⟨g, i * 3 + 2, none⟩ (.int .i64 cv))) := ⟨by
    have hrow := setS_own HOW4.out (⟨ck, cf, ct, cv⟩ : Ses) HY.out
    rw [HDA.out] at hrow
    have hgb : b ≠ g := (blk_types hcur HK4.out.cell (by decide)).symm
    refine ⟨_, rfl, ⟨HK4.out.hb, ?_, by rw [HLN.out]; exact hrow, HRI2.out, fun z hz => by rcases HMM.out z hz with e | hz; rw [e]; exact HX.out; exact HSP.out z hz, fun z hz => by rcases HMM.out z hz with e | hz; rw [e]; exact HKX.out; exact HK4.out.keys z hz, by rw [HLN.out]; exact hn, HK4.out.most, HK4.out.gaps⟩, ?_, Hat.refl _ _⟩
    · rw [Below.heap_setCell _ _ _ _ (by exact hgb), Below.heap_setCell _ _ _ _ (by exact hgb), Below.heap_setCell _ _ _ _ (by exact hgb)]; exact HK4.out.cell
    · exact (((Chg.of_below hHeld).set (p := ⟨g, i * 3, none⟩) (.inr rfl) _).set (p := ⟨g, i * 3 + 1, none⟩) (.inr rfl) _).set (p := ⟨g, i * 3 + 2, none⟩) (.inr rfl) _⟩
  clear hcur
  refine skip_ (w1 := (((w4).setCell ⟨g, i * 3, none⟩ (.int .i64 ck)).setCell ⟨g, i * 3 + 1, none⟩ (spanV cf ct)).setCell ⟨g, i * 3 + 2, none⟩ (.int .i64 cv)) (by rfl) rfl (by first | (go_simp; done) | (go_simp; rfl)) ?_
  refine hK.out _ _ ?_
  clear hK K
  clear c0_ c1_ c2_ f0_ f1_ f2_ HK4 HOW4
  generalize (((w4).setCell ⟨g, i * 3, none⟩ (.int .i64 ck)).setCell ⟨g, i * 3 + 1, none⟩ (spanV cf ct)).setCell ⟨g, i * 3 + 2, none⟩ (.int .i64 cv) = w5 at HFR ⊢
  refine done_ (by kernel_rfl) ?_

  have HP : Aside0 (OpPost base b room gap (.slice (some ⟨g, 0, none⟩) n c) L2 (.int .i64 0) w (.returned (.int .i64 0)) w5) := ⟨OpPost.from HB.out HFR.out⟩
  clear HFR
  go_wp2_with fail
  go_ret
  exact HP.out
set_option maxHeartbeats 4000000 in
set_option maxRecDepth 100000 in
theorem do_ins (base b : Nat) (room gap : Int) (v : Value) (L : List Ses) (ck cf ct cv : Int) (w : World) (h : SeS w base b room gap v L) (hbs : base ≤ w.heap.size) (hx : Span ⟨ck, cf, ct, cv⟩) (hk : In64 ck ∧ In64 cv) (hq : hasS L ⟨ck, cf, ct, cv⟩ = false) (hr : (L.length : Int) < room) :
    Calls Try.prog 16 #[.pointer (some ⟨b, 0, none⟩), .agg #[.int .i64 ck, .int .i64 cf, .int .i64 ct, .int .i64 cv, .bool false]] w (OpPost base b room gap v (insS (delS L ⟨ck, cf, ct, cv⟩) ⟨ck, cf, ct, cv⟩) (.int .i64 0) w) := by
  have HFR0 := Aside0.mk hq
  rw [del_fresh hq]
  have hrm : (L.length : Int) < room := hr
  obtain ⟨L2, HL2⟩ : ∃ y, Aside0 (insS L ⟨ck, cf, ct, cv⟩ = y) := ⟨_, ⟨rfl⟩⟩
  rw [HL2.out]
  have HRM := Aside0.mk hrm
  clear hr hrm
  have HK0 := Aside0.mk h
  have HRI := Aside0.mk h.rise
  have HSP := Aside0.mk h.span
  have HX := Aside0.mk hx
  have HKX := Aside0.mk hk
  have HBS0 := Aside0.mk hbs
  have hm1 : mayT cf = true := by unfold Span at hx; simp only at hx; unfold mayT; simp only [Bool.and_eq_true, decide_eq_true_eq]; omega
  have hm2 : mayT ct = true := by unfold Span at hx; simp only at hx; unfold mayT; simp only [Bool.and_eq_true, decide_eq_true_eq]; omega
  have hlt : decide (ct < cf) = false := by unfold Span at hx; simp only at hx; simp; omega
  obtain ⟨A, c, hv, hnc, hcm⟩ := slice_of h.row
  obtain ⟨n, HN⟩ : ∃ n, Aside0 (L.length = n) := ⟨_, ⟨rfl⟩⟩
  have hn : n ≤ 1024 := by rw [← HN.out]; exact h.len
  rw [HN.out] at hv hnc
  subst hv
  have hcm2 : c ≤ 9223372036854775807 := Nat.le_trans hcm (by decide)
  obtain ⟨i, HI⟩ : ∃ i, Aside0 (idxS L ⟨ck, cf, ct, cv⟩ = i) := ⟨_, ⟨rfl⟩⟩
  have HQ := Aside0.mk hq
  clear h hx hk hbs hcm hq
  go_enter Try.func16, Try.ntmps16
  go_upto_region 3 with fail
  have HB := Aside0.mk (Below.refl w.heap.size w)
  have HPC := Aside0.mk (heap_alloc_new w (.cells #[.int .i64 ck, .int .i64 cf, .int .i64 ct, .int .i64 cv, .bool false] 33))
  have hb_ := below_alloc (Below.refl w.heap.size w) (.cells #[.int .i64 ck, .int .i64 cf, .int .i64 ct, .int .i64 cv, .bool false] 33)
  have hs_ : (w.alloc (.cells #[.int .i64 ck, .int .i64 cf, .int .i64 ct, .int .i64 cv, .bool false] 33)).heap.size = w.heap.size + 1 := by simp
  generalize w.alloc (.cells #[.int .i64 ck, .int .i64 cf, .int .i64 ct, .int .i64 cv, .bool false] 33) = w1 at HPC hb_ hs_ ⊢
  replace HB := Aside0.mk (below_step HB.out hb_)
  clear hb_
  clear hs_
  obtain ⟨gc, HGC⟩ : ∃ g, Aside0 (w.heap.size = g) := ⟨_, ⟨rfl⟩⟩
  rw [HGC.out] at HPC ⊢
  have p0_ := (blk_cell HPC.out 0).trans (rfl : _ = some (.int .i64 ck : Value))
  have p1_ := (blk_cell HPC.out 1).trans (rfl : _ = some (.int .i64 cf : Value))
  have p2_ := (blk_cell HPC.out 2).trans (rfl : _ = some (.int .i64 ct : Value))
  have p3_ := (blk_cell HPC.out 3).trans (rfl : _ = some (.int .i64 cv : Value))
  have p4_ := (blk_cell HPC.out 4).trans (rfl : _ = some (.bool false : Value))
  go_wp2_with fail
  refine (may_ok cf _).mono ?_
  rintro e w2 ⟨rfl, rfl⟩
  rw [hm1]
  go_wp2_with fail
  refine (may_ok ct _).mono ?_
  rintro e w2 ⟨rfl, rfl⟩
  rw [hm2]
  go_upto_region 5 with fail
  clear p0_ p1_ p2_ p3_ p4_
  have HK1 := Aside0.mk (HK0.out.below HB.out)
  have hp1 := Aside0.mk (Below.refl w1.heap.size w1)
  go_cut [5] (fun v5 w2 => ∃ gs, v5 = .pointer (some ⟨gs, 0, none⟩) ∧ Aside0 (w2.heap[gs]? = some (.cells #[.int .i64 ck, spanV cf ct, .int .i64 cv] 53 (0, 0))) ∧ Aside0 (Below w1.heap.size w1 w2))
  case first =>
    refine start_ (n := 12) (S := fun w' => Below w1.heap.size w1 w') (ds := []) #[false, false, false, false, false, false, false, false, false, false, false, false] (by kernel_rfl) rfl rfl (below_drew (Below.refl _ _)) (fun hHeld => ?_)
    refine pure_ (i := 0) (N := some 36) (v := ?_) (a' := ?_) #[true, false, false, false, false, false, false, false, false, false, false, false] rfl rfl (by kernel_rfl) (fun _ _ _ h => h) (Or.inl ⟨by rfl, ?_⟩) ?_ ?_
    rotate_left
    · intro w'
      go_simp
      with_reducible rfl
    rotate_left
    · simp only [Act.put, List.setIfInBounds_toArray, List.set_cons_zero, List.set_cons_succ, i64_w, i32_w]
      rfl
    refine pure_ (i := 2) (N := some 38) (v := ?_) (a' := ?_) #[true, false, true, false, false, false, false, false, false, false, false, false] rfl rfl (by kernel_rfl) (fun _ _ _ h => h) (Or.inl ⟨by rfl, ?_⟩) ?_ ?_
    rotate_left
    · intro w'
      go_simp
      with_reducible rfl
    rotate_left
    · simp only [Act.put, List.setIfInBounds_toArray, List.set_cons_zero, List.set_cons_succ, i64_w, i32_w]
      rfl
    refine pure_ (i := 4) (N := some 40) (v := ?_) (a' := ?_) #[true, false, true, false, true, false, false, false, false, false, false, false] rfl rfl (by kernel_rfl) (fun _ _ _ h => h) (Or.inl ⟨by rfl, ?_⟩) ?_ ?_
    rotate_left
    · intro w'
      go_simp
      with_reducible rfl
    rotate_left
    · simp only [Act.put, List.setIfInBounds_toArray, List.set_cons_zero, List.set_cons_succ, i64_w, i32_w]
      rfl
    refine pure_ (i := 7) (N := some 43) (v := ?_) (a' := ?_) #[true, false, true, false, true, false, false, true, false, false, false, false] rfl rfl (by kernel_rfl) (fun _ _ _ h => h) (Or.inl ⟨by rfl, ?_⟩) ?_ ?_
    rotate_left
    · intro w'
      go_simp
      with_reducible rfl
    rotate_left
    · simp only [Act.put, List.setIfInBounds_toArray, List.set_cons_zero, List.set_cons_succ, i64_w, i32_w]
      rfl
    refine take_ (i := 1) (N := some 37) (v := ?_) (a' := ?_) #[true, true, true, false, true, false, false, true, false, false, false, false] rfl rfl (by kernel_rfl) (fun _ _ _ h => h) (Or.inl ⟨by rfl, ?_⟩) hHeld ?_ ?_
    rotate_left
    · intro w' hS
      have b0_ := (blk_cell (blk_below HPC.out hS) 0).trans (rfl : _ = some (.int .i64 ck : Value))
      have b1_ := (blk_cell (blk_below HPC.out hS) 1).trans (rfl : _ = some (.int .i64 cf : Value))
      have b2_ := (blk_cell (blk_below HPC.out hS) 2).trans (rfl : _ = some (.int .i64 ct : Value))
      have b3_ := (blk_cell (blk_below HPC.out hS) 3).trans (rfl : _ = some (.int .i64 cv : Value))
      have b4_ := (blk_cell (blk_below HPC.out hS) 4).trans (rfl : _ = some (.bool false : Value))
      go_simp
      with_reducible rfl
    rotate_left
    · simp only [Act.put, List.setIfInBounds_toArray, List.set_cons_zero, List.set_cons_succ, i64_w, i32_w]
      rfl
    refine take_ (i := 3) (N := some 39) (v := ?_) (a' := ?_) #[true, true, true, true, true, false, false, true, false, false, false, false] rfl rfl (by kernel_rfl) (fun _ _ _ h => h) (Or.inl ⟨by rfl, ?_⟩) hHeld ?_ ?_
    rotate_left
    · intro w' hS
      have b0_ := (blk_cell (blk_below HPC.out hS) 0).trans (rfl : _ = some (.int .i64 ck : Value))
      have b1_ := (blk_cell (blk_below HPC.out hS) 1).trans (rfl : _ = some (.int .i64 cf : Value))
      have b2_ := (blk_cell (blk_below HPC.out hS) 2).trans (rfl : _ = some (.int .i64 ct : Value))
      have b3_ := (blk_cell (blk_below HPC.out hS) 3).trans (rfl : _ = some (.int .i64 cv : Value))
      have b4_ := (blk_cell (blk_below HPC.out hS) 4).trans (rfl : _ = some (.bool false : Value))
      go_simp
      with_reducible rfl
    rotate_left
    · simp only [Act.put, List.setIfInBounds_toArray, List.set_cons_zero, List.set_cons_succ, i64_w, i32_w]
      rfl
    refine take_ (i := 5) (N := some 41) (v := ?_) (a' := ?_) #[true, true, true, true, true, true, false, true, false, false, false, false] rfl rfl (by kernel_rfl) (fun _ _ _ h => h) (Or.inl ⟨by rfl, ?_⟩) hHeld ?_ ?_
    rotate_left
    · intro w' hS
      have b0_ := (blk_cell (blk_below HPC.out hS) 0).trans (rfl : _ = some (.int .i64 ck : Value))
      have b1_ := (blk_cell (blk_below HPC.out hS) 1).trans (rfl : _ = some (.int .i64 cf : Value))
      have b2_ := (blk_cell (blk_below HPC.out hS) 2).trans (rfl : _ = some (.int .i64 ct : Value))
      have b3_ := (blk_cell (blk_below HPC.out hS) 3).trans (rfl : _ = some (.int .i64 cv : Value))
      have b4_ := (blk_cell (blk_below HPC.out hS) 4).trans (rfl : _ = some (.bool false : Value))
      go_simp
      with_reducible rfl
    rotate_left
    · simp only [Act.put, List.setIfInBounds_toArray, List.set_cons_zero, List.set_cons_succ, i64_w, i32_w]
      rfl
    refine take_ (i := 8) (N := some 44) (v := ?_) (a' := ?_) #[true, true, true, true, true, true, false, true, true, false, false, false] rfl rfl (by kernel_rfl) (fun _ _ _ h => h) (Or.inl ⟨by rfl, ?_⟩) hHeld ?_ ?_
    rotate_left
    · intro w' hS
      have b0_ := (blk_cell (blk_below HPC.out hS) 0).trans (rfl : _ = some (.int .i64 ck : Value))
      have b1_ := (blk_cell (blk_below HPC.out hS) 1).trans (rfl : _ = some (.int .i64 cf : Value))
      have b2_ := (blk_cell (blk_below HPC.out hS) 2).trans (rfl : _ = some (.int .i64 ct : Value))
      have b3_ := (blk_cell (blk_below HPC.out hS) 3).trans (rfl : _ = some (.int .i64 cv : Value))
      have b4_ := (blk_cell (blk_below HPC.out hS) 4).trans (rfl : _ = some (.bool false : Value))
      go_simp
      with_reducible rfl
    rotate_left
    · simp only [Act.put, List.setIfInBounds_toArray, List.set_cons_zero, List.set_cons_succ, i64_w, i32_w]
      rfl
    refine two_ (i := 6) (j := 10) (Ni := some 42) (Nj := some 5) #[true, true, true, true, true, true, true, true, true, false, false, false] #[true, true, true, true, true, true, false, true, true, false, true, false] rfl rfl rfl rfl (by kernel_rfl) (by simp) (by simp) (fun K hK => ?_) (fun K hK => ?_)
    · skip
      refine goes_ Try.func22 (by kernel_rfl) rfl #[.int .i64 cf, .int .i64 ct] (by rfl) rfl rfl (by simp only [List.map_toArray, List.map_cons, List.map_nil]; rfl) ?_
      with_reducible refine (times_ok cf ct _).mono ?_
      rintro e w9 ⟨rfl, rfl⟩
      refine ⟨_, rfl, ?_⟩
      refine hK.out _ _ (hHeld) (fun hHeld => ?_)
      clear hK K
      refine norm_ (a' := ?_) ?_ ?_
      rotate_left
      · show Act.put _ (some 42) _ = _
        simp only [Act.put, List.setIfInBounds_toArray, List.set_cons_zero, List.set_cons_succ, i64_w, i32_w]
        rfl
      rw [show spanV cf ct = .complex .f64 (fl cf) (fl ct) from rfl]
      refine pure_ (i := 9) (N := some 45) (v := ?_) (a' := ?_) #[true, true, true, true, true, true, true, true, true, true, false, false] rfl rfl (by kernel_rfl) (fun _ _ _ h => h) (Or.inl ⟨by rfl, ?_⟩) ?_ ?_
      rotate_left
      · intro w'
        go_simp
        with_reducible rfl
      rotate_left
      · simp only [Act.put, List.setIfInBounds_toArray, List.set_cons_zero, List.set_cons_succ, i64_w, i32_w]
        rfl
      refine one_ (i := 10) (N := some 5) #[true, true, true, true, true, true, true, true, true, true, true, false] rfl rfl (by kernel_rfl) (by simp) (fun K hK => ?_)
      refine value_ (w1 := w1.drew.alloc (.cells #[.int .i64 0, .complex .f64 0 0, .int .i64 0] 53)) (v := .pointer (some ⟨w1.drew.heap.size, 0, none⟩)) (by rfl) rfl (by first | (go_simp; done) | (go_simp; rfl)) ?_
      refine hK.out _ _ (below_alloc hHeld _) (fun hHeld => ?_)
      clear hK K
      refine norm_ (a' := ?_) ?_ ?_
      rotate_left
      · show Act.put _ (some 5) _ = _
        simp only [Act.put, List.setIfInBounds_toArray, List.set_cons_zero, List.set_cons_succ, i64_w, i32_w]
        rfl
      refine one_ (i := 11) (N := none) #[true, true, true, true, true, true, true, true, true, true, true, true] rfl rfl (by kernel_rfl) (by simp) (fun K hK => ?_)
      have HZ := heap_alloc_new w1.drew (.cells #[.int .i64 0, .complex .f64 0 0, .int .i64 0] 53)
      have c0_ := (blk_cell HZ 0).trans rfl
      have c1_ := (blk_cell HZ 1).trans rfl
      have c2_ := (blk_cell HZ 2).trans rfl
      have f0_ := blk_frozen HZ 0
      have f1_ := blk_frozen HZ 1
      have f2_ := blk_frozen HZ 2
      refine skip_ (w1 := (((w1.drew.alloc (.cells #[.int .i64 0, .complex .f64 0 0, .int .i64 0] 53)).setCell ⟨w1.drew.heap.size, 0, none⟩ (.int .i64 ck)).setCell ⟨w1.drew.heap.size, 1, none⟩ (.complex .f64 (fl cf) (fl ct))).setCell ⟨w1.drew.heap.size, 2, none⟩ (.int .i64 cv)) (by rfl) rfl (by first | (go_simp; done) | (go_simp; rfl)) ?_
      refine hK.out _ _ (below_set (below_set (below_set hHeld (Nat.le_refl w1.heap.size)) (Nat.le_refl w1.heap.size)) (Nat.le_refl w1.heap.size)) (fun hHeld => ?_)
      clear hK K
      refine done_ (by kernel_rfl) ?_
      have HZ := heap_alloc_new w1.drew (.cells #[.int .i64 0, .complex .f64 0 0, .int .i64 0] 53)
      have HX3 := Aside0.mk (blk_put (blk_set (blk_set HZ 0 (.int .i64 ck)) 1 (.complex .f64 (fl cf) (fl ct))) 2 (.int .i64 cv) (rfl : _ = (#[.int .i64 ck, .complex .f64 (fl cf) (fl ct), .int .i64 cv] : Array Value)))
      have HH := Aside0.mk hHeld
      clear hHeld HZ
      go_wp2_with fail
      go_meet
      case rel => exact ⟨_, rfl, HX3, HH⟩
    · skip
      refine value_ (w1 := w1.drew.alloc (.cells #[.int .i64 0, .complex .f64 0 0, .int .i64 0] 53)) (v := .pointer (some ⟨w1.drew.heap.size, 0, none⟩)) (by rfl) rfl (by first | (go_simp; done) | (go_simp; rfl)) ?_
      refine hK.out _ _ (below_alloc hHeld _) (fun hHeld => ?_)
      clear hK K
      refine norm_ (a' := ?_) ?_ ?_
      rotate_left
      · show Act.put _ (some 5) _ = _
        simp only [Act.put, List.setIfInBounds_toArray, List.set_cons_zero, List.set_cons_succ, i64_w, i32_w]
        rfl
      refine one_ (i := 6) (N := some 42) #[true, true, true, true, true, true, true, true, true, false, true, false] rfl rfl (by kernel_rfl) (by simp) (fun K hK => ?_)
      refine goes_ Try.func22 (by kernel_rfl) rfl #[.int .i64 cf, .int .i64 ct] (by rfl) rfl rfl (by simp only [List.map_toArray, List.map_cons, List.map_nil]; rfl) ?_
      with_reducible refine (times_ok cf ct _).mono ?_
      rintro e w9 ⟨rfl, rfl⟩
      refine ⟨_, rfl, ?_⟩
      refine hK.out _ _ (hHeld) (fun hHeld => ?_)
      clear hK K
      refine norm_ (a' := ?_) ?_ ?_
      rotate_left
      · show Act.put _ (some 42) _ = _
        simp only [Act.put, List.setIfInBounds_toArray, List.set_cons_zero, List.set_cons_succ, i64_w, i32_w]
        rfl
      rw [show spanV cf ct = .complex .f64 (fl cf) (fl ct) from rfl]
      refine pure_ (i := 9) (N := some 45) (v := ?_) (a' := ?_) #[true, true, true, true, true, true, true, true, true, true, true, false] rfl rfl (by kernel_rfl) (fun _ _ _ h => h) (Or.inl ⟨by rfl, ?_⟩) ?_ ?_
      rotate_left
      · intro w'
        go_simp
        with_reducible rfl
      rotate_left
      · simp only [Act.put, List.setIfInBounds_toArray, List.set_cons_zero, List.set_cons_succ, i64_w, i32_w]
        rfl
      refine one_ (i := 11) (N := none) #[true, true, true, true, true, true, true, true, true, true, true, true] rfl rfl (by kernel_rfl) (by simp) (fun K hK => ?_)
      have HZ := heap_alloc_new w1.drew (.cells #[.int .i64 0, .complex .f64 0 0, .int .i64 0] 53)
      have c0_ := (blk_cell HZ 0).trans rfl
      have c1_ := (blk_cell HZ 1).trans rfl
      have c2_ := (blk_cell HZ 2).trans rfl
      have f0_ := blk_frozen HZ 0
      have f1_ := blk_frozen HZ 1
      have f2_ := blk_frozen HZ 2
      refine skip_ (w1 := (((w1.drew.alloc (.cells #[.int .i64 0, .complex .f64 0 0, .int .i64 0] 53)).setCell ⟨w1.drew.heap.size, 0, none⟩ (.int .i64 ck)).setCell ⟨w1.drew.heap.size, 1, none⟩ (.complex .f64 (fl cf) (fl ct))).setCell ⟨w1.drew.heap.size, 2, none⟩ (.int .i64 cv)) (by rfl) rfl (by first | (go_simp; done) | (go_simp; rfl)) ?_
      refine hK.out _ _ (below_set (below_set (below_set hHeld (Nat.le_refl w1.heap.size)) (Nat.le_refl w1.heap.size)) (Nat.le_refl w1.heap.size)) (fun hHeld => ?_)
      clear hK K
      refine done_ (by kernel_rfl) ?_
      have HZ := heap_alloc_new w1.drew (.cells #[.int .i64 0, .complex .f64 0 0, .int .i64 0] 53)
      have HX3 := Aside0.mk (blk_put (blk_set (blk_set HZ 0 (.int .i64 ck)) 1 (.complex .f64 (fl cf) (fl ct))) 2 (.int .i64 cv) (rfl : _ = (#[.int .i64 ck, .complex .f64 (fl cf) (fl ct), .int .i64 cv] : Array Value)))
      have HH := Aside0.mk hHeld
      clear hHeld HZ
      go_wp2_with fail
      go_meet
      case rel => exact ⟨_, rfl, HX3, HH⟩

  case rest =>
  obtain ⟨gs, rfl, HPB, HBC⟩ := hcut
  have HK := Aside0.mk (HK1.out.below HBC.out)
  replace HPC := Aside0.mk (blk_below HPC.out HBC.out)
  replace HB := Aside0.mk (below_step HB.out HBC.out)
  have HST := Aside0.mk HK.out.cell
  have HOW : Aside0 (wc.ownsRow base 53 3 (.slice A n c) n (cellsS L)) := ⟨by have := HK.out.row; rwa [HN.out] at this⟩
  go_upto_region 6 with fail
  refine start_ (n := 11) (S := fun w' => Below wc.heap.size wc w') (ds := []) #[false, false, false, false, false, false, false, false, false, false, false] (by kernel_rfl) rfl rfl (below_drew (Below.refl _ _)) (fun hHeld => ?_)
  refine pure_ (i := 0) (N := some 47) (v := ?_) (a' := ?_) #[true, false, false, false, false, false, false, false, false, false, false] rfl rfl (by kernel_rfl) (fun _ _ _ h => h) (Or.inl ⟨by rfl, ?_⟩) ?_ ?_
  rotate_left
  · intro w'
    go_simp
    with_reducible rfl
  rotate_left
  · simp only [Act.put, List.setIfInBounds_toArray, List.set_cons_zero, List.set_cons_succ, i64_w, i32_w]
    rfl
  refine pure_ (i := 1) (N := some 48) (v := ?_) (a' := ?_) #[true, true, false, false, false, false, false, false, false, false, false] rfl rfl (by kernel_rfl) (fun _ _ _ h => h) (Or.inl ⟨by rfl, ?_⟩) ?_ ?_
  rotate_left
  · intro w'
    go_simp
    with_reducible rfl
  rotate_left
  · simp only [Act.put, List.setIfInBounds_toArray, List.set_cons_zero, List.set_cons_succ, i64_w, i32_w]
    rfl
  refine pure_ (i := 2) (N := some 49) (v := ?_) (a' := ?_) #[true, true, true, false, false, false, false, false, false, false, false] rfl rfl (by kernel_rfl) (fun _ _ _ h => h) (Or.inl ⟨by rfl, ?_⟩) ?_ ?_
  rotate_left
  · intro w'
    go_simp
    with_reducible rfl
  rotate_left
  · simp only [Act.put, List.setIfInBounds_toArray, List.set_cons_zero, List.set_cons_succ, i64_w, i32_w]
    rfl
  refine take_ (i := 3) (N := some 50) (v := ?_) (a' := ?_) #[true, true, true, true, false, false, false, false, false, false, false] rfl rfl (by kernel_rfl) (fun _ _ _ h => h) (Or.inl ⟨by rfl, ?_⟩) hHeld ?_ ?_
  rotate_left
  · intro w' hS
    have s_ := (blk_cell (blk_below HST.out hS) 2).trans (rfl : _ = some (.slice A n c : Value))
    go_simp
    with_reducible rfl
  rotate_left
  · simp only [Act.put, List.setIfInBounds_toArray, List.set_cons_zero, List.set_cons_succ, i64_w, i32_w]
    rfl
  refine take_ (i := 4) (N := some 51) (v := ?_) (a' := ?_) #[true, true, true, true, true, false, false, false, false, false, false] rfl rfl (by kernel_rfl) (fun _ _ _ h => h) (Or.inl ⟨by rfl, ?_⟩) hHeld ?_ ?_
  rotate_left
  · intro w' hS
    have b0_ := (blk_cell (blk_below HPB.out hS) 0).trans (rfl : _ = some (.int .i64 ck : Value))
    have b1_ := (blk_cell (blk_below HPB.out hS) 1).trans (rfl : _ = some (spanV cf ct : Value))
    have b2_ := (blk_cell (blk_below HPB.out hS) 2).trans (rfl : _ = some (.int .i64 cv : Value))
    go_simp
    with_reducible rfl
  rotate_left
  · simp only [Act.put, List.setIfInBounds_toArray, List.set_cons_zero, List.set_cons_succ, i64_w, i32_w]
    rfl
  refine one_ (i := 5) (N := some 52) #[true, true, true, true, true, true, false, false, false, false, false] rfl rfl (by kernel_rfl) (by simp) (fun K hK => ?_)
  refine goes_ Try.func29 (by kernel_rfl) rfl #[.slice A n c, .agg #[.int .i64 ck, spanV cf ct, .int .i64 cv], .func (.func 30) #[] #[]] (by rfl) rfl rfl (by simp only [List.map_toArray, List.map_cons, List.map_nil]; rfl) ?_
  with_reducible refine (bs_ok base n c A L ⟨ck, cf, ct, cv⟩ _ HN.out (own_below HOW.out hHeld) HRI.out (by omega) HX.out HSP.out).mono ?_
  rintro e w3 ⟨rfl, hb_⟩
  refine ⟨_, rfl, ?_⟩
  replace hb_ := below_step hHeld hb_
  refine hK.out _ _ hb_ (fun _ => ?_)
  clear hK K
  refine norm_ (a' := ?_) ?_ ?_
  rotate_left
  · show Act.put _ (some 52) _ = _
    simp only [Act.put, List.setIfInBounds_toArray, List.set_cons_zero, List.set_cons_succ, i64_w, i32_w]
    rfl
  replace hHeld := hb_
  rw [HI.out, HQ.out]
  clear hb_
  refine pure_ (i := 6) (N := some 46) (v := ?_) (a' := ?_) #[true, true, true, true, true, true, true, false, false, false, false] rfl rfl (by kernel_rfl) (fun _ _ _ h => h) (Or.inl ⟨by rfl, ?_⟩) ?_ ?_
  rotate_left
  · intro w'
    go_simp
    with_reducible rfl
  rotate_left
  · simp only [Act.put, List.setIfInBounds_toArray, List.set_cons_zero, List.set_cons_succ, i64_w, i32_w]
    rfl
  refine pure_ (i := 7) (N := some 53) (v := ?_) (a' := ?_) #[true, true, true, true, true, true, true, true, false, false, false] rfl rfl (by kernel_rfl) (fun _ _ _ h => h) (Or.inl ⟨by rfl, ?_⟩) ?_ ?_
  rotate_left
  · intro w'
    go_simp
    with_reducible rfl
  rotate_left
  · simp only [Act.put, List.setIfInBounds_toArray, List.set_cons_zero, List.set_cons_succ, i64_w, i32_w]
    rfl
  refine pure_ (i := 8) (N := some 54) (v := ?_) (a' := ?_) #[true, true, true, true, true, true, true, true, true, false, false] rfl rfl (by kernel_rfl) (fun _ _ _ h => h) (Or.inl ⟨by rfl, ?_⟩) ?_ ?_
  rotate_left
  · intro w'
    go_simp
    with_reducible rfl
  rotate_left
  · simp only [Act.put, List.setIfInBounds_toArray, List.set_cons_zero, List.set_cons_succ, i64_w, i32_w]
    rfl
  refine pure_ (i := 9) (N := some 6) (v := ?_) (a' := ?_) #[true, true, true, true, true, true, true, true, true, true, false] rfl rfl (by kernel_rfl) (fun _ _ _ h => h) (Or.inl ⟨by rfl, ?_⟩) ?_ ?_
  rotate_left
  · intro w'
    go_simp
    with_reducible rfl
  rotate_left
  · simp only [Act.put, List.setIfInBounds_toArray, List.set_cons_zero, List.set_cons_succ, i64_w, i32_w]
    rfl
  refine pure_ (i := 10) (N := some 7) (v := ?_) (a' := ?_) #[true, true, true, true, true, true, true, true, true, true, true] rfl rfl (by kernel_rfl) (fun _ _ _ h => h) (Or.inl ⟨by rfl, ?_⟩) ?_ ?_
  rotate_left
  · intro w'
    go_simp
    with_reducible rfl
  rotate_left
  · simp only [Act.put, List.setIfInBounds_toArray, List.set_cons_zero, List.set_cons_succ, i64_w, i32_w]
    rfl
  refine done_ (by kernel_rfl) ?_

  replace HK := Aside0.mk (HK.out.below hHeld)
  replace HPC := Aside0.mk (blk_below HPC.out hHeld)
  replace HPB := Aside0.mk (blk_below HPB.out hHeld)
  replace HB := Aside0.mk (below_step HB.out hHeld)
  replace HST := Aside0.mk HK.out.cell
  replace HOW := Aside0.mk (own_below HOW.out hHeld)
  clear hHeld HBC HK1 hp1
  have p0_ := (blk_cell HPC.out 0).trans (rfl : _ = some (.int .i64 ck : Value))
  have p1_ := (blk_cell HPC.out 1).trans (rfl : _ = some (.int .i64 cf : Value))
  have p2_ := (blk_cell HPC.out 2).trans (rfl : _ = some (.int .i64 ct : Value))
  have p3_ := (blk_cell HPC.out 3).trans (rfl : _ = some (.int .i64 cv : Value))
  have p4_ := (blk_cell HPC.out 4).trans (rfl : _ = some (.bool false : Value))

  have hd : decide ((n : Int) ≥ room) = false := by have := HRM.out; rw [HN.out] at this; simp; omega
  have hdb : decide (room ≤ (n : Int)) = false := by have := HRM.out; rw [HN.out] at this; simp; omega
  have HFH : Aside0 (∀ y ∈ L, sameB y ⟨ck, cf, ct, cv⟩ = false) := ⟨fun y hy => by
    have := HFR0.out
    unfold hasS at this
    rw [List.any_eq_false] at this
    simpa using this y hy⟩
  have HLL : Aside0 (L.length + 1 ≤ 1024) := ⟨by have := HRM.out; have := HK.out.most; omega⟩
  have s0_ := (blk_cell HST.out 0).trans (rfl : _ = some (.int .i64 room : Value))
  have s2_ := (blk_cell HST.out 2).trans (rfl : _ = some (.slice A n c : Value))
  go_upto_region 14 with fail
  go_quiet (fail)
  have hb_ : Below w3.heap.size w3 (w3.drewN nq) := pw_below_drewN (Below.refl _ _) _
  replace HK := Aside0.mk (HK.out.below hb_)
  replace HPB := Aside0.mk (blk_below HPB.out hb_)
  replace HB := Aside0.mk (below_step HB.out hb_)
  generalize w3.drewN nq = w4 at HK HPB HB ⊢
  clear hb_ s0_ s2_ p0_ p1_ p2_ p3_ p4_
  have b0_ := (blk_cell HPB.out 0).trans (rfl : _ = some (.int .i64 ck : Value))
  have b1_ := (blk_cell HPB.out 1).trans (rfl : _ = some (spanV cf ct : Value))
  have b2_ := (blk_cell HPB.out 2).trans (rfl : _ = some (.int .i64 cv : Value))
  go_wp2_with fail
  refine (insert_ok base b room gap (.slice A n c) L ⟨ck, cf, ct, cv⟩ w4 HK.out (Nat.le_trans HBS0.out HB.out.size) HX.out HKX.out HFH.out HLL.out).mono ?_
  rintro e w5 ⟨v', rfl, hs, hc, hh⟩
  rw [HL2.out] at hs
  have HP : Aside0 (OpPost base b room gap (.slice A n c) L2 (.int .i64 0) w (.returned (.int .i64 0)) w5) := ⟨OpPost.from HB.out ⟨_, rfl, hs, hc, hh⟩⟩
  clear hs hc hh b0_ b1_ b2_
  go_wp2_with fail
  go_ret
  exact HP.out
theorem do_ok (base b : Nat) (room gap : Int) (v : Value) (L : List Ses) (c : S33) (w : World) (h : SeS w base b room gap v L) (hbs : base ≤ w.heap.size) (hc : OkC room L c) :
    Calls Try.prog 16 #[.pointer (some ⟨b, 0, none⟩), .agg #[.int .i64 c.f0, .int .i64 c.f1, .int .i64 c.f2, .int .i64 c.f3, .bool c.f4]] w (OpPost base b room gap v (doC L c) (.int .i64 0) w) := by
  obtain ⟨ck, cf, ct, cv, cd⟩ := c
  obtain ⟨h1, h2, h3, h4⟩ := hc
  unfold doC
  cases cd with
  | true =>
    obtain ⟨e, hq⟩ := h3 rfl
    simp only at e
    subst e
    rw [if_pos rfl]
    exact do_del base b room gap v L ck cf ct w h hbs h1 h2 hq
  | false =>
    rw [if_neg (by simp)]
    cases hq : hasS L ⟨ck, cf, ct, cv⟩ with
    | true => exact do_set base b room gap v L ck cf ct cv w h hbs h1 h2 hq
    | false =>
      rcases h4 rfl with e | e
      · exact absurd (e.symm.trans hq) (by simp)
      · exact do_ins base b room gap v L ck cf ct cv w h hbs h1 h2 hq e
end Go.Proofs.Ytpjfmilokadchaa.Se
