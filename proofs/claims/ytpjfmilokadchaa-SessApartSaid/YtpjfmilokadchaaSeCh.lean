/- (c14) Contracts of session.change and session.gone. -/
import Derived.Test.YtpjfmilokadchaaSeFn
import Derived.Test.YtpjfmilokadchaaMono
namespace Go.Proofs.Ytpjfmilokadchaa.Se
open Go Go.RowKit Go.Proofs.YtpjfmilokadchaaW.PrintWords Go.Proofs.YtpjfmilokadchaaW.PrintLast Go.Proofs.YtpjfmilokadchaaW.PrintMore Go.Proofs.Ytpjfmilokadchaa.Rw Go.Proofs.Ytpjfmilokadchaa.Mono
set_option linter.unusedVariables false
set_option linter.unusedSimpArgs false
/-- A region that draws its order: what is known of the worlds to come may be told better. -/
theorem stronger_ {P : Program} {ops : Array Oper} {Q : Exit → Act → World → Prop} {md : Region.Mode} {S : World → Prop} (S' : World → Prop) (hS : ∀ w, S' w → S w) : ∀ {fuel : Nat} {l : Array Bool} {a : Act} {w : World},
    S' w → wpAnyLast P md ops Q S' [] fuel l a w → wpAnyLast P md ops Q S [] fuel l a w
  | 0, _, _, _, _, h => h
  | fuel + 1, l, a, w, h0, h => ⟨h.1, fun i hi => wpOp_mono (fun a' w' h' => ⟨fun hn _ => hS w' (h'.1 hn h0), stronger_ S' hS (h'.1 (by simp) h0) h'.2⟩) (h.2 i hi)⟩
theorem gset (w : World) (g j : Nat) (v : Value) : w.grownBy (w.setCell ⟨g, j, none⟩ v) (some g) :=
  ⟨rfl, rfl, rfl, by simp, fun k _ hne => Below.heap_setCell w _ v k (fun e => hne (by rw [e]))⟩
theorem gtrans {a b c : World} {row : Option Nat} (h : a.grownBy b row) (k : b.grownBy c row) : a.grownBy c row :=
  ⟨k.os.trans h.os, k.tape.trans h.tape, k.output.trans h.output, Nat.le_trans h.size k.size, fun i hi hr => (k.block i (Nat.lt_of_lt_of_le hi h.size) hr).trans (h.block i hi hr)⟩
theorem from_E (x : Ses) (hx : Span x) (w : World) : Calls Try.prog 19 #[.agg #[.int .i64 x.k, spanV x.a x.b, .int .i64 x.v]] w fun e w' => ∃ v, e = .returned v ∧ v = .int .i64 x.a ∧ Below w.heap.size w w' :=
  (from_ok x hx w).mono fun e w' h => ⟨_, h.1, rfl, h.2⟩
theorem to_E (x : Ses) (hx : Span x) (w : World) : Calls Try.prog 20 #[.agg #[.int .i64 x.k, spanV x.a x.b, .int .i64 x.v]] w fun e w' => ∃ v, e = .returned v ∧ v = .int .i64 x.b ∧ Below w.heap.size w w' :=
  (to_ok x hx w).mono fun e w' h => ⟨_, h.1, rfl, h.2⟩
def chgV (x : Ses) : Value := .agg #[.int .i64 x.k, .int .i64 x.a, .int .i64 x.b, .int .i64 x.v, .bool false]
set_option maxHeartbeats 2000000 in
set_option maxRecDepth 100000 in
theorem change_ok (x : Ses) (hx : Span x) (w : World) : Calls Try.prog 26 #[.agg #[.int .i64 x.k, spanV x.a x.b, .int .i64 x.v]] w fun e w' => e = .returned (chgV x) ∧ Below w.heap.size w w' := by
  have HX := Aside0.mk hx
  go_enter Try.func26, Try.ntmps26
  go_upto_region 1 with fail
  have HP := Aside0.mk (heap_alloc_new w (.cells #[.int .i64 x.k, spanV x.a x.b, .int .i64 x.v] 53))
  have HB := Aside0.mk (below_alloc (Below.refl w.heap.size w) (.cells #[.int .i64 x.k, spanV x.a x.b, .int .i64 x.v] 53))
  have hs1 : (w.alloc (.cells #[.int .i64 x.k, spanV x.a x.b, .int .i64 x.v] 53)).heap.size = w.heap.size + 1 := by simp
  generalize w.alloc (.cells #[.int .i64 x.k, spanV x.a x.b, .int .i64 x.v] 53) = w1 at HP HB hs1 ⊢
  have hbc := below_alloc (Below.refl w1.heap.size w1) (.cells #[.int .i64 0, .int .i64 0, .int .i64 0, .int .i64 0, .bool false] 33)
  have HC := Aside0.mk (heap_alloc_new w1 (.cells #[.int .i64 0, .int .i64 0, .int .i64 0, .int .i64 0, .bool false] 33))
  replace HP := Aside0.mk (blk_below HP.out hbc)
  replace HB := Aside0.mk (below_step HB.out hbc)
  generalize w1.alloc (.cells #[.int .i64 0, .int .i64 0, .int .i64 0, .int .i64 0, .bool false] 33) = w2 at HP HC HB ⊢
  rw [hs1] at HC
  clear hbc hs1
  obtain ⟨gc, HGC2⟩ : ∃ g, Aside0 (w.heap.size + 1 = g) := ⟨_, ⟨rfl⟩⟩
  have HGC : Aside0 (w.heap.size ≤ gc) := ⟨by have := HGC2.out; omega⟩
  rw [HGC2.out] at HC ⊢
  refine start_ (n := 10) (S := fun w' => Below w2.heap.size w2 w') (ds := [9]) #[false, false, false, false, false, false, false, false, false, false] (by kernel_rfl) rfl rfl (below_drew (Below.refl _ _)) (fun hHeld => ?_)
  refine pure_ (i := 0) (N := some 3) (v := ?_) (a' := ?_) #[true, false, false, false, false, false, false, false, false, false] rfl rfl (by kernel_rfl) (fun _ _ _ h => h) (Or.inl ⟨by rfl, ?_⟩) ?_ ?_
  rotate_left
  · intro w'
    go_simp
    with_reducible rfl
  rotate_left
  · simp only [Act.put, List.setIfInBounds_toArray, List.set_cons_zero, List.set_cons_succ, i64_w, i32_w]
    rfl
  refine pure_ (i := 6) (N := some 9) (v := ?_) (a' := ?_) #[true, false, false, false, false, false, true, false, false, false] rfl rfl (by kernel_rfl) (fun _ _ _ h => h) (Or.inl ⟨by rfl, ?_⟩) ?_ ?_
  rotate_left
  · intro w'
    go_simp
    with_reducible rfl
  rotate_left
  · simp only [Act.put, List.setIfInBounds_toArray, List.set_cons_zero, List.set_cons_succ, i64_w, i32_w]
    rfl
  refine take_ (i := 1) (N := some 4) (v := ?_) (a' := ?_) #[true, true, false, false, false, false, true, false, false, false] rfl rfl (by kernel_rfl) (fun _ _ _ h => h) (Or.inl ⟨by rfl, ?_⟩) hHeld ?_ ?_
  rotate_left
  · intro w' hS
    have p0_ := (blk_cell (blk_below HP.out hS) 0).trans (rfl : _ = some (.int .i64 x.k : Value))
    have p1_ := (blk_cell (blk_below HP.out hS) 1).trans (rfl : _ = some (spanV x.a x.b : Value))
    have p2_ := (blk_cell (blk_below HP.out hS) 2).trans (rfl : _ = some (.int .i64 x.v : Value))
    go_simp
    with_reducible rfl
  rotate_left
  · simp only [Act.put, List.setIfInBounds_toArray, List.set_cons_zero, List.set_cons_succ, i64_w, i32_w]
    rfl
  refine take_ (i := 2) (N := some 5) (v := ?_) (a' := ?_) #[true, true, true, false, false, false, true, false, false, false] rfl rfl (by kernel_rfl) (fun _ _ _ h => h) (Or.inl ⟨by rfl, ?_⟩) hHeld ?_ ?_
  rotate_left
  · intro w' hS
    have p0_ := (blk_cell (blk_below HP.out hS) 0).trans (rfl : _ = some (.int .i64 x.k : Value))
    have p1_ := (blk_cell (blk_below HP.out hS) 1).trans (rfl : _ = some (spanV x.a x.b : Value))
    have p2_ := (blk_cell (blk_below HP.out hS) 2).trans (rfl : _ = some (.int .i64 x.v : Value))
    go_simp
    with_reducible rfl
  rotate_left
  · simp only [Act.put, List.setIfInBounds_toArray, List.set_cons_zero, List.set_cons_succ, i64_w, i32_w]
    rfl
  refine take_ (i := 4) (N := some 7) (v := ?_) (a' := ?_) #[true, true, true, false, true, false, true, false, false, false] rfl rfl (by kernel_rfl) (fun _ _ _ h => h) (Or.inl ⟨by rfl, ?_⟩) hHeld ?_ ?_
  rotate_left
  · intro w' hS
    have p0_ := (blk_cell (blk_below HP.out hS) 0).trans (rfl : _ = some (.int .i64 x.k : Value))
    have p1_ := (blk_cell (blk_below HP.out hS) 1).trans (rfl : _ = some (spanV x.a x.b : Value))
    have p2_ := (blk_cell (blk_below HP.out hS) 2).trans (rfl : _ = some (.int .i64 x.v : Value))
    go_simp
    with_reducible rfl
  rotate_left
  · simp only [Act.put, List.setIfInBounds_toArray, List.set_cons_zero, List.set_cons_succ, i64_w, i32_w]
    rfl
  refine take_ (i := 7) (N := some 10) (v := ?_) (a' := ?_) #[true, true, true, false, true, false, true, true, false, false] rfl rfl (by kernel_rfl) (fun _ _ _ h => h) (Or.inl ⟨by rfl, ?_⟩) hHeld ?_ ?_
  rotate_left
  · intro w' hS
    have p0_ := (blk_cell (blk_below HP.out hS) 0).trans (rfl : _ = some (.int .i64 x.k : Value))
    have p1_ := (blk_cell (blk_below HP.out hS) 1).trans (rfl : _ = some (spanV x.a x.b : Value))
    have p2_ := (blk_cell (blk_below HP.out hS) 2).trans (rfl : _ = some (.int .i64 x.v : Value))
    go_simp
    with_reducible rfl
  rotate_left
  · simp only [Act.put, List.setIfInBounds_toArray, List.set_cons_zero, List.set_cons_succ, i64_w, i32_w]
    rfl
  refine one_ (i := 3) (N := some 6) #[true, true, true, true, true, false, true, true, false, false] rfl rfl (by kernel_rfl) (by simp) (fun K hK => ?_)
  refine goes_ Try.func19 (by kernel_rfl) rfl #[.agg #[.int .i64 x.k, spanV x.a x.b, .int .i64 x.v]] (by rfl) rfl rfl (by simp only [List.map_toArray, List.map_cons, List.map_nil]; rfl) ?_
  with_reducible refine (from_ok x HX.out _).mono ?_
  rintro e w3 ⟨rfl, hb_⟩
  refine ⟨_, rfl, ?_⟩
  replace hb_ := below_step hHeld hb_
  refine hK.out _ _ hb_ (fun _ => ?_)
  clear hK K
  refine norm_ (a' := ?_) ?_ ?_
  rotate_left
  · show Act.put _ (some 6) _ = _
    simp only [Act.put, List.setIfInBounds_toArray, List.set_cons_zero, List.set_cons_succ, i64_w, i32_w]
    rfl
  replace hHeld := hb_
  clear hb_
  refine one_ (i := 5) (N := some 8) #[true, true, true, true, true, true, true, true, false, false] rfl rfl (by kernel_rfl) (by simp) (fun K hK => ?_)
  refine goes_ Try.func20 (by kernel_rfl) rfl #[.agg #[.int .i64 x.k, spanV x.a x.b, .int .i64 x.v]] (by rfl) rfl rfl (by simp only [List.map_toArray, List.map_cons, List.map_nil]; rfl) ?_
  with_reducible refine (to_ok x HX.out _).mono ?_
  rintro e w4 ⟨rfl, hb_⟩
  refine ⟨_, rfl, ?_⟩
  replace hb_ := below_step hHeld hb_
  refine hK.out _ _ hb_ (fun _ => ?_)
  clear hK K
  refine norm_ (a' := ?_) ?_ ?_
  rotate_left
  · show Act.put _ (some 8) _ = _
    simp only [Act.put, List.setIfInBounds_toArray, List.set_cons_zero, List.set_cons_succ, i64_w, i32_w]
    rfl
  replace hHeld := hb_
  clear hb_
  refine pure_ (i := 8) (N := some 11) (v := ?_) (a' := ?_) #[true, true, true, true, true, true, true, true, true, false] rfl rfl (by kernel_rfl) (fun _ _ _ h => h) (Or.inl ⟨by rfl, ?_⟩) ?_ ?_
  rotate_left
  · intro w'
    go_simp
    with_reducible rfl
  rotate_left
  · simp only [Act.put, List.setIfInBounds_toArray, List.set_cons_zero, List.set_cons_succ, i64_w, i32_w]
    rfl
  refine last_ (i := 9) (N := none) #[true, true, true, true, true, true, true, true, true, true] rfl rfl (by kernel_rfl) (by simp) (fun K hK => ?_)
  have HB3 := Aside0.mk (below_step HB.out hHeld)
  have HC3 := Aside0.mk (blk_below HC.out hHeld)
  have c0_ := (blk_cell HC3.out 0).trans rfl
  have c1_ := (blk_cell HC3.out 1).trans rfl
  have c2_ := (blk_cell HC3.out 2).trans rfl
  have c3_ := (blk_cell HC3.out 3).trans rfl
  have c4_ := (blk_cell HC3.out 4).trans rfl
  have f0_ := blk_frozen HC3.out 0
  have f1_ := blk_frozen HC3.out 1
  have f2_ := blk_frozen HC3.out 2
  have f3_ := blk_frozen HC3.out 3
  have f4_ := blk_frozen HC3.out 4
  refine skip_ (w1 := ((((w4.setCell ⟨gc, 0, none⟩ (.int .i64 x.k)).setCell ⟨gc, 1, none⟩ (.int .i64 x.a)).setCell ⟨gc, 2, none⟩ (.int .i64 x.b)).setCell ⟨gc, 3, none⟩ (.int .i64 x.v)).setCell ⟨gc, 4, none⟩ (.bool false)) (by rfl) rfl (by first | (go_simp; done) | (go_simp; rfl)) ?_
  refine hK.out _ _ ?_
  clear hK K
  refine done_ (by kernel_rfl) ?_

  clear hHeld
  have hgz : w4.grownBy (((((w4.setCell ⟨gc, 0, none⟩ (.int .i64 x.k)).setCell ⟨gc, 1, none⟩ (.int .i64 x.a)).setCell ⟨gc, 2, none⟩ (.int .i64 x.b)).setCell ⟨gc, 3, none⟩ (.int .i64 x.v)).setCell ⟨gc, 4, none⟩ (.bool false)) (some gc) := (gtrans (gtrans (gtrans (gtrans (gset w4 gc 0 (.int .i64 x.k)) (gset (w4.setCell ⟨gc, 0, none⟩ (.int .i64 x.k)) gc 1 (.int .i64 x.a))) (gset ((w4.setCell ⟨gc, 0, none⟩ (.int .i64 x.k)).setCell ⟨gc, 1, none⟩ (.int .i64 x.a)) gc 2 (.int .i64 x.b))) (gset (((w4.setCell ⟨gc, 0, none⟩ (.int .i64 x.k)).setCell ⟨gc, 1, none⟩ (.int .i64 x.a)).setCell ⟨gc, 2, none⟩ (.int .i64 x.b)) gc 3 (.int .i64 x.v))) (gset ((((w4.setCell ⟨gc, 0, none⟩ (.int .i64 x.k)).setCell ⟨gc, 1, none⟩ (.int .i64 x.a)).setCell ⟨gc, 2, none⟩ (.int .i64 x.b)).setCell ⟨gc, 3, none⟩ (.int .i64 x.v)) gc 4 (.bool false)))
  have BZ := blk_put (blk_set (blk_set (blk_set (blk_set HC3.out 0 (.int .i64 x.k)) 1 (.int .i64 x.a)) 2 (.int .i64 x.b)) 3 (.int .i64 x.v)) 4 (.bool false) (rfl : _ = (#[.int .i64 x.k, .int .i64 x.a, .int .i64 x.b, .int .i64 x.v, .bool false] : Array Value))
  clear c0_ c1_ c2_ c3_ c4_ f0_ f1_ f2_ f3_ f4_
  generalize ((((w4.setCell ⟨gc, 0, none⟩ (.int .i64 x.k)).setCell ⟨gc, 1, none⟩ (.int .i64 x.a)).setCell ⟨gc, 2, none⟩ (.int .i64 x.b)).setCell ⟨gc, 3, none⟩ (.int .i64 x.v)).setCell ⟨gc, 4, none⟩ (.bool false) = wz at BZ hgz ⊢
  go_wp2
  have r0_ := (blk_cell BZ 0).trans (rfl : _ = some (.int .i64 x.k : Value))
  have r1_ := (blk_cell BZ 1).trans (rfl : _ = some (.int .i64 x.a : Value))
  have r2_ := (blk_cell BZ 2).trans (rfl : _ = some (.int .i64 x.b : Value))
  have r3_ := (blk_cell BZ 3).trans (rfl : _ = some (.int .i64 x.v : Value))
  have r4_ := (blk_cell BZ 4).trans (rfl : _ = some (.bool false : Value))
  refine bodyPost_ret (v := chgV x) (by simp [chgV, results, Try.results26, go_sem, r0_, r1_, r2_, r3_, r4_]) rfl ?_
  exact ⟨rfl, HB3.out.grown hgz (below_size HB3.out) (fun k hk => by injection hk with hk; have := HGC.out; omega)⟩
def goneV (x : Ses) : Value := .agg #[.int .i64 x.k, .int .i64 x.a, .int .i64 x.b, .int .i64 0, .bool true]
set_option maxHeartbeats 2000000 in
set_option maxRecDepth 100000 in
theorem gone_ok (x : Ses) (hx : Span x) (w : World) : Calls Try.prog 21 #[.agg #[.int .i64 x.k, spanV x.a x.b, .int .i64 x.v]] w fun e w' => e = .returned (goneV x) ∧ Below w.heap.size w w' := by
  have HX := Aside0.mk hx
  go_enter Try.func21, Try.ntmps21
  go_upto_region 1 with fail
  have HP := Aside0.mk (heap_alloc_new w (.cells #[.int .i64 x.k, spanV x.a x.b, .int .i64 x.v] 53))
  have HB := Aside0.mk (below_alloc (Below.refl w.heap.size w) (.cells #[.int .i64 x.k, spanV x.a x.b, .int .i64 x.v] 53))
  have hs1 : (w.alloc (.cells #[.int .i64 x.k, spanV x.a x.b, .int .i64 x.v] 53)).heap.size = w.heap.size + 1 := by simp
  generalize w.alloc (.cells #[.int .i64 x.k, spanV x.a x.b, .int .i64 x.v] 53) = w1 at HP HB hs1 ⊢
  have hbc := below_alloc (Below.refl w1.heap.size w1) (.cells #[.int .i64 0, .int .i64 0, .int .i64 0, .int .i64 0, .bool false] 33)
  have HC := Aside0.mk (heap_alloc_new w1 (.cells #[.int .i64 0, .int .i64 0, .int .i64 0, .int .i64 0, .bool false] 33))
  replace HP := Aside0.mk (blk_below HP.out hbc)
  replace HB := Aside0.mk (below_step HB.out hbc)
  generalize w1.alloc (.cells #[.int .i64 0, .int .i64 0, .int .i64 0, .int .i64 0, .bool false] 33) = w2 at HP HC HB ⊢
  rw [hs1] at HC
  clear hbc hs1
  obtain ⟨gr, HGC2⟩ : ∃ g, Aside0 (w.heap.size + 1 = g) := ⟨_, ⟨rfl⟩⟩
  have HGC : Aside0 (w.heap.size ≤ gr) := ⟨by have := HGC2.out; omega⟩
  rw [HGC2.out] at HC ⊢
  have p0_ := (blk_cell HP.out 0).trans (rfl : _ = some (.int .i64 x.k : Value))
  have p1_ := (blk_cell HP.out 1).trans (rfl : _ = some (spanV x.a x.b : Value))
  have p2_ := (blk_cell HP.out 2).trans (rfl : _ = some (.int .i64 x.v : Value))
  go_wp2_with fail
  refine (change_ok x HX.out _).mono ?_
  rintro e w3 ⟨rfl, hb_⟩
  unfold chgV
  replace HC := Aside0.mk (blk_below HC.out hb_)
  replace HB := Aside0.mk (below_step HB.out hb_)
  clear hb_ p0_ p1_ p2_ HP
  go_upto_region 2 with fail
  have HD := Aside0.mk (heap_alloc_new w3 (.cells #[.int .i64 x.k, .int .i64 x.a, .int .i64 x.b, .int .i64 x.v, .bool false] 33))
  have hbd := below_alloc (Below.refl w3.heap.size w3) (.cells #[.int .i64 x.k, .int .i64 x.a, .int .i64 x.b, .int .i64 x.v, .bool false] 33)
  generalize w3.alloc (.cells #[.int .i64 x.k, .int .i64 x.a, .int .i64 x.b, .int .i64 x.v, .bool false] 33) = w4 at HD hbd ⊢
  have HNE : Aside0 (gr ≠ w3.heap.size ∧ w.heap.size ≤ w3.heap.size) := ⟨by have := blk_lt HC.out; have := below_size HB.out; omega⟩
  replace HC := Aside0.mk (blk_below HC.out hbd)
  replace HB := Aside0.mk (below_step HB.out hbd)
  clear hbd
  obtain ⟨gd, HGD⟩ : ∃ g, Aside0 (w3.heap.size = g) := ⟨_, ⟨rfl⟩⟩
  rw [HGD.out] at HD HNE ⊢
  have d3_ := (blk_cell HD.out 3).trans (rfl : _ = some (.int .i64 x.v : Value))
  have d4_ := (blk_cell HD.out 4).trans (rfl : _ = some (.bool false : Value))
  have e3_ := blk_frozen HD.out 3
  have e4_ := blk_frozen HD.out 4
  go_upto_region 3 with fail
  have hg1 : w4.grownBy ((w4.setCell ⟨gd, 3, none⟩ (.int .i64 0)).setCell ⟨gd, 4, none⟩ (.bool true)) (some gd) := (gtrans (gset w4 gd 3 (.int .i64 0)) (gset (w4.setCell ⟨gd, 3, none⟩ (.int .i64 0)) gd 4 (.bool true)))
  have HD5 := blk_put (blk_set HD.out 3 (.int .i64 0)) 4 (.bool true) (rfl : _ = (#[.int .i64 x.k, .int .i64 x.a, .int .i64 x.b, .int .i64 0, .bool true] : Array Value))
  clear d3_ d4_ e3_ e4_
  generalize ((w4.setCell ⟨gd, 3, none⟩ (.int .i64 0)).setCell ⟨gd, 4, none⟩ (.bool true)) = w5 at hg1 HD5 ⊢
  replace HC := Aside0.mk (blk_grown HC.out hg1 (by have := HNE.out; intro h; injection h with h; omega))
  replace HB := Aside0.mk (HB.out.grown hg1 (below_size HB.out) (fun k hk => by injection hk with hk; have := HNE.out; omega))
  clear hg1
  have d0_ := (blk_cell HD5 0).trans (rfl : _ = some (.int .i64 x.k : Value))
  have d1_ := (blk_cell HD5 1).trans (rfl : _ = some (.int .i64 x.a : Value))
  have d2_ := (blk_cell HD5 2).trans (rfl : _ = some (.int .i64 x.b : Value))
  have d3_ := (blk_cell HD5 3).trans (rfl : _ = some (.int .i64 0 : Value))
  have d4_ := (blk_cell HD5 4).trans (rfl : _ = some (.bool true : Value))
  have c0_ := (blk_cell HC.out 0).trans rfl
  have c1_ := (blk_cell HC.out 1).trans rfl
  have c2_ := (blk_cell HC.out 2).trans rfl
  have c3_ := (blk_cell HC.out 3).trans rfl
  have c4_ := (blk_cell HC.out 4).trans rfl
  have f0_ := blk_frozen HC.out 0
  have f1_ := blk_frozen HC.out 1
  have f2_ := blk_frozen HC.out 2
  have f3_ := blk_frozen HC.out 3
  have f4_ := blk_frozen HC.out 4
  go_wp2_with fail
  have hgz : w5.grownBy (((((w5.setCell ⟨gr, 0, none⟩ (.int .i64 x.k)).setCell ⟨gr, 1, none⟩ (.int .i64 x.a)).setCell ⟨gr, 2, none⟩ (.int .i64 x.b)).setCell ⟨gr, 3, none⟩ (.int .i64 0)).setCell ⟨gr, 4, none⟩ (.bool true)) (some gr) := (gtrans (gtrans (gtrans (gtrans (gset w5 gr 0 (.int .i64 x.k)) (gset (w5.setCell ⟨gr, 0, none⟩ (.int .i64 x.k)) gr 1 (.int .i64 x.a))) (gset ((w5.setCell ⟨gr, 0, none⟩ (.int .i64 x.k)).setCell ⟨gr, 1, none⟩ (.int .i64 x.a)) gr 2 (.int .i64 x.b))) (gset (((w5.setCell ⟨gr, 0, none⟩ (.int .i64 x.k)).setCell ⟨gr, 1, none⟩ (.int .i64 x.a)).setCell ⟨gr, 2, none⟩ (.int .i64 x.b)) gr 3 (.int .i64 0))) (gset ((((w5.setCell ⟨gr, 0, none⟩ (.int .i64 x.k)).setCell ⟨gr, 1, none⟩ (.int .i64 x.a)).setCell ⟨gr, 2, none⟩ (.int .i64 x.b)).setCell ⟨gr, 3, none⟩ (.int .i64 0)) gr 4 (.bool true)))
  have BZ := blk_put (blk_set (blk_set (blk_set (blk_set HC.out 0 (.int .i64 x.k)) 1 (.int .i64 x.a)) 2 (.int .i64 x.b)) 3 (.int .i64 0)) 4 (.bool true) (rfl : _ = (#[.int .i64 x.k, .int .i64 x.a, .int .i64 x.b, .int .i64 0, .bool true] : Array Value))
  clear c0_ c1_ c2_ c3_ c4_ f0_ f1_ f2_ f3_ f4_ d0_ d1_ d2_ d3_ d4_
  generalize (((((w5.setCell ⟨gr, 0, none⟩ (.int .i64 x.k)).setCell ⟨gr, 1, none⟩ (.int .i64 x.a)).setCell ⟨gr, 2, none⟩ (.int .i64 x.b)).setCell ⟨gr, 3, none⟩ (.int .i64 0)).setCell ⟨gr, 4, none⟩ (.bool true)) = wz at BZ hgz ⊢
  have r0_ := (blk_cell BZ 0).trans (rfl : _ = some (.int .i64 x.k : Value))
  have r1_ := (blk_cell BZ 1).trans (rfl : _ = some (.int .i64 x.a : Value))
  have r2_ := (blk_cell BZ 2).trans (rfl : _ = some (.int .i64 x.b : Value))
  have r3_ := (blk_cell BZ 3).trans (rfl : _ = some (.int .i64 0 : Value))
  have r4_ := (blk_cell BZ 4).trans (rfl : _ = some (.bool true : Value))
  refine bodyPost_ret (v := goneV x) (by simp [goneV, results, Try.results21, go_sem, r0_, r1_, r2_, r3_, r4_]) rfl ?_
  exact ⟨rfl, HB.out.grown hgz (below_size HB.out) (fun k hk => by injection hk with hk; have := HGC.out; omega)⟩
end Go.Proofs.Ytpjfmilokadchaa.Se
