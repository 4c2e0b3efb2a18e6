/- (c14) Put's question; DeleteFunc at any row of changes. -/
import Derived.Test.YtpjfmilokadchaaSeIn2
namespace Go.Proofs.Ytpjfmilokadchaa.Se
open Go Go.RowKit Go.Proofs.YtpjfmilokadchaaW.PrintWords Go.Proofs.YtpjfmilokadchaaW.PrintLast Go.Proofs.YtpjfmilokadchaaW.PrintMore Go.Proofs.Ytpjfmilokadchaa.Rw Go.Proofs.Ytpjfmilokadchaa.Ex Go.Proofs.Ytpjfmilokadchaa.Mono
set_option linter.unusedVariables false
set_option linter.unusedSimpArgs false
attribute [local go_sem] run_store_span
theorem times_E (a b : Int) (w : World) : Calls Try.prog 22 #[.int .i64 a, .int .i64 b] w fun e w' => e = .returned (spanV a b) ∧ Below w.heap.size w w' :=
  (times_ok a b w).mono fun e w' h => ⟨h.1, by rw [← h.2]; exact Below.refl _ _⟩
def In40 (a : Int) : Prop := 0 ≤ a ∧ a ≤ 1099511627776
theorem fl_order {a b : Int} (ha : In40 a) (hb : In40 b) : (FloatKind.format .f64).order (fl a) (fl b) = some .eq ↔ a = b := by
  obtain ⟨h0, h1⟩ := ha
  obtain ⟨h2, h3⟩ := hb
  have e1 : fl a = Ieee.double.nearest false a.natAbs 0 := by unfold fl FloatKind.nearest FloatKind.encode; rw [decide_eq_false (by omega)]; rfl
  have e2 : fl b = Ieee.double.nearest false b.natAbs 0 := by unfold fl FloatKind.nearest FloatKind.encode; rw [decide_eq_false (by omega)]; rfl
  have h53 : (2:Nat) ^ 53 = 9007199254740992 := by decide
  have := order_eq a.natAbs b.natAbs (by omega) (by omega)
  rw [← e1, ← e2] at this
  show Ieee.double.order (fl a) (fl b) = some .eq ↔ a = b
  rw [← beq_iff_eq, this, decide_eq_true_iff]
  omega
theorem cmp_fl {a b : Int} (ha : In40 a) (hb : In40 b) (w : World) : (Op.Complex.cmp .eql .f64 (fl a) (fl b)).run Try.prog w = .ok (decide (a = b)) w := by
  unfold Op.Complex.cmp Op.floatCmp
  simp only
  have : ((FloatKind.format .f64).order (fl a) (fl b) == some .eq) = decide (a = b) := by
    rw [Bool.eq_iff_iff, beq_iff_eq, decide_eq_true_iff]
    exact fl_order ha hb
  rw [this]
  rfl
theorem span_run (a b c d : Int) (ha : In40 a) (hb : In40 b) (hc : In40 c) (hd : In40 d) (w : World) : (binOp .eql 51 (spanV a b) (spanV c d)).run Try.prog w = .ok (.bool (decide (a = c) && decide (b = d))) w := by
  show (Op.complexOp .eql .f64 (fl a) (fl b) (fl c) (fl d)).run Try.prog w = _
  unfold Op.complexOp
  simp only
  simp [cmp_fl ha hc, cmp_fl hb hd]
theorem guard_run (a b c d : Int) (w : World) (x y : Operand) : (eqGuard .eql 51 x y (spanV a b) (spanV c d)).run Try.prog w = .ok () w := by rfl
def p1B (x : Ses) (c : S33) : Bool := decide (c.f1 = x.a) && decide (c.f2 = x.b)
set_option maxHeartbeats 2000000 in
set_option maxRecDepth 100000 in
theorem p1_ok (x : Ses) (c : S33) (gx : Nat) (w : World) (h1 : In40 c.f1) (h2 : In40 c.f2) (h3 : In40 x.a) (h4 : In40 x.b) (hx : w.heap[gx]? = some (.cells #[.int .i64 x.k, spanV x.a x.b, .int .i64 x.v] 53 (0, 0))) :
    Calls Try.prog 24 #[.agg #[.int .i64 c.f0, .int .i64 c.f1, .int .i64 c.f2, .int .i64 c.f3, .bool c.f4], .pointer (some ⟨gx, 0, none⟩)] w fun e w' => e = .returned (.bool (p1B x c)) ∧ Below w.heap.size w w' := by
  have HX1 := Aside0.mk h1
  have HX2 := Aside0.mk h2
  have HX3 := Aside0.mk h3
  have HX4 := Aside0.mk h4
  have HPX := Aside0.mk hx
  unfold p1B
  obtain ⟨Q, HQ⟩ : ∃ Q, Aside0 ((decide (c.f1 = x.a) && decide (c.f2 = x.b)) = Q) := ⟨_, ⟨rfl⟩⟩
  rw [HQ.out]
  clear h1 h2 h3 h4 hx
  go_enter Try.func24, Try.ntmps24
  go_upto_region 1 with fail
  have hbA := below_alloc (Below.refl w.heap.size w) (.cells #[.int .i64 c.f0, .int .i64 c.f1, .int .i64 c.f2, .int .i64 c.f3, .bool c.f4] 33)
  have HPB := Aside0.mk (heap_alloc_new w (.cells #[.int .i64 c.f0, .int .i64 c.f1, .int .i64 c.f2, .int .i64 c.f3, .bool c.f4] 33))
  have HBA := Aside0.mk hbA
  generalize w.alloc (.cells #[.int .i64 c.f0, .int .i64 c.f1, .int .i64 c.f2, .int .i64 c.f3, .bool c.f4] 33) = w1 at HPB HBA hbA ⊢
  obtain ⟨gb, HGB⟩ : ∃ g, Aside0 (w.heap.size = g) := ⟨_, ⟨rfl⟩⟩
  rw [HGB.out] at HPB ⊢
  replace HPX := Aside0.mk (blk_below HPX.out hbA)
  clear hbA
  refine start_ (n := 9) (S := fun w' => Below w1.heap.size w1 w') (ds := []) #[false, false, false, false, false, false, false, false, false] (by kernel_rfl) rfl rfl (below_drew (Below.refl _ _)) (fun hHeld => ?_)
  refine pure_ (i := 0) (N := some 4) (v := ?_) (a' := ?_) #[true, false, false, false, false, false, false, false, false] rfl rfl (by kernel_rfl) (fun _ _ _ h => h) (Or.inl ⟨by rfl, ?_⟩) ?_ ?_
  rotate_left
  · intro w'
    go_simp
    with_reducible rfl
  rotate_left
  · simp only [Act.put, List.setIfInBounds_toArray, List.set_cons_zero, List.set_cons_succ, i64_w, i32_w]
    rfl
  refine pure_ (i := 2) (N := some 6) (v := ?_) (a' := ?_) #[true, false, true, false, false, false, false, false, false] rfl rfl (by kernel_rfl) (fun _ _ _ h => h) (Or.inl ⟨by rfl, ?_⟩) ?_ ?_
  rotate_left
  · intro w'
    go_simp
    with_reducible rfl
  rotate_left
  · simp only [Act.put, List.setIfInBounds_toArray, List.set_cons_zero, List.set_cons_succ, i64_w, i32_w]
    rfl
  refine pure_ (i := 5) (N := some 9) (v := ?_) (a' := ?_) #[true, false, true, false, false, true, false, false, false] rfl rfl (by kernel_rfl) (fun _ _ _ h => h) (Or.inl ⟨by rfl, ?_⟩) ?_ ?_
  rotate_left
  · intro w'
    go_simp
    with_reducible rfl
  rotate_left
  · simp only [Act.put, List.setIfInBounds_toArray, List.set_cons_zero, List.set_cons_succ, i64_w, i32_w]
    rfl
  refine take_ (i := 1) (N := some 5) (v := ?_) (a' := ?_) #[true, true, true, false, false, true, false, false, false] rfl rfl (by kernel_rfl) (fun _ _ _ h => h) (Or.inl ⟨by rfl, ?_⟩) hHeld ?_ ?_
  rotate_left
  · intro w' hS
    have b0_ := (blk_cell (blk_below HPB.out hS) 0).trans (rfl : _ = some (.int .i64 c.f0 : Value))
    have b1_ := (blk_cell (blk_below HPB.out hS) 1).trans (rfl : _ = some (.int .i64 c.f1 : Value))
    have b2_ := (blk_cell (blk_below HPB.out hS) 2).trans (rfl : _ = some (.int .i64 c.f2 : Value))
    have b3_ := (blk_cell (blk_below HPB.out hS) 3).trans (rfl : _ = some (.int .i64 c.f3 : Value))
    have b4_ := (blk_cell (blk_below HPB.out hS) 4).trans (rfl : _ = some (.bool c.f4 : Value))
    go_simp
    with_reducible rfl
  rotate_left
  · simp only [Act.put, List.setIfInBounds_toArray, List.set_cons_zero, List.set_cons_succ, i64_w, i32_w]
    rfl
  refine take_ (i := 3) (N := some 7) (v := ?_) (a' := ?_) #[true, true, true, true, false, true, false, false, false] rfl rfl (by kernel_rfl) (fun _ _ _ h => h) (Or.inl ⟨by rfl, ?_⟩) hHeld ?_ ?_
  rotate_left
  · intro w' hS
    have b0_ := (blk_cell (blk_below HPB.out hS) 0).trans (rfl : _ = some (.int .i64 c.f0 : Value))
    have b1_ := (blk_cell (blk_below HPB.out hS) 1).trans (rfl : _ = some (.int .i64 c.f1 : Value))
    have b2_ := (blk_cell (blk_below HPB.out hS) 2).trans (rfl : _ = some (.int .i64 c.f2 : Value))
    have b3_ := (blk_cell (blk_below HPB.out hS) 3).trans (rfl : _ = some (.int .i64 c.f3 : Value))
    have b4_ := (blk_cell (blk_below HPB.out hS) 4).trans (rfl : _ = some (.bool c.f4 : Value))
    go_simp
    with_reducible rfl
  rotate_left
  · simp only [Act.put, List.setIfInBounds_toArray, List.set_cons_zero, List.set_cons_succ, i64_w, i32_w]
    rfl
  refine take_ (i := 6) (N := some 10) (v := ?_) (a' := ?_) #[true, true, true, true, false, true, true, false, false] rfl rfl (by kernel_rfl) (fun _ _ _ h => h) (Or.inl ⟨by rfl, ?_⟩) hHeld ?_ ?_
  rotate_left
  · intro w' hS
    have s_ := (blk_cell (blk_below HPX.out hS) 1).trans (rfl : _ = some (spanV x.a x.b : Value))
    go_simp
    with_reducible rfl
  rotate_left
  · simp only [Act.put, List.setIfInBounds_toArray, List.set_cons_zero, List.set_cons_succ, i64_w, i32_w]
    rfl
  refine one_ (i := 4) (N := some 8) #[true, true, true, true, true, true, true, false, false] rfl rfl (by kernel_rfl) (by simp) (fun K hK => ?_)
  refine goes_ Try.func22 (by kernel_rfl) rfl #[.int .i64 c.f1, .int .i64 c.f2] (by rfl) rfl rfl (by simp only [List.map_toArray, List.map_cons, List.map_nil]; rfl) ?_
  with_reducible refine (times_E c.f1 c.f2 _).mono ?_
  rintro e w2 ⟨rfl, hb_⟩
  refine ⟨_, rfl, ?_⟩
  replace hb_ := below_step hHeld hb_
  refine hK.out _ _ hb_ (fun _ => ?_)
  clear hK K
  refine norm_ (a' := ?_) ?_ ?_
  rotate_left
  · show Act.put _ (some 8) _ = _
    simp only [Act.put, List.setIfInBounds_toArray, List.set_cons_zero, List.set_cons_succ, i64_w, i32_w]
    rfl
  replace hHeld := hb_
  clear hb_
  refine pure_ (i := 7) (N := some 11) (v := ?_) (a' := ?_) #[true, true, true, true, true, true, true, true, false] rfl rfl (by kernel_rfl) (fun _ _ _ h => h) (Or.inl ⟨by rfl, ?_⟩) ?_ ?_
  rotate_left
  · intro w'
    have hq_ := span_run _ _ _ _ HX1.out HX2.out HX3.out HX4.out w'
    have hg_ := guard_run c.f1 c.f2 x.a x.b w'
    rw [HQ.out] at hq_
    go_simp
    with_reducible rfl
  rotate_left
  · simp only [Act.put, List.setIfInBounds_toArray, List.set_cons_zero, List.set_cons_succ, i64_w, i32_w]
    rfl
  refine pure_ (i := 8) (N := some 3) (v := ?_) (a' := ?_) #[true, true, true, true, true, true, true, true, true] rfl rfl (by kernel_rfl) (fun _ _ _ h => h) (Or.inl ⟨by rfl, ?_⟩) ?_ ?_
  rotate_left
  · intro w'
    go_simp
    with_reducible rfl
  rotate_left
  · simp only [Act.put, List.setIfInBounds_toArray, List.set_cons_zero, List.set_cons_succ, i64_w, i32_w]
    rfl
  refine done_ (by kernel_rfl) ?_

  have HF := Aside0.mk (below_step HBA.out hHeld)
  clear hHeld
  go_wp2
  go_ret
  exact ⟨rfl, HF.out⟩
def DelPost (base : Nat) (v : Value) (K : List S33) (w : World) (e : Ending) (w' : World) : Prop :=
  ∃ A m c, e = .returned (.slice A m c) ∧ K.length = m ∧ w'.ownsRow base 33 5 (.slice A m c) m (cellsC K) ∧ Chg w w' (fun k => some k = v.ownBlock)
theorem del1_ok (base m gx : Nat) (x : Ses) (v : Value) (M : List S33) (w : World) (hm : M.length = m) (hm5 : m ≤ 5000) (hown : w.ownsRow base 33 5 v m (cellsC M)) (hM : ∀ c ∈ M, In40 c.f1 ∧ In40 c.f2) (h3 : In40 x.a) (h4 : In40 x.b) (hx : w.heap[gx]? = some (.cells #[.int .i64 x.k, spanV x.a x.b, .int .i64 x.v] 53 (0, 0))) :
    Calls Try.prog 23 #[v, .func (.func 24) #[] #[.pointer (some ⟨gx, 0, none⟩)]] w (DelPost base v (M.filter fun c => !p1B x c) w) := by
  rcases hown.2 with ⟨rfl, e0⟩ | ⟨g, cap, cur, rfl, hbg, hg, hr⟩
  · refine (delC_nil gx w).mono ?_
    rintro e w' ⟨rfl, rfl⟩
    have : M = [] := List.length_eq_zero_iff.1 (by omega)
    subst this
    exact ⟨_, _, _, rfl, rfl, World.ownsRow_nil _ _ _ _, Chg.refl _ _⟩
  · have hne : gx ≠ g := blk_types hx hg (by decide)
    refine (delC_ok base m cap g gx M (p1B x) (fun _ W => Chg w W (fun k => k = g)) w hm hm5 hown (Chg.refl _ _) (fun t p w1 hp hc => ?_) (fun t w1 w2 h1 h2 _ => h1.trans h2)).mono ?_
    · have hp2 := hM p (List.mem_of_getElem? hp)
      refine (p1_ok x p gx w1 hp2.1 hp2.2 h3 h4 ((hc.block gx (blk_lt hx) hne).trans hx)).mono ?_
      rintro e w' ⟨rfl, hb⟩
      exact ⟨rfl, hc.trans (Chg.of_below hb), KeepC.below hb⟩
    · rintro e w' ⟨k, rfl, hk, ho, hc, _⟩
      exact ⟨_, _, _, rfl, hk, ho, hc.mono fun i hi => by rw [hi]; rfl⟩
end Go.Proofs.Ytpjfmilokadchaa.Se
