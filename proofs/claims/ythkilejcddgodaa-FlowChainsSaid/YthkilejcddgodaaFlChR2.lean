/- The document's Chain, in the form of the printer's own contracts. -/
import Derived.Test.YthkilejcddgodaaFlChR
namespace Go.Proofs.Ythkilejcddgodaa.Ex
open Go Go.RowKit Go.Proofs.YthkilejcddgodaaW.PrintWords Go.Proofs.YthkilejcddgodaaW.PrintLast Go.Proofs.YthkilejcddgodaaW.PrintMore
attribute [local go_sem] max2_int min2_int max_two min_two max_three min_three max_four min_four
set_option linter.unusedVariables false
set_option linter.unusedSimpArgs false
theorem fin4 {w0 w w9 : World} {base g : Nat} {ok : Nat → Prop} {v : Value} {xs : List Rc} {c0 c1 c2 c3 : Value} (h : Kd.R k29 29 w base ok v xs) (hb : Below w0.heap.size w0 w) (hg : w.heap[g]? = some (.cells #[c0, c1, c2, c3] 59 (0, 0))) (hl : w0.heap.size ≤ g) (v0 v1 v2 v3 : Value)
    (e : (((w.setCell ⟨g, 0, none⟩ v0).setCell ⟨g, 1, none⟩ v1).setCell ⟨g, 2, none⟩ v2).setCell ⟨g, 3, none⟩ v3 = w9) : Kd.R k29 29 w9 base ok v xs ∧ Below w0.heap.size w0 w9 ∧ w9.heap[g]? = some (.cells #[v0, v1, v2, v3] 59 (0, 0)) := by
  subst e
  have b0 : (w.setCell ⟨g, 0, none⟩ v0).heap[g]? = some (.cells #[v0, c1, c2, c3] 59 (0, 0)) := blk_put hg 0 v0 rfl
  have b1 : ((w.setCell ⟨g, 0, none⟩ v0).setCell ⟨g, 1, none⟩ v1).heap[g]? = some (.cells #[v0, v1, c2, c3] 59 (0, 0)) := blk_put b0 1 v1 rfl
  have b2 : (((w.setCell ⟨g, 0, none⟩ v0).setCell ⟨g, 1, none⟩ v1).setCell ⟨g, 2, none⟩ v2).heap[g]? = some (.cells #[v0, v1, v2, c3] 59 (0, 0)) := blk_put b1 2 v2 rfl
  have b3 : ((((w.setCell ⟨g, 0, none⟩ v0).setCell ⟨g, 1, none⟩ v1).setCell ⟨g, 2, none⟩ v2).setCell ⟨g, 3, none⟩ v3).heap[g]? = some (.cells #[v0, v1, v2, v3] 59 (0, 0)) := blk_put b2 3 v3 rfl
  exact ⟨Kd.R_set (Kd.R_set (Kd.R_set (Kd.R_set h hg (by decide) 0 v0) b0 (by decide) 1 v1) b1 (by decide) 2 v2) b2 (by decide) 3 v3,
    below_set (j := 3) (v := v3) (below_set (j := 2) (v := v2) (below_set (j := 1) (v := v1) (below_set (j := 0) (v := v0) hb hl) hl) hl) hl, b3⟩
/-- The walk from its beginning. -/
theorem thr0 (w : World) (A0 : Option Addr) (c0 : Nat) (l0 : List Vx) (r : Rc) (q : Bool × CS) (gm : Nat) (W : World) (hr0 : Kd.C k27 w A0 l0.length l0) (hc0 : l0.length ≤ c0) (h8 : l0.length ≤ 8) (hwE : ∀ v ∈ l0, wfE v.f2) (hrk : recOk r) (hq : chGo l0 0 r ⟨[], List.replicate l0.length 0, -1, 0⟩ = q)
    (hb : Below w.heap.size w W) (hm : W.heap[gm]? = some (.cells (madeCells #[.int .i64 0] l0.length) 3 (0, 0))) (hl : w.heap.size ≤ gm) :
    Calls Try.prog 21 #[.agg #[.slice none 0 0, .slice (some ⟨gm, 0, none⟩) l0.length l0.length, .int .i64 (-1), .int .i64 0], .slice A0 l0.length c0, .int .i64 0, .agg #[.int .i64 r.f0, .int .i64 r.f1, .int .i64 r.f2]] W fun e w' => ∃ A m c, e = .returned (.agg #[.slice A m c, .slice (some ⟨gm, 0, none⟩) l0.length l0.length, .int .i64 q.2.at_, .int .i64 q.2.err]) ∧ Kd.R k29 29 w' w.heap.size (fun _ => True) (.slice A m c) q.2.out ∧ Below w.heap.size w w' ∧ Kept W w' (fun k => k = gm) := by
  have hm2 := hm
  rw [made_nums] at hm2
  have hlen : 4 ^ l0.length ≤ 4 ^ 8 := Nat.pow_le_pow_right (by omega) h8
  have h := through_ok ⟨w, A0, c0, l0, gm⟩ h8 hr0 hc0 hwE l0 0 r ⟨[], List.replicate l0.length 0, -1, 0⟩ none 0 0 0 W rfl (Nat.zero_le _) ⟨hb, hm2, Kd.R_nil _ _ _ _ _, by simp, hl⟩ (mok_zeros _) (by simp only [List.length_nil]; omega) rfl hrk rfl
  refine h.mono ?_
  rintro e w' ⟨A, m, c, he, hi, hk, ha⟩
  simp only at he hi
  rw [hq] at he hi
  refine ⟨A, m, c, he, hi.hv, hi.hb, hk.mono ?_⟩
  rintro k (h | h)
  · exact h
  · simp [Value.ownBlock] at h
set_option maxHeartbeats 8000000 in
set_option maxRecDepth 100000 in
theorem refChain_ok (A0 : Option Addr) (c0 : Nat) (l0 : List Vx) (r : Rc) (w : World) (hr0 : Kd.C k27 w A0 l0.length l0) (hc0 : l0.length ≤ c0) (h8 : l0.length ≤ 8) (hwE : ∀ v ∈ l0, wfE v.f2) (hrk : recOk r) :
    Calls Try.prog 16 #[.slice A0 l0.length c0, .agg #[.int .i64 r.f0, .int .i64 r.f1, .int .i64 r.f2]] w fun e w' => ∃ v0_ : Value, e = .returned (.tuple #[v0_, .int .i64 (chainOf l0 r).2.1, .int .i64 (chainOf l0 r).2.2]) ∧ Kd.R k29 29 w' w.heap.size (fun _ => True) v0_ (chainOf l0 r).1 ∧ Below w.heap.size w w' := by
  have HC := Aside0.mk hr0
  have HC0 := Aside0.mk hc0
  have H8 := Aside0.mk h8
  have HWE := Aside0.mk hwE
  have HRK := Aside0.mk hrk
  clear hr0 hc0 h8 hwE hrk
  obtain ⟨q, HQ⟩ : ∃ q, Aside0 (chGo l0 0 r ⟨[], List.replicate l0.length 0, -1, 0⟩ = q) := ⟨_, ⟨rfl⟩⟩
  have HE : Aside0 (if q.1 = true then q.2.err = 0 else q.2.err ≠ 0) := ⟨by rw [← HQ.out]; exact chGo_err l0 0 r _ rfl⟩
  obtain ⟨t, HT⟩ : ∃ t, Aside0 (chainOf l0 r = t) := ⟨_, ⟨rfl⟩⟩
  have HT2 : Aside0 ((if q.1 = true then (q.2.out, -1, 0) else ([], q.2.at_, q.2.err)) = t) := ⟨by rw [← HT.out, ← HQ.out]; rfl⟩
  rw [HT.out]
  have hmk := print_make 22 3 .i64 8 Try.underlying22 infoI (by decide) l0.length (by have := H8.out; omega)
  have HB := Aside0.mk (Below.refl w.heap.size w)
  go_enter Try.func16, Try.ntmps16
  go_upto_region 1 with fail
  have B3 := Aside0.mk (heap_alloc_new w (.cells #[.int .i64 r.f0, .int .i64 r.f1, .int .i64 r.f2] 29))
  have hb_ := below_alloc (Below.refl w.heap.size w) (.cells #[.int .i64 r.f0, .int .i64 r.f1, .int .i64 r.f2] 29)
  generalize w.alloc (.cells #[.int .i64 r.f0, .int .i64 r.f1, .int .i64 r.f2] 29) = w2 at B3 hb_ ⊢
  obtain ⟨g3, HG3⟩ : ∃ g, Aside0 (w.heap.size = g) := ⟨_, ⟨rfl⟩⟩
  rw [HG3.out] at B3 ⊢
  replace HB := Aside0.mk (below_step HB.out hb_)
  clear hb_
  refine start_ (n := 9) (S := fun w' => w'.cell? ⟨g3, 0, none⟩ = some (.int .i64 r.f0) ∧ w'.cell? ⟨g3, 1, none⟩ = some (.int .i64 r.f1) ∧ w'.cell? ⟨g3, 2, none⟩ = some (.int .i64 r.f2)) (ds := [8]) #[false, false, false, false, false, false, false, false, false] (by kernel_rfl) rfl rfl ⟨((blk_cell B3.out 0).trans rfl), ((blk_cell B3.out 1).trans rfl), ((blk_cell B3.out 2).trans rfl)⟩ (fun hHeld => ?_)
  refine pure_ (i := 0) (N := some 8) (v := ?_) (a' := ?_) #[true, false, false, false, false, false, false, false, false] rfl rfl (by kernel_rfl) (fun _ _ _ h => h) (Or.inl ⟨by rfl, ?_⟩) ?_ ?_
  rotate_left
  · intro w'
    go_simp
    with_reducible rfl
  rotate_left
  · simp only [Act.put, List.setIfInBounds_toArray, List.set_cons_zero, List.set_cons_succ, i64_w, i32_w]
    rfl
  refine pure_ (i := 1) (N := some 9) (v := ?_) (a' := ?_) #[true, true, false, false, false, false, false, false, false] rfl rfl (by kernel_rfl) (fun _ _ _ h => h) (Or.inl ⟨by rfl, ?_⟩) ?_ ?_
  rotate_left
  · intro w'
    go_simp
    with_reducible rfl
  rotate_left
  · simp only [Act.put, List.setIfInBounds_toArray, List.set_cons_zero, List.set_cons_succ, i64_w, i32_w]
    rfl
  refine pure_ (i := 4) (N := some 12) (v := ?_) (a' := ?_) #[true, true, false, false, true, false, false, false, false] rfl rfl (by kernel_rfl) (fun _ _ _ h => h) (Or.inl ⟨by rfl, ?_⟩) ?_ ?_
  rotate_left
  · intro w'
    go_simp
    with_reducible rfl
  rotate_left
  · simp only [Act.put, List.setIfInBounds_toArray, List.set_cons_zero, List.set_cons_succ, i64_w, i32_w]
    rfl
  refine take_ (i := 5) (N := some 13) (v := ?_) (a' := ?_) #[true, true, false, false, true, true, false, false, false] rfl rfl (by kernel_rfl) (fun _ _ _ h => h) (Or.inl ⟨by rfl, ?_⟩) hHeld ?_ ?_
  rotate_left
  · rintro w' ⟨s0, s1, s2⟩
    go_simp
    with_reducible rfl
  rotate_left
  · simp only [Act.put, List.setIfInBounds_toArray, List.set_cons_zero, List.set_cons_succ, i64_w, i32_w]
    rfl
  refine join_ (σ := Nat × Nat × Option Addr × Nat × Nat) 1 #[true, true, true, true, true, true, true, true, false] (fun s => [(10, .slice (some ⟨s.1, 0, none⟩) l0.length l0.length), (11, .agg #[.slice none 0 0, .slice (some ⟨s.1, 0, none⟩) l0.length l0.length, .int .i64 (-1), .int .i64 0]), (14, .agg #[.slice s.2.2.1 s.2.2.2.1 s.2.2.2.2, .slice (some ⟨s.1, 0, none⟩) l0.length l0.length, .int .i64 q.2.at_, .int .i64 q.2.err]), (7, .pointer (some ⟨s.2.1, 0, none⟩))]) (fun s w' => Kd.R k29 29 w' w.heap.size (fun _ => True) (.slice s.2.2.1 s.2.2.2.1 s.2.2.2.2) q.2.out ∧ Below w.heap.size w w' ∧ w'.heap[s.2.1]? = some (.cells #[.slice none 0 0, .slice none 0 0, .int .i64 0, .int .i64 0] 59 (0, 0)) ∧ w.heap.size ≤ s.2.1) ?_ ?_
  rotate_left
  · intro hCont
    refine two_ (i := 2) (j := 7) (Ni := some 10) (Nj := some 7) #[true, true, true, false, true, true, false, false, false] #[true, true, false, false, true, true, false, true, false] rfl rfl rfl rfl (by kernel_rfl) (by decide) (by decide) (fun K hK => ?_) (fun K hK => ?_)
    · skip
      replace HB := Aside0.mk (below_drew HB.out)
      replace B3 : Aside0 (w2.drew.heap[g3]? = some (.cells #[.int .i64 r.f0, .int .i64 r.f1, .int .i64 r.f2] 29 (0, 0))) := B3
      refine value_ (w1 := w2.drew.alloc (.cells (madeCells #[.int .i64 0] l0.length) 3)) (v := .slice (some ⟨w2.drew.heap.size, 0, none⟩) l0.length l0.length) (by rfl) rfl (by go_simp; done) ?_
      have hb_ := below_alloc (Below.refl w2.drew.heap.size w2.drew) (.cells (madeCells #[.int .i64 0] l0.length) 3)
      have BM := Aside0.mk (heap_alloc_new w2.drew (.cells (madeCells #[.int .i64 0] l0.length) 3))
      generalize w2.drew.alloc (.cells (madeCells #[.int .i64 0] l0.length) 3) = x2 at hb_ BM ⊢
      have LM := Aside0.mk HB.out.size
      obtain ⟨gm, HGM⟩ : ∃ g, Aside0 (w2.drew.heap.size = g) := ⟨_, ⟨rfl⟩⟩
      rw [HGM.out] at BM LM ⊢
      replace HB := Aside0.mk (below_step HB.out hb_)
      replace B3 := Aside0.mk (blk_below B3.out hb_)
      clear hb_
      refine hK.out _ _ ⟨((blk_cell B3.out 0).trans rfl), ((blk_cell B3.out 1).trans rfl), ((blk_cell B3.out 2).trans rfl)⟩ (fun hHeld => ?_)
      clear hK K
      refine norm_ (a' := ?_) ?_ ?_
      rotate_left
      · show Act.put _ (some 10) _ = _
        simp only [Act.put, List.setIfInBounds_toArray, List.set_cons_zero, List.set_cons_succ, i64_w, i32_w]
        rfl
      refine pure_ (i := 3) (N := some 11) (v := ?_) (a' := ?_) #[true, true, true, true, true, true, false, false, false] rfl rfl (by kernel_rfl) (fun _ _ _ h => h) (Or.inl ⟨by rfl, ?_⟩) ?_ ?_
      rotate_left
      · intro w'
        go_simp
        with_reducible rfl
      rotate_left
      · simp only [Act.put, List.setIfInBounds_toArray, List.set_cons_zero, List.set_cons_succ, i64_w, i32_w]
        rfl
      refine two_ (i := 6) (j := 7) (Ni := some 14) (Nj := some 7) #[true, true, true, true, true, true, true, false, false] #[true, true, true, true, true, true, false, true, false] rfl rfl rfl rfl (by kernel_rfl) (by decide) (by decide) (fun K hK => ?_) (fun K hK => ?_)
      · skip
        refine goes_ Try.func21 (by kernel_rfl) rfl #[.agg #[.slice none 0 0, .slice (some ⟨gm, 0, none⟩) l0.length l0.length, .int .i64 (-1), .int .i64 0], .slice A0 l0.length c0, .int .i64 0, .agg #[.int .i64 r.f0, .int .i64 r.f1, .int .i64 r.f2]] (by rfl) rfl rfl (by simp only [List.map_toArray, List.map_cons, List.map_nil]; rfl) ?_
        with_reducible refine (thr0 w A0 c0 l0 r q gm _ HC.out HC0.out H8.out HWE.out HRK.out HQ.out HB.out BM.out LM.out).mono ?_
        rintro e x2_6 ⟨A5, m5, c5, rfl, hr_, hb_, hk_⟩
        refine ⟨_, rfl, ?_⟩
        have HR := Aside0.mk hr_
        have nb_ := hb_
        replace B3 := Aside0.mk (blk_kept B3.out hk_ (fun h => blk_ne B3.out BM.out (by decide) h))
        clear hk_ hr_ HB BM
        have HB := Aside0.mk nb_
        clear nb_ hb_
        refine hK.out _ _ ⟨((blk_cell B3.out 0).trans rfl), ((blk_cell B3.out 1).trans rfl), ((blk_cell B3.out 2).trans rfl)⟩ (fun hHeld => ?_)
        clear hK K
        refine norm_ (a' := ?_) ?_ ?_
        rotate_left
        · show Act.put _ (some 14) _ = _
          simp only [Act.put, List.setIfInBounds_toArray, List.set_cons_zero, List.set_cons_succ, i64_w, i32_w]
          rfl
        refine one_ (i := 7) (N := some 7) #[true, true, true, true, true, true, true, true, false] rfl rfl (by kernel_rfl) (by decide) (fun K hK => ?_)
        refine value_ (w1 := x2_6.alloc (.cells #[.slice none 0 0, .slice none 0 0, .int .i64 0, .int .i64 0] 59)) (v := .pointer (some ⟨x2_6.heap.size, 0, none⟩)) (by rfl) rfl (by first | (go_simp; done) | (go_simp; rfl)) ?_
        have hb_ := below_alloc (Below.refl x2_6.heap.size x2_6) (.cells #[.slice none 0 0, .slice none 0 0, .int .i64 0, .int .i64 0] 59)
        have BZ := Aside0.mk (heap_alloc_new x2_6 (.cells #[.slice none 0 0, .slice none 0 0, .int .i64 0, .int .i64 0] 59))
        generalize x2_6.alloc (.cells #[.slice none 0 0, .slice none 0 0, .int .i64 0, .int .i64 0] 59) = x2_6_7 at hb_ BZ ⊢
        have LZ := Aside0.mk HB.out.size
        obtain ⟨gz, HGZ⟩ : ∃ g, Aside0 (x2_6.heap.size = g) := ⟨_, ⟨rfl⟩⟩
        rw [HGZ.out] at BZ LZ ⊢
        replace HB := Aside0.mk (below_step HB.out hb_)
        replace B3 := Aside0.mk (blk_below B3.out hb_)
        replace HR := Aside0.mk (Kd.R_below HR.out hb_)
        clear hb_
        refine hK.out _ _ ⟨((blk_cell B3.out 0).trans rfl), ((blk_cell B3.out 1).trans rfl), ((blk_cell B3.out 2).trans rfl)⟩ (fun hHeld => ?_)
        clear hK K
        refine norm_ (a' := ?_) ?_ ?_
        rotate_left
        · show Act.put _ (some 7) _ = _
          simp only [Act.put, List.setIfInBounds_toArray, List.set_cons_zero, List.set_cons_succ, i64_w, i32_w]
          rfl
        exact norm_ (by simp only [putAll, Act.put, List.setIfInBounds_toArray, List.set_cons_zero, List.set_cons_succ]) (hCont (gm, gz, A5, m5, c5) _ ⟨HR.out, HB.out, BZ.out, LZ.out⟩)
      · skip
        refine value_ (w1 := x2.alloc (.cells #[.slice none 0 0, .slice none 0 0, .int .i64 0, .int .i64 0] 59)) (v := .pointer (some ⟨x2.heap.size, 0, none⟩)) (by rfl) rfl (by first | (go_simp; done) | (go_simp; rfl)) ?_
        have hb_ := below_alloc (Below.refl x2.heap.size x2) (.cells #[.slice none 0 0, .slice none 0 0, .int .i64 0, .int .i64 0] 59)
        have BZ := Aside0.mk (heap_alloc_new x2 (.cells #[.slice none 0 0, .slice none 0 0, .int .i64 0, .int .i64 0] 59))
        generalize x2.alloc (.cells #[.slice none 0 0, .slice none 0 0, .int .i64 0, .int .i64 0] 59) = x2_7 at hb_ BZ ⊢
        have LZ := Aside0.mk HB.out.size
        obtain ⟨gz, HGZ⟩ : ∃ g, Aside0 (x2.heap.size = g) := ⟨_, ⟨rfl⟩⟩
        rw [HGZ.out] at BZ LZ ⊢
        replace HB := Aside0.mk (below_step HB.out hb_)
        replace B3 := Aside0.mk (blk_below B3.out hb_)
        replace BM := Aside0.mk (blk_below BM.out hb_)
        clear hb_
        refine hK.out _ _ ⟨((blk_cell B3.out 0).trans rfl), ((blk_cell B3.out 1).trans rfl), ((blk_cell B3.out 2).trans rfl)⟩ (fun hHeld => ?_)
        clear hK K
        refine norm_ (a' := ?_) ?_ ?_
        rotate_left
        · show Act.put _ (some 7) _ = _
          simp only [Act.put, List.setIfInBounds_toArray, List.set_cons_zero, List.set_cons_succ, i64_w, i32_w]
          rfl
        refine one_ (i := 6) (N := some 14) #[true, true, true, true, true, true, true, true, false] rfl rfl (by kernel_rfl) (by decide) (fun K hK => ?_)
        refine goes_ Try.func21 (by kernel_rfl) rfl #[.agg #[.slice none 0 0, .slice (some ⟨gm, 0, none⟩) l0.length l0.length, .int .i64 (-1), .int .i64 0], .slice A0 l0.length c0, .int .i64 0, .agg #[.int .i64 r.f0, .int .i64 r.f1, .int .i64 r.f2]] (by rfl) rfl rfl (by simp only [List.map_toArray, List.map_cons, List.map_nil]; rfl) ?_
        with_reducible refine (thr0 w A0 c0 l0 r q gm _ HC.out HC0.out H8.out HWE.out HRK.out HQ.out HB.out BM.out LM.out).mono ?_
        rintro e x2_7_6 ⟨A5, m5, c5, rfl, hr_, hb_, hk_⟩
        refine ⟨_, rfl, ?_⟩
        have HR := Aside0.mk hr_
        have nb_ := hb_
        replace B3 := Aside0.mk (blk_kept B3.out hk_ (fun h => blk_ne B3.out BM.out (by decide) h))
        replace BZ := Aside0.mk (blk_kept BZ.out hk_ (fun h => blk_ne BZ.out BM.out (by decide) h))
        clear hk_ hr_ HB BM
        have HB := Aside0.mk nb_
        clear nb_ hb_
        refine hK.out _ _ ⟨((blk_cell B3.out 0).trans rfl), ((blk_cell B3.out 1).trans rfl), ((blk_cell B3.out 2).trans rfl)⟩ (fun hHeld => ?_)
        clear hK K
        refine norm_ (a' := ?_) ?_ ?_
        rotate_left
        · show Act.put _ (some 14) _ = _
          simp only [Act.put, List.setIfInBounds_toArray, List.set_cons_zero, List.set_cons_succ, i64_w, i32_w]
          rfl
        exact norm_ (by simp only [putAll, Act.put, List.setIfInBounds_toArray, List.set_cons_zero, List.set_cons_succ]) (hCont (gm, gz, A5, m5, c5) _ ⟨HR.out, HB.out, BZ.out, LZ.out⟩)
    · skip
      replace HB := Aside0.mk (below_drew HB.out)
      replace B3 : Aside0 (w2.drew.heap[g3]? = some (.cells #[.int .i64 r.f0, .int .i64 r.f1, .int .i64 r.f2] 29 (0, 0))) := B3
      refine value_ (w1 := w2.drew.alloc (.cells #[.slice none 0 0, .slice none 0 0, .int .i64 0, .int .i64 0] 59)) (v := .pointer (some ⟨w2.drew.heap.size, 0, none⟩)) (by rfl) rfl (by first | (go_simp; done) | (go_simp; rfl)) ?_
      have hb_ := below_alloc (Below.refl w2.drew.heap.size w2.drew) (.cells #[.slice none 0 0, .slice none 0 0, .int .i64 0, .int .i64 0] 59)
      have BZ := Aside0.mk (heap_alloc_new w2.drew (.cells #[.slice none 0 0, .slice none 0 0, .int .i64 0, .int .i64 0] 59))
      generalize w2.drew.alloc (.cells #[.slice none 0 0, .slice none 0 0, .int .i64 0, .int .i64 0] 59) = x7 at hb_ BZ ⊢
      have LZ := Aside0.mk HB.out.size
      obtain ⟨gz, HGZ⟩ : ∃ g, Aside0 (w2.drew.heap.size = g) := ⟨_, ⟨rfl⟩⟩
      rw [HGZ.out] at BZ LZ ⊢
      replace HB := Aside0.mk (below_step HB.out hb_)
      replace B3 := Aside0.mk (blk_below B3.out hb_)
      clear hb_
      refine hK.out _ _ ⟨((blk_cell B3.out 0).trans rfl), ((blk_cell B3.out 1).trans rfl), ((blk_cell B3.out 2).trans rfl)⟩ (fun hHeld => ?_)
      clear hK K
      refine norm_ (a' := ?_) ?_ ?_
      rotate_left
      · show Act.put _ (some 7) _ = _
        simp only [Act.put, List.setIfInBounds_toArray, List.set_cons_zero, List.set_cons_succ, i64_w, i32_w]
        rfl
      refine one_ (i := 2) (N := some 10) #[true, true, true, false, true, true, false, true, false] rfl rfl (by kernel_rfl) (by decide) (fun K hK => ?_)
      refine value_ (w1 := x7.alloc (.cells (madeCells #[.int .i64 0] l0.length) 3)) (v := .slice (some ⟨x7.heap.size, 0, none⟩) l0.length l0.length) (by rfl) rfl (by go_simp; done) ?_
      have hb_ := below_alloc (Below.refl x7.heap.size x7) (.cells (madeCells #[.int .i64 0] l0.length) 3)
      have BM := Aside0.mk (heap_alloc_new x7 (.cells (madeCells #[.int .i64 0] l0.length) 3))
      generalize x7.alloc (.cells (madeCells #[.int .i64 0] l0.length) 3) = x7_2 at hb_ BM ⊢
      have LM := Aside0.mk HB.out.size
      obtain ⟨gm, HGM⟩ : ∃ g, Aside0 (x7.heap.size = g) := ⟨_, ⟨rfl⟩⟩
      rw [HGM.out] at BM LM ⊢
      replace HB := Aside0.mk (below_step HB.out hb_)
      replace B3 := Aside0.mk (blk_below B3.out hb_)
      replace BZ := Aside0.mk (blk_below BZ.out hb_)
      clear hb_
      refine hK.out _ _ ⟨((blk_cell B3.out 0).trans rfl), ((blk_cell B3.out 1).trans rfl), ((blk_cell B3.out 2).trans rfl)⟩ (fun hHeld => ?_)
      clear hK K
      refine norm_ (a' := ?_) ?_ ?_
      rotate_left
      · show Act.put _ (some 10) _ = _
        simp only [Act.put, List.setIfInBounds_toArray, List.set_cons_zero, List.set_cons_succ, i64_w, i32_w]
        rfl
      refine pure_ (i := 3) (N := some 11) (v := ?_) (a' := ?_) #[true, true, true, true, true, true, false, true, false] rfl rfl (by kernel_rfl) (fun _ _ _ h => h) (Or.inl ⟨by rfl, ?_⟩) ?_ ?_
      rotate_left
      · intro w'
        go_simp
        with_reducible rfl
      rotate_left
      · simp only [Act.put, List.setIfInBounds_toArray, List.set_cons_zero, List.set_cons_succ, i64_w, i32_w]
        rfl
      refine one_ (i := 6) (N := some 14) #[true, true, true, true, true, true, true, true, false] rfl rfl (by kernel_rfl) (by decide) (fun K hK => ?_)
      refine goes_ Try.func21 (by kernel_rfl) rfl #[.agg #[.slice none 0 0, .slice (some ⟨gm, 0, none⟩) l0.length l0.length, .int .i64 (-1), .int .i64 0], .slice A0 l0.length c0, .int .i64 0, .agg #[.int .i64 r.f0, .int .i64 r.f1, .int .i64 r.f2]] (by rfl) rfl rfl (by simp only [List.map_toArray, List.map_cons, List.map_nil]; rfl) ?_
      with_reducible refine (thr0 w A0 c0 l0 r q gm _ HC.out HC0.out H8.out HWE.out HRK.out HQ.out HB.out BM.out LM.out).mono ?_
      rintro e x7_2_6 ⟨A5, m5, c5, rfl, hr_, hb_, hk_⟩
      refine ⟨_, rfl, ?_⟩
      have HR := Aside0.mk hr_
      have nb_ := hb_
      replace B3 := Aside0.mk (blk_kept B3.out hk_ (fun h => blk_ne B3.out BM.out (by decide) h))
      replace BZ := Aside0.mk (blk_kept BZ.out hk_ (fun h => blk_ne BZ.out BM.out (by decide) h))
      clear hk_ hr_ HB BM
      have HB := Aside0.mk nb_
      clear nb_ hb_
      refine hK.out _ _ ⟨((blk_cell B3.out 0).trans rfl), ((blk_cell B3.out 1).trans rfl), ((blk_cell B3.out 2).trans rfl)⟩ (fun hHeld => ?_)
      clear hK K
      refine norm_ (a' := ?_) ?_ ?_
      rotate_left
      · show Act.put _ (some 14) _ = _
        simp only [Act.put, List.setIfInBounds_toArray, List.set_cons_zero, List.set_cons_succ, i64_w, i32_w]
        rfl
      exact norm_ (by simp only [putAll, Act.put, List.setIfInBounds_toArray, List.set_cons_zero, List.set_cons_succ]) (hCont (gm, gz, A5, m5, c5) _ ⟨HR.out, HB.out, BZ.out, LZ.out⟩)
  rintro ⟨gm, gz, A5, m5, c5⟩ w6 ⟨hr_, hb_, hz_, lz_⟩
  simp only at hr_ hb_ hz_ lz_
  refine norm_ (a' := ?_) ?_ ?_
  rotate_left
  · simp only [putAll, Act.put, List.setIfInBounds_toArray, List.set_cons_zero, List.set_cons_succ]
    rfl
  refine last_ (i := 8) (N := none) #[true, true, true, true, true, true, true, true, true] rfl rfl (by kernel_rfl) (by decide) (fun K hK => ?_)
  have z0_ := (blk_cell hz_ 0).trans (rfl : _ = some (.slice none 0 0 : Value))
  have z1_ := (blk_cell hz_ 1).trans (rfl : _ = some (.slice none 0 0 : Value))
  have z2_ := (blk_cell hz_ 2).trans (rfl : _ = some (.int .i64 0 : Value))
  have z3_ := (blk_cell hz_ 3).trans (rfl : _ = some (.int .i64 0 : Value))
  have k0_ := blk_frozen hz_ 0
  have k1_ := blk_frozen hz_ 1
  have k2_ := blk_frozen hz_ 2
  have k3_ := blk_frozen hz_ 3
  refine skip_ (w1 := (((w6.setCell ⟨gz, 0, none⟩ (.slice A5 m5 c5)).setCell ⟨gz, 1, none⟩ (.slice (some ⟨gm, 0, none⟩) l0.length l0.length)).setCell ⟨gz, 2, none⟩ (.int .i64 q.2.at_)).setCell ⟨gz, 3, none⟩ (.int .i64 q.2.err)) (by rfl) rfl (by go_simp; done) ?_
  clear z0_ z1_ z2_ z3_ k0_ k1_ k2_ k3_
  refine hK.out _ _ ?_
  clear hK K
  refine done_ (by kernel_rfl) ?_

  generalize hw_ : (((w6.setCell ⟨gz, 0, none⟩ (.slice A5 m5 c5)).setCell ⟨gz, 1, none⟩ (.slice (some ⟨gm, 0, none⟩) l0.length l0.length)).setCell ⟨gz, 2, none⟩ (.int .i64 q.2.at_)).setCell ⟨gz, 3, none⟩ (.int .i64 q.2.err) = w7
  obtain ⟨r_, b_, z_⟩ := fin4 hr_ hb_ hz_ lz_ _ _ _ _ hw_
  clear hw_ hr_ hb_ hz_ lz_ B3 HB hmk
  have HR := Aside0.mk r_
  have HB := Aside0.mk b_
  have BZ := Aside0.mk z_
  clear r_ b_ z_
  have x0_ := (blk_cell BZ.out 0).trans (rfl : _ = some (.slice A5 m5 c5 : Value))
  have x3_ := (blk_cell BZ.out 3).trans (rfl : _ = some (.int .i64 q.2.err : Value))
  obtain ⟨⟨b, s⟩, HQS⟩ : ∃ z, Aside0 (q = z) := ⟨_, ⟨rfl⟩⟩
  rw [HQS.out] at HE HT2 HR BZ x3_ ⊢
  simp only at HE HT2 HR BZ x3_ ⊢
  cases b with
  | true =>
    obtain rfl : (s.out, -1, 0) = t := HT2.out
    have he : s.err = 0 := by simpa using HE.out
    have hz : (s.err != 0) = false := by simp [he]
    clear he
    go_wp2
    go_ret3
    exact ⟨_, rfl, HR.out, HB.out⟩
  | false =>
    obtain rfl : ([], s.at_, s.err) = t := HT2.out
    have he : s.err ≠ 0 := by simpa using HE.out
    have hz : (s.err != 0) = true := by simpa using he
    clear he
    go_upto_region 3 with fail
    clear hz x0_ x3_
    refine start_ (n := 7) (S := fun w' => Below w7.heap.size w7 w') (ds := []) #[false, false, false, false, false, false, false] (by kernel_rfl) rfl rfl (below_drew (Below.refl _ _)) (fun hHeld => ?_)
    refine pure_ (i := 0) (N := some 18) (v := ?_) (a' := ?_) #[true, false, false, false, false, false, false] rfl rfl (by kernel_rfl) (fun _ _ _ h => h) (Or.inl ⟨by rfl, ?_⟩) ?_ ?_
    rotate_left
    · intro w'
      go_simp
      with_reducible rfl
    rotate_left
    · simp only [Act.put, List.setIfInBounds_toArray, List.set_cons_zero, List.set_cons_succ, i64_w, i32_w]
      rfl
    refine pure_ (i := 2) (N := some 20) (v := ?_) (a' := ?_) #[true, false, true, false, false, false, false] rfl rfl (by kernel_rfl) (fun _ _ _ h => h) (Or.inl ⟨by rfl, ?_⟩) ?_ ?_
    rotate_left
    · intro w'
      go_simp
      with_reducible rfl
    rotate_left
    · simp only [Act.put, List.setIfInBounds_toArray, List.set_cons_zero, List.set_cons_succ, i64_w, i32_w]
      rfl
    refine pure_ (i := 4) (N := some 4) (v := ?_) (a' := ?_) #[true, false, true, false, true, false, false] rfl rfl (by kernel_rfl) (fun _ _ _ h => h) (Or.inl ⟨by rfl, ?_⟩) ?_ ?_
    rotate_left
    · intro w'
      go_simp
      with_reducible rfl
    rotate_left
    · simp only [Act.put, List.setIfInBounds_toArray, List.set_cons_zero, List.set_cons_succ, i64_w, i32_w]
      rfl
    refine take_ (i := 1) (N := some 19) (v := ?_) (a' := ?_) #[true, true, true, false, true, false, false] rfl rfl (by kernel_rfl) (fun _ _ _ h => h) (Or.inl ⟨by rfl, ?_⟩) hHeld ?_ ?_
    rotate_left
    · intro w' hS
      have c_ := (blk_cell (blk_below BZ.out hS) 2).trans (rfl : _ = some (.int .i64 s.at_ : Value))
      go_simp
      with_reducible rfl
    rotate_left
    · simp only [Act.put, List.setIfInBounds_toArray, List.set_cons_zero, List.set_cons_succ, i64_w, i32_w]
      rfl
    refine pure_ (i := 5) (N := some 5) (v := ?_) (a' := ?_) #[true, true, true, false, true, true, false] rfl rfl (by kernel_rfl) (fun _ _ _ h => h) (Or.inl ⟨by rfl, ?_⟩) ?_ ?_
    rotate_left
    · intro w'
      go_simp
      with_reducible rfl
    rotate_left
    · simp only [Act.put, List.setIfInBounds_toArray, List.set_cons_zero, List.set_cons_succ, i64_w, i32_w]
      rfl
    refine take_ (i := 3) (N := some 21) (v := ?_) (a' := ?_) #[true, true, true, true, true, true, false] rfl rfl (by kernel_rfl) (fun _ _ _ h => h) (Or.inl ⟨by rfl, ?_⟩) hHeld ?_ ?_
    rotate_left
    · intro w' hS
      have c_ := (blk_cell (blk_below BZ.out hS) 3).trans (rfl : _ = some (.int .i64 s.err : Value))
      go_simp
      with_reducible rfl
    rotate_left
    · simp only [Act.put, List.setIfInBounds_toArray, List.set_cons_zero, List.set_cons_succ, i64_w, i32_w]
      rfl
    refine pure_ (i := 6) (N := some 6) (v := ?_) (a' := ?_) #[true, true, true, true, true, true, true] rfl rfl (by kernel_rfl) (fun _ _ _ h => h) (Or.inl ⟨by rfl, ?_⟩) ?_ ?_
    rotate_left
    · intro w'
      go_simp
      with_reducible rfl
    rotate_left
    · simp only [Act.put, List.setIfInBounds_toArray, List.set_cons_zero, List.set_cons_succ, i64_w, i32_w]
      rfl
    refine done_ (by kernel_rfl) ?_

    have HB10 := Aside0.mk (below_drew HB.out)
    go_wp2
    go_ret3
    exact ⟨_, rfl, Kd.R_nil _ _ _ _ _, HB10.out⟩
/-- An expression's numbers are those of its kinds: told in rounds. -/
def wfB : Nat → E → Bool
  | 0, _ => false
  | k + 1, e => decide (-9223372036854775808 ≤ e.f0 ∧ e.f0 ≤ 9223372036854775807) && decide (-9223372036854775808 ≤ e.f1 ∧ e.f1 ≤ 9223372036854775807) && decide (e.f2.length ≤ 9223372036854775807) && e.f2.all (wfB k)
theorem wfB_wf : ∀ (k : Nat) (e : E), wfB k e = true → wfE e := by
  intro k
  induction k with
  | zero => intro e h; cases h
  | succ k ih =>
    rintro ⟨op, n, l⟩ h
    simp only [wfB, Bool.and_eq_true, decide_eq_true_eq, List.all_eq_true] at h
    exact wfE.mk op n l h.1.1.1 h.1.1.2 h.1.2 (fun x hx => ih x (h.2 x hx))
theorem wfB_mono : ∀ (k : Nat) (e : E), wfB k e = true → wfB (k + 1) e = true := by
  intro k
  induction k with
  | zero => intro e h; cases h
  | succ k ih =>
    intro e h
    rw [wfB] at h ⊢
    simp only [Bool.and_eq_true, List.all_eq_true] at h ⊢
    exact ⟨h.1, fun x hx => ih x (h.2 x hx)⟩
theorem wfB_le {k m : Nat} (hk : k ≤ m) {e : E} (h : wfB k e = true) : wfB m e = true := by
  induction m with
  | zero => obtain rfl : k = 0 := by omega
            exact h
  | succ m ih =>
    by_cases hm : k = m + 1
    · subst hm; exact h
    · exact wfB_mono m e (ih (by omega))
theorem all_rounds {p : Nat → E → Bool} (hp : ∀ k m e, k ≤ m → p k e = true → p m e = true) : ∀ l : List E, (∀ x ∈ l, ∃ k, p k x = true) → ∃ k, l.all (p k) = true := by
  intro l
  induction l with
  | nil => intro _; exact ⟨0, rfl⟩
  | cons x l ih =>
    intro h
    obtain ⟨k1, h1⟩ := h x (List.mem_cons_self ..)
    obtain ⟨k2, h2⟩ := ih (fun y hy => h y (List.mem_cons_of_mem _ hy))
    refine ⟨max k1 k2, ?_⟩
    rw [List.all_cons, hp _ _ _ (Nat.le_max_left _ _) h1, Bool.true_and, List.all_eq_true]
    intro y hy
    exact hp _ _ _ (Nat.le_max_right _ _) (List.all_eq_true.1 h2 y hy)
theorem wf_wfB (e : E) (h : wfE e) : ∃ k, wfB k e = true := by
  induction h with
  | mk op n l h1 h2 h3 _ ih =>
    obtain ⟨k, hk⟩ := all_rounds (p := wfB) (fun k m e hk h => wfB_le hk h) l ih
    refine ⟨k + 1, ?_⟩
    rw [wfB]
    simp only [Bool.and_eq_true, decide_eq_true_eq]
    exact ⟨⟨⟨h1, h2⟩, h3⟩, hk⟩
def i64B (n : Int) : Bool := decide (-9223372036854775808 ≤ n ∧ n ≤ 9223372036854775807)
def chainAsk (k : Nat) (l0 : List Vx) (a1_0 a1_1 a1_2 : Int) : Bool := decide (l0.length ≤ 8) && l0.all (fun v => wfB k v.f2) && (i64B a1_0 && i64B a1_1 && i64B a1_2)
theorem chainAsk_is {k : Nat} {l0 : List Vx} {a b c : Int} (h : chainAsk k l0 a b c = true) : l0.length ≤ 8 ∧ (∀ v ∈ l0, wfE v.f2) ∧ recOk ⟨a, b, c⟩ := by
  simp only [chainAsk, i64B, Bool.and_eq_true, decide_eq_true_eq, List.all_eq_true] at h
  exact ⟨h.1.1, fun v hv => wfB_wf k _ (h.1.2 v hv), h.2.1.1, h.2.1.2, h.2.2⟩
theorem chainAsk_le {k m : Nat} (hk : k ≤ m) {l0 : List Vx} {a b c : Int} (h : chainAsk k l0 a b c = true) : chainAsk m l0 a b c = true := by
  simp only [chainAsk, Bool.and_eq_true, List.all_eq_true] at h ⊢
  exact ⟨⟨h.1.1, fun v hv => wfB_le hk (h.1.2 v hv)⟩, h.2⟩
theorem chainAsk_ev {l0 : List Vx} {r : Rc} (h8 : l0.length ≤ 8) (hw : ∀ v ∈ l0, wfE v.f2) (hr : recOk r) : ∃ K, ∀ k, K ≤ k → chainAsk k l0 r.f0 r.f1 r.f2 = true := by
  obtain ⟨K, hK⟩ := all_rounds (p := wfB) (fun k m e hk h => wfB_le hk h) (l0.map (fun v => v.f2)) (fun x hx => by
    obtain ⟨v, hv, rfl⟩ := List.mem_map.1 hx
    exact wf_wfB _ (hw v hv))
  refine ⟨K, fun k hk => chainAsk_le hk ?_⟩
  simp only [chainAsk, i64B, Bool.and_eq_true, decide_eq_true_eq]
  refine ⟨⟨h8, ?_⟩, ⟨hr.1, hr.2.1⟩, hr.2.2⟩
  rw [List.all_map] at hK
  exact hK
/-- The document's chain, where it may be asked here: no more than eight, its expressions and the record as Go has them. -/
def tidemillref17_Chain.f (k : Nat) (l0 : List Vx) (a1_0 a1_1 a1_2 : Int) : Option (List Rc × Int × Int) := if chainAsk k l0 a1_0 a1_1 a1_2 = true then some (chainOf l0 ⟨a1_0, a1_1, a1_2⟩) else none
theorem tidemillref17_Chain.mono (l0 : List Vx) (a1_0 a1_1 a1_2 : Int) (k : Nat) : LeO (tidemillref17_Chain.f k l0 a1_0 a1_1 a1_2) (tidemillref17_Chain.f (k + 1) l0 a1_0 a1_1 a1_2) := by
  intro r h
  unfold tidemillref17_Chain.f at h ⊢
  by_cases h1 : chainAsk k l0 a1_0 a1_1 a1_2 = true
  · rw [if_pos h1] at h
    rw [if_pos (chainAsk_le (Nat.le_succ k) h1)]
    exact h
  · rw [if_neg h1] at h; cases h
theorem tidemillref17_Chain.calls (k : Nat) (A0 : Option Addr) (c0 : Nat) (l0 : List Vx) (a1_0 a1_1 a1_2 : Int) (r1 : List Rc) (r2 r3 : Int) (w : World) (hr0 : Kd.C k27 w A0 l0.length l0) (hc0 : l0.length ≤ c0) (h : tidemillref17_Chain.f k l0 a1_0 a1_1 a1_2 = some (r1, r2, r3)) :
    Calls Try.prog 16 #[.slice A0 l0.length c0, .agg #[.int .i64 a1_0, .int .i64 a1_1, .int .i64 a1_2]] w fun e w' => ∃ v0_ : Value, e = .returned (.tuple #[v0_, .int .i64 r2, .int .i64 r3]) ∧ Kd.R k29 29 w' w.heap.size (fun _ => True) v0_ r1 ∧ Below w.heap.size w w' := by
  unfold tidemillref17_Chain.f at h
  by_cases hA : chainAsk k l0 a1_0 a1_1 a1_2 = true
  · rw [if_pos hA] at h
    have h8 := chainAsk_is hA
    have h1 := Option.some.inj h
    have := refChain_ok A0 c0 l0 ⟨a1_0, a1_1, a1_2⟩ w hr0 hc0 h8.1 h8.2.1 h8.2.2
    rw [h1] at this
    exact this
  · rw [if_neg hA] at h
    cases h
end Go.Proofs.Ythkilejcddgodaa.Ex
