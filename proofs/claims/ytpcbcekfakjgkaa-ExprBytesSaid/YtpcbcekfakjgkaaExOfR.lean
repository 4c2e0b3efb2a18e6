/- (c04) tidemillref04.Of, in the form of the printer's own contracts. -/
import Derived.Test.YtpcbcekfakjgkaaExOf
import Derived.Test.YtpcbcekfakjgkaaExGtR
namespace Go.Proofs.Ytpcbcekfakjgkaa.Ex
open Go Go.RowKit Go.Proofs.Ytpcbcekfakjgkaa.Pk Go.Proofs.YtpcbcekfakjgkaaW.PrintWords Go.Proofs.YtpcbcekfakjgkaaW.PrintLast Go.Proofs.YtpcbcekfakjgkaaW.PrintMore
set_option linter.unusedVariables false
set_option linter.unusedSimpArgs false
def tidemillref04_Of.f (l0 : List Int) : Option (Int × Int × List E × Int) := if bytB l0 = true then some (ofE l0) else none
set_option maxHeartbeats 4000000 in
set_option maxRecDepth 1000000 in
theorem tidemillref04_Of.calls (A0 : Option Addr) (c0 : Nat) (l0 : List Int) (q1 q2 : Int) (q3 : List E) (q4 : Int) (w : World) (hr0 : Kd.C (Kd.int .u8) w A0 l0.length l0) (hc0 : l0.length ≤ c0) (h : tidemillref04_Of.f l0 = some (q1, q2, q3, q4)) :
    Calls Try.prog 24 #[.slice A0 l0.length c0] w fun e w' => ∃ v0_ : Value, e = .returned (.tuple #[.agg #[.int .i64 q1, .int .i64 q2, v0_], .int .i64 q4]) ∧ Kd.R k27 27 w' w.heap.size (fun _ => True) v0_ q3 ∧ Below w.heap.size w w' := by
  unfold tidemillref04_Of.f at h
  by_cases hby : bytB l0 = true
  rotate_left
  · rw [if_neg hby] at h; cases h
  rw [if_pos hby] at h
  have HY := Aside0.mk (bytB_of hby)
  have HQ := Aside0.mk (Option.some.inj h)
  have HC := Aside0.mk hr0
  have HCC := Aside0.mk hc0
  have HB := Aside0.mk (Below.refl w.heap.size w)
  clear h hby hr0 hc0
  go_enter Try.func24, Try.ntmps24
  go_upto_region 1 with fail
  have B2 := Aside0.mk (heap_alloc_new w (.cells #[.int .i64 0, .int .i64 0, .slice none 0 0] 27 (0, 0)))
  have hb_ := below_alloc (Below.refl w.heap.size w) (.cells #[.int .i64 0, .int .i64 0, .slice none 0 0] 27 (0, 0))
  have hs_ : (w.alloc (.cells #[.int .i64 0, .int .i64 0, .slice none 0 0] 27 (0, 0))).heap.size = w.heap.size + 1 := by simp
  generalize w.alloc (.cells #[.int .i64 0, .int .i64 0, .slice none 0 0] 27 (0, 0)) = w1 at B2 hb_ hs_ ⊢
  replace HB := Aside0.mk (below_step HB.out hb_)
  clear hb_
  clear hs_
  obtain ⟨g2, HG2'⟩ : ∃ g, Aside0 (w.heap.size = g) := ⟨_, ⟨rfl⟩⟩
  have HG2 : Aside0 (w.heap.size ≤ g2) := ⟨by rw [HG2'.out]; exact Nat.le_refl _⟩
  rw [HG2'.out] at B2 ⊢
  clear HG2'
  have hg := refget_ok w 16 (by omega) l0 A0 c0 64 w1 (by omega) ⟨HC.out, HCC.out, HY.out.1⟩ HB.out
  rw [show ((16 : Nat) : Int) = 16 from rfl, show ((64 : Nat) : Int) = 64 from rfl] at hg
  have HGT := Aside0.mk hg
  clear hg
  go_wp2_with fail
  refine HGT.out.mono ?_
  rintro e_ w2 ⟨hb_, hp⟩
  clear HGT
  have HG21 := Aside0.mk (blk_lt B2.out)
  have HS1 := Aside0.mk (below_size HB.out)
  replace B2 := Aside0.mk (blk_below B2.out hb_)
  replace HB := Aside0.mk (below_step HB.out hb_)
  clear hb_
  have HL2 := Aside0.mk (blk_lt B2.out)
  cases hge : getE 16 l0 64 with
  | inl er =>
    rw [hge] at hp
    obtain ⟨rfl, hnz⟩ := hp
    have herb : (er != 0) = true := by simpa using hnz
    have HE : Aside0 (ofE l0 = (0, 0, [], er)) := ⟨by unfold ofE; rw [hge]⟩
    clear hge hnz
    go_upto_region 2 with fail
    have B4 := Aside0.mk (heap_alloc_new w2 (.cells #[.int .i64 0, .int .i64 0, .slice none 0 0, .slice none 0 0, .int .i64 0, .int .i64 er] 66 (0, 0)))
    have hb_ := below_alloc (Below.refl w2.heap.size w2) (.cells #[.int .i64 0, .int .i64 0, .slice none 0 0, .slice none 0 0, .int .i64 0, .int .i64 er] 66 (0, 0))
    have hs_ : (w2.alloc (.cells #[.int .i64 0, .int .i64 0, .slice none 0 0, .slice none 0 0, .int .i64 0, .int .i64 er] 66 (0, 0))).heap.size = w2.heap.size + 1 := by simp
    generalize w2.alloc (.cells #[.int .i64 0, .int .i64 0, .slice none 0 0, .slice none 0 0, .int .i64 0, .int .i64 er] 66 (0, 0)) = w3 at B4 hb_ hs_ ⊢
    replace B2 := Aside0.mk (blk_below B2.out hb_)
    replace HB := Aside0.mk (below_step HB.out hb_)
    clear hb_
    clear hs_
    obtain ⟨g4, HG4⟩ : ∃ g, Aside0 (w2.heap.size = g) := ⟨_, ⟨rfl⟩⟩
    rw [HG4.out] at B4 ⊢
    have L4_ : g4 ≠ g2 := by have := HG4.out; have := HL2.out; omega
    have u5_ := (blk_cell B4.out 5).trans (rfl : _ = some (.int .i64 er : Value))
    go_upto_region 3 with fail
    clear u5_ herb
    have r0_ := (blk_cell B2.out 0).trans (rfl : _ = some ((.int .i64 0) : Value))
    have r1_ := (blk_cell B2.out 1).trans (rfl : _ = some ((.int .i64 0) : Value))
    have r2_ := (blk_cell B2.out 2).trans (rfl : _ = some ((.slice none 0 0) : Value))
    have rf0_ := blk_frozen B2.out 0
    have rf1_ := blk_frozen B2.out 1
    have rf2_ := blk_frozen B2.out 2
    refine start_ (n := 5) (S := fun w' => w'.cell? ⟨g4, 5, none⟩ = some (.int .i64 er)) (ds := []) #[false, false, false, false, false] (by kernel_rfl) rfl rfl ((blk_cell B4.out 5).trans rfl) (fun hHeld => ?_)
    refine pure_ (i := 0) (N := some 10) (v := ?_) (a' := ?_) #[true, false, false, false, false] rfl rfl (by kernel_rfl) (fun _ _ _ h => h) (Or.inl ⟨by rfl, ?_⟩) ?_ ?_
    rotate_left
    · intro w'
      go_simp
      with_reducible rfl
    rotate_left
    · simp only [Act.put, List.setIfInBounds_toArray, List.set_cons_zero, List.set_cons_succ, i64_w, i32_w]
      rfl
    refine pure_ (i := 1) (N := some 11) (v := ?_) (a' := ?_) #[true, true, false, false, false] rfl rfl (by kernel_rfl) (fun _ _ _ h => h) (Or.inl ⟨by rfl, ?_⟩) ?_ ?_
    rotate_left
    · intro w'
      go_simp
      with_reducible rfl
    rotate_left
    · simp only [Act.put, List.setIfInBounds_toArray, List.set_cons_zero, List.set_cons_succ, i64_w, i32_w]
      rfl
    refine take_ (i := 2) (N := some 12) (v := ?_) (a' := ?_) #[true, true, true, false, false] rfl rfl (by kernel_rfl) (fun _ _ _ h => h) (Or.inl ⟨by rfl, ?_⟩) hHeld ?_ ?_
    rotate_left
    · intro w' hS
      have c_ := hS
      go_simp
      with_reducible rfl
    rotate_left
    · simp only [Act.put, List.setIfInBounds_toArray, List.set_cons_zero, List.set_cons_succ, i64_w, i32_w]
      rfl
    refine one_ (i := 3) (N := none) #[true, true, true, true, false] rfl rfl (by kernel_rfl) (by simp) (fun K hK => ?_)
    refine skip_ (w1 := (((w3.drew.setCell ⟨g2, 0, none⟩ (.int .i64 0)).setCell ⟨g2, 1, none⟩ (.int .i64 0)).setCell ⟨g2, 2, none⟩ (.slice none 0 0))) (by rfl) rfl (by go_simp; done) ?_
    refine hK.out _ _ ((blk_cell (blk_far (blk_far (blk_far B4.out (p := ⟨g2, 0, none⟩) L4_ _) (p := ⟨g2, 1, none⟩) L4_ _) (p := ⟨g2, 2, none⟩) L4_ _) 5).trans rfl) (fun hHeld => ?_)
    clear hK K
    refine pure_ (i := 4) (N := some 3) (v := ?_) (a' := ?_) #[true, true, true, true, true] rfl rfl (by kernel_rfl) (fun _ _ _ h => h) (Or.inl ⟨by rfl, ?_⟩) ?_ ?_
    rotate_left
    · intro w'
      go_simp
      with_reducible rfl
    rotate_left
    · simp only [Act.put, List.setIfInBounds_toArray, List.set_cons_zero, List.set_cons_succ, i64_w, i32_w]
      rfl
    refine done_ (by kernel_rfl) ?_

    replace HB := Aside0.mk (below_drew HB.out)
    replace B2 : Aside0 (w3.drew.heap[g2]? = some (.cells #[.int .i64 0, .int .i64 0, .slice none 0 0] 27 (0, 0))) := ⟨B2.out⟩
    clear hHeld L4_
    skip
    skip
    have BZ := blk_put (blk_set (blk_set B2.out 0 (.int .i64 0)) 1 (.int .i64 0)) 2 (.slice none 0 0) (rfl : _ = (#[.int .i64 0, .int .i64 0, .slice none 0 0] : Array Value))
    have hgz := grown_two (grown_two (grown_set w3.drew g2 0 (.int .i64 0)) (grown_set _ g2 1 (.int .i64 0))) (grown_set _ g2 2 (.slice none 0 0))
    clear r0_ r1_ r2_ rf0_ rf1_ rf2_
    generalize (((w3.drew.setCell ⟨g2, 0, none⟩ (.int .i64 0)).setCell ⟨g2, 1, none⟩ (.int .i64 0)).setCell ⟨g2, 2, none⟩ (.slice none 0 0)) = wz at BZ hgz ⊢
    have r0_ := (blk_cell BZ 0).trans (rfl : _ = some ((.int .i64 0) : Value))
    have r1_ := (blk_cell BZ 1).trans (rfl : _ = some ((.int .i64 0) : Value))
    have r2_ := (blk_cell BZ 2).trans (rfl : _ = some ((.slice none 0 0) : Value))
    go_wp2
    refine bodyPost_ret (v := .tuple #[.agg #[.int .i64 0, .int .i64 0, .slice none 0 0], .int .i64 er]) (by simp [results, Try.results24, go_sem, r0_, r1_, r2_]) rfl ?_
    have h1 := HQ.out.symm.trans (HE.out)
    injection h1 with e1 h1
    injection h1 with e2 h1
    injection h1 with e3 e4
    subst e1 e2 e3 e4
    exact ⟨_, rfl, Kd.R_nil _ _ _ _ _, HB.out.grown hgz (below_size HB.out) (fun k hk => by injection hk with hk; have := HG2.out; omega)⟩
  | inr q =>
    obtain ⟨x, r, l1⟩ := q
    rw [hge] at hp
    obtain ⟨v3, A9, c9, rfl, hv, hw, hcr, _⟩ := hp
    obtain ⟨A3, c3, rfl⟩ := Kd.R_slice hv
    have HV := Aside0.mk hv
    clear hv hw hcr
    go_upto_region 2 with fail
    have B4 := Aside0.mk (heap_alloc_new w2 (.cells #[.int .i64 x.f0, .int .i64 x.f1, .slice A3 x.f2.length c3, .slice A9 r.length c9, .int .i64 (l1 : Int), .int .i64 0] 66 (0, 0)))
    have hb_ := below_alloc (Below.refl w2.heap.size w2) (.cells #[.int .i64 x.f0, .int .i64 x.f1, .slice A3 x.f2.length c3, .slice A9 r.length c9, .int .i64 (l1 : Int), .int .i64 0] 66 (0, 0))
    have hs_ : (w2.alloc (.cells #[.int .i64 x.f0, .int .i64 x.f1, .slice A3 x.f2.length c3, .slice A9 r.length c9, .int .i64 (l1 : Int), .int .i64 0] 66 (0, 0))).heap.size = w2.heap.size + 1 := by simp
    generalize w2.alloc (.cells #[.int .i64 x.f0, .int .i64 x.f1, .slice A3 x.f2.length c3, .slice A9 r.length c9, .int .i64 (l1 : Int), .int .i64 0] 66 (0, 0)) = w3 at B4 hb_ hs_ ⊢
    replace B2 := Aside0.mk (blk_below B2.out hb_)
    replace HB := Aside0.mk (below_step HB.out hb_)
    replace HV := Aside0.mk (Kd.R_below HV.out hb_)
    clear hb_
    clear hs_
    obtain ⟨g4, HG4⟩ : ∃ g, Aside0 (w2.heap.size = g) := ⟨_, ⟨rfl⟩⟩
    rw [HG4.out] at B4 ⊢
    have u5_ := (blk_cell B4.out 5).trans (rfl : _ = some (.int .i64 0 : Value))
    have u3_ := (blk_cell B4.out 3).trans (rfl : _ = some (.slice A9 r.length c9 : Value))
    by_cases hrl : 0 < r.length
    · have h1 : ((r.length : Int) != 0) = true := by simpa using (show ¬ ((r.length : Int) = 0) by omega)
      have h1b : (r.length != 0) = true := by simpa using (show ¬ (r.length = 0) by omega)
      have HE : Aside0 (ofE l0 = (0, 0, [], 5)) := ⟨by unfold ofE; rw [hge]; simp only; rw [if_pos hrl]⟩
      clear hge hrl
      have r0_ := (blk_cell B2.out 0).trans (rfl : _ = some ((.int .i64 0) : Value))
      have r1_ := (blk_cell B2.out 1).trans (rfl : _ = some ((.int .i64 0) : Value))
      have r2_ := (blk_cell B2.out 2).trans (rfl : _ = some ((.slice none 0 0) : Value))
      have rf0_ := blk_frozen B2.out 0
      have rf1_ := blk_frozen B2.out 1
      have rf2_ := blk_frozen B2.out 2
      go_wp2_with fail
      have BZ := blk_put (blk_set (blk_set B2.out 0 (.int .i64 0)) 1 (.int .i64 0)) 2 (.slice none 0 0) (rfl : _ = (#[.int .i64 0, .int .i64 0, .slice none 0 0] : Array Value))
      have hgz := grown_two (grown_two (grown_set w3 g2 0 (.int .i64 0)) (grown_set _ g2 1 (.int .i64 0))) (grown_set _ g2 2 (.slice none 0 0))
      clear r0_ r1_ r2_ rf0_ rf1_ rf2_
      generalize (((w3.setCell ⟨g2, 0, none⟩ (.int .i64 0)).setCell ⟨g2, 1, none⟩ (.int .i64 0)).setCell ⟨g2, 2, none⟩ (.slice none 0 0)) = wz at BZ hgz ⊢
      have r0_ := (blk_cell BZ 0).trans (rfl : _ = some ((.int .i64 0) : Value))
      have r1_ := (blk_cell BZ 1).trans (rfl : _ = some ((.int .i64 0) : Value))
      have r2_ := (blk_cell BZ 2).trans (rfl : _ = some ((.slice none 0 0) : Value))
      refine bodyPost_ret (v := .tuple #[.agg #[.int .i64 0, .int .i64 0, .slice none 0 0], .int .i64 5]) (by simp [results, Try.results24, go_sem, r0_, r1_, r2_]) rfl ?_
      have h1 := HQ.out.symm.trans (HE.out)
      injection h1 with e1 h1
      injection h1 with e2 h1
      injection h1 with e3 e4
      subst e1 e2 e3 e4
      exact ⟨_, rfl, Kd.R_nil _ _ _ _ _, HB.out.grown hgz (below_size HB.out) (fun k hk => by injection hk with hk; have := HG2.out; omega)⟩
    · have h0 : r.length = 0 := by omega
      have h1 : ((r.length : Int) != 0) = false := by rw [h0]; rfl
      have h1b : (r.length != 0) = false := by rw [h0]; rfl
      have HE : Aside0 (ofE l0 = (x.f0, x.f1, x.f2, 0)) := ⟨by unfold ofE; rw [hge]; simp only; rw [if_neg hrl]⟩
      clear hge hrl h0
      have x0_ := (blk_cell B4.out 0).trans (rfl : _ = some (.int .i64 x.f0 : Value))
      have x1_ := (blk_cell B4.out 1).trans (rfl : _ = some (.int .i64 x.f1 : Value))
      have x2_ := (blk_cell B4.out 2).trans (rfl : _ = some (.slice A3 x.f2.length c3 : Value))
      have r0_ := (blk_cell B2.out 0).trans (rfl : _ = some ((.int .i64 0) : Value))
      have r1_ := (blk_cell B2.out 1).trans (rfl : _ = some ((.int .i64 0) : Value))
      have r2_ := (blk_cell B2.out 2).trans (rfl : _ = some ((.slice none 0 0) : Value))
      have rf0_ := blk_frozen B2.out 0
      have rf1_ := blk_frozen B2.out 1
      have rf2_ := blk_frozen B2.out 2
      go_wp2_with fail
      have BZ := blk_put (blk_set (blk_set B2.out 0 (.int .i64 x.f0)) 1 (.int .i64 x.f1)) 2 (.slice A3 x.f2.length c3) (rfl : _ = (#[.int .i64 x.f0, .int .i64 x.f1, .slice A3 x.f2.length c3] : Array Value))
      have hgz := grown_two (grown_two (grown_set w3 g2 0 (.int .i64 x.f0)) (grown_set _ g2 1 (.int .i64 x.f1))) (grown_set _ g2 2 (.slice A3 x.f2.length c3))
      clear r0_ r1_ r2_ rf0_ rf1_ rf2_
      generalize (((w3.setCell ⟨g2, 0, none⟩ (.int .i64 x.f0)).setCell ⟨g2, 1, none⟩ (.int .i64 x.f1)).setCell ⟨g2, 2, none⟩ (.slice A3 x.f2.length c3)) = wz at BZ hgz ⊢
      have r0_ := (blk_cell BZ 0).trans (rfl : _ = some ((.int .i64 x.f0) : Value))
      have r1_ := (blk_cell BZ 1).trans (rfl : _ = some ((.int .i64 x.f1) : Value))
      have r2_ := (blk_cell BZ 2).trans (rfl : _ = some ((.slice A3 x.f2.length c3) : Value))
      refine bodyPost_ret (v := .tuple #[.agg #[.int .i64 x.f0, .int .i64 x.f1, .slice A3 x.f2.length c3], .int .i64 0]) (by simp [results, Try.results24, go_sem, r0_, r1_, r2_]) rfl ?_
      have h1 := HQ.out.symm.trans (HE.out)
      injection h1 with e1 h1
      injection h1 with e2 h1
      injection h1 with e3 e4
      subst e1 e2 e3 e4
      exact ⟨_, rfl, Kd.R_lower (Kd.R_mono (Kd.R_grown (Kd.R_bound HV.out) hgz (fun j hj he => by injection he with he; have := hj.2.1; have := HG21.out; omega)) (fun _ _ => trivial)) HS1.out, HB.out.grown hgz (below_size HB.out) (fun k hk => by injection hk with hk; have := HG2.out; omega)⟩

end Go.Proofs.Ytpcbcekfakjgkaa.Ex
