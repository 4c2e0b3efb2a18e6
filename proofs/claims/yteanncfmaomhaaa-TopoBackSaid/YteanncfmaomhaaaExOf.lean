/- (c04) expr.Of, in the form of the printer's own contracts. -/
import Derived.Test.YteanncfmaomhaaaExGt
namespace Go.Proofs.Yteanncfmaomhaaa.Ex
open Go Go.RowKit Go.Proofs.Yteanncfmaomhaaa.Pk Go.Proofs.YteanncfmaomhaaaW.PrintWords Go.Proofs.YteanncfmaomhaaaW.PrintLast Go.Proofs.YteanncfmaomhaaaW.PrintMore
set_option linter.unusedVariables false
set_option linter.unusedSimpArgs false
def ofE (xs : List Int) : Int × Int × List E × Int := match getE 16 xs 64 with
  | .inl e => (0, 0, [], e)
  | .inr (x, r, _) => if 0 < r.length then (0, 0, [], 5) else (x.f0, x.f1, x.f2, 0)
def bytB (l : List Int) : Bool := l.all (fun x => decide (0 ≤ x) && decide (x < 256)) && decide (l.length < 140737488355328)
theorem bytB_of {l : List Int} (h : bytB l = true) : Byt l ∧ l.length < 140737488355328 := by
  unfold bytB at h
  rw [Bool.and_eq_true, List.all_eq_true, decide_eq_true_eq] at h
  refine ⟨fun x hx => ?_, h.2⟩
  have := h.1 x hx
  simp only [Bool.and_eq_true, decide_eq_true_eq] at this
  exact this
theorem bytB_mk {l : List Int} (h : Byt l) (hl : l.length < 140737488355328) : bytB l = true := by
  unfold bytB
  rw [Bool.and_eq_true, List.all_eq_true, decide_eq_true_eq]
  refine ⟨fun x hx => ?_, hl⟩
  have := h x hx
  simp only [Bool.and_eq_true, decide_eq_true_eq]
  exact this
def expr_Of.f (l0 : List Int) : Option (Int × Int × List E × Int) := if bytB l0 = true then some (ofE l0) else none
/-- What the reader's call leaves of memory that is older than reader and count. -/
theorem GK.old {w w1 w2 : World} {b bl : Nat} (h : Below w.heap.size w w1) (hk : GK w1 w2 b bl) (hb : w.heap.size ≤ b) (hl : w.heap.size ≤ bl) : Below w.heap.size w w2 :=
  ⟨hk.os.trans h.os, hk.tape.trans h.tape, hk.output.trans h.output, Nat.le_trans h.size hk.size, fun k hlt => (hk.block k (Nat.lt_of_lt_of_le hlt h.size) (by omega) (by omega)).trans (h.block k hlt)⟩
set_option maxHeartbeats 4000000 in
set_option maxRecDepth 1000000 in
theorem expr_Of.calls (A0 : Option Addr) (c0 : Nat) (l0 : List Int) (q1 q2 : Int) (q3 : List E) (q4 : Int) (w : World) (hr0 : Kd.C (Kd.int .u8) w A0 l0.length l0) (hc0 : l0.length ≤ c0) (h : expr_Of.f l0 = some (q1, q2, q3, q4)) :
    Calls Try.prog 45 #[.slice A0 l0.length c0] w fun e w' => ∃ v0_ : Value, e = .returned (.tuple #[.agg #[.int .i64 q1, .int .i64 q2, v0_], .int .i64 q4]) ∧ Kd.R k38 38 w' w.heap.size (fun _ => True) v0_ q3 ∧ Below w.heap.size w w' := by
  unfold expr_Of.f at h
  by_cases hby : bytB l0 = true
  rotate_left
  · rw [if_neg hby] at h; cases h
  rw [if_pos hby] at h
  have HY := Aside0.mk (bytB_of hby)
  have HQ := Aside0.mk (Option.some.inj h)
  have HC := Aside0.mk hr0
  have HB := Aside0.mk (Below.refl w.heap.size w)
  clear h hby hr0 hc0
  go_enter Try.func45, Try.ntmps45
  go_upto_region 1 with fail
  have B2 := Aside0.mk (heap_alloc_new w (.cells #[.int .i64 0, .int .i64 0, .slice none 0 0] 38 (0, 0)))
  have hb_ := below_alloc (Below.refl w.heap.size w) (.cells #[.int .i64 0, .int .i64 0, .slice none 0 0] 38 (0, 0))
  have hs_ : (w.alloc (.cells #[.int .i64 0, .int .i64 0, .slice none 0 0] 38 (0, 0))).heap.size = w.heap.size + 1 := by simp
  generalize w.alloc (.cells #[.int .i64 0, .int .i64 0, .slice none 0 0] 38 (0, 0)) = w1 at B2 hb_ hs_ ⊢
  replace HB := Aside0.mk (below_step HB.out hb_)
  clear hb_
  clear hs_
  obtain ⟨g2, HG2'⟩ : ∃ g, Aside0 (w.heap.size = g) := ⟨_, ⟨rfl⟩⟩
  have HG2 : Aside0 (w.heap.size ≤ g2) := ⟨by rw [HG2'.out]; exact Nat.le_refl _⟩
  rw [HG2'.out] at B2 ⊢
  clear HG2'
  have BKW := B2
  go_wp2_with fail
  refine (from_any A0 c0 l0 w1 (Kd.C_below HC.out HB.out) HY.out.2 HY.out.1).mono ?_
  rintro e_ w2 ⟨b, rfl, hr_, hb_⟩
  have HR := Aside0.mk hr_
  have HBB : Aside0 (w.heap.size ≤ b) := ⟨by have := hr_.1; have := below_size HB.out; omega⟩
  replace B2 := Aside0.mk (blk_below B2.out hb_)
  replace HB := Aside0.mk (below_step HB.out hb_)
  have HNB : Aside0 (g2 ≠ b) := ⟨by have h1 := hr_.1; have h2 := blk_lt BKW.out; omega⟩
  have HOLD : Aside0 (b < w2.heap.size ∧ g2 < w2.heap.size ∧ w.heap.size ≤ w2.heap.size) := ⟨⟨hr_.lt, blk_lt B2.out, below_size HB.out⟩⟩
  clear hr_ hb_ BKW
  go_upto_region 3 with fail
  have BL := Aside0.mk (heap_alloc_new w2 (.cells #[.int .i64 64] 3 (0, 0)))
  have hb_ := below_alloc (Below.refl w2.heap.size w2) (.cells #[.int .i64 64] 3 (0, 0))
  have hs_ : (w2.alloc (.cells #[.int .i64 64] 3 (0, 0))).heap.size = w2.heap.size + 1 := by simp
  generalize w2.alloc (.cells #[.int .i64 64] 3 (0, 0)) = w3 at BL hb_ hs_ ⊢
  replace B2 := Aside0.mk (blk_below B2.out hb_)
  replace HB := Aside0.mk (below_step HB.out hb_)
  replace HR := Aside0.mk (HR.out.below hb_)
  clear hb_
  clear hs_
  obtain ⟨bl, HBL'⟩ : ∃ g, Aside0 (w2.heap.size = g) := ⟨_, ⟨rfl⟩⟩
  rw [HBL'.out] at BL ⊢
  have HLC : Aside0 (LC w3 bl 64) := ⟨BL.out⟩
  have HBL : Aside0 (w.heap.size ≤ bl ∧ b ≠ bl ∧ g2 ≠ bl) := ⟨by have h1 := HBL'.out; have h2 := HOLD.out; omega⟩
  clear BL HBL' HOLD
  have hg := get_ok w1.heap.size b bl 16 (by omega) l0 64 w3 (by omega) HR.out HLC.out HBL.out.2.1
  rw [show ((16 : Nat) : Int) = 16 from rfl] at hg
  have HGT := Aside0.mk hg
  clear hg HR HLC
  go_wp2_with fail
  refine HGT.out.mono ?_
  rintro e_ w4 ⟨hk, hp⟩
  clear HGT
  have HG3 := Aside0.mk (blk_lt B2.out)
  replace B2 := Aside0.mk ((hk.block g2 (blk_lt B2.out) HNB.out HBL.out.2.2).trans B2.out)
  have HS3 := Aside0.mk (below_size HB.out)
  have HG2L : Aside0 (g2 < w3.heap.size) := ⟨HG3.out⟩
  replace HB := Aside0.mk (GK.old HB.out hk HBB.out HBL.out.1)
  have HSZ := Aside0.mk (below_size HB.out)
  clear hk
  cases hge : getE 16 l0 64 with
  | inl er =>
    rw [hge] at hp
    obtain ⟨rfl, hnz⟩ := hp
    have herb : (er == 0) = false := beq_eq_false_iff_ne.2 hnz
    have herb2 : (er != 0) = true := by simpa using hnz
    have HE : Aside0 (ofE l0 = (0, 0, [], er)) := ⟨by unfold ofE; rw [hge]⟩
    clear hge hnz
    go_upto_region 4 with fail
    have B6 := Aside0.mk (heap_alloc_new w4 (.cells #[.int .i64 0, .int .i64 0, .slice none 0 0] 38 (0, 0)))
    have hb_ := below_alloc (Below.refl w4.heap.size w4) (.cells #[.int .i64 0, .int .i64 0, .slice none 0 0] 38 (0, 0))
    have hs_ : (w4.alloc (.cells #[.int .i64 0, .int .i64 0, .slice none 0 0] 38 (0, 0))).heap.size = w4.heap.size + 1 := by simp
    generalize w4.alloc (.cells #[.int .i64 0, .int .i64 0, .slice none 0 0] 38 (0, 0)) = w5 at B6 hb_ hs_ ⊢
    replace B2 := Aside0.mk (blk_below B2.out hb_)
    replace HB := Aside0.mk (below_step HB.out hb_)
    clear hb_
    clear hs_
    replace HSZ := Aside0.mk (below_size HB.out)
    have r0_ := (blk_cell B2.out 0).trans (rfl : _ = some ((.int .i64 0) : Value))
    have r1_ := (blk_cell B2.out 1).trans (rfl : _ = some ((.int .i64 0) : Value))
    have r2_ := (blk_cell B2.out 2).trans (rfl : _ = some ((.slice none 0 0) : Value))
    have rf0_ := blk_frozen B2.out 0
    have rf1_ := blk_frozen B2.out 1
    have rf2_ := blk_frozen B2.out 2
    go_wp2_with fail
    have BZ := blk_put (blk_set (blk_set B2.out 0 (.int .i64 0)) 1 (.int .i64 0)) 2 (.slice none 0 0) (rfl : _ = (#[.int .i64 0, .int .i64 0, .slice none 0 0] : Array Value))
    have hgz : w5.grownBy (((w5.setCell ⟨g2, 0, none⟩ (.int .i64 0)).setCell ⟨g2, 1, none⟩ (.int .i64 0)).setCell ⟨g2, 2, none⟩ (.slice none 0 0)) (some g2) := ⟨rfl, rfl, rfl, by simp, fun k hk hne => ((grown_set _ g2 2 (.slice none 0 0)).block k (by simpa using hk) hne).trans (((grown_set _ g2 1 (.int .i64 0)).block k (by simpa using hk) hne).trans ((grown_set w5 g2 0 (.int .i64 0)).block k hk hne))⟩
    clear r0_ r1_ r2_ rf0_ rf1_ rf2_
    generalize (((w5.setCell ⟨g2, 0, none⟩ (.int .i64 0)).setCell ⟨g2, 1, none⟩ (.int .i64 0)).setCell ⟨g2, 2, none⟩ (.slice none 0 0)) = wz at BZ hgz ⊢
    have r0_ := (blk_cell BZ 0).trans (rfl : _ = some ((.int .i64 0) : Value))
    have r1_ := (blk_cell BZ 1).trans (rfl : _ = some ((.int .i64 0) : Value))
    have r2_ := (blk_cell BZ 2).trans (rfl : _ = some ((.slice none 0 0) : Value))
    refine bodyPost_ret (v := .tuple #[.agg #[.int .i64 0, .int .i64 0, .slice none 0 0], .int .i64 er]) (by simp [results, Try.results45, go_sem, r0_, r1_, r2_]) rfl ?_
    have h1 := HQ.out.symm.trans (HE.out)
    injection h1 with e1 h1
    injection h1 with e2 h1
    injection h1 with e3 e4
    subst e1 e2 e3 e4
    exact ⟨_, rfl, Kd.R_nil _ _ _ _ _, HB.out.grown hgz HSZ.out (fun k hk => by injection hk with hk; have := HG2.out; omega)⟩
  | inr q =>
    obtain ⟨x, r, l1⟩ := q
    rw [hge] at hp
    obtain ⟨v3, rfl, hv, hw, hr, hl, _⟩ := hp
    obtain ⟨A3, c3, rfl⟩ := Kd.R_slice hv
    have HV := Aside0.mk hv
    have HR := Aside0.mk hr
    clear hv hw hr hl
    go_upto_region 4 with fail
    have B6 := Aside0.mk (heap_alloc_new w4 (.cells #[.int .i64 x.f0, .int .i64 x.f1, .slice A3 x.f2.length c3] 38 (0, 0)))
    have hb_ := below_alloc (Below.refl w4.heap.size w4) (.cells #[.int .i64 x.f0, .int .i64 x.f1, .slice A3 x.f2.length c3] 38 (0, 0))
    have hs_ : (w4.alloc (.cells #[.int .i64 x.f0, .int .i64 x.f1, .slice A3 x.f2.length c3] 38 (0, 0))).heap.size = w4.heap.size + 1 := by simp
    generalize w4.alloc (.cells #[.int .i64 x.f0, .int .i64 x.f1, .slice A3 x.f2.length c3] 38 (0, 0)) = w5 at B6 hb_ hs_ ⊢
    replace B2 := Aside0.mk (blk_below B2.out hb_)
    replace HB := Aside0.mk (below_step HB.out hb_)
    replace HR := Aside0.mk (HR.out.below hb_)
    replace HV := Aside0.mk (Kd.R_below HV.out hb_)
    clear hb_
    clear hs_
    replace HSZ := Aside0.mk (below_size HB.out)
    obtain ⟨g6, HG6⟩ : ∃ g, Aside0 (w4.heap.size = g) := ⟨_, ⟨rfl⟩⟩
    rw [HG6.out] at B6 ⊢
    go_wp2_with fail
    refine (left_some b r w1.heap.size w5 HR.out).mono ?_
    rintro e_ w6 ⟨rfl, rfl⟩
    by_cases hrl : 0 < r.length
    · have h1 : decide ((r.length : Int) > 0) = true := decide_eq_true (by omega)
      have h1b : decide ((0 : Int) < (r.length : Int)) = true := decide_eq_true (by omega)
      have h1c : decide (0 < r.length) = true := decide_eq_true hrl
      have HE : Aside0 (ofE l0 = (0, 0, [], 5)) := ⟨by unfold ofE; rw [hge]; simp only; rw [if_pos hrl]⟩
      clear hge hrl
      have r0_ := (blk_cell B2.out 0).trans (rfl : _ = some ((.int .i64 0) : Value))
      have r1_ := (blk_cell B2.out 1).trans (rfl : _ = some ((.int .i64 0) : Value))
      have r2_ := (blk_cell B2.out 2).trans (rfl : _ = some ((.slice none 0 0) : Value))
      have rf0_ := blk_frozen B2.out 0
      have rf1_ := blk_frozen B2.out 1
      have rf2_ := blk_frozen B2.out 2
      go_wp2_with fail
      have BZ := blk_put (blk_set (blk_set B2.out 0 (.int .i64 0)) 1 (.int .i64 0)) 2 (.slice none 0 0) (rfl : _ = (#[.int .i64 0, .int .i64 0, .slice none 0 0] : Array Value))
      have hgz : w5.grownBy (((w5.setCell ⟨g2, 0, none⟩ (.int .i64 0)).setCell ⟨g2, 1, none⟩ (.int .i64 0)).setCell ⟨g2, 2, none⟩ (.slice none 0 0)) (some g2) := ⟨rfl, rfl, rfl, by simp, fun k hk hne => ((grown_set _ g2 2 (.slice none 0 0)).block k (by simpa using hk) hne).trans (((grown_set _ g2 1 (.int .i64 0)).block k (by simpa using hk) hne).trans ((grown_set w5 g2 0 (.int .i64 0)).block k hk hne))⟩
      clear r0_ r1_ r2_ rf0_ rf1_ rf2_
      generalize (((w5.setCell ⟨g2, 0, none⟩ (.int .i64 0)).setCell ⟨g2, 1, none⟩ (.int .i64 0)).setCell ⟨g2, 2, none⟩ (.slice none 0 0)) = wz at BZ hgz ⊢
      have r0_ := (blk_cell BZ 0).trans (rfl : _ = some ((.int .i64 0) : Value))
      have r1_ := (blk_cell BZ 1).trans (rfl : _ = some ((.int .i64 0) : Value))
      have r2_ := (blk_cell BZ 2).trans (rfl : _ = some ((.slice none 0 0) : Value))
      refine bodyPost_ret (v := .tuple #[.agg #[.int .i64 0, .int .i64 0, .slice none 0 0], .int .i64 5]) (by simp [results, Try.results45, go_sem, r0_, r1_, r2_]) rfl ?_
      have h1 := HQ.out.symm.trans (HE.out)
      injection h1 with e1 h1
      injection h1 with e2 h1
      injection h1 with e3 e4
      subst e1 e2 e3 e4
      exact ⟨_, rfl, Kd.R_nil _ _ _ _ _, HB.out.grown hgz HSZ.out (fun k hk => by injection hk with hk; have := HG2.out; omega)⟩
    · have h1 : decide ((r.length : Int) > 0) = false := decide_eq_false (by omega)
      have h1b : decide ((0 : Int) < (r.length : Int)) = false := decide_eq_false (by omega)
      have h1c : decide (0 < r.length) = false := decide_eq_false hrl
      have HE : Aside0 (ofE l0 = (x.f0, x.f1, x.f2, 0)) := ⟨by unfold ofE; rw [hge]; simp only; rw [if_neg hrl]⟩
      clear hge hrl
      have x0_ := (blk_cell B6.out 0).trans (rfl : _ = some (.int .i64 x.f0 : Value))
      have x1_ := (blk_cell B6.out 1).trans (rfl : _ = some (.int .i64 x.f1 : Value))
      have x2_ := (blk_cell B6.out 2).trans (rfl : _ = some (.slice A3 x.f2.length c3 : Value))
      have r0_ := (blk_cell B2.out 0).trans (rfl : _ = some ((.int .i64 0) : Value))
      have r1_ := (blk_cell B2.out 1).trans (rfl : _ = some ((.int .i64 0) : Value))
      have r2_ := (blk_cell B2.out 2).trans (rfl : _ = some ((.slice none 0 0) : Value))
      have rf0_ := blk_frozen B2.out 0
      have rf1_ := blk_frozen B2.out 1
      have rf2_ := blk_frozen B2.out 2
      go_wp2_with fail
      have BZ := blk_put (blk_set (blk_set B2.out 0 (.int .i64 x.f0)) 1 (.int .i64 x.f1)) 2 (.slice A3 x.f2.length c3) (rfl : _ = (#[.int .i64 x.f0, .int .i64 x.f1, .slice A3 x.f2.length c3] : Array Value))
      have hgz : w5.grownBy (((w5.setCell ⟨g2, 0, none⟩ (.int .i64 x.f0)).setCell ⟨g2, 1, none⟩ (.int .i64 x.f1)).setCell ⟨g2, 2, none⟩ (.slice A3 x.f2.length c3)) (some g2) := ⟨rfl, rfl, rfl, by simp, fun k hk hne => ((grown_set _ g2 2 (.slice A3 x.f2.length c3)).block k (by simpa using hk) hne).trans (((grown_set _ g2 1 (.int .i64 x.f1)).block k (by simpa using hk) hne).trans ((grown_set w5 g2 0 (.int .i64 x.f0)).block k hk hne))⟩
      clear r0_ r1_ r2_ rf0_ rf1_ rf2_
      generalize (((w5.setCell ⟨g2, 0, none⟩ (.int .i64 x.f0)).setCell ⟨g2, 1, none⟩ (.int .i64 x.f1)).setCell ⟨g2, 2, none⟩ (.slice A3 x.f2.length c3)) = wz at BZ hgz ⊢
      have r0_ := (blk_cell BZ 0).trans (rfl : _ = some ((.int .i64 x.f0) : Value))
      have r1_ := (blk_cell BZ 1).trans (rfl : _ = some ((.int .i64 x.f1) : Value))
      have r2_ := (blk_cell BZ 2).trans (rfl : _ = some ((.slice A3 x.f2.length c3) : Value))
      refine bodyPost_ret (v := .tuple #[.agg #[.int .i64 x.f0, .int .i64 x.f1, .slice A3 x.f2.length c3], .int .i64 0]) (by simp [results, Try.results45, go_sem, r0_, r1_, r2_]) rfl ?_
      have h1 := HQ.out.symm.trans (HE.out)
      injection h1 with e1 h1
      injection h1 with e2 h1
      injection h1 with e3 e4
      subst e1 e2 e3 e4
      exact ⟨_, rfl, Kd.R_lower (Kd.R_mono (Kd.R_grown (Kd.R_bound HV.out) hgz (fun j hj he => by injection he with he; have := hj.2.1; have := HG2L.out; omega)) (fun _ _ => trivial)) HS3.out, HB.out.grown hgz HSZ.out (fun k hk => by injection hk with hk; have := HG2.out; omega)⟩

end Go.Proofs.Yteanncfmaomhaaa.Ex
