/- (c04) The document's own reader of expressions (tidemillref04.Get). -/
import Derived.Test.YtpcbcekfakjgkaaExGt
import Derived.Test.YtpcbcekfakjgkaaRcRd
import Derived.Test.YtpcbcekfakjgkaaEx4
namespace Go.Proofs.Ytpcbcekfakjgkaa.Ex
open Go Go.RowKit Go.Proofs.Ytpcbcekfakjgkaa.Pk Go.Proofs.YtpcbcekfakjgkaaW.PrintWords Go.Proofs.YtpcbcekfakjgkaaW.PrintLast Go.Proofs.YtpcbcekfakjgkaaW.PrintMore
set_option linter.unusedVariables false
set_option linter.unusedSimpArgs false
theorem grown_two {w w1 w2 : World} {g : Nat} (h : w.grownBy w1 (some g)) (h2 : w1.grownBy w2 (some g)) : w.grownBy w2 (some g) :=
  ⟨h2.os.trans h.os, h2.tape.trans h.tape, h2.output.trans h.output, Nat.le_trans h.size h2.size, fun k hk hne => (h2.block k (Nat.lt_of_lt_of_le hk h.size) hne).trans (h.block k hk hne)⟩
def RGPost (w0 w : World) (R : GotE) (e : Ending) (w' : World) : Prop :=
  Below w.heap.size w w' ∧ match R with
    | .inl er => e = .returned (.agg #[.int .i64 0, .int .i64 0, .slice none 0 0, .slice none 0 0, .int .i64 0, .int .i64 er]) ∧ er ≠ 0
    | .inr (x, r, l1) => ∃ v A2 c2, e = .returned (.agg #[.int .i64 x.f0, .int .i64 x.f1, v, .slice A2 r.length c2, .int .i64 (l1 : Int), .int .i64 0]) ∧ Kd.R k27 27 w' w.heap.size (fun _ => True) v x.f2 ∧ wfE x ∧ ((Kd.int .u8).C w0 A2 r.length r ∧ r.length ≤ c2 ∧ Byt r) ∧ l1 ≤ 64
theorem RGPost.bad {w0 w w' : World} {R : GotE} {er : Int} (h : R = .inl er) (hk : Below w.heap.size w w') (hn : er ≠ 0) : RGPost w0 w R (.returned (.agg #[.int .i64 0, .int .i64 0, .slice none 0 0, .slice none 0 0, .int .i64 0, .int .i64 er])) w' := by
  subst h
  exact ⟨hk, rfl, hn⟩
theorem RGPost.good {w0 w w' : World} {R : GotE} {x : E} {r : List Int} {l1 : Nat} (h : R = .inr (x, r, l1)) (hk : Below w.heap.size w w') (v : Value) (A2 : Option Addr) (c2 : Nat) {e : Ending} (he : e = .returned (.agg #[.int .i64 x.f0, .int .i64 x.f1, v, .slice A2 r.length c2, .int .i64 (l1 : Int), .int .i64 0]))
    (hz : Kd.R k27 27 w' w.heap.size (fun _ => True) v x.f2) (hw : wfE x) (hr : (Kd.int .u8).C w0 A2 r.length r ∧ r.length ≤ c2 ∧ Byt r) (h64 : l1 ≤ 64) : RGPost w0 w R e w' := by
  subst h
  exact ⟨hk, v, A2, c2, he, hz, hw, hr, h64⟩
theorem refKids_f (a : Int) : tidemillref04_Kids.f a = some (kidsOf a) := by
  unfold tidemillref04_Kids.f kidsOf
  by_cases h1 : a ≤ 5
  · rw [if_pos h1, if_pos h1]
  rw [if_neg h1, if_neg h1]
  by_cases h2 : a = 14
  · rw [if_pos h2, if_neg (by omega), if_pos h2]
  rw [if_neg h2]
  by_cases h3 : a = 13
  · rw [if_pos h3, if_pos h3]
  · rw [if_neg h3, if_neg h3, if_neg h2]
set_option maxHeartbeats 4000000 in
set_option maxRecDepth 1000000 in
theorem refget_ok (w0 : World) : ∀ d : Nat, d ≤ 16 → ∀ (xs : List Int) (A0 : Option Addr) (c0 lf : Nat) (w : World), lf ≤ 64 → (Kd.int .u8).C w0 A0 xs.length xs ∧ xs.length ≤ c0 ∧ Byt xs → Below w0.heap.size w0 w →
    Calls Try.prog 36 #[.slice A0 xs.length c0, .int .i64 (d : Int), .int .i64 (lf : Int)] w (RGPost w0 w (getE d xs lf)) := by
  intro d
  induction d with
  | zero =>
    intro _ xs A0 c0 lf w hlf hr hb
    have HB := Aside0.mk (Below.refl w.heap.size w)
    clear hr hb
    go_enter Try.func36, Try.ntmps36
    go_upto_region 1 with fail
    have B6 := Aside0.mk (heap_alloc_new w (.cells #[.int .i64 0, .int .i64 0, .slice none 0 0, .slice none 0 0, .int .i64 0, .int .i64 0] 66 (0, 0)))
    have hb_ := below_alloc (Below.refl w.heap.size w) (.cells #[.int .i64 0, .int .i64 0, .slice none 0 0, .slice none 0 0, .int .i64 0, .int .i64 0] 66 (0, 0))
    have hs_ : (w.alloc (.cells #[.int .i64 0, .int .i64 0, .slice none 0 0, .slice none 0 0, .int .i64 0, .int .i64 0] 66 (0, 0))).heap.size = w.heap.size + 1 := by simp
    generalize w.alloc (.cells #[.int .i64 0, .int .i64 0, .slice none 0 0, .slice none 0 0, .int .i64 0, .int .i64 0] 66 (0, 0)) = w1 at B6 hb_ hs_ ⊢
    replace HB := Aside0.mk (below_step HB.out hb_)
    clear hb_
    clear hs_
    obtain ⟨g6, HG6'⟩ : ∃ g, Aside0 (w.heap.size = g) := ⟨_, ⟨rfl⟩⟩
    have HG6 : Aside0 (w.heap.size ≤ g6) := ⟨by rw [HG6'.out]; exact Nat.le_refl _⟩
    rw [HG6'.out] at B6 ⊢
    clear HG6'
    have r0_ := (blk_cell B6.out 0).trans (rfl : _ = some ((.int .i64 0) : Value))
    have r1_ := (blk_cell B6.out 1).trans (rfl : _ = some ((.int .i64 0) : Value))
    have r2_ := (blk_cell B6.out 2).trans (rfl : _ = some ((.slice none 0 0) : Value))
    have r3_ := (blk_cell B6.out 3).trans (rfl : _ = some ((.slice none 0 0) : Value))
    have r4_ := (blk_cell B6.out 4).trans (rfl : _ = some ((.int .i64 0) : Value))
    have r5_ := (blk_cell B6.out 5).trans (rfl : _ = some ((.int .i64 0) : Value))
    have rf0_ := blk_frozen B6.out 0
    have rf1_ := blk_frozen B6.out 1
    have rf2_ := blk_frozen B6.out 2
    have rf3_ := blk_frozen B6.out 3
    have rf4_ := blk_frozen B6.out 4
    have rf5_ := blk_frozen B6.out 5
    go_wp2_with fail
    have BZ := blk_put (blk_set (blk_set (blk_set (blk_set (blk_set B6.out 0 (.int .i64 0)) 1 (.int .i64 0)) 2 (.slice none 0 0)) 3 (.slice none 0 0)) 4 (.int .i64 0)) 5 (.int .i64 11) (rfl : _ = (#[.int .i64 0, .int .i64 0, .slice none 0 0, .slice none 0 0, .int .i64 0, .int .i64 11] : Array Value))
    have hgz := (grown_two (grown_two (grown_two (grown_two (grown_two (grown_set w1 g6 0 (.int .i64 0)) (grown_set _ g6 1 (.int .i64 0))) (grown_set _ g6 2 (.slice none 0 0))) (grown_set _ g6 3 (.slice none 0 0))) (grown_set _ g6 4 (.int .i64 0))) (grown_set _ g6 5 (.int .i64 11)))
    clear r0_ rf0_ r1_ rf1_ r2_ rf2_ r3_ rf3_ r4_ rf4_ r5_ rf5_
    generalize ((((((w1.setCell ⟨g6, 0, none⟩ (.int .i64 0)).setCell ⟨g6, 1, none⟩ (.int .i64 0)).setCell ⟨g6, 2, none⟩ (.slice none 0 0)).setCell ⟨g6, 3, none⟩ (.slice none 0 0)).setCell ⟨g6, 4, none⟩ (.int .i64 0)).setCell ⟨g6, 5, none⟩ (.int .i64 11)) = wz at BZ hgz ⊢
    have r0_ := (blk_cell BZ 0).trans (rfl : _ = some ((.int .i64 0) : Value))
    have r1_ := (blk_cell BZ 1).trans (rfl : _ = some ((.int .i64 0) : Value))
    have r2_ := (blk_cell BZ 2).trans (rfl : _ = some ((.slice none 0 0) : Value))
    have r3_ := (blk_cell BZ 3).trans (rfl : _ = some ((.slice none 0 0) : Value))
    have r4_ := (blk_cell BZ 4).trans (rfl : _ = some ((.int .i64 0) : Value))
    have r5_ := (blk_cell BZ 5).trans (rfl : _ = some ((.int .i64 11) : Value))
    refine bodyPost_ret (v := .agg #[.int .i64 0, .int .i64 0, .slice none 0 0, .slice none 0 0, .int .i64 0, .int .i64 11]) (by simp [results, Try.results36, go_sem, r0_, r1_, r2_, r3_, r4_, r5_]) rfl ?_
    exact RGPost.bad (rfl) (HB.out.grown hgz (below_size HB.out) (fun k hk => by injection hk with hk; have := HG6.out; omega)) (by decide)

  | succ d ih =>
    intro hd xs A0 c0 lf w hlf hr hb
    have HB := Aside0.mk (Below.refl w.heap.size w)
    have HB0 := Aside0.mk hb
    have HR := Aside0.mk hr
    have IH := Aside0.mk (ih (by omega))
    obtain ⟨D, HD⟩ : ∃ D : Int, Aside0 (((d + 1 : Nat) : Int) = D) := ⟨_, ⟨rfl⟩⟩
    have hD : 1 ≤ D ∧ D ≤ 16 ∧ D - 1 = (d : Int) := by have := HD.out; omega
    rw [HD.out]
    clear hr hb ih
    go_enter Try.func36, Try.ntmps36
    go_upto_region 1 with fail
    have B6 := Aside0.mk (heap_alloc_new w (.cells #[.int .i64 0, .int .i64 0, .slice none 0 0, .slice none 0 0, .int .i64 0, .int .i64 0] 66 (0, 0)))
    have hb_ := below_alloc (Below.refl w.heap.size w) (.cells #[.int .i64 0, .int .i64 0, .slice none 0 0, .slice none 0 0, .int .i64 0, .int .i64 0] 66 (0, 0))
    have hs_ : (w.alloc (.cells #[.int .i64 0, .int .i64 0, .slice none 0 0, .slice none 0 0, .int .i64 0, .int .i64 0] 66 (0, 0))).heap.size = w.heap.size + 1 := by simp
    generalize w.alloc (.cells #[.int .i64 0, .int .i64 0, .slice none 0 0, .slice none 0 0, .int .i64 0, .int .i64 0] 66 (0, 0)) = w1 at B6 hb_ hs_ ⊢
    replace HB := Aside0.mk (below_step HB.out hb_)
    clear hb_
    clear hs_
    obtain ⟨g6, HG6'⟩ : ∃ g, Aside0 (w.heap.size = g) := ⟨_, ⟨rfl⟩⟩
    have HG6 : Aside0 (w.heap.size ≤ g6) := ⟨by rw [HG6'.out]; exact Nat.le_refl _⟩
    rw [HG6'.out] at B6 ⊢
    clear HG6'
    have hd0 : (D == 0) = false := beq_eq_false_iff_ne.2 (by omega)
    by_cases h0 : lf = 0
    · have hl0 : ((lf : Int) == 0) = true := by simp [h0]
      have hl0b : (lf == 0) = true := by simp [h0]
      have HGE : Aside0 (getE (d + 1) xs lf = .inl 11) := ⟨by rw [h0, get_zero]⟩
      clear h0
      have r0_ := (blk_cell B6.out 0).trans (rfl : _ = some ((.int .i64 0) : Value))
      have r1_ := (blk_cell B6.out 1).trans (rfl : _ = some ((.int .i64 0) : Value))
      have r2_ := (blk_cell B6.out 2).trans (rfl : _ = some ((.slice none 0 0) : Value))
      have r3_ := (blk_cell B6.out 3).trans (rfl : _ = some ((.slice none 0 0) : Value))
      have r4_ := (blk_cell B6.out 4).trans (rfl : _ = some ((.int .i64 0) : Value))
      have r5_ := (blk_cell B6.out 5).trans (rfl : _ = some ((.int .i64 0) : Value))
      have rf0_ := blk_frozen B6.out 0
      have rf1_ := blk_frozen B6.out 1
      have rf2_ := blk_frozen B6.out 2
      have rf3_ := blk_frozen B6.out 3
      have rf4_ := blk_frozen B6.out 4
      have rf5_ := blk_frozen B6.out 5
      go_wp2_with fail
      have BZ := blk_put (blk_set (blk_set (blk_set (blk_set (blk_set B6.out 0 (.int .i64 0)) 1 (.int .i64 0)) 2 (.slice none 0 0)) 3 (.slice none 0 0)) 4 (.int .i64 0)) 5 (.int .i64 11) (rfl : _ = (#[.int .i64 0, .int .i64 0, .slice none 0 0, .slice none 0 0, .int .i64 0, .int .i64 11] : Array Value))
      have hgz := (grown_two (grown_two (grown_two (grown_two (grown_two (grown_set w1 g6 0 (.int .i64 0)) (grown_set _ g6 1 (.int .i64 0))) (grown_set _ g6 2 (.slice none 0 0))) (grown_set _ g6 3 (.slice none 0 0))) (grown_set _ g6 4 (.int .i64 0))) (grown_set _ g6 5 (.int .i64 11)))
      clear r0_ rf0_ r1_ rf1_ r2_ rf2_ r3_ rf3_ r4_ rf4_ r5_ rf5_
      generalize ((((((w1.setCell ⟨g6, 0, none⟩ (.int .i64 0)).setCell ⟨g6, 1, none⟩ (.int .i64 0)).setCell ⟨g6, 2, none⟩ (.slice none 0 0)).setCell ⟨g6, 3, none⟩ (.slice none 0 0)).setCell ⟨g6, 4, none⟩ (.int .i64 0)).setCell ⟨g6, 5, none⟩ (.int .i64 11)) = wz at BZ hgz ⊢
      have r0_ := (blk_cell BZ 0).trans (rfl : _ = some ((.int .i64 0) : Value))
      have r1_ := (blk_cell BZ 1).trans (rfl : _ = some ((.int .i64 0) : Value))
      have r2_ := (blk_cell BZ 2).trans (rfl : _ = some ((.slice none 0 0) : Value))
      have r3_ := (blk_cell BZ 3).trans (rfl : _ = some ((.slice none 0 0) : Value))
      have r4_ := (blk_cell BZ 4).trans (rfl : _ = some ((.int .i64 0) : Value))
      have r5_ := (blk_cell BZ 5).trans (rfl : _ = some ((.int .i64 11) : Value))
      refine bodyPost_ret (v := .agg #[.int .i64 0, .int .i64 0, .slice none 0 0, .slice none 0 0, .int .i64 0, .int .i64 11]) (by simp [results, Try.results36, go_sem, r0_, r1_, r2_, r3_, r4_, r5_]) rfl ?_
      exact RGPost.bad (HGE.out) (HB.out.grown hgz (below_size HB.out) (fun k hk => by injection hk with hk; have := HG6.out; omega)) (by decide)
    have hl0 : ((lf : Int) == 0) = false := beq_eq_false_iff_ne.2 (by omega)
    have hl0b : (lf == 0) = false := beq_eq_false_iff_ne.2 h0
    have H0 := Aside0.mk h0
    go_upto_region 3 with fail
    clear hl0 hl0b
    go_wp2_with fail
    refine (refuint w0 A0 c0 xs w1 HR.out.1 HR.out.2.1 HR.out.2.2 (below_step HB0.out HB.out)).mono ?_
    rintro e_ w2 ⟨A1, c1, he1, hC1, hc1, hb_⟩
    obtain ⟨n, HN⟩ : ∃ n, Aside0 ((rdU xs).1 = n) := ⟨_, ⟨rfl⟩⟩
    obtain ⟨er, HER⟩ : ∃ n, Aside0 ((rdU xs).2.1 = n) := ⟨_, ⟨rfl⟩⟩
    obtain ⟨r1, HR1⟩ : ∃ n, Aside0 ((rdU xs).2.2 = n) := ⟨_, ⟨rfl⟩⟩
    have HRG := Aside0.mk (rdU_range HR.out.2.2)
    have HY1 := Aside0.mk (rdU_byt HR.out.2.2)
    rw [HN.out, HER.out, HR1.out] at he1
    rw [HR1.out] at hC1 hc1 HY1
    rw [HN.out] at HRG
    subst he1
    have HC1 := Aside0.mk hC1
    have HCC1 := Aside0.mk hc1
    replace B6 := Aside0.mk (blk_below B6.out hb_)
    replace HB := Aside0.mk (below_step HB.out hb_)
    clear hC1 hc1 hb_
    go_upto_region 4 with fail
    have B7 := Aside0.mk (heap_alloc_new w2 (.cells #[.int .u64 n, .slice A1 r1.length c1, .int .i64 er] 82 (0, 0)))
    have hb_ := below_alloc (Below.refl w2.heap.size w2) (.cells #[.int .u64 n, .slice A1 r1.length c1, .int .i64 er] 82 (0, 0))
    have hs_ : (w2.alloc (.cells #[.int .u64 n, .slice A1 r1.length c1, .int .i64 er] 82 (0, 0))).heap.size = w2.heap.size + 1 := by simp
    generalize w2.alloc (.cells #[.int .u64 n, .slice A1 r1.length c1, .int .i64 er] 82 (0, 0)) = w3 at B7 hb_ hs_ ⊢
    replace B6 := Aside0.mk (blk_below B6.out hb_)
    replace HB := Aside0.mk (below_step HB.out hb_)
    clear hb_
    clear hs_
    obtain ⟨g7, HG7⟩ : ∃ g, Aside0 (w2.heap.size = g) := ⟨_, ⟨rfl⟩⟩
    rw [HG7.out] at B7 ⊢
    have y0_ := (blk_cell B7.out 0).trans (rfl : _ = some (.int .u64 n : Value))
    have y1_ := (blk_cell B7.out 1).trans (rfl : _ = some (.slice A1 r1.length c1 : Value))
    have y2_ := (blk_cell B7.out 2).trans (rfl : _ = some (.int .i64 er : Value))
    have HSW3 := Aside0.mk (below_size HB.out)
    have HL6 := Aside0.mk (blk_lt B6.out)
    by_cases her : er = 0
    · have herb : (er != 0) = false := by simpa using her
      by_cases hin : 1 ≤ n ∧ n ≤ 16
      · have hi1 : decide (n < 1) = false := decide_eq_false (by omega)
        have hi2 : decide (n > 16) = false := decide_eq_false (by omega)
        have hw64 : wrap64 n = n := by unfold wrap64; omega
        have hwl : wrap64 ((lf : Int) - 1) = (lf : Int) - 1 := by unfold wrap64; omega
        go_upto_region 9 with fail
        clear y0_ y1_ y2_ hi1 hi2 hw64 hwl
        have B8 := Aside0.mk (heap_alloc_new w3 (.cells #[.int .i64 n, .int .i64 0, .slice none 0 0, .slice A1 r1.length c1, .int .i64 ((lf : Int) - 1), .int .i64 0] 66 (0, 0)))
        have hb_ := below_alloc (Below.refl w3.heap.size w3) (.cells #[.int .i64 n, .int .i64 0, .slice none 0 0, .slice A1 r1.length c1, .int .i64 ((lf : Int) - 1), .int .i64 0] 66 (0, 0))
        have hs_ : (w3.alloc (.cells #[.int .i64 n, .int .i64 0, .slice none 0 0, .slice A1 r1.length c1, .int .i64 ((lf : Int) - 1), .int .i64 0] 66 (0, 0))).heap.size = w3.heap.size + 1 := by simp
        generalize w3.alloc (.cells #[.int .i64 n, .int .i64 0, .slice none 0 0, .slice A1 r1.length c1, .int .i64 ((lf : Int) - 1), .int .i64 0] 66 (0, 0)) = w4 at B8 hb_ hs_ ⊢
        replace B6 := Aside0.mk (blk_below B6.out hb_)
        replace HB := Aside0.mk (below_step HB.out hb_)
        clear hb_
        clear hs_ B7
        obtain ⟨g8, HG8'⟩ : ∃ g, Aside0 (w3.heap.size = g) := ⟨_, ⟨rfl⟩⟩
        rw [HG8'.out] at B8 ⊢
        rw [show ((lf : Int) - 1) = ((lf - 1 : Nat) : Int) by omega] at B8
        have HG8 : Aside0 (w.heap.size ≤ g8) := ⟨by rw [← HG8'.out]; exact HSW3.out⟩
        have HN8 : Aside0 (g6 ≠ g8) := ⟨by have := HG8'.out; have := HL6.out; omega⟩
        clear HG8'
        have HI1 : Aside0 (I64 n) := ⟨by unfold I64; omega⟩
        have x0_ := (blk_cell B8.out 0).trans (rfl : _ = some (.int .i64 n : Value))
        by_cases hn1 : n = 1
        · have hn1b : (n == 1) = true := by simpa using hn1
          have HN1 := Aside0.mk hn1
          clear hn1
          have x3_ := (blk_cell B8.out 3).trans (rfl : _ = some (.slice A1 r1.length c1 : Value))
          go_wp2_with fail
          refine (refuint w0 A1 c1 r1 w4 HC1.out HCC1.out HY1.out (below_step HB0.out HB.out)).mono ?_
          rintro e_ w5 ⟨A5, c5, he1, hC5, hc5, hb_⟩
          obtain ⟨n2, HN2⟩ : ∃ n, Aside0 ((rdU r1).1 = n) := ⟨_, ⟨rfl⟩⟩
          obtain ⟨er2, HER2⟩ : ∃ n, Aside0 ((rdU r1).2.1 = n) := ⟨_, ⟨rfl⟩⟩
          obtain ⟨r0, HR0⟩ : ∃ n, Aside0 ((rdU r1).2.2 = n) := ⟨_, ⟨rfl⟩⟩
          have HRG2 := Aside0.mk (rdU_range HY1.out)
          have HY5 := Aside0.mk (rdU_byt HY1.out)
          rw [HN2.out, HER2.out, HR0.out] at he1
          rw [HR0.out] at hC5 hc5 HY5
          rw [HN2.out] at HRG2
          subst he1
          have HCX : Aside0 ((Kd.int .u8).C w0 A5 r0.length r0 ∧ r0.length ≤ c5 ∧ Byt r0) := ⟨⟨hC5, hc5, HY5.out⟩⟩
          have HL8 := Aside0.mk (blk_lt B8.out)
          have HB45 := Aside0.mk hb_.size
          replace B6 := Aside0.mk (blk_below B6.out hb_)
          replace B8 := Aside0.mk (blk_below B8.out hb_)
          replace HB := Aside0.mk (below_step HB.out hb_)
          clear hC5 hc5 hb_ x0_ x3_
          go_upto_region 11 with fail
          have B9 := Aside0.mk (heap_alloc_new w5 (.cells #[.int .u64 n2, .slice A5 r0.length c5, .int .i64 er2] 82 (0, 0)))
          have hb_ := below_alloc (Below.refl w5.heap.size w5) (.cells #[.int .u64 n2, .slice A5 r0.length c5, .int .i64 er2] 82 (0, 0))
          have hs_ : (w5.alloc (.cells #[.int .u64 n2, .slice A5 r0.length c5, .int .i64 er2] 82 (0, 0))).heap.size = w5.heap.size + 1 := by simp
          generalize w5.alloc (.cells #[.int .u64 n2, .slice A5 r0.length c5, .int .i64 er2] 82 (0, 0)) = w6 at B9 hb_ hs_ ⊢
          replace B6 := Aside0.mk (blk_below B6.out hb_)
          replace B8 := Aside0.mk (blk_below B8.out hb_)
          replace HB := Aside0.mk (below_step HB.out hb_)
          clear hb_
          clear hs_
          obtain ⟨g9, HG9⟩ : ∃ g, Aside0 (w5.heap.size = g) := ⟨_, ⟨rfl⟩⟩
          have HN9 : Aside0 (g8 ≠ g9) := ⟨by have h1 := HG9.out; have h2 := HL8.out; have h3 := HB45.out; omega⟩
          rw [HG9.out] at B9 ⊢
          clear HG9
          have y0_ := (blk_cell B9.out 0).trans (rfl : _ = some (.int .u64 n2 : Value))
          have y1_ := (blk_cell B9.out 1).trans (rfl : _ = some (.slice A5 r0.length c5 : Value))
          have y2_ := (blk_cell B9.out 2).trans (rfl : _ = some (.int .i64 er2 : Value))
          by_cases her2 : er2 = 0
          · have herb2 : (er2 != 0) = false := by simpa using her2
            go_wp2_with fail
            refine (signed_any n2 _ HRG2.out.1 HRG2.out.2).mono ?_
            rintro e_ w7 ⟨rfl, hb_⟩
            obtain ⟨N, HNV⟩ : ∃ N, Aside0 (sgn n2 = N) := ⟨_, ⟨rfl⟩⟩
            rw [HNV.out]
            have HI2 : Aside0 (I64 N) := ⟨by rw [← HNV.out]; exact sgn_range HRG2.out.1 HRG2.out.2⟩
            clear y0_ y1_ y2_
            replace B6 := Aside0.mk (blk_below B6.out hb_)
            replace B8 := Aside0.mk (blk_below B8.out hb_)
            replace B9 := Aside0.mk (blk_below B9.out hb_)
            replace HB := Aside0.mk (below_step HB.out hb_)
            clear hb_
            have z1_ := (blk_cell B8.out 1).trans (rfl : _ = some (.int .i64 0 : Value))
            have zf1_ := blk_frozen B8.out 1
            go_upto_region 14 with fail
            clear z1_ zf1_
            have n8 := HN8.out
            have n9 := HN9.out
            have g8w := HG8.out
            have hset := grown_set w7 g8 1 (.int .i64 N)
            have hbx := blk_put B8.out 1 (.int .i64 N) (rfl : _ = (#[.int .i64 n, .int .i64 N, .slice none 0 0, .slice A1 r1.length c1, .int .i64 ((lf - 1 : Nat) : Int), .int .i64 0] : Array Value))
            replace B6 := Aside0.mk (blk_grown B6.out hset (by intro h; injection h with h; omega))
            replace B9 := Aside0.mk (blk_grown B9.out hset (by intro h; injection h with h; omega))
            replace HB := Aside0.mk (HB.out.grown hset (below_size HB.out) (fun j hj => by injection hj with hj; omega))
            replace B8 := Aside0.mk hbx
            clear hset hbx
            generalize w7.setCell ⟨g8, 1, none⟩ (.int .i64 N) = w8 at B6 B8 B9 HB ⊢
            have z3_ := (blk_cell B8.out 3).trans (rfl : _ = some (.slice A1 r1.length c1 : Value))
            have zf3_ := blk_frozen B8.out 3
            have y1_ := (blk_cell B9.out 1).trans (rfl : _ = some (.slice A5 r0.length c5 : Value))
            go_upto_region 15 with fail
            clear z3_ zf3_ y1_
            have hset := grown_set w8 g8 3 (.slice A5 r0.length c5)
            have hbx := blk_put B8.out 3 (.slice A5 r0.length c5) (rfl : _ = (#[.int .i64 n, .int .i64 N, .slice none 0 0, .slice A5 r0.length c5, .int .i64 ((lf - 1 : Nat) : Int), .int .i64 0] : Array Value))
            replace B6 := Aside0.mk (blk_grown B6.out hset (by intro h; injection h with h; omega))
            replace HB := Aside0.mk (HB.out.grown hset (below_size HB.out) (fun j hj => by injection hj with hj; omega))
            replace B8 := Aside0.mk hbx
            clear hset hbx n8 n9 g8w B9
            generalize w8.setCell ⟨g8, 3, none⟩ (.slice A5 r0.length c5) = w9 at B6 B8 HB ⊢
            have HHD : Aside0 (headE xs = .inr (n, N, r0)) := ⟨by
              rw [← HNV.out, ← HN2.out, ← HR0.out, HN1.out, ← HR1.out]
              exact head_con (by rw [HER.out]; exact her) (by rw [HN.out]; exact HN1.out) (by rw [HR1.out, HER2.out]; exact her2)⟩
            clear her2 hn1b
            obtain ⟨K, HK⟩ : ∃ K, Aside0 ((kidsOf n).toNat = K) := ⟨_, ⟨rfl⟩⟩
            have HKI : Aside0 (kidsOf n = (K : Int)) := ⟨by rw [← HK.out]; have := kidsOf_nonneg n; omega⟩
            have hK3 : K ≤ 3 := by have := HKI.out; have := kidsOf_most n; omega
            obtain ⟨R, HRD⟩ : ∃ R, Aside0 (kidsE (getE d) K r0 (lf - 1) = R) := ⟨_, ⟨rfl⟩⟩
            have x0_ := (blk_cell B8.out 0).trans (rfl : _ = some (.int .i64 n : Value))
            go_wp2_with fail
            refine (tidemillref04_Kids.calls n (K : Int) _ (by rw [refKids_f, HKI.out])).mono ?_
            rintro e_ w6 ⟨rfl, hd_⟩
            have hb_ := hd_.below
            clear x0_ hd_
            replace B6 := Aside0.mk (blk_below B6.out hb_)
            replace B8 := Aside0.mk (blk_below B8.out hb_)
            replace HB := Aside0.mk (below_step HB.out hb_)
            clear hb_
            obtain ⟨lo, HLO⟩ : ∃ lo, Aside0 (w6.heap.size = lo) := ⟨_, ⟨rfl⟩⟩
            have HLOW : Aside0 (g6 < lo ∧ g8 < lo ∧ w.heap.size ≤ lo ∧ w.heap.size ≤ g8) := ⟨by
              have h1 := blk_lt B6.out
              have h2 := blk_lt B8.out
              have h3 := below_size HB.out
              have h5 := HLO.out
              have h6 := HG8.out
              omega⟩
            go_wp2_with fail
            go_loopw [11] (fun v11 wr => ∃ (i : Nat) (acc : List E) (xi : List Int) (li : Nat) (A2 : Option Addr) (c2 : Nat) (A7 : Option Addr) (c7 : Nat), i ≤ K ∧ v11 = .int .i64 (i : Int) ∧ Aside0 (wr.heap[g6]? = some (.cells #[.int .i64 0, .int .i64 0, .slice none 0 0, .slice none 0 0, .int .i64 0, .int .i64 0] 66 (0, 0))) ∧ Aside0 (wr.heap[g8]? = some (.cells #[.int .i64 n, .int .i64 N, .slice A2 acc.length c2, .slice A7 xi.length c7, .int .i64 (li : Int), .int .i64 0] 66 (0, 0))) ∧ Aside0 (Below w.heap.size w wr) ∧ Aside0 ((Kd.int .u8).C w0 A7 xi.length xi ∧ xi.length ≤ c7 ∧ Byt xi) ∧ Aside0 (lo ≤ wr.heap.size ∧ Kd.R k27 27 wr lo (fun _ => True) (.slice A2 acc.length c2) acc ∧ ∀ x ∈ acc, wfE x) ∧ Aside0 (li ≤ 64 ∧ acc.length = i ∧ R = ahead acc (kidsE (getE d) (K - i) xi li))) (fun v11 _ => K - (intOf v11).toNat)
            case atStart => exact ⟨0, [], r0, lf - 1, none, 0, A5, c5, by omega, rfl, B6, B8, HB, HCX, ⟨⟨by rw [HLO.out]; exact Nat.le_refl _, Kd.R_nil _ _ _ _ _, fun x hx => (List.not_mem_nil hx).elim⟩⟩, ⟨⟨by omega, rfl, by rw [Nat.sub_zero, ahead_nil]; exact HRD.out.symm⟩⟩⟩
            case round =>
              clear B6 B8 HB HCX HLO
              obtain ⟨i, acc, xi, li, A2, c2, A7, c7, hi, rfl, B6, B8, HB, HCX, HROW, HST⟩ := hrel
              by_cases hlt : i < K
              · have h4 : decide ((i : Int) < (K : Int)) = true := by simp; omega
                have h4b : decide (i < K) = true := by simp; omega
                have hD1 := hD.2.2
                have x3_ := (blk_cell B8.out 3).trans (rfl : _ = some (.slice A7 xi.length c7 : Value))
                have x4_ := (blk_cell B8.out 4).trans (rfl : _ = some (.int .i64 (li : Int) : Value))
                go_wp2_with fail
                refine (IH.out xi A7 c7 li wr HST.out.1 HCX.out (below_step HB0.out HB.out)).mono ?_
                rintro e_ w7 ⟨hb_, hp⟩
                clear h4 h4b x3_ x4_
                obtain ⟨S, HS⟩ : ∃ S, Aside0 (wr.heap.size = S) := ⟨_, ⟨rfl⟩⟩
                have HSL : Aside0 (lo ≤ S) := ⟨by rw [← HS.out]; exact HROW.out.1⟩
                have HBQ : Aside0 (∀ j, (Value.slice A2 acc.length c2).ownBlock = some j → lo ≤ j ∧ j < S) := ⟨fun j hj => by have h := (Kd.R_bound HROW.out.2.1).1 j hj; rw [HS.out] at h; exact ⟨h.2.1, h.2.2.1⟩⟩
                replace B6 := Aside0.mk (blk_below B6.out hb_)
                replace B8 := Aside0.mk (blk_below B8.out hb_)
                replace HB := Aside0.mk (below_step HB.out hb_)
                have hrow7 := Kd.R_below HROW.out.2.1 hb_
                replace HROW : Aside0 (lo ≤ w7.heap.size ∧ Kd.R k27 27 w7 lo (fun _ => True) (.slice A2 acc.length c2) acc ∧ ∀ x ∈ acc, wfE x) := ⟨⟨Nat.le_trans HROW.out.1 hb_.size, hrow7, HROW.out.2.2⟩⟩
                have HSZ7 : Aside0 (S ≤ w7.heap.size) := ⟨by rw [← HS.out]; exact hb_.size⟩
                rw [HS.out] at hp
                clear hrow7 hb_ HS HCX wr
                cases hg : getE d xi li with
                | inl er2 =>
                  rw [hg] at hp
                  obtain ⟨rfl, hnz⟩ := hp
                  have herb2 : (er2 != 0) = true := by simpa using hnz
                  have HGE : Aside0 (getE (d + 1) xs lf = .inl er2) := ⟨by
                    refine get_kids H0.out HHD.out ?_
                    rw [HK.out, HRD.out, HST.out.2.2, show K - i = K - i - 1 + 1 by omega]
                    exact kids_bad hg⟩
                  have HNZ := Aside0.mk hnz
                  clear hnz hg
                  go_upto_region 20 with fail
                  have B12 := Aside0.mk (heap_alloc_new w7 (.cells #[.int .i64 0, .int .i64 0, .slice none 0 0, .slice none 0 0, .int .i64 0, .int .i64 er2] 66 (0, 0)))
                  have hb_ := below_alloc (Below.refl w7.heap.size w7) (.cells #[.int .i64 0, .int .i64 0, .slice none 0 0, .slice none 0 0, .int .i64 0, .int .i64 er2] 66 (0, 0))
                  have hs_ : (w7.alloc (.cells #[.int .i64 0, .int .i64 0, .slice none 0 0, .slice none 0 0, .int .i64 0, .int .i64 er2] 66 (0, 0))).heap.size = w7.heap.size + 1 := by simp
                  generalize w7.alloc (.cells #[.int .i64 0, .int .i64 0, .slice none 0 0, .slice none 0 0, .int .i64 0, .int .i64 er2] 66 (0, 0)) = w8 at B12 hb_ hs_ ⊢
                  replace B6 := Aside0.mk (blk_below B6.out hb_)
                  replace HB := Aside0.mk (below_step HB.out hb_)
                  clear hb_
                  clear hs_
                  obtain ⟨g12, HG12⟩ : ∃ g, Aside0 (w7.heap.size = g) := ⟨_, ⟨rfl⟩⟩
                  rw [HG12.out] at B12 ⊢
                  have u5_ := (blk_cell B12.out 5).trans (rfl : _ = some (.int .i64 er2 : Value))
                  have r0_ := (blk_cell B6.out 0).trans (rfl : _ = some ((.int .i64 0) : Value))
                  have r1_ := (blk_cell B6.out 1).trans (rfl : _ = some ((.int .i64 0) : Value))
                  have r2_ := (blk_cell B6.out 2).trans (rfl : _ = some ((.slice none 0 0) : Value))
                  have r3_ := (blk_cell B6.out 3).trans (rfl : _ = some ((.slice none 0 0) : Value))
                  have r4_ := (blk_cell B6.out 4).trans (rfl : _ = some ((.int .i64 0) : Value))
                  have r5_ := (blk_cell B6.out 5).trans (rfl : _ = some ((.int .i64 0) : Value))
                  have rf0_ := blk_frozen B6.out 0
                  have rf1_ := blk_frozen B6.out 1
                  have rf2_ := blk_frozen B6.out 2
                  have rf3_ := blk_frozen B6.out 3
                  have rf4_ := blk_frozen B6.out 4
                  have rf5_ := blk_frozen B6.out 5
                  go_wp2_with fail
                  have BZ := blk_put (blk_set (blk_set (blk_set (blk_set (blk_set B6.out 0 (.int .i64 0)) 1 (.int .i64 0)) 2 (.slice none 0 0)) 3 (.slice none 0 0)) 4 (.int .i64 0)) 5 (.int .i64 er2) (rfl : _ = (#[.int .i64 0, .int .i64 0, .slice none 0 0, .slice none 0 0, .int .i64 0, .int .i64 er2] : Array Value))
                  have hgz := (grown_two (grown_two (grown_two (grown_two (grown_two (grown_set w8 g6 0 (.int .i64 0)) (grown_set _ g6 1 (.int .i64 0))) (grown_set _ g6 2 (.slice none 0 0))) (grown_set _ g6 3 (.slice none 0 0))) (grown_set _ g6 4 (.int .i64 0))) (grown_set _ g6 5 (.int .i64 er2)))
                  clear r0_ rf0_ r1_ rf1_ r2_ rf2_ r3_ rf3_ r4_ rf4_ r5_ rf5_
                  generalize ((((((w8.setCell ⟨g6, 0, none⟩ (.int .i64 0)).setCell ⟨g6, 1, none⟩ (.int .i64 0)).setCell ⟨g6, 2, none⟩ (.slice none 0 0)).setCell ⟨g6, 3, none⟩ (.slice none 0 0)).setCell ⟨g6, 4, none⟩ (.int .i64 0)).setCell ⟨g6, 5, none⟩ (.int .i64 er2)) = wz at BZ hgz ⊢
                  have r0_ := (blk_cell BZ 0).trans (rfl : _ = some ((.int .i64 0) : Value))
                  have r1_ := (blk_cell BZ 1).trans (rfl : _ = some ((.int .i64 0) : Value))
                  have r2_ := (blk_cell BZ 2).trans (rfl : _ = some ((.slice none 0 0) : Value))
                  have r3_ := (blk_cell BZ 3).trans (rfl : _ = some ((.slice none 0 0) : Value))
                  have r4_ := (blk_cell BZ 4).trans (rfl : _ = some ((.int .i64 0) : Value))
                  have r5_ := (blk_cell BZ 5).trans (rfl : _ = some ((.int .i64 er2) : Value))
                  refine bodyPost_ret (v := .agg #[.int .i64 0, .int .i64 0, .slice none 0 0, .slice none 0 0, .int .i64 0, .int .i64 er2]) (by simp [results, Try.results36, go_sem, r0_, r1_, r2_, r3_, r4_, r5_]) rfl ?_
                  exact RGPost.bad (HGE.out) (HB.out.grown hgz (below_size HB.out) (fun k hk => by injection hk with hk; have := HG6.out; omega)) HNZ.out
                | inr q =>
                  obtain ⟨k, r, l1⟩ := q
                  rw [hg] at hp
                  obtain ⟨v3, A9, c9, rfl, hz, hwk, hcr, hl64⟩ := hp
                  obtain ⟨A3, c3, rfl⟩ := Kd.R_slice hz
                  have HZ := Aside0.mk hz
                  have HWK := Aside0.mk hwk
                  have HCX := Aside0.mk hcr
                  have HL64 := Aside0.mk hl64
                  have HRN : Aside0 (R = ahead (acc ++ [k]) (kidsE (getE d) (K - (i + 1)) r l1)) := ⟨by
                    rw [HST.out.2.2, show K - i = K - (i + 1) + 1 by omega]
                    exact kids_good hg⟩
                  have HLEN := Aside0.mk HST.out.2.1
                  clear hz hwk hcr hl64 hg HST
                  go_upto_region 20 with fail
                  have B12 := Aside0.mk (heap_alloc_new w7 (.cells #[.int .i64 k.f0, .int .i64 k.f1, .slice A3 k.f2.length c3, .slice A9 r.length c9, .int .i64 (l1 : Int), .int .i64 0] 66 (0, 0)))
                  have hb_ := below_alloc (Below.refl w7.heap.size w7) (.cells #[.int .i64 k.f0, .int .i64 k.f1, .slice A3 k.f2.length c3, .slice A9 r.length c9, .int .i64 (l1 : Int), .int .i64 0] 66 (0, 0))
                  have hs_ : (w7.alloc (.cells #[.int .i64 k.f0, .int .i64 k.f1, .slice A3 k.f2.length c3, .slice A9 r.length c9, .int .i64 (l1 : Int), .int .i64 0] 66 (0, 0))).heap.size = w7.heap.size + 1 := by simp
                  generalize w7.alloc (.cells #[.int .i64 k.f0, .int .i64 k.f1, .slice A3 k.f2.length c3, .slice A9 r.length c9, .int .i64 (l1 : Int), .int .i64 0] 66 (0, 0)) = w8 at B12 hb_ hs_ ⊢
                  replace B6 := Aside0.mk (blk_below B6.out hb_)
                  replace B8 := Aside0.mk (blk_below B8.out hb_)
                  replace HB := Aside0.mk (below_step HB.out hb_)
                  have HWA := Aside0.mk HROW.out.2.2
                  have hrow8 := Kd.R_below HROW.out.2.1 hb_
                  have HLO8 : Aside0 (lo ≤ w8.heap.size) := ⟨Nat.le_trans HROW.out.1 hb_.size⟩
                  have HB78 := Aside0.mk hb_
                  replace HROW := Aside0.mk hrow8
                  clear hb_ hrow8
                  obtain ⟨g12, HG12⟩ : ∃ g, Aside0 (w7.heap.size = g) := ⟨_, ⟨rfl⟩⟩
                  rw [HG12.out] at B12 ⊢
                  have HN12 : Aside0 (g8 ≠ g12 ∧ lo ≤ g12) := ⟨by have := HG12.out; have := HLOW.out; have := HSZ7.out; have := HSL.out; omega⟩
                  clear hs_
                  have u5_ := (blk_cell B12.out 5).trans (rfl : _ = some (.int .i64 0 : Value))
                  go_upto_region 22 with fail
                  clear u5_
                  have k0_ := (blk_cell B12.out 0).trans (rfl : _ = some (.int .i64 k.f0 : Value))
                  have k1_ := (blk_cell B12.out 1).trans (rfl : _ = some (.int .i64 k.f1 : Value))
                  have k2_ := (blk_cell B12.out 2).trans (rfl : _ = some (.slice A3 k.f2.length c3 : Value))
                  have x2_ := (blk_cell B8.out 2).trans (rfl : _ = some (.slice A2 acc.length c2 : Value))
                  have HKM : Aside0 (Kd.M k27 w8 lo (fun j => S ≤ j ∧ j < g12) k [.int .i64 k.f0, .int .i64 k.f1, .slice A3 k.f2.length c3]) := ⟨k27_mkM w8 lo _ k (Kd.R_lower (Kd.R_below (Kd.R_mono (Kd.R_bound HZ.out) (fun j hj => ⟨hj.2.1, by have := hj.2.2.1; have := HG12.out; omega⟩)) HB78.out) HSL.out)⟩
                  have HOKP : Aside0 (∀ j, S ≤ j ∧ j < g12 → True ∧ some j ≠ (Value.slice A2 acc.length c2).ownBlock) := ⟨fun j hj => ⟨trivial, fun h => by have := (HBQ.out j h.symm).2; omega⟩⟩
                  clear HZ HB78
                  go_upto_region 23 with ((with_reducible refine gate_builtin (b := .append) (xs := #[.tmp 91, .tmp 94]) rfl ?_); at_builtin; refine Kd.R_append k27 (w0 := w8) lo rfl (.tmp 91) (.tmp 94) 25 27 (.agg #[.int .i64 0, .int .i64 0, .slice none 0 0]) 40 rfl Try.underlying25 infoE rfl (by decide) (by omega) (.slice A2 acc.length c2) acc k [.int .i64 k.f0, .int .i64 k.f1, .slice A3 k.f2.length c3] (fun _ => True) (fun j => S ≤ j ∧ j < g12) rfl rfl ?aP ?aK (fun _ _ => trivial) ?aO ?aB ?aS ?aL ?_; (case aP => exact HKM.out); (case aK => exact HOKP.out); (case aO => exact HROW.out); (case aB => exact below_any lo w8); (case aS => exact HLO8.out); (case aL => have := HLEN.out; omega); intro v95 w9 ho_ hb_ hg_ hat_; obtain ⟨acc2, HAC⟩ : ∃ y, Aside0 (acc ++ [k] = y) := ⟨_, ⟨rfl⟩⟩; rw [HAC.out] at ho_; obtain ⟨A8, c8, rfl⟩ := Kd.R_slice ho_; have HR8 := Aside0.mk ho_; have HS8 : Aside0 (lo ≤ w9.heap.size) := ⟨Nat.le_trans HLO8.out hg_.size⟩; replace B6 := Aside0.mk (blk_grown B6.out hg_ (fun h => by have := (HBQ.out g6 h.symm).1; have := HLOW.out; omega)); replace B8 := Aside0.mk (blk_grown B8.out hg_ (fun h => by have := (HBQ.out g8 h.symm).1; have := HLOW.out; omega)); replace B12 := Aside0.mk (blk_grown B12.out hg_ (fun h => by have := (HBQ.out g12 h.symm).2; have := HG12.out; have := HSZ7.out; omega)); replace HB := Aside0.mk (HB.out.grown hg_ (below_size HB.out) (fun j hj => by have := (HBQ.out j hj).1; have := HLOW.out; omega)); have y2_ := blk_cell B8.out 2; have yf2_ := blk_frozen B8.out 2; clear ho_ hb_ hg_ hat_ k0_ k1_ k2_ x2_ HKM HOKP HROW)
                  clear y2_ yf2_
                  have hset := grown_set w9 g8 2 (.slice A8 acc2.length c8)
                  have hbx := blk_put B8.out 2 (.slice A8 acc2.length c8) (rfl : _ = (#[.int .i64 n, .int .i64 N, .slice A8 acc2.length c8, .slice A7 xi.length c7, .int .i64 (li : Int), .int .i64 0] : Array Value))
                  have low := HLOW.out
                  have n8 := HN8.out
                  have n12 := HN12.out
                  replace B6 := Aside0.mk (blk_grown B6.out hset (by intro h; injection h with h; omega))
                  replace B12 := Aside0.mk (blk_grown B12.out hset (by intro h; injection h with h; omega))
                  replace HB := Aside0.mk (HB.out.grown hset (below_size HB.out) (fun j hj => by injection hj with hj; omega))
                  replace HS8 := Aside0.mk (Nat.le_trans HS8.out hset.size)
                  have hrow := Kd.R_mono (Kd.R_grown (Kd.R_bound HR8.out) hset (fun j hj he => by injection he with he; have := hj.2.1; omega)) (fun _ _ => trivial)
                  replace HR8 := Aside0.mk hrow
                  replace B8 := Aside0.mk hbx
                  clear hset hbx hrow low n8 n12
                  generalize w9.setCell ⟨g8, 2, none⟩ (.slice A8 acc2.length c8) = wa at B6 B8 B12 HB HS8 HR8 ⊢
                  have y3_ := blk_cell B8.out 3
                  have yf3_ := blk_frozen B8.out 3
                  have u3_ := (blk_cell B12.out 3).trans (rfl : _ = some (.slice A9 r.length c9 : Value))
                  go_upto_region 24 with fail
                  clear y3_ yf3_ u3_
                  have hset := grown_set wa g8 3 (.slice A9 r.length c9)
                  have hbx := blk_put B8.out 3 (.slice A9 r.length c9) (rfl : _ = (#[.int .i64 n, .int .i64 N, .slice A8 acc2.length c8, .slice A9 r.length c9, .int .i64 (li : Int), .int .i64 0] : Array Value))
                  have low := HLOW.out
                  have n8 := HN8.out
                  have n12 := HN12.out
                  replace B6 := Aside0.mk (blk_grown B6.out hset (by intro h; injection h with h; omega))
                  replace B12 := Aside0.mk (blk_grown B12.out hset (by intro h; injection h with h; omega))
                  replace HB := Aside0.mk (HB.out.grown hset (below_size HB.out) (fun j hj => by injection hj with hj; omega))
                  replace HS8 := Aside0.mk (Nat.le_trans HS8.out hset.size)
                  have hrow := Kd.R_mono (Kd.R_grown (Kd.R_bound HR8.out) hset (fun j hj he => by injection he with he; have := hj.2.1; omega)) (fun _ _ => trivial)
                  replace HR8 := Aside0.mk hrow
                  replace B8 := Aside0.mk hbx
                  clear hset hbx hrow low n8 n12
                  generalize wa.setCell ⟨g8, 3, none⟩ (.slice A9 r.length c9) = wb at B6 B8 B12 HB HS8 HR8 ⊢
                  have y4_ := blk_cell B8.out 4
                  have yf4_ := blk_frozen B8.out 4
                  have u4_ := (blk_cell B12.out 4).trans (rfl : _ = some (.int .i64 (l1 : Int) : Value))
                  go_wp2_with fail
                  clear y4_ yf4_ u4_
                  have hset := grown_set wb g8 4 (.int .i64 (l1 : Int))
                  have hbx := blk_put B8.out 4 (.int .i64 (l1 : Int)) (rfl : _ = (#[.int .i64 n, .int .i64 N, .slice A8 acc2.length c8, .slice A9 r.length c9, .int .i64 (l1 : Int), .int .i64 0] : Array Value))
                  have low := HLOW.out
                  have n8 := HN8.out
                  have n12 := HN12.out
                  replace B6 := Aside0.mk (blk_grown B6.out hset (by intro h; injection h with h; omega))
                  replace B12 := Aside0.mk (blk_grown B12.out hset (by intro h; injection h with h; omega))
                  replace HB := Aside0.mk (HB.out.grown hset (below_size HB.out) (fun j hj => by injection hj with hj; omega))
                  replace HS8 := Aside0.mk (Nat.le_trans HS8.out hset.size)
                  have hrow := Kd.R_mono (Kd.R_grown (Kd.R_bound HR8.out) hset (fun j hj he => by injection he with he; have := hj.2.1; omega)) (fun _ _ => trivial)
                  replace HR8 := Aside0.mk hrow
                  replace B8 := Aside0.mk hbx
                  clear hset hbx hrow low n8 n12
                  generalize wb.setCell ⟨g8, 4, none⟩ (.int .i64 (l1 : Int)) = wc at B6 B8 B12 HB HS8 HR8 ⊢
                  go_roundw
                  case rel => exact ⟨i + 1, acc2, r, l1, A8, c8, A9, c9, by omega, by go_num, B6, B8, HB, HCX, ⟨⟨HS8.out, HR8.out, fun x hx => by
                    rw [← HAC.out] at hx
                    rcases List.mem_append.1 hx with hx | hx
                    · exact HWA.out x hx
                    · rw [List.mem_singleton.1 hx]; exact HWK.out⟩⟩, ⟨⟨HL64.out, by have := HLEN.out; rw [← HAC.out, List.length_append, List.length_singleton]; omega, by rw [← HAC.out]; exact HRN.out⟩⟩⟩
                  case measure => simp [intOf]; omega
              · obtain rfl : K = i := by omega
                have h4 : decide ((K : Int) < (K : Int)) = false := by simp
                have HGE : Aside0 (getE (d + 1) xs lf = .inr (⟨n, N, acc⟩, xi, li)) := ⟨by
                  refine get_good H0.out HHD.out ?_
                  rw [HK.out, HRD.out, HST.out.2.2, Nat.sub_self]
                  simp [kidsE, ahead]⟩
                have HWF : Aside0 (wfE ⟨n, N, acc⟩) := ⟨by
                  refine wfE.mk n N acc HI1.out HI2.out (by have := HST.out.2.1; omega) (fun x hx => ?_)
                  exact HROW.out.2.2 x hx⟩
                have HREZ := Aside0.mk HROW.out.2.1
                clear HROW
                have z0_ := (blk_cell B8.out 0).trans (rfl : _ = some ((.int .i64 n) : Value))
                have z1_ := (blk_cell B8.out 1).trans (rfl : _ = some ((.int .i64 N) : Value))
                have z2_ := (blk_cell B8.out 2).trans (rfl : _ = some ((.slice A2 acc.length c2) : Value))
                have z3_ := (blk_cell B8.out 3).trans (rfl : _ = some ((.slice A7 xi.length c7) : Value))
                have z4_ := (blk_cell B8.out 4).trans (rfl : _ = some ((.int .i64 (li : Int)) : Value))
                have z5_ := (blk_cell B8.out 5).trans (rfl : _ = some ((.int .i64 0) : Value))
                have r0_ := (blk_cell B6.out 0).trans (rfl : _ = some ((.int .i64 0) : Value))
                have r1_ := (blk_cell B6.out 1).trans (rfl : _ = some ((.int .i64 0) : Value))
                have r2_ := (blk_cell B6.out 2).trans (rfl : _ = some ((.slice none 0 0) : Value))
                have r3_ := (blk_cell B6.out 3).trans (rfl : _ = some ((.slice none 0 0) : Value))
                have r4_ := (blk_cell B6.out 4).trans (rfl : _ = some ((.int .i64 0) : Value))
                have r5_ := (blk_cell B6.out 5).trans (rfl : _ = some ((.int .i64 0) : Value))
                have rf0_ := blk_frozen B6.out 0
                have rf1_ := blk_frozen B6.out 1
                have rf2_ := blk_frozen B6.out 2
                have rf3_ := blk_frozen B6.out 3
                have rf4_ := blk_frozen B6.out 4
                have rf5_ := blk_frozen B6.out 5
                go_wp2_with fail
                have BZ := blk_put (blk_set (blk_set (blk_set (blk_set (blk_set B6.out 0 (.int .i64 n)) 1 (.int .i64 N)) 2 (.slice A2 acc.length c2)) 3 (.slice A7 xi.length c7)) 4 (.int .i64 (li : Int))) 5 (.int .i64 0) (rfl : _ = (#[.int .i64 n, .int .i64 N, .slice A2 acc.length c2, .slice A7 xi.length c7, .int .i64 (li : Int), .int .i64 0] : Array Value))
                have hgz := (grown_two (grown_two (grown_two (grown_two (grown_two (grown_set wr g6 0 (.int .i64 n)) (grown_set _ g6 1 (.int .i64 N))) (grown_set _ g6 2 (.slice A2 acc.length c2))) (grown_set _ g6 3 (.slice A7 xi.length c7))) (grown_set _ g6 4 (.int .i64 (li : Int)))) (grown_set _ g6 5 (.int .i64 0)))
                clear r0_ rf0_ r1_ rf1_ r2_ rf2_ r3_ rf3_ r4_ rf4_ r5_ rf5_
                generalize ((((((wr.setCell ⟨g6, 0, none⟩ (.int .i64 n)).setCell ⟨g6, 1, none⟩ (.int .i64 N)).setCell ⟨g6, 2, none⟩ (.slice A2 acc.length c2)).setCell ⟨g6, 3, none⟩ (.slice A7 xi.length c7)).setCell ⟨g6, 4, none⟩ (.int .i64 (li : Int))).setCell ⟨g6, 5, none⟩ (.int .i64 0)) = wz at BZ hgz ⊢
                have r0_ := (blk_cell BZ 0).trans (rfl : _ = some ((.int .i64 n) : Value))
                have r1_ := (blk_cell BZ 1).trans (rfl : _ = some ((.int .i64 N) : Value))
                have r2_ := (blk_cell BZ 2).trans (rfl : _ = some ((.slice A2 acc.length c2) : Value))
                have r3_ := (blk_cell BZ 3).trans (rfl : _ = some ((.slice A7 xi.length c7) : Value))
                have r4_ := (blk_cell BZ 4).trans (rfl : _ = some ((.int .i64 (li : Int)) : Value))
                have r5_ := (blk_cell BZ 5).trans (rfl : _ = some ((.int .i64 0) : Value))
                refine bodyPost_ret (v := .agg #[.int .i64 n, .int .i64 N, .slice A2 acc.length c2, .slice A7 xi.length c7, .int .i64 (li : Int), .int .i64 0]) (by simp [results, Try.results36, go_sem, r0_, r1_, r2_, r3_, r4_, r5_]) rfl ?_
                have low := HLOW.out
                refine RGPost.good HGE.out (HB.out.grown hgz (below_size HB.out) (fun k hk => by injection hk with hk; have := HG6.out; omega)) (.slice A2 acc.length c2) A7 c7 rfl ?_ HWF.out HCX.out HST.out.1
                exact Kd.R_lower (Kd.R_mono (Kd.R_grown (Kd.R_bound HREZ.out) hgz (fun j hj he => by injection he with he; have := hj.2.1; omega)) (fun _ _ => trivial)) low.2.2.1

          · have herb2 : (er2 != 0) = true := by simpa using her2
            have HGE : Aside0 (getE (d + 1) xs lf = .inl er2) := ⟨by
              rw [← HER2.out, ← HR1.out]
              exact get_head H0.out (head_con_err (by rw [HER.out]; exact her) (by rw [HN.out]; exact HN1.out) (by rw [HR1.out, HER2.out]; exact her2))⟩
            have HNZ := Aside0.mk her2
            clear her2
            have r0_ := (blk_cell B6.out 0).trans (rfl : _ = some ((.int .i64 0) : Value))
            have r1_ := (blk_cell B6.out 1).trans (rfl : _ = some ((.int .i64 0) : Value))
            have r2_ := (blk_cell B6.out 2).trans (rfl : _ = some ((.slice none 0 0) : Value))
            have r3_ := (blk_cell B6.out 3).trans (rfl : _ = some ((.slice none 0 0) : Value))
            have r4_ := (blk_cell B6.out 4).trans (rfl : _ = some ((.int .i64 0) : Value))
            have r5_ := (blk_cell B6.out 5).trans (rfl : _ = some ((.int .i64 0) : Value))
            have rf0_ := blk_frozen B6.out 0
            have rf1_ := blk_frozen B6.out 1
            have rf2_ := blk_frozen B6.out 2
            have rf3_ := blk_frozen B6.out 3
            have rf4_ := blk_frozen B6.out 4
            have rf5_ := blk_frozen B6.out 5
            go_wp2_with fail
            have BZ := blk_put (blk_set (blk_set (blk_set (blk_set (blk_set B6.out 0 (.int .i64 0)) 1 (.int .i64 0)) 2 (.slice none 0 0)) 3 (.slice none 0 0)) 4 (.int .i64 0)) 5 (.int .i64 er2) (rfl : _ = (#[.int .i64 0, .int .i64 0, .slice none 0 0, .slice none 0 0, .int .i64 0, .int .i64 er2] : Array Value))
            have hgz := (grown_two (grown_two (grown_two (grown_two (grown_two (grown_set w6 g6 0 (.int .i64 0)) (grown_set _ g6 1 (.int .i64 0))) (grown_set _ g6 2 (.slice none 0 0))) (grown_set _ g6 3 (.slice none 0 0))) (grown_set _ g6 4 (.int .i64 0))) (grown_set _ g6 5 (.int .i64 er2)))
            clear r0_ rf0_ r1_ rf1_ r2_ rf2_ r3_ rf3_ r4_ rf4_ r5_ rf5_
            generalize ((((((w6.setCell ⟨g6, 0, none⟩ (.int .i64 0)).setCell ⟨g6, 1, none⟩ (.int .i64 0)).setCell ⟨g6, 2, none⟩ (.slice none 0 0)).setCell ⟨g6, 3, none⟩ (.slice none 0 0)).setCell ⟨g6, 4, none⟩ (.int .i64 0)).setCell ⟨g6, 5, none⟩ (.int .i64 er2)) = wz at BZ hgz ⊢
            have r0_ := (blk_cell BZ 0).trans (rfl : _ = some ((.int .i64 0) : Value))
            have r1_ := (blk_cell BZ 1).trans (rfl : _ = some ((.int .i64 0) : Value))
            have r2_ := (blk_cell BZ 2).trans (rfl : _ = some ((.slice none 0 0) : Value))
            have r3_ := (blk_cell BZ 3).trans (rfl : _ = some ((.slice none 0 0) : Value))
            have r4_ := (blk_cell BZ 4).trans (rfl : _ = some ((.int .i64 0) : Value))
            have r5_ := (blk_cell BZ 5).trans (rfl : _ = some ((.int .i64 er2) : Value))
            refine bodyPost_ret (v := .agg #[.int .i64 0, .int .i64 0, .slice none 0 0, .slice none 0 0, .int .i64 0, .int .i64 er2]) (by simp [results, Try.results36, go_sem, r0_, r1_, r2_, r3_, r4_, r5_]) rfl ?_
            exact RGPost.bad (HGE.out) (HB.out.grown hgz (below_size HB.out) (fun k hk => by injection hk with hk; have := HG6.out; omega)) HNZ.out
        · have hn1b : (n == 1) = false := by simpa using hn1
          obtain ⟨N, HNV⟩ : ∃ N : Int, Aside0 (0 = N) := ⟨0, ⟨rfl⟩⟩
          obtain ⟨r0, HR0⟩ : ∃ r, Aside0 (r1 = r) := ⟨_, ⟨rfl⟩⟩
          have HHD : Aside0 (headE xs = .inr (n, N, r0)) := ⟨by rw [← HNV.out, ← HR0.out, ← HR1.out, ← HN.out]; exact head_op (by rw [HER.out]; exact her) (by rw [HN.out]; exact hin) (by rw [HN.out]; exact hn1)⟩
          have HI2 : Aside0 (I64 N) := ⟨by rw [← HNV.out]; unfold I64; decide⟩
          replace B8 : Aside0 (w4.heap[g8]? = some (.cells #[.int .i64 n, .int .i64 N, .slice none 0 0, .slice A1 r0.length c1, .int .i64 ((lf - 1 : Nat) : Int), .int .i64 0] 66 (0, 0))) := ⟨by rw [← HNV.out, ← HR0.out]; exact B8.out⟩
          have HCX : Aside0 ((Kd.int .u8).C w0 A1 r0.length r0 ∧ r0.length ≤ c1 ∧ Byt r0) := ⟨by rw [← HR0.out]; exact ⟨HC1.out, HCC1.out, HY1.out⟩⟩
          obtain ⟨A5, HA5⟩ : ∃ y, Aside0 (A1 = y) := ⟨_, ⟨rfl⟩⟩
          obtain ⟨c5, HA6⟩ : ∃ y, Aside0 (c1 = y) := ⟨_, ⟨rfl⟩⟩
          rw [HA5.out, HA6.out] at B8 HCX
          clear hn1 hin
          go_upto_region 15 with fail
          clear x0_ hn1b
          obtain ⟨K, HK⟩ : ∃ K, Aside0 ((kidsOf n).toNat = K) := ⟨_, ⟨rfl⟩⟩
          have HKI : Aside0 (kidsOf n = (K : Int)) := ⟨by rw [← HK.out]; have := kidsOf_nonneg n; omega⟩
          have hK3 : K ≤ 3 := by have := HKI.out; have := kidsOf_most n; omega
          obtain ⟨R, HRD⟩ : ∃ R, Aside0 (kidsE (getE d) K r0 (lf - 1) = R) := ⟨_, ⟨rfl⟩⟩
          have x0_ := (blk_cell B8.out 0).trans (rfl : _ = some (.int .i64 n : Value))
          go_wp2_with fail
          refine (tidemillref04_Kids.calls n (K : Int) _ (by rw [refKids_f, HKI.out])).mono ?_
          rintro e_ w6 ⟨rfl, hd_⟩
          have hb_ := hd_.below
          clear x0_ hd_
          replace B6 := Aside0.mk (blk_below B6.out hb_)
          replace B8 := Aside0.mk (blk_below B8.out hb_)
          replace HB := Aside0.mk (below_step HB.out hb_)
          clear hb_
          obtain ⟨lo, HLO⟩ : ∃ lo, Aside0 (w6.heap.size = lo) := ⟨_, ⟨rfl⟩⟩
          have HLOW : Aside0 (g6 < lo ∧ g8 < lo ∧ w.heap.size ≤ lo ∧ w.heap.size ≤ g8) := ⟨by
            have h1 := blk_lt B6.out
            have h2 := blk_lt B8.out
            have h3 := below_size HB.out
            have h5 := HLO.out
            have h6 := HG8.out
            omega⟩
          go_wp2_with fail
          go_loopw [11] (fun v11 wr => ∃ (i : Nat) (acc : List E) (xi : List Int) (li : Nat) (A2 : Option Addr) (c2 : Nat) (A7 : Option Addr) (c7 : Nat), i ≤ K ∧ v11 = .int .i64 (i : Int) ∧ Aside0 (wr.heap[g6]? = some (.cells #[.int .i64 0, .int .i64 0, .slice none 0 0, .slice none 0 0, .int .i64 0, .int .i64 0] 66 (0, 0))) ∧ Aside0 (wr.heap[g8]? = some (.cells #[.int .i64 n, .int .i64 N, .slice A2 acc.length c2, .slice A7 xi.length c7, .int .i64 (li : Int), .int .i64 0] 66 (0, 0))) ∧ Aside0 (Below w.heap.size w wr) ∧ Aside0 ((Kd.int .u8).C w0 A7 xi.length xi ∧ xi.length ≤ c7 ∧ Byt xi) ∧ Aside0 (lo ≤ wr.heap.size ∧ Kd.R k27 27 wr lo (fun _ => True) (.slice A2 acc.length c2) acc ∧ ∀ x ∈ acc, wfE x) ∧ Aside0 (li ≤ 64 ∧ acc.length = i ∧ R = ahead acc (kidsE (getE d) (K - i) xi li))) (fun v11 _ => K - (intOf v11).toNat)
          case atStart => exact ⟨0, [], r0, lf - 1, none, 0, A5, c5, by omega, rfl, B6, B8, HB, HCX, ⟨⟨by rw [HLO.out]; exact Nat.le_refl _, Kd.R_nil _ _ _ _ _, fun x hx => (List.not_mem_nil hx).elim⟩⟩, ⟨⟨by omega, rfl, by rw [Nat.sub_zero, ahead_nil]; exact HRD.out.symm⟩⟩⟩
          case round =>
            clear B6 B8 HB HCX HLO
            obtain ⟨i, acc, xi, li, A2, c2, A7, c7, hi, rfl, B6, B8, HB, HCX, HROW, HST⟩ := hrel
            by_cases hlt : i < K
            · have h4 : decide ((i : Int) < (K : Int)) = true := by simp; omega
              have h4b : decide (i < K) = true := by simp; omega
              have hD1 := hD.2.2
              have x3_ := (blk_cell B8.out 3).trans (rfl : _ = some (.slice A7 xi.length c7 : Value))
              have x4_ := (blk_cell B8.out 4).trans (rfl : _ = some (.int .i64 (li : Int) : Value))
              go_wp2_with fail
              refine (IH.out xi A7 c7 li wr HST.out.1 HCX.out (below_step HB0.out HB.out)).mono ?_
              rintro e_ w7 ⟨hb_, hp⟩
              clear h4 h4b x3_ x4_
              obtain ⟨S, HS⟩ : ∃ S, Aside0 (wr.heap.size = S) := ⟨_, ⟨rfl⟩⟩
              have HSL : Aside0 (lo ≤ S) := ⟨by rw [← HS.out]; exact HROW.out.1⟩
              have HBQ : Aside0 (∀ j, (Value.slice A2 acc.length c2).ownBlock = some j → lo ≤ j ∧ j < S) := ⟨fun j hj => by have h := (Kd.R_bound HROW.out.2.1).1 j hj; rw [HS.out] at h; exact ⟨h.2.1, h.2.2.1⟩⟩
              replace B6 := Aside0.mk (blk_below B6.out hb_)
              replace B8 := Aside0.mk (blk_below B8.out hb_)
              replace HB := Aside0.mk (below_step HB.out hb_)
              have hrow7 := Kd.R_below HROW.out.2.1 hb_
              replace HROW : Aside0 (lo ≤ w7.heap.size ∧ Kd.R k27 27 w7 lo (fun _ => True) (.slice A2 acc.length c2) acc ∧ ∀ x ∈ acc, wfE x) := ⟨⟨Nat.le_trans HROW.out.1 hb_.size, hrow7, HROW.out.2.2⟩⟩
              have HSZ7 : Aside0 (S ≤ w7.heap.size) := ⟨by rw [← HS.out]; exact hb_.size⟩
              rw [HS.out] at hp
              clear hrow7 hb_ HS HCX wr
              cases hg : getE d xi li with
              | inl er2 =>
                rw [hg] at hp
                obtain ⟨rfl, hnz⟩ := hp
                have herb2 : (er2 != 0) = true := by simpa using hnz
                have HGE : Aside0 (getE (d + 1) xs lf = .inl er2) := ⟨by
                  refine get_kids H0.out HHD.out ?_
                  rw [HK.out, HRD.out, HST.out.2.2, show K - i = K - i - 1 + 1 by omega]
                  exact kids_bad hg⟩
                have HNZ := Aside0.mk hnz
                clear hnz hg
                go_upto_region 20 with fail
                have B12 := Aside0.mk (heap_alloc_new w7 (.cells #[.int .i64 0, .int .i64 0, .slice none 0 0, .slice none 0 0, .int .i64 0, .int .i64 er2] 66 (0, 0)))
                have hb_ := below_alloc (Below.refl w7.heap.size w7) (.cells #[.int .i64 0, .int .i64 0, .slice none 0 0, .slice none 0 0, .int .i64 0, .int .i64 er2] 66 (0, 0))
                have hs_ : (w7.alloc (.cells #[.int .i64 0, .int .i64 0, .slice none 0 0, .slice none 0 0, .int .i64 0, .int .i64 er2] 66 (0, 0))).heap.size = w7.heap.size + 1 := by simp
                generalize w7.alloc (.cells #[.int .i64 0, .int .i64 0, .slice none 0 0, .slice none 0 0, .int .i64 0, .int .i64 er2] 66 (0, 0)) = w8 at B12 hb_ hs_ ⊢
                replace B6 := Aside0.mk (blk_below B6.out hb_)
                replace HB := Aside0.mk (below_step HB.out hb_)
                clear hb_
                clear hs_
                obtain ⟨g12, HG12⟩ : ∃ g, Aside0 (w7.heap.size = g) := ⟨_, ⟨rfl⟩⟩
                rw [HG12.out] at B12 ⊢
                have u5_ := (blk_cell B12.out 5).trans (rfl : _ = some (.int .i64 er2 : Value))
                have r0_ := (blk_cell B6.out 0).trans (rfl : _ = some ((.int .i64 0) : Value))
                have r1_ := (blk_cell B6.out 1).trans (rfl : _ = some ((.int .i64 0) : Value))
                have r2_ := (blk_cell B6.out 2).trans (rfl : _ = some ((.slice none 0 0) : Value))
                have r3_ := (blk_cell B6.out 3).trans (rfl : _ = some ((.slice none 0 0) : Value))
                have r4_ := (blk_cell B6.out 4).trans (rfl : _ = some ((.int .i64 0) : Value))
                have r5_ := (blk_cell B6.out 5).trans (rfl : _ = some ((.int .i64 0) : Value))
                have rf0_ := blk_frozen B6.out 0
                have rf1_ := blk_frozen B6.out 1
                have rf2_ := blk_frozen B6.out 2
                have rf3_ := blk_frozen B6.out 3
                have rf4_ := blk_frozen B6.out 4
                have rf5_ := blk_frozen B6.out 5
                go_wp2_with fail
                have BZ := blk_put (blk_set (blk_set (blk_set (blk_set (blk_set B6.out 0 (.int .i64 0)) 1 (.int .i64 0)) 2 (.slice none 0 0)) 3 (.slice none 0 0)) 4 (.int .i64 0)) 5 (.int .i64 er2) (rfl : _ = (#[.int .i64 0, .int .i64 0, .slice none 0 0, .slice none 0 0, .int .i64 0, .int .i64 er2] : Array Value))
                have hgz := (grown_two (grown_two (grown_two (grown_two (grown_two (grown_set w8 g6 0 (.int .i64 0)) (grown_set _ g6 1 (.int .i64 0))) (grown_set _ g6 2 (.slice none 0 0))) (grown_set _ g6 3 (.slice none 0 0))) (grown_set _ g6 4 (.int .i64 0))) (grown_set _ g6 5 (.int .i64 er2)))
                clear r0_ rf0_ r1_ rf1_ r2_ rf2_ r3_ rf3_ r4_ rf4_ r5_ rf5_
                generalize ((((((w8.setCell ⟨g6, 0, none⟩ (.int .i64 0)).setCell ⟨g6, 1, none⟩ (.int .i64 0)).setCell ⟨g6, 2, none⟩ (.slice none 0 0)).setCell ⟨g6, 3, none⟩ (.slice none 0 0)).setCell ⟨g6, 4, none⟩ (.int .i64 0)).setCell ⟨g6, 5, none⟩ (.int .i64 er2)) = wz at BZ hgz ⊢
                have r0_ := (blk_cell BZ 0).trans (rfl : _ = some ((.int .i64 0) : Value))
                have r1_ := (blk_cell BZ 1).trans (rfl : _ = some ((.int .i64 0) : Value))
                have r2_ := (blk_cell BZ 2).trans (rfl : _ = some ((.slice none 0 0) : Value))
                have r3_ := (blk_cell BZ 3).trans (rfl : _ = some ((.slice none 0 0) : Value))
                have r4_ := (blk_cell BZ 4).trans (rfl : _ = some ((.int .i64 0) : Value))
                have r5_ := (blk_cell BZ 5).trans (rfl : _ = some ((.int .i64 er2) : Value))
                refine bodyPost_ret (v := .agg #[.int .i64 0, .int .i64 0, .slice none 0 0, .slice none 0 0, .int .i64 0, .int .i64 er2]) (by simp [results, Try.results36, go_sem, r0_, r1_, r2_, r3_, r4_, r5_]) rfl ?_
                exact RGPost.bad (HGE.out) (HB.out.grown hgz (below_size HB.out) (fun k hk => by injection hk with hk; have := HG6.out; omega)) HNZ.out
              | inr q =>
                obtain ⟨k, r, l1⟩ := q
                rw [hg] at hp
                obtain ⟨v3, A9, c9, rfl, hz, hwk, hcr, hl64⟩ := hp
                obtain ⟨A3, c3, rfl⟩ := Kd.R_slice hz
                have HZ := Aside0.mk hz
                have HWK := Aside0.mk hwk
                have HCX := Aside0.mk hcr
                have HL64 := Aside0.mk hl64
                have HRN : Aside0 (R = ahead (acc ++ [k]) (kidsE (getE d) (K - (i + 1)) r l1)) := ⟨by
                  rw [HST.out.2.2, show K - i = K - (i + 1) + 1 by omega]
                  exact kids_good hg⟩
                have HLEN := Aside0.mk HST.out.2.1
                clear hz hwk hcr hl64 hg HST
                go_upto_region 20 with fail
                have B12 := Aside0.mk (heap_alloc_new w7 (.cells #[.int .i64 k.f0, .int .i64 k.f1, .slice A3 k.f2.length c3, .slice A9 r.length c9, .int .i64 (l1 : Int), .int .i64 0] 66 (0, 0)))
                have hb_ := below_alloc (Below.refl w7.heap.size w7) (.cells #[.int .i64 k.f0, .int .i64 k.f1, .slice A3 k.f2.length c3, .slice A9 r.length c9, .int .i64 (l1 : Int), .int .i64 0] 66 (0, 0))
                have hs_ : (w7.alloc (.cells #[.int .i64 k.f0, .int .i64 k.f1, .slice A3 k.f2.length c3, .slice A9 r.length c9, .int .i64 (l1 : Int), .int .i64 0] 66 (0, 0))).heap.size = w7.heap.size + 1 := by simp
                generalize w7.alloc (.cells #[.int .i64 k.f0, .int .i64 k.f1, .slice A3 k.f2.length c3, .slice A9 r.length c9, .int .i64 (l1 : Int), .int .i64 0] 66 (0, 0)) = w8 at B12 hb_ hs_ ⊢
                replace B6 := Aside0.mk (blk_below B6.out hb_)
                replace B8 := Aside0.mk (blk_below B8.out hb_)
                replace HB := Aside0.mk (below_step HB.out hb_)
                have HWA := Aside0.mk HROW.out.2.2
                have hrow8 := Kd.R_below HROW.out.2.1 hb_
                have HLO8 : Aside0 (lo ≤ w8.heap.size) := ⟨Nat.le_trans HROW.out.1 hb_.size⟩
                have HB78 := Aside0.mk hb_
                replace HROW := Aside0.mk hrow8
                clear hb_ hrow8
                obtain ⟨g12, HG12⟩ : ∃ g, Aside0 (w7.heap.size = g) := ⟨_, ⟨rfl⟩⟩
                rw [HG12.out] at B12 ⊢
                have HN12 : Aside0 (g8 ≠ g12 ∧ lo ≤ g12) := ⟨by have := HG12.out; have := HLOW.out; have := HSZ7.out; have := HSL.out; omega⟩
                clear hs_
                have u5_ := (blk_cell B12.out 5).trans (rfl : _ = some (.int .i64 0 : Value))
                go_upto_region 22 with fail
                clear u5_
                have k0_ := (blk_cell B12.out 0).trans (rfl : _ = some (.int .i64 k.f0 : Value))
                have k1_ := (blk_cell B12.out 1).trans (rfl : _ = some (.int .i64 k.f1 : Value))
                have k2_ := (blk_cell B12.out 2).trans (rfl : _ = some (.slice A3 k.f2.length c3 : Value))
                have x2_ := (blk_cell B8.out 2).trans (rfl : _ = some (.slice A2 acc.length c2 : Value))
                have HKM : Aside0 (Kd.M k27 w8 lo (fun j => S ≤ j ∧ j < g12) k [.int .i64 k.f0, .int .i64 k.f1, .slice A3 k.f2.length c3]) := ⟨k27_mkM w8 lo _ k (Kd.R_lower (Kd.R_below (Kd.R_mono (Kd.R_bound HZ.out) (fun j hj => ⟨hj.2.1, by have := hj.2.2.1; have := HG12.out; omega⟩)) HB78.out) HSL.out)⟩
                have HOKP : Aside0 (∀ j, S ≤ j ∧ j < g12 → True ∧ some j ≠ (Value.slice A2 acc.length c2).ownBlock) := ⟨fun j hj => ⟨trivial, fun h => by have := (HBQ.out j h.symm).2; omega⟩⟩
                clear HZ HB78
                go_upto_region 23 with ((with_reducible refine gate_builtin (b := .append) (xs := #[.tmp 91, .tmp 94]) rfl ?_); at_builtin; refine Kd.R_append k27 (w0 := w8) lo rfl (.tmp 91) (.tmp 94) 25 27 (.agg #[.int .i64 0, .int .i64 0, .slice none 0 0]) 40 rfl Try.underlying25 infoE rfl (by decide) (by omega) (.slice A2 acc.length c2) acc k [.int .i64 k.f0, .int .i64 k.f1, .slice A3 k.f2.length c3] (fun _ => True) (fun j => S ≤ j ∧ j < g12) rfl rfl ?aP ?aK (fun _ _ => trivial) ?aO ?aB ?aS ?aL ?_; (case aP => exact HKM.out); (case aK => exact HOKP.out); (case aO => exact HROW.out); (case aB => exact below_any lo w8); (case aS => exact HLO8.out); (case aL => have := HLEN.out; omega); intro v95 w9 ho_ hb_ hg_ hat_; obtain ⟨acc2, HAC⟩ : ∃ y, Aside0 (acc ++ [k] = y) := ⟨_, ⟨rfl⟩⟩; rw [HAC.out] at ho_; obtain ⟨A8, c8, rfl⟩ := Kd.R_slice ho_; have HR8 := Aside0.mk ho_; have HS8 : Aside0 (lo ≤ w9.heap.size) := ⟨Nat.le_trans HLO8.out hg_.size⟩; replace B6 := Aside0.mk (blk_grown B6.out hg_ (fun h => by have := (HBQ.out g6 h.symm).1; have := HLOW.out; omega)); replace B8 := Aside0.mk (blk_grown B8.out hg_ (fun h => by have := (HBQ.out g8 h.symm).1; have := HLOW.out; omega)); replace B12 := Aside0.mk (blk_grown B12.out hg_ (fun h => by have := (HBQ.out g12 h.symm).2; have := HG12.out; have := HSZ7.out; omega)); replace HB := Aside0.mk (HB.out.grown hg_ (below_size HB.out) (fun j hj => by have := (HBQ.out j hj).1; have := HLOW.out; omega)); have y2_ := blk_cell B8.out 2; have yf2_ := blk_frozen B8.out 2; clear ho_ hb_ hg_ hat_ k0_ k1_ k2_ x2_ HKM HOKP HROW)
                clear y2_ yf2_
                have hset := grown_set w9 g8 2 (.slice A8 acc2.length c8)
                have hbx := blk_put B8.out 2 (.slice A8 acc2.length c8) (rfl : _ = (#[.int .i64 n, .int .i64 N, .slice A8 acc2.length c8, .slice A7 xi.length c7, .int .i64 (li : Int), .int .i64 0] : Array Value))
                have low := HLOW.out
                have n8 := HN8.out
                have n12 := HN12.out
                replace B6 := Aside0.mk (blk_grown B6.out hset (by intro h; injection h with h; omega))
                replace B12 := Aside0.mk (blk_grown B12.out hset (by intro h; injection h with h; omega))
                replace HB := Aside0.mk (HB.out.grown hset (below_size HB.out) (fun j hj => by injection hj with hj; omega))
                replace HS8 := Aside0.mk (Nat.le_trans HS8.out hset.size)
                have hrow := Kd.R_mono (Kd.R_grown (Kd.R_bound HR8.out) hset (fun j hj he => by injection he with he; have := hj.2.1; omega)) (fun _ _ => trivial)
                replace HR8 := Aside0.mk hrow
                replace B8 := Aside0.mk hbx
                clear hset hbx hrow low n8 n12
                generalize w9.setCell ⟨g8, 2, none⟩ (.slice A8 acc2.length c8) = wa at B6 B8 B12 HB HS8 HR8 ⊢
                have y3_ := blk_cell B8.out 3
                have yf3_ := blk_frozen B8.out 3
                have u3_ := (blk_cell B12.out 3).trans (rfl : _ = some (.slice A9 r.length c9 : Value))
                go_upto_region 24 with fail
                clear y3_ yf3_ u3_
                have hset := grown_set wa g8 3 (.slice A9 r.length c9)
                have hbx := blk_put B8.out 3 (.slice A9 r.length c9) (rfl : _ = (#[.int .i64 n, .int .i64 N, .slice A8 acc2.length c8, .slice A9 r.length c9, .int .i64 (li : Int), .int .i64 0] : Array Value))
                have low := HLOW.out
                have n8 := HN8.out
                have n12 := HN12.out
                replace B6 := Aside0.mk (blk_grown B6.out hset (by intro h; injection h with h; omega))
                replace B12 := Aside0.mk (blk_grown B12.out hset (by intro h; injection h with h; omega))
                replace HB := Aside0.mk (HB.out.grown hset (below_size HB.out) (fun j hj => by injection hj with hj; omega))
                replace HS8 := Aside0.mk (Nat.le_trans HS8.out hset.size)
                have hrow := Kd.R_mono (Kd.R_grown (Kd.R_bound HR8.out) hset (fun j hj he => by injection he with he; have := hj.2.1; omega)) (fun _ _ => trivial)
                replace HR8 := Aside0.mk hrow
                replace B8 := Aside0.mk hbx
                clear hset hbx hrow low n8 n12
                generalize wa.setCell ⟨g8, 3, none⟩ (.slice A9 r.length c9) = wb at B6 B8 B12 HB HS8 HR8 ⊢
                have y4_ := blk_cell B8.out 4
                have yf4_ := blk_frozen B8.out 4
                have u4_ := (blk_cell B12.out 4).trans (rfl : _ = some (.int .i64 (l1 : Int) : Value))
                go_wp2_with fail
                clear y4_ yf4_ u4_
                have hset := grown_set wb g8 4 (.int .i64 (l1 : Int))
                have hbx := blk_put B8.out 4 (.int .i64 (l1 : Int)) (rfl : _ = (#[.int .i64 n, .int .i64 N, .slice A8 acc2.length c8, .slice A9 r.length c9, .int .i64 (l1 : Int), .int .i64 0] : Array Value))
                have low := HLOW.out
                have n8 := HN8.out
                have n12 := HN12.out
                replace B6 := Aside0.mk (blk_grown B6.out hset (by intro h; injection h with h; omega))
                replace B12 := Aside0.mk (blk_grown B12.out hset (by intro h; injection h with h; omega))
                replace HB := Aside0.mk (HB.out.grown hset (below_size HB.out) (fun j hj => by injection hj with hj; omega))
                replace HS8 := Aside0.mk (Nat.le_trans HS8.out hset.size)
                have hrow := Kd.R_mono (Kd.R_grown (Kd.R_bound HR8.out) hset (fun j hj he => by injection he with he; have := hj.2.1; omega)) (fun _ _ => trivial)
                replace HR8 := Aside0.mk hrow
                replace B8 := Aside0.mk hbx
                clear hset hbx hrow low n8 n12
                generalize wb.setCell ⟨g8, 4, none⟩ (.int .i64 (l1 : Int)) = wc at B6 B8 B12 HB HS8 HR8 ⊢
                go_roundw
                case rel => exact ⟨i + 1, acc2, r, l1, A8, c8, A9, c9, by omega, by go_num, B6, B8, HB, HCX, ⟨⟨HS8.out, HR8.out, fun x hx => by
                  rw [← HAC.out] at hx
                  rcases List.mem_append.1 hx with hx | hx
                  · exact HWA.out x hx
                  · rw [List.mem_singleton.1 hx]; exact HWK.out⟩⟩, ⟨⟨HL64.out, by have := HLEN.out; rw [← HAC.out, List.length_append, List.length_singleton]; omega, by rw [← HAC.out]; exact HRN.out⟩⟩⟩
                case measure => simp [intOf]; omega
            · obtain rfl : K = i := by omega
              have h4 : decide ((K : Int) < (K : Int)) = false := by simp
              have HGE : Aside0 (getE (d + 1) xs lf = .inr (⟨n, N, acc⟩, xi, li)) := ⟨by
                refine get_good H0.out HHD.out ?_
                rw [HK.out, HRD.out, HST.out.2.2, Nat.sub_self]
                simp [kidsE, ahead]⟩
              have HWF : Aside0 (wfE ⟨n, N, acc⟩) := ⟨by
                refine wfE.mk n N acc HI1.out HI2.out (by have := HST.out.2.1; omega) (fun x hx => ?_)
                exact HROW.out.2.2 x hx⟩
              have HREZ := Aside0.mk HROW.out.2.1
              clear HROW
              have z0_ := (blk_cell B8.out 0).trans (rfl : _ = some ((.int .i64 n) : Value))
              have z1_ := (blk_cell B8.out 1).trans (rfl : _ = some ((.int .i64 N) : Value))
              have z2_ := (blk_cell B8.out 2).trans (rfl : _ = some ((.slice A2 acc.length c2) : Value))
              have z3_ := (blk_cell B8.out 3).trans (rfl : _ = some ((.slice A7 xi.length c7) : Value))
              have z4_ := (blk_cell B8.out 4).trans (rfl : _ = some ((.int .i64 (li : Int)) : Value))
              have z5_ := (blk_cell B8.out 5).trans (rfl : _ = some ((.int .i64 0) : Value))
              have r0_ := (blk_cell B6.out 0).trans (rfl : _ = some ((.int .i64 0) : Value))
              have r1_ := (blk_cell B6.out 1).trans (rfl : _ = some ((.int .i64 0) : Value))
              have r2_ := (blk_cell B6.out 2).trans (rfl : _ = some ((.slice none 0 0) : Value))
              have r3_ := (blk_cell B6.out 3).trans (rfl : _ = some ((.slice none 0 0) : Value))
              have r4_ := (blk_cell B6.out 4).trans (rfl : _ = some ((.int .i64 0) : Value))
              have r5_ := (blk_cell B6.out 5).trans (rfl : _ = some ((.int .i64 0) : Value))
              have rf0_ := blk_frozen B6.out 0
              have rf1_ := blk_frozen B6.out 1
              have rf2_ := blk_frozen B6.out 2
              have rf3_ := blk_frozen B6.out 3
              have rf4_ := blk_frozen B6.out 4
              have rf5_ := blk_frozen B6.out 5
              go_wp2_with fail
              have BZ := blk_put (blk_set (blk_set (blk_set (blk_set (blk_set B6.out 0 (.int .i64 n)) 1 (.int .i64 N)) 2 (.slice A2 acc.length c2)) 3 (.slice A7 xi.length c7)) 4 (.int .i64 (li : Int))) 5 (.int .i64 0) (rfl : _ = (#[.int .i64 n, .int .i64 N, .slice A2 acc.length c2, .slice A7 xi.length c7, .int .i64 (li : Int), .int .i64 0] : Array Value))
              have hgz := (grown_two (grown_two (grown_two (grown_two (grown_two (grown_set wr g6 0 (.int .i64 n)) (grown_set _ g6 1 (.int .i64 N))) (grown_set _ g6 2 (.slice A2 acc.length c2))) (grown_set _ g6 3 (.slice A7 xi.length c7))) (grown_set _ g6 4 (.int .i64 (li : Int)))) (grown_set _ g6 5 (.int .i64 0)))
              clear r0_ rf0_ r1_ rf1_ r2_ rf2_ r3_ rf3_ r4_ rf4_ r5_ rf5_
              generalize ((((((wr.setCell ⟨g6, 0, none⟩ (.int .i64 n)).setCell ⟨g6, 1, none⟩ (.int .i64 N)).setCell ⟨g6, 2, none⟩ (.slice A2 acc.length c2)).setCell ⟨g6, 3, none⟩ (.slice A7 xi.length c7)).setCell ⟨g6, 4, none⟩ (.int .i64 (li : Int))).setCell ⟨g6, 5, none⟩ (.int .i64 0)) = wz at BZ hgz ⊢
              have r0_ := (blk_cell BZ 0).trans (rfl : _ = some ((.int .i64 n) : Value))
              have r1_ := (blk_cell BZ 1).trans (rfl : _ = some ((.int .i64 N) : Value))
              have r2_ := (blk_cell BZ 2).trans (rfl : _ = some ((.slice A2 acc.length c2) : Value))
              have r3_ := (blk_cell BZ 3).trans (rfl : _ = some ((.slice A7 xi.length c7) : Value))
              have r4_ := (blk_cell BZ 4).trans (rfl : _ = some ((.int .i64 (li : Int)) : Value))
              have r5_ := (blk_cell BZ 5).trans (rfl : _ = some ((.int .i64 0) : Value))
              refine bodyPost_ret (v := .agg #[.int .i64 n, .int .i64 N, .slice A2 acc.length c2, .slice A7 xi.length c7, .int .i64 (li : Int), .int .i64 0]) (by simp [results, Try.results36, go_sem, r0_, r1_, r2_, r3_, r4_, r5_]) rfl ?_
              have low := HLOW.out
              refine RGPost.good HGE.out (HB.out.grown hgz (below_size HB.out) (fun k hk => by injection hk with hk; have := HG6.out; omega)) (.slice A2 acc.length c2) A7 c7 rfl ?_ HWF.out HCX.out HST.out.1
              exact Kd.R_lower (Kd.R_mono (Kd.R_grown (Kd.R_bound HREZ.out) hgz (fun j hj he => by injection he with he; have := hj.2.1; omega)) (fun _ _ => trivial)) low.2.2.1

      · have HGE : Aside0 (getE (d + 1) xs lf = .inl 5) := ⟨get_head H0.out (head_out (by rw [HER.out]; exact her) (by rw [HN.out]; exact hin))⟩
        by_cases hn1 : n < 1
        · have hi1 : decide (n < 1) = true := decide_eq_true hn1
          clear hin hn1
          have r0_ := (blk_cell B6.out 0).trans (rfl : _ = some ((.int .i64 0) : Value))
          have r1_ := (blk_cell B6.out 1).trans (rfl : _ = some ((.int .i64 0) : Value))
          have r2_ := (blk_cell B6.out 2).trans (rfl : _ = some ((.slice none 0 0) : Value))
          have r3_ := (blk_cell B6.out 3).trans (rfl : _ = some ((.slice none 0 0) : Value))
          have r4_ := (blk_cell B6.out 4).trans (rfl : _ = some ((.int .i64 0) : Value))
          have r5_ := (blk_cell B6.out 5).trans (rfl : _ = some ((.int .i64 0) : Value))
          have rf0_ := blk_frozen B6.out 0
          have rf1_ := blk_frozen B6.out 1
          have rf2_ := blk_frozen B6.out 2
          have rf3_ := blk_frozen B6.out 3
          have rf4_ := blk_frozen B6.out 4
          have rf5_ := blk_frozen B6.out 5
          go_wp2_with fail
          have BZ := blk_put (blk_set (blk_set (blk_set (blk_set (blk_set B6.out 0 (.int .i64 0)) 1 (.int .i64 0)) 2 (.slice none 0 0)) 3 (.slice none 0 0)) 4 (.int .i64 0)) 5 (.int .i64 5) (rfl : _ = (#[.int .i64 0, .int .i64 0, .slice none 0 0, .slice none 0 0, .int .i64 0, .int .i64 5] : Array Value))
          have hgz := (grown_two (grown_two (grown_two (grown_two (grown_two (grown_set w3 g6 0 (.int .i64 0)) (grown_set _ g6 1 (.int .i64 0))) (grown_set _ g6 2 (.slice none 0 0))) (grown_set _ g6 3 (.slice none 0 0))) (grown_set _ g6 4 (.int .i64 0))) (grown_set _ g6 5 (.int .i64 5)))
          clear r0_ rf0_ r1_ rf1_ r2_ rf2_ r3_ rf3_ r4_ rf4_ r5_ rf5_
          generalize ((((((w3.setCell ⟨g6, 0, none⟩ (.int .i64 0)).setCell ⟨g6, 1, none⟩ (.int .i64 0)).setCell ⟨g6, 2, none⟩ (.slice none 0 0)).setCell ⟨g6, 3, none⟩ (.slice none 0 0)).setCell ⟨g6, 4, none⟩ (.int .i64 0)).setCell ⟨g6, 5, none⟩ (.int .i64 5)) = wz at BZ hgz ⊢
          have r0_ := (blk_cell BZ 0).trans (rfl : _ = some ((.int .i64 0) : Value))
          have r1_ := (blk_cell BZ 1).trans (rfl : _ = some ((.int .i64 0) : Value))
          have r2_ := (blk_cell BZ 2).trans (rfl : _ = some ((.slice none 0 0) : Value))
          have r3_ := (blk_cell BZ 3).trans (rfl : _ = some ((.slice none 0 0) : Value))
          have r4_ := (blk_cell BZ 4).trans (rfl : _ = some ((.int .i64 0) : Value))
          have r5_ := (blk_cell BZ 5).trans (rfl : _ = some ((.int .i64 5) : Value))
          refine bodyPost_ret (v := .agg #[.int .i64 0, .int .i64 0, .slice none 0 0, .slice none 0 0, .int .i64 0, .int .i64 5]) (by simp [results, Try.results36, go_sem, r0_, r1_, r2_, r3_, r4_, r5_]) rfl ?_
          exact RGPost.bad (HGE.out) (HB.out.grown hgz (below_size HB.out) (fun k hk => by injection hk with hk; have := HG6.out; omega)) (by decide)
        · have hi1 : decide (n < 1) = false := decide_eq_false hn1
          have hi2 : decide (n > 16) = true := decide_eq_true (by omega)
          clear hin hn1
          have r0_ := (blk_cell B6.out 0).trans (rfl : _ = some ((.int .i64 0) : Value))
          have r1_ := (blk_cell B6.out 1).trans (rfl : _ = some ((.int .i64 0) : Value))
          have r2_ := (blk_cell B6.out 2).trans (rfl : _ = some ((.slice none 0 0) : Value))
          have r3_ := (blk_cell B6.out 3).trans (rfl : _ = some ((.slice none 0 0) : Value))
          have r4_ := (blk_cell B6.out 4).trans (rfl : _ = some ((.int .i64 0) : Value))
          have r5_ := (blk_cell B6.out 5).trans (rfl : _ = some ((.int .i64 0) : Value))
          have rf0_ := blk_frozen B6.out 0
          have rf1_ := blk_frozen B6.out 1
          have rf2_ := blk_frozen B6.out 2
          have rf3_ := blk_frozen B6.out 3
          have rf4_ := blk_frozen B6.out 4
          have rf5_ := blk_frozen B6.out 5
          go_wp2_with fail
          have BZ := blk_put (blk_set (blk_set (blk_set (blk_set (blk_set B6.out 0 (.int .i64 0)) 1 (.int .i64 0)) 2 (.slice none 0 0)) 3 (.slice none 0 0)) 4 (.int .i64 0)) 5 (.int .i64 5) (rfl : _ = (#[.int .i64 0, .int .i64 0, .slice none 0 0, .slice none 0 0, .int .i64 0, .int .i64 5] : Array Value))
          have hgz := (grown_two (grown_two (grown_two (grown_two (grown_two (grown_set w3 g6 0 (.int .i64 0)) (grown_set _ g6 1 (.int .i64 0))) (grown_set _ g6 2 (.slice none 0 0))) (grown_set _ g6 3 (.slice none 0 0))) (grown_set _ g6 4 (.int .i64 0))) (grown_set _ g6 5 (.int .i64 5)))
          clear r0_ rf0_ r1_ rf1_ r2_ rf2_ r3_ rf3_ r4_ rf4_ r5_ rf5_
          generalize ((((((w3.setCell ⟨g6, 0, none⟩ (.int .i64 0)).setCell ⟨g6, 1, none⟩ (.int .i64 0)).setCell ⟨g6, 2, none⟩ (.slice none 0 0)).setCell ⟨g6, 3, none⟩ (.slice none 0 0)).setCell ⟨g6, 4, none⟩ (.int .i64 0)).setCell ⟨g6, 5, none⟩ (.int .i64 5)) = wz at BZ hgz ⊢
          have r0_ := (blk_cell BZ 0).trans (rfl : _ = some ((.int .i64 0) : Value))
          have r1_ := (blk_cell BZ 1).trans (rfl : _ = some ((.int .i64 0) : Value))
          have r2_ := (blk_cell BZ 2).trans (rfl : _ = some ((.slice none 0 0) : Value))
          have r3_ := (blk_cell BZ 3).trans (rfl : _ = some ((.slice none 0 0) : Value))
          have r4_ := (blk_cell BZ 4).trans (rfl : _ = some ((.int .i64 0) : Value))
          have r5_ := (blk_cell BZ 5).trans (rfl : _ = some ((.int .i64 5) : Value))
          refine bodyPost_ret (v := .agg #[.int .i64 0, .int .i64 0, .slice none 0 0, .slice none 0 0, .int .i64 0, .int .i64 5]) (by simp [results, Try.results36, go_sem, r0_, r1_, r2_, r3_, r4_, r5_]) rfl ?_
          exact RGPost.bad (HGE.out) (HB.out.grown hgz (below_size HB.out) (fun k hk => by injection hk with hk; have := HG6.out; omega)) (by decide)
    · have herb : (er != 0) = true := by simpa using her
      have HGE : Aside0 (getE (d + 1) xs lf = .inl er) := ⟨by rw [← HER.out]; exact get_head H0.out (head_err (by rw [HER.out]; exact her))⟩
      have HNZ := Aside0.mk her
      clear her
      have r0_ := (blk_cell B6.out 0).trans (rfl : _ = some ((.int .i64 0) : Value))
      have r1_ := (blk_cell B6.out 1).trans (rfl : _ = some ((.int .i64 0) : Value))
      have r2_ := (blk_cell B6.out 2).trans (rfl : _ = some ((.slice none 0 0) : Value))
      have r3_ := (blk_cell B6.out 3).trans (rfl : _ = some ((.slice none 0 0) : Value))
      have r4_ := (blk_cell B6.out 4).trans (rfl : _ = some ((.int .i64 0) : Value))
      have r5_ := (blk_cell B6.out 5).trans (rfl : _ = some ((.int .i64 0) : Value))
      have rf0_ := blk_frozen B6.out 0
      have rf1_ := blk_frozen B6.out 1
      have rf2_ := blk_frozen B6.out 2
      have rf3_ := blk_frozen B6.out 3
      have rf4_ := blk_frozen B6.out 4
      have rf5_ := blk_frozen B6.out 5
      go_wp2_with fail
      have BZ := blk_put (blk_set (blk_set (blk_set (blk_set (blk_set B6.out 0 (.int .i64 0)) 1 (.int .i64 0)) 2 (.slice none 0 0)) 3 (.slice none 0 0)) 4 (.int .i64 0)) 5 (.int .i64 er) (rfl : _ = (#[.int .i64 0, .int .i64 0, .slice none 0 0, .slice none 0 0, .int .i64 0, .int .i64 er] : Array Value))
      have hgz := (grown_two (grown_two (grown_two (grown_two (grown_two (grown_set w3 g6 0 (.int .i64 0)) (grown_set _ g6 1 (.int .i64 0))) (grown_set _ g6 2 (.slice none 0 0))) (grown_set _ g6 3 (.slice none 0 0))) (grown_set _ g6 4 (.int .i64 0))) (grown_set _ g6 5 (.int .i64 er)))
      clear r0_ rf0_ r1_ rf1_ r2_ rf2_ r3_ rf3_ r4_ rf4_ r5_ rf5_
      generalize ((((((w3.setCell ⟨g6, 0, none⟩ (.int .i64 0)).setCell ⟨g6, 1, none⟩ (.int .i64 0)).setCell ⟨g6, 2, none⟩ (.slice none 0 0)).setCell ⟨g6, 3, none⟩ (.slice none 0 0)).setCell ⟨g6, 4, none⟩ (.int .i64 0)).setCell ⟨g6, 5, none⟩ (.int .i64 er)) = wz at BZ hgz ⊢
      have r0_ := (blk_cell BZ 0).trans (rfl : _ = some ((.int .i64 0) : Value))
      have r1_ := (blk_cell BZ 1).trans (rfl : _ = some ((.int .i64 0) : Value))
      have r2_ := (blk_cell BZ 2).trans (rfl : _ = some ((.slice none 0 0) : Value))
      have r3_ := (blk_cell BZ 3).trans (rfl : _ = some ((.slice none 0 0) : Value))
      have r4_ := (blk_cell BZ 4).trans (rfl : _ = some ((.int .i64 0) : Value))
      have r5_ := (blk_cell BZ 5).trans (rfl : _ = some ((.int .i64 er) : Value))
      refine bodyPost_ret (v := .agg #[.int .i64 0, .int .i64 0, .slice none 0 0, .slice none 0 0, .int .i64 0, .int .i64 er]) (by simp [results, Try.results36, go_sem, r0_, r1_, r2_, r3_, r4_, r5_]) rfl ?_
      exact RGPost.bad (HGE.out) (HB.out.grown hgz (below_size HB.out) (fun k hk => by injection hk with hk; have := HG6.out; omega)) HNZ.out

end Go.Proofs.Ytpcbcekfakjgkaa.Ex
