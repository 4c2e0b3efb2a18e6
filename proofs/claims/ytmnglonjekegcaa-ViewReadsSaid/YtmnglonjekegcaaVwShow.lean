/- (c11) The example, plain; literal rows of entries. -/
import Derived.Test.YtmnglonjekegcaaVwRd
import Derived.Test.YtmnglonjekegcaaVwSt
import Derived.Test.YtmnglonjekegcaaVwLT
namespace Go.Proofs.Ytmnglonjekegcaa.Vw
open Go Go.RowKit Go.Maps Go.Proofs.Ytmnglonjekegcaa.Mk Go.Proofs.Ytmnglonjekegcaa.Rp Go.Proofs.YtmnglonjekegcaaW.PrintWords Go.Proofs.YtmnglonjekegcaaW.PrintLast Go.Proofs.YtmnglonjekegcaaW.PrintMore Go.Proofs.Ytmnglonjekegcaa.Rw Go.Proofs.Ytmnglonjekegcaa.Ow Go.Proofs.Ytmnglonjekegcaa.Mono
set_option linter.unusedVariables false
set_option linter.unusedSimpArgs false
set_option maxRecDepth 100000
def dE : S47 := ⟨2, 1, 0, 0, 5, ⟨3, 0, 0⟩, false, [], []⟩
def cE : S47 := ⟨3, 1, 0, 0, 0, ⟨0, 0, 0⟩, false, [], []⟩
def fE : S47 := ⟨5, 1, 1, 0, 0, ⟨0, 0, 0⟩, false, [], []⟩
theorem th1 : throughV [dE] = ⟨[], [⟨⟨1, 0, 0, [], [], 0⟩, [(0, dE)]⟩]⟩ := by kernel_rfl
theorem th2 : throughV [dE, cE] = ⟨[⟨5, [⟨3, 0, 0⟩], [false]⟩], [⟨⟨1, 0, 1, [], [], 0⟩, []⟩]⟩ := by kernel_rfl
theorem th3 : throughV [fE, dE, cE] = ⟨[], [⟨⟨1, 1, 0, [], [], 0⟩, []⟩]⟩ := by kernel_rfl
theorem sortI_nil : sortI [] = [] := by simp [sortI]
theorem sortI_one (a : Int) : sortI [a] = [a] := by simp [sortI]
theorem rd1 : readV [dE] = ⟨[], [⟨1, 0, 0, [], [], 1⟩], 1⟩ := by
  unfold readV; rw [th1]; simp only [List.map_cons, List.map_nil, sortI_nil, sortI_one]; rfl
theorem rd2 : readV [dE, cE] = ⟨[⟨5, [⟨3, 0, 0⟩], [false]⟩], [⟨1, 0, 1, [], [], 0⟩], 2⟩ := by
  unfold readV; rw [th2]; simp only [List.map_cons, List.map_nil, sortI_nil, sortI_one]; rfl
theorem rd3 : readV [fE, dE, cE] = ⟨[], [⟨1, 1, 0, [], [], 0⟩], 3⟩ := by
  unfold readV; rw [th3]; simp only [List.map_cons, List.map_nil, sortI_nil, sortI_one]; rfl
theorem st1 : stableV [dE] = 0 := by unfold stableV; rw [th1]; rfl
/-- A literal row of entries without numbers. -/
def ent0 (x : S47) : List Value := entC x none 0 none 0
theorem lit_C (w : World) (l : List S47) (h : ∀ x ∈ l, x.f7 = [] ∧ x.f8 = []) (hl : l.length ≤ 900) {g : Nat} (hg : w.heap[g]? = some (.cells (l.flatMap ent0).toArray 47 (0, 0))) : Kd.C k47 w (some ⟨g, 0, none⟩) l.length l := by
  have hr := reps_map (K := k47.K w) (sz := 11) l ent0 id fun x hx => ⟨by
    obtain ⟨h7, h8⟩ := h x hx
    have hc : ∀ l : List Int, l = [] → (Kd.int .i64).C w none l.length l := fun l hl => by subst hl; exact ⟨rfl, by simp, fun h => by simp at h⟩
    have := k47_mk w x (A9 := none) (c9 := 0) (by rw [h7]; exact Nat.le_refl _) (hc _ h7) (A10 := none) (c10 := 0) (by rw [h8]; exact Nat.le_refl _) (hc _ h8)
    exact this, rfl⟩
  rw [List.map_id] at hr
  have hlen : (l.flatMap ent0).length = l.length * 11 := by
    clear hg hr h hl
    induction l with
    | nil => rfl
    | cons x l ih => rw [List.flatMap_cons, List.length_append, ih, List.length_cons]; show 11 + _ = _; omega
  obtain ⟨A, c, e, _, hC⟩ := C_own (d := k47) (base := 0) (own_mk (rest := []) (n := l.length) (cap := l.length) (sz := 11) (Nat.zero_le _) hg (Nat.le_refl _) (Nat.le_trans hl (by decide)) hlen (by simp) (by simp)) hr rfl
  injection e with e1 _ _
  rw [e1]
  exact hC
end Go.Proofs.Ytmnglonjekegcaa.Vw
namespace Go.Proofs.Ytmnglonjekegcaa.Vw
open Go Go.RowKit Go.Maps Go.Proofs.Ytmnglonjekegcaa.Mk Go.Proofs.Ytmnglonjekegcaa.Rp Go.Proofs.YtmnglonjekegcaaW.PrintWords Go.Proofs.YtmnglonjekegcaaW.PrintLast Go.Proofs.YtmnglonjekegcaaW.PrintMore Go.Proofs.Ytmnglonjekegcaa.Rw Go.Proofs.Ytmnglonjekegcaa.Ow Go.Proofs.Ytmnglonjekegcaa.Mono
set_option linter.unusedVariables false
set_option linter.unusedSimpArgs false
set_option maxRecDepth 100000
theorem field_recs (a : Int) (B1 B2 : Option Addr) (m1 d1 m2 d2 : Nat) (w : World) : (Instr.field 36 (.agg #[.int .i64 a, .slice B1 m1 d1, .slice B2 m2 d2]) 1).run Try.prog w = .ok (.slice B1 m1 d1) w := by rfl
theorem field_epoch (a b c o : Int) (B1 B2 : Option Addr) (m1 d1 m2 d2 : Nat) (w : World) : (Instr.field 41 (.agg #[.int .i64 a, .int .i64 b, .int .i64 c, .slice B1 m1 d1, .slice B2 m2 d2, .int .i64 o]) 1).run Try.prog w = .ok (.int .i64 b) w := by rfl
set_option maxHeartbeats 4000000 in
theorem shown_ok (w : World) : Calls Try.prog 9 #[] w fun e w' => e = .returned (.bool true) ∧ Below w.heap.size w w' := by
  have HB := Aside0.mk (Below.refl w.heap.size w)
  go_enter Try.func9, Try.ntmps9
  go_upto_region 2 with fail
  have HD := Aside0.mk (heap_alloc_new w (.cells #[.int .i64 2, .int .i64 1, .int .i64 0, .int .i64 0, .int .i64 5, .int .i64 3, .int .i64 0, .int .i64 0, .bool false, .slice none 0 0, .slice none 0 0] 47))
  have hb_ := below_alloc (Below.refl w.heap.size w) (.cells #[.int .i64 2, .int .i64 1, .int .i64 0, .int .i64 0, .int .i64 5, .int .i64 3, .int .i64 0, .int .i64 0, .bool false, .slice none 0 0, .slice none 0 0] 47)
  have hs_ : (w.alloc (.cells #[.int .i64 2, .int .i64 1, .int .i64 0, .int .i64 0, .int .i64 5, .int .i64 3, .int .i64 0, .int .i64 0, .bool false, .slice none 0 0, .slice none 0 0] 47)).heap.size = w.heap.size + 1 := by simp
  generalize w.alloc (.cells #[.int .i64 2, .int .i64 1, .int .i64 0, .int .i64 0, .int .i64 5, .int .i64 3, .int .i64 0, .int .i64 0, .bool false, .slice none 0 0, .slice none 0 0] 47) = w1 at HD hb_ hs_ ⊢
  replace HB := Aside0.mk (below_step HB.out hb_)
  clear hb_
  clear hs_
  obtain ⟨gd, Hgd⟩ : ∃ g, Aside0 (w.heap.size = g) := ⟨_, ⟨rfl⟩⟩
  rw [Hgd.out] at HD ⊢
  go_upto_region 3 with fail
  have HC := Aside0.mk (heap_alloc_new w1 (.cells #[.int .i64 3, .int .i64 1, .int .i64 0, .int .i64 0, .int .i64 0, .int .i64 0, .int .i64 0, .int .i64 0, .bool false, .slice none 0 0, .slice none 0 0] 47))
  have hb_ := below_alloc (Below.refl w1.heap.size w1) (.cells #[.int .i64 3, .int .i64 1, .int .i64 0, .int .i64 0, .int .i64 0, .int .i64 0, .int .i64 0, .int .i64 0, .bool false, .slice none 0 0, .slice none 0 0] 47)
  have hs_ : (w1.alloc (.cells #[.int .i64 3, .int .i64 1, .int .i64 0, .int .i64 0, .int .i64 0, .int .i64 0, .int .i64 0, .int .i64 0, .bool false, .slice none 0 0, .slice none 0 0] 47)).heap.size = w1.heap.size + 1 := by simp
  generalize w1.alloc (.cells #[.int .i64 3, .int .i64 1, .int .i64 0, .int .i64 0, .int .i64 0, .int .i64 0, .int .i64 0, .int .i64 0, .bool false, .slice none 0 0, .slice none 0 0] 47) = w2 at HC hb_ hs_ ⊢
  replace HD := Aside0.mk (blk_below HD.out hb_)
  replace HB := Aside0.mk (below_step HB.out hb_)
  clear hb_
  clear hs_
  obtain ⟨gc, Hgc⟩ : ∃ g, Aside0 (w1.heap.size = g) := ⟨_, ⟨rfl⟩⟩
  rw [Hgc.out] at HC ⊢
  go_upto_region 4 with fail
  have HF := Aside0.mk (heap_alloc_new w2 (.cells #[.int .i64 5, .int .i64 1, .int .i64 1, .int .i64 0, .int .i64 0, .int .i64 0, .int .i64 0, .int .i64 0, .bool false, .slice none 0 0, .slice none 0 0] 47))
  have hb_ := below_alloc (Below.refl w2.heap.size w2) (.cells #[.int .i64 5, .int .i64 1, .int .i64 1, .int .i64 0, .int .i64 0, .int .i64 0, .int .i64 0, .int .i64 0, .bool false, .slice none 0 0, .slice none 0 0] 47)
  have hs_ : (w2.alloc (.cells #[.int .i64 5, .int .i64 1, .int .i64 1, .int .i64 0, .int .i64 0, .int .i64 0, .int .i64 0, .int .i64 0, .bool false, .slice none 0 0, .slice none 0 0] 47)).heap.size = w2.heap.size + 1 := by simp
  generalize w2.alloc (.cells #[.int .i64 5, .int .i64 1, .int .i64 1, .int .i64 0, .int .i64 0, .int .i64 0, .int .i64 0, .int .i64 0, .bool false, .slice none 0 0, .slice none 0 0] 47) = w3 at HF hb_ hs_ ⊢
  replace HD := Aside0.mk (blk_below HD.out hb_)
  replace HC := Aside0.mk (blk_below HC.out hb_)
  replace HB := Aside0.mk (below_step HB.out hb_)
  clear hb_
  clear hs_
  obtain ⟨gf, Hgf⟩ : ∃ g, Aside0 (w2.heap.size = g) := ⟨_, ⟨rfl⟩⟩
  rw [Hgf.out] at HF ⊢

  have d0_ := (blk_cell HD.out 0).trans (rfl : _ = some (.int .i64 2 : Value))
  have d1_ := (blk_cell HD.out 1).trans (rfl : _ = some (.int .i64 1 : Value))
  have d2_ := (blk_cell HD.out 2).trans (rfl : _ = some (.int .i64 0 : Value))
  have d3_ := (blk_cell HD.out 3).trans (rfl : _ = some (.int .i64 0 : Value))
  have d4_ := (blk_cell HD.out 4).trans (rfl : _ = some (.int .i64 5 : Value))
  have d5_ := (blk_cell HD.out 5).trans (rfl : _ = some (.int .i64 3 : Value))
  have d6_ := (blk_cell HD.out 6).trans (rfl : _ = some (.int .i64 0 : Value))
  have d7_ := (blk_cell HD.out 7).trans (rfl : _ = some (.int .i64 0 : Value))
  have d8_ := (blk_cell HD.out 8).trans (rfl : _ = some (.bool false : Value))
  have d9_ := (blk_cell HD.out 9).trans (rfl : _ = some (.slice none 0 0 : Value))
  have d10_ := (blk_cell HD.out 10).trans (rfl : _ = some (.slice none 0 0 : Value))
  go_wp2_with fail
  refine (read_ok (some ⟨w3.heap.size, 0, none⟩) 1 1 [dE] _ (lit_C _ [dE] (by intro x hx; simp at hx; rcases hx with rfl <;> exact ⟨rfl, rfl⟩) (by simp) (heap_alloc_new _ _)) (by omega) (by omega)).mono ?_
  rintro e_ w4 ⟨Aa1, ca1, Aa2, ca2, rfl, hb_, q1_, g1_, q2_, g2_⟩
  clear d0_ d1_ d2_ d3_ d4_ d5_ d6_ d7_ d8_ d9_ d10_
  rw [rd1] at q1_ g1_ q2_ g2_ ⊢
  simp only [List.length_cons, List.length_nil, Nat.zero_add] at q1_ g1_ q2_ g2_ ⊢
  replace HD := Aside0.mk (blk_below HD.out (below_step (below_alloc (Below.refl _ _) _) hb_))
  replace HC := Aside0.mk (blk_below HC.out (below_step (below_alloc (Below.refl _ _) _) hb_))
  replace HF := Aside0.mk (blk_below HF.out (below_step (below_alloc (Below.refl _ _) _) hb_))
  replace HB := Aside0.mk (below_step HB.out (below_step (below_alloc (Below.refl _ _) _) hb_))
  have HGa := Aside0.mk (And.intro g1_ (And.intro q1_ (And.intro g2_ q2_)))
  clear hb_ q1_ g1_ q2_ g2_
  go_upto_region 5 with fail
  have HOa := Aside0.mk (heap_alloc_new w4 (.cells #[.slice Aa1 0 ca1, .slice Aa2 1 ca2, .int .i64 1] 29))
  have hb_ := below_alloc (Below.refl w4.heap.size w4) (.cells #[.slice Aa1 0 ca1, .slice Aa2 1 ca2, .int .i64 1] 29)
  have hs_ : (w4.alloc (.cells #[.slice Aa1 0 ca1, .slice Aa2 1 ca2, .int .i64 1] 29)).heap.size = w4.heap.size + 1 := by simp
  generalize w4.alloc (.cells #[.slice Aa1 0 ca1, .slice Aa2 1 ca2, .int .i64 1] 29) = w5 at HOa hb_ hs_ ⊢
  replace HD := Aside0.mk (blk_below HD.out hb_)
  replace HC := Aside0.mk (blk_below HC.out hb_)
  replace HF := Aside0.mk (blk_below HF.out hb_)
  replace HB := Aside0.mk (below_step HB.out hb_)
  replace HGa := Aside0.mk (And.intro (Kd.C_below HGa.out.1 hb_) (And.intro HGa.out.2.1 (And.intro (Kd.C_below HGa.out.2.2.1 hb_) HGa.out.2.2.2)))
  clear hb_
  clear hs_
  obtain ⟨ga, Hga⟩ : ∃ g, Aside0 (w4.heap.size = g) := ⟨_, ⟨rfl⟩⟩
  rw [Hga.out] at HOa ⊢

  have d0_ := (blk_cell HD.out 0).trans (rfl : _ = some (.int .i64 2 : Value))
  have d1_ := (blk_cell HD.out 1).trans (rfl : _ = some (.int .i64 1 : Value))
  have d2_ := (blk_cell HD.out 2).trans (rfl : _ = some (.int .i64 0 : Value))
  have d3_ := (blk_cell HD.out 3).trans (rfl : _ = some (.int .i64 0 : Value))
  have d4_ := (blk_cell HD.out 4).trans (rfl : _ = some (.int .i64 5 : Value))
  have d5_ := (blk_cell HD.out 5).trans (rfl : _ = some (.int .i64 3 : Value))
  have d6_ := (blk_cell HD.out 6).trans (rfl : _ = some (.int .i64 0 : Value))
  have d7_ := (blk_cell HD.out 7).trans (rfl : _ = some (.int .i64 0 : Value))
  have d8_ := (blk_cell HD.out 8).trans (rfl : _ = some (.bool false : Value))
  have d9_ := (blk_cell HD.out 9).trans (rfl : _ = some (.slice none 0 0 : Value))
  have d10_ := (blk_cell HD.out 10).trans (rfl : _ = some (.slice none 0 0 : Value))
  have c0_ := (blk_cell HC.out 0).trans (rfl : _ = some (.int .i64 3 : Value))
  have c1_ := (blk_cell HC.out 1).trans (rfl : _ = some (.int .i64 1 : Value))
  have c2_ := (blk_cell HC.out 2).trans (rfl : _ = some (.int .i64 0 : Value))
  have c3_ := (blk_cell HC.out 3).trans (rfl : _ = some (.int .i64 0 : Value))
  have c4_ := (blk_cell HC.out 4).trans (rfl : _ = some (.int .i64 0 : Value))
  have c5_ := (blk_cell HC.out 5).trans (rfl : _ = some (.int .i64 0 : Value))
  have c6_ := (blk_cell HC.out 6).trans (rfl : _ = some (.int .i64 0 : Value))
  have c7_ := (blk_cell HC.out 7).trans (rfl : _ = some (.int .i64 0 : Value))
  have c8_ := (blk_cell HC.out 8).trans (rfl : _ = some (.bool false : Value))
  have c9_ := (blk_cell HC.out 9).trans (rfl : _ = some (.slice none 0 0 : Value))
  have c10_ := (blk_cell HC.out 10).trans (rfl : _ = some (.slice none 0 0 : Value))
  go_wp2_with fail
  refine (read_ok (some ⟨w5.heap.size, 0, none⟩) 2 2 [dE, cE] _ (lit_C _ [dE, cE] (by intro x hx; simp at hx; rcases hx with rfl | rfl <;> exact ⟨rfl, rfl⟩) (by simp) (heap_alloc_new _ _)) (by omega) (by omega)).mono ?_
  rintro e_ w6 ⟨Ab1, cb1, Ab2, cb2, rfl, hb_, q1_, g1_, q2_, g2_⟩
  clear d0_ d1_ d2_ d3_ d4_ d5_ d6_ d7_ d8_ d9_ d10_
  clear c0_ c1_ c2_ c3_ c4_ c5_ c6_ c7_ c8_ c9_ c10_
  rw [rd2] at q1_ g1_ q2_ g2_ ⊢
  simp only [List.length_cons, List.length_nil, Nat.zero_add] at q1_ g1_ q2_ g2_ ⊢
  replace HD := Aside0.mk (blk_below HD.out (below_step (below_alloc (Below.refl _ _) _) hb_))
  replace HC := Aside0.mk (blk_below HC.out (below_step (below_alloc (Below.refl _ _) _) hb_))
  replace HF := Aside0.mk (blk_below HF.out (below_step (below_alloc (Below.refl _ _) _) hb_))
  replace HOa := Aside0.mk (blk_below HOa.out (below_step (below_alloc (Below.refl _ _) _) hb_))
  replace HB := Aside0.mk (below_step HB.out (below_step (below_alloc (Below.refl _ _) _) hb_))
  replace HGa := Aside0.mk (And.intro (Kd.C_below HGa.out.1 (below_step (below_alloc (Below.refl _ _) _) hb_)) (And.intro HGa.out.2.1 (And.intro (Kd.C_below HGa.out.2.2.1 (below_step (below_alloc (Below.refl _ _) _) hb_)) HGa.out.2.2.2)))
  have HGb := Aside0.mk (And.intro g1_ (And.intro q1_ (And.intro g2_ q2_)))
  clear hb_ q1_ g1_ q2_ g2_
  go_upto_region 6 with fail
  have HOb := Aside0.mk (heap_alloc_new w6 (.cells #[.slice Ab1 1 cb1, .slice Ab2 1 cb2, .int .i64 2] 29))
  have hb_ := below_alloc (Below.refl w6.heap.size w6) (.cells #[.slice Ab1 1 cb1, .slice Ab2 1 cb2, .int .i64 2] 29)
  have hs_ : (w6.alloc (.cells #[.slice Ab1 1 cb1, .slice Ab2 1 cb2, .int .i64 2] 29)).heap.size = w6.heap.size + 1 := by simp
  generalize w6.alloc (.cells #[.slice Ab1 1 cb1, .slice Ab2 1 cb2, .int .i64 2] 29) = w7 at HOb hb_ hs_ ⊢
  replace HD := Aside0.mk (blk_below HD.out hb_)
  replace HC := Aside0.mk (blk_below HC.out hb_)
  replace HF := Aside0.mk (blk_below HF.out hb_)
  replace HOa := Aside0.mk (blk_below HOa.out hb_)
  replace HB := Aside0.mk (below_step HB.out hb_)
  replace HGa := Aside0.mk (And.intro (Kd.C_below HGa.out.1 hb_) (And.intro HGa.out.2.1 (And.intro (Kd.C_below HGa.out.2.2.1 hb_) HGa.out.2.2.2)))
  replace HGb := Aside0.mk (And.intro (Kd.C_below HGb.out.1 hb_) (And.intro HGb.out.2.1 (And.intro (Kd.C_below HGb.out.2.2.1 hb_) HGb.out.2.2.2)))
  clear hb_
  clear hs_
  obtain ⟨gb, Hgb⟩ : ∃ g, Aside0 (w6.heap.size = g) := ⟨_, ⟨rfl⟩⟩
  rw [Hgb.out] at HOb ⊢

  have f0_ := (blk_cell HF.out 0).trans (rfl : _ = some (.int .i64 5 : Value))
  have f1_ := (blk_cell HF.out 1).trans (rfl : _ = some (.int .i64 1 : Value))
  have f2_ := (blk_cell HF.out 2).trans (rfl : _ = some (.int .i64 1 : Value))
  have f3_ := (blk_cell HF.out 3).trans (rfl : _ = some (.int .i64 0 : Value))
  have f4_ := (blk_cell HF.out 4).trans (rfl : _ = some (.int .i64 0 : Value))
  have f5_ := (blk_cell HF.out 5).trans (rfl : _ = some (.int .i64 0 : Value))
  have f6_ := (blk_cell HF.out 6).trans (rfl : _ = some (.int .i64 0 : Value))
  have f7_ := (blk_cell HF.out 7).trans (rfl : _ = some (.int .i64 0 : Value))
  have f8_ := (blk_cell HF.out 8).trans (rfl : _ = some (.bool false : Value))
  have f9_ := (blk_cell HF.out 9).trans (rfl : _ = some (.slice none 0 0 : Value))
  have f10_ := (blk_cell HF.out 10).trans (rfl : _ = some (.slice none 0 0 : Value))
  have d0_ := (blk_cell HD.out 0).trans (rfl : _ = some (.int .i64 2 : Value))
  have d1_ := (blk_cell HD.out 1).trans (rfl : _ = some (.int .i64 1 : Value))
  have d2_ := (blk_cell HD.out 2).trans (rfl : _ = some (.int .i64 0 : Value))
  have d3_ := (blk_cell HD.out 3).trans (rfl : _ = some (.int .i64 0 : Value))
  have d4_ := (blk_cell HD.out 4).trans (rfl : _ = some (.int .i64 5 : Value))
  have d5_ := (blk_cell HD.out 5).trans (rfl : _ = some (.int .i64 3 : Value))
  have d6_ := (blk_cell HD.out 6).trans (rfl : _ = some (.int .i64 0 : Value))
  have d7_ := (blk_cell HD.out 7).trans (rfl : _ = some (.int .i64 0 : Value))
  have d8_ := (blk_cell HD.out 8).trans (rfl : _ = some (.bool false : Value))
  have d9_ := (blk_cell HD.out 9).trans (rfl : _ = some (.slice none 0 0 : Value))
  have d10_ := (blk_cell HD.out 10).trans (rfl : _ = some (.slice none 0 0 : Value))
  have c0_ := (blk_cell HC.out 0).trans (rfl : _ = some (.int .i64 3 : Value))
  have c1_ := (blk_cell HC.out 1).trans (rfl : _ = some (.int .i64 1 : Value))
  have c2_ := (blk_cell HC.out 2).trans (rfl : _ = some (.int .i64 0 : Value))
  have c3_ := (blk_cell HC.out 3).trans (rfl : _ = some (.int .i64 0 : Value))
  have c4_ := (blk_cell HC.out 4).trans (rfl : _ = some (.int .i64 0 : Value))
  have c5_ := (blk_cell HC.out 5).trans (rfl : _ = some (.int .i64 0 : Value))
  have c6_ := (blk_cell HC.out 6).trans (rfl : _ = some (.int .i64 0 : Value))
  have c7_ := (blk_cell HC.out 7).trans (rfl : _ = some (.int .i64 0 : Value))
  have c8_ := (blk_cell HC.out 8).trans (rfl : _ = some (.bool false : Value))
  have c9_ := (blk_cell HC.out 9).trans (rfl : _ = some (.slice none 0 0 : Value))
  have c10_ := (blk_cell HC.out 10).trans (rfl : _ = some (.slice none 0 0 : Value))
  go_wp2_with fail
  refine (read_ok (some ⟨w7.heap.size, 0, none⟩) 3 3 [fE, dE, cE] _ (lit_C _ [fE, dE, cE] (by intro x hx; simp at hx; rcases hx with rfl | rfl | rfl <;> exact ⟨rfl, rfl⟩) (by simp) (heap_alloc_new _ _)) (by omega) (by omega)).mono ?_
  rintro e_ w8 ⟨Ae1, ce1, Ae2, ce2, rfl, hb_, q1_, g1_, q2_, g2_⟩
  clear f0_ f1_ f2_ f3_ f4_ f5_ f6_ f7_ f8_ f9_ f10_
  clear d0_ d1_ d2_ d3_ d4_ d5_ d6_ d7_ d8_ d9_ d10_
  clear c0_ c1_ c2_ c3_ c4_ c5_ c6_ c7_ c8_ c9_ c10_
  rw [rd3] at q1_ g1_ q2_ g2_ ⊢
  simp only [List.length_cons, List.length_nil, Nat.zero_add] at q1_ g1_ q2_ g2_ ⊢
  replace HD := Aside0.mk (blk_below HD.out (below_step (below_alloc (Below.refl _ _) _) hb_))
  replace HC := Aside0.mk (blk_below HC.out (below_step (below_alloc (Below.refl _ _) _) hb_))
  replace HF := Aside0.mk (blk_below HF.out (below_step (below_alloc (Below.refl _ _) _) hb_))
  replace HOa := Aside0.mk (blk_below HOa.out (below_step (below_alloc (Below.refl _ _) _) hb_))
  replace HOb := Aside0.mk (blk_below HOb.out (below_step (below_alloc (Below.refl _ _) _) hb_))
  replace HB := Aside0.mk (below_step HB.out (below_step (below_alloc (Below.refl _ _) _) hb_))
  replace HGa := Aside0.mk (And.intro (Kd.C_below HGa.out.1 (below_step (below_alloc (Below.refl _ _) _) hb_)) (And.intro HGa.out.2.1 (And.intro (Kd.C_below HGa.out.2.2.1 (below_step (below_alloc (Below.refl _ _) _) hb_)) HGa.out.2.2.2)))
  replace HGb := Aside0.mk (And.intro (Kd.C_below HGb.out.1 (below_step (below_alloc (Below.refl _ _) _) hb_)) (And.intro HGb.out.2.1 (And.intro (Kd.C_below HGb.out.2.2.1 (below_step (below_alloc (Below.refl _ _) _) hb_)) HGb.out.2.2.2)))
  have HGe := Aside0.mk (And.intro g1_ (And.intro q1_ (And.intro g2_ q2_)))
  clear hb_ q1_ g1_ q2_ g2_
  go_upto_region 7 with fail
  have HOe := Aside0.mk (heap_alloc_new w8 (.cells #[.slice Ae1 0 ce1, .slice Ae2 1 ce2, .int .i64 3] 29))
  have hb_ := below_alloc (Below.refl w8.heap.size w8) (.cells #[.slice Ae1 0 ce1, .slice Ae2 1 ce2, .int .i64 3] 29)
  have hs_ : (w8.alloc (.cells #[.slice Ae1 0 ce1, .slice Ae2 1 ce2, .int .i64 3] 29)).heap.size = w8.heap.size + 1 := by simp
  generalize w8.alloc (.cells #[.slice Ae1 0 ce1, .slice Ae2 1 ce2, .int .i64 3] 29) = w9 at HOe hb_ hs_ ⊢
  replace HD := Aside0.mk (blk_below HD.out hb_)
  replace HC := Aside0.mk (blk_below HC.out hb_)
  replace HF := Aside0.mk (blk_below HF.out hb_)
  replace HOa := Aside0.mk (blk_below HOa.out hb_)
  replace HOb := Aside0.mk (blk_below HOb.out hb_)
  replace HB := Aside0.mk (below_step HB.out hb_)
  replace HGa := Aside0.mk (And.intro (Kd.C_below HGa.out.1 hb_) (And.intro HGa.out.2.1 (And.intro (Kd.C_below HGa.out.2.2.1 hb_) HGa.out.2.2.2)))
  replace HGb := Aside0.mk (And.intro (Kd.C_below HGb.out.1 hb_) (And.intro HGb.out.2.1 (And.intro (Kd.C_below HGb.out.2.2.1 hb_) HGb.out.2.2.2)))
  replace HGe := Aside0.mk (And.intro (Kd.C_below HGe.out.1 hb_) (And.intro HGe.out.2.1 (And.intro (Kd.C_below HGe.out.2.2.1 hb_) HGe.out.2.2.2)))
  clear hb_
  clear hs_
  obtain ⟨ge, Hge⟩ : ∃ g, Aside0 (w8.heap.size = g) := ⟨_, ⟨rfl⟩⟩
  rw [Hge.out] at HOe ⊢

  have d0_ := (blk_cell HD.out 0).trans (rfl : _ = some (.int .i64 2 : Value))
  have d1_ := (blk_cell HD.out 1).trans (rfl : _ = some (.int .i64 1 : Value))
  have d2_ := (blk_cell HD.out 2).trans (rfl : _ = some (.int .i64 0 : Value))
  have d3_ := (blk_cell HD.out 3).trans (rfl : _ = some (.int .i64 0 : Value))
  have d4_ := (blk_cell HD.out 4).trans (rfl : _ = some (.int .i64 5 : Value))
  have d5_ := (blk_cell HD.out 5).trans (rfl : _ = some (.int .i64 3 : Value))
  have d6_ := (blk_cell HD.out 6).trans (rfl : _ = some (.int .i64 0 : Value))
  have d7_ := (blk_cell HD.out 7).trans (rfl : _ = some (.int .i64 0 : Value))
  have d8_ := (blk_cell HD.out 8).trans (rfl : _ = some (.bool false : Value))
  have d9_ := (blk_cell HD.out 9).trans (rfl : _ = some (.slice none 0 0 : Value))
  have d10_ := (blk_cell HD.out 10).trans (rfl : _ = some (.slice none 0 0 : Value))
  go_wp2_with fail
  refine (stable_ok (some ⟨w9.heap.size, 0, none⟩) 1 1 [dE] _ (lit_C _ [dE] (by intro x hx; simp at hx; rcases hx with rfl <;> exact ⟨rfl, rfl⟩) (by simp) (heap_alloc_new _ _)) (by omega) (by omega)).mono ?_
  rintro e_ wa ⟨rfl, hb_⟩
  rw [st1]
  clear d0_ d1_ d2_ d3_ d4_ d5_ d6_ d7_ d8_ d9_ d10_
  replace HD := Aside0.mk (blk_below HD.out (below_step (below_alloc (Below.refl _ _) _) hb_))
  replace HC := Aside0.mk (blk_below HC.out (below_step (below_alloc (Below.refl _ _) _) hb_))
  replace HF := Aside0.mk (blk_below HF.out (below_step (below_alloc (Below.refl _ _) _) hb_))
  replace HOa := Aside0.mk (blk_below HOa.out (below_step (below_alloc (Below.refl _ _) _) hb_))
  replace HOb := Aside0.mk (blk_below HOb.out (below_step (below_alloc (Below.refl _ _) _) hb_))
  replace HOe := Aside0.mk (blk_below HOe.out (below_step (below_alloc (Below.refl _ _) _) hb_))
  replace HB := Aside0.mk (below_step HB.out (below_step (below_alloc (Below.refl _ _) _) hb_))
  replace HGa := Aside0.mk (And.intro (Kd.C_below HGa.out.1 (below_step (below_alloc (Below.refl _ _) _) hb_)) (And.intro HGa.out.2.1 (And.intro (Kd.C_below HGa.out.2.2.1 (below_step (below_alloc (Below.refl _ _) _) hb_)) HGa.out.2.2.2)))
  replace HGb := Aside0.mk (And.intro (Kd.C_below HGb.out.1 (below_step (below_alloc (Below.refl _ _) _) hb_)) (And.intro HGb.out.2.1 (And.intro (Kd.C_below HGb.out.2.2.1 (below_step (below_alloc (Below.refl _ _) _) hb_)) HGb.out.2.2.2)))
  replace HGe := Aside0.mk (And.intro (Kd.C_below HGe.out.1 (below_step (below_alloc (Below.refl _ _) _) hb_)) (And.intro HGe.out.2.1 (And.intro (Kd.C_below HGe.out.2.2.1 (below_step (below_alloc (Below.refl _ _) _) hb_)) HGe.out.2.2.2)))
  clear hb_
  have a0_ := (blk_cell HOa.out 0).trans (rfl : _ = some (.slice Aa1 0 ca1 : Value))
  have a1_ := (blk_cell HOa.out 1).trans (rfl : _ = some (.slice Aa2 1 ca2 : Value))
  have a2_ := (blk_cell HOa.out 2).trans (rfl : _ = some (.int .i64 1 : Value))
  have b0_ := (blk_cell HOb.out 0).trans (rfl : _ = some (.slice Ab1 1 cb1 : Value))
  have b1_ := (blk_cell HOb.out 1).trans (rfl : _ = some (.slice Ab2 1 cb2 : Value))
  have b2_ := (blk_cell HOb.out 2).trans (rfl : _ = some (.int .i64 2 : Value))
  go_wp2_with fail
  refine (log_ok Ab1 Ab2 1 cb1 1 cb2 2 5 [⟨5, [⟨3, 0, 0⟩], [false]⟩] wa HGb.out.1 (by omega) HGb.out.2.1).mono ?_
  rintro e_ wb ⟨B1, d1, B2, d2, rfl, hb_, hq_⟩
  rw [show getLV [⟨5, [⟨3, 0, 0⟩], [false]⟩] 5 = ⟨5, [⟨3, 0, 0⟩], [false]⟩ from rfl]
  simp only [List.length_cons, List.length_nil, Nat.zero_add]
  clear a0_ a1_ a2_
  clear b0_ b1_ b2_
  replace HD := Aside0.mk (blk_below HD.out hb_)
  replace HC := Aside0.mk (blk_below HC.out hb_)
  replace HF := Aside0.mk (blk_below HF.out hb_)
  replace HOa := Aside0.mk (blk_below HOa.out hb_)
  replace HOb := Aside0.mk (blk_below HOb.out hb_)
  replace HOe := Aside0.mk (blk_below HOe.out hb_)
  replace HB := Aside0.mk (below_step HB.out hb_)
  replace HGa := Aside0.mk (And.intro (Kd.C_below HGa.out.1 hb_) (And.intro HGa.out.2.1 (And.intro (Kd.C_below HGa.out.2.2.1 hb_) HGa.out.2.2.2)))
  replace HGb := Aside0.mk (And.intro (Kd.C_below HGb.out.1 hb_) (And.intro HGb.out.2.1 (And.intro (Kd.C_below HGb.out.2.2.1 hb_) HGb.out.2.2.2)))
  replace HGe := Aside0.mk (And.intro (Kd.C_below HGe.out.1 hb_) (And.intro HGe.out.2.1 (And.intro (Kd.C_below HGe.out.2.2.1 hb_) HGe.out.2.2.2)))
  clear hb_ hq_
  have e0_ := (blk_cell HOe.out 0).trans (rfl : _ = some (.slice Ae1 0 ce1 : Value))
  have e1_ := (blk_cell HOe.out 1).trans (rfl : _ = some (.slice Ae2 1 ce2 : Value))
  have e2_ := (blk_cell HOe.out 2).trans (rfl : _ = some (.int .i64 3 : Value))
  have fr_ := field_recs 5 B1 B2 1 d1 1 d2 wb
  go_wp2_with fail
  clear fr_
  refine (taskv_ok Ae1 Ae2 0 ce1 1 ce2 3 1 [⟨1, 1, 0, [], [], 0⟩] wb HGe.out.2.2.1 (by omega) HGe.out.2.2.2).mono ?_
  rintro e_ wc ⟨B3, d3, B4, d4, rfl, hb_, hq_⟩
  rw [show getTV [⟨1, 1, 0, [], [], 0⟩] 1 = ⟨1, 1, 0, [], [], 0⟩ from rfl]
  simp only [List.length_cons, List.length_nil, Nat.zero_add]
  clear e0_ e1_ e2_
  replace HB := Aside0.mk (below_step HB.out hb_)
  clear hb_ hq_
  have fr_ := field_epoch 1 1 0 0 B3 B4 0 d3 0 d4 wc
  go_wp2_with fail
  go_ret
  exact ⟨rfl, HB.out⟩
end Go.Proofs.Ytmnglonjekegcaa.Vw
