-- Written by a program of this work (wip/given.py) out of the translation; Lean checks it.
import Derived.Test.YtlandgbhbfdekaaEx0
import Derived.Test.YtlandgbhbfdekaaWKept
import Derived.Test.YtlandgbhbfdekaaWN
import Derived.Test.YtlandgbhbfdekaaWShare
import Derived.Test.YtlandgbhbfdekaaWRepsOne
import Derived.Test.YtlandgbhbfdekaaWFoot
import Derived.Test.YtlandgbhbfdekaaWApart
import Derived.Test.YtlandgbhbfdekaaEx10
import Derived.Test.YtlandgbhbfdekaaEx11
namespace Go.Proofs.Ytlandgbhbfdekaa.Ex
open Go.RowKit Go.Proofs.YtlandgbhbfdekaaW.PrintWords Go.Proofs.YtlandgbhbfdekaaW.PrintLast Go.Proofs.YtlandgbhbfdekaaW.PrintMore
attribute [local go_sem] max2_int min2_int max_two min_two max_three min_three max_four min_four   -- for this text's walks alone
set_option linter.unusedVariables false
set_option linter.unusedSimpArgs false

/-! ### tidemillref05_vertex: function 44 -/
mutual
def tidemillref05_vertex.j0 : Nat → Int → Bool → List (S37) → Int → Int → List Int → Int → Int → List (S34) → Int → Option (Int)
  | 0, _, _, _, _, _, _, _, _, _, _ => none
  | k + 1, x1, x20, x200000, x200001, x202000, x202001, x202002, x202003, x202004, x202005 => if x20 = true then (some 1) else (tidemillref05_vertex.l0 k x1 0 x200000 x200001 x202000 x202001 x202002 x202003 x202004 x202005)
def tidemillref05_vertex.l0 : Nat → Int → Int → List (S37) → Int → Int → List Int → Int → Int → List (S34) → Int → Option (Int)
  | 0, _, _, _, _, _, _, _, _, _, _ => none
  | k + 1, x1, x6, x200000, x200001, x202000, x202001, x202002, x202003, x202004, x202005 => if x6 < (x202001.length : Int) then (if 0 ≤ x6 then (if (rd x202001 x6) < 0 then (some 2) else (if (rd x202001 x6) ≥ x1 then (some 2) else (tidemillref05_vertex.l0 k x1 (wrap64 (x6 + 1)) x200000 x200001 x202000 x202001 x202002 x202003 x202004 x202005))) else (none)) else ((tidemillref05_Has.f k x202000 x202001 x202002 x202003 x202004 x202005).bind fun t204 => (if t204 = true then ((tidemillref05_taken.f k x200000 x200001 x1).bind fun t205 => (if t205 = true then (some 12) else (tidemillref05_vertex.l1 k 0 x200000 x200001 x202000 x202001 x202002 x202003 x202004 x202005))) else (some 5)))
def tidemillref05_vertex.l1 : Nat → Int → List (S37) → Int → Int → List Int → Int → Int → List (S34) → Int → Option (Int)
  | 0, _, _, _, _, _, _, _, _, _ => none
  | k + 1, x7, x200000, x200001, x202000, x202001, x202002, x202003, x202004, x202005 => if x7 < (x202001.length : Int) then (if 0 ≤ x7 then (if 0 ≤ (rd x202001 x7) then (if (rd x202001 x7) < (x200000.length : Int) then (if ((rd_T37 x200000 (rd x202001 x7)).f0) = 10 then (some 5) else (tidemillref05_vertex.l1 k (wrap64 (x7 + 1)) x200000 x200001 x202000 x202001 x202002 x202003 x202004 x202005)) else (none)) else (none)) else (none)) else (if x202000 = 9 then (if 1 < (x202001.length : Int) then (if 0 ≤ (rd x202001 1) then (if (rd x202001 1) < (x200000.length : Int) then (if ((rd_T37 x200000 (rd x202001 1)).f0) = 6 then (some 0) else (some 5)) else (none)) else (none)) else (none)) else (some 0))
end
def tidemillref05_vertex.f (k : Nat) (l0_0 : List (S37)) (a0_1 : Int) (a1 : Int) : Option (Int) := if 0 ≤ a1 then (if a1 < (l0_0.length : Int) then (if ((rd_T37 l0_0 a1).f0) < 1 then (tidemillref05_vertex.j0 k a1 true l0_0 a0_1 ((rd_T37 l0_0 a1).f0) ((rd_T37 l0_0 a1).f1) ((rd_T37 l0_0 a1).f2.f0) ((rd_T37 l0_0 a1).f2.f1) ((rd_T37 l0_0 a1).f2.f2) ((rd_T37 l0_0 a1).f3)) else (tidemillref05_vertex.j0 k a1 (decide (((rd_T37 l0_0 a1).f0) > 10)) l0_0 a0_1 ((rd_T37 l0_0 a1).f0) ((rd_T37 l0_0 a1).f1) ((rd_T37 l0_0 a1).f2.f0) ((rd_T37 l0_0 a1).f2.f1) ((rd_T37 l0_0 a1).f2.f2) ((rd_T37 l0_0 a1).f3))) else (none)) else (none)
theorem tidemillref05_vertex.mono_l : ∀ k, (∀ y0 y1 y2 y3 y4 y5 y6 y7 y8 y9, LeO (tidemillref05_vertex.j0 k y0 y1 y2 y3 y4 y5 y6 y7 y8 y9) (tidemillref05_vertex.j0 (k + 1) y0 y1 y2 y3 y4 y5 y6 y7 y8 y9)) ∧ (∀ y0 y1 y2 y3 y4 y5 y6 y7 y8 y9, LeO (tidemillref05_vertex.l0 k y0 y1 y2 y3 y4 y5 y6 y7 y8 y9) (tidemillref05_vertex.l0 (k + 1) y0 y1 y2 y3 y4 y5 y6 y7 y8 y9)) ∧ (∀ y0 y1 y2 y3 y4 y5 y6 y7 y8, LeO (tidemillref05_vertex.l1 k y0 y1 y2 y3 y4 y5 y6 y7 y8) (tidemillref05_vertex.l1 (k + 1) y0 y1 y2 y3 y4 y5 y6 y7 y8))
  | 0 => ⟨fun _ _ _ _ _ _ _ _ _ _ r h => by simp [tidemillref05_vertex.j0] at h, fun _ _ _ _ _ _ _ _ _ _ r h => by simp [tidemillref05_vertex.l0] at h, fun _ _ _ _ _ _ _ _ _ r h => by simp [tidemillref05_vertex.l1] at h⟩
  | k + 1 => by
    obtain ⟨ih0, ih1, ih2⟩ := tidemillref05_vertex.mono_l k
    refine ⟨?_, ?_, ?_⟩
    · intro y0 y1 y2 y3 y4 y5 y6 y7 y8 y9
      unfold tidemillref05_vertex.j0
      repeat' first
      | (with_reducible exact ih0 _ _ _ _ _ _ _ _ _ _)
      | (with_reducible exact ih1 _ _ _ _ _ _ _ _ _ _)
      | (with_reducible exact ih2 _ _ _ _ _ _ _ _ _)
      | (with_reducible exact tidemillref05_Has.mono _ _ _ _ _ _ _)
      | (with_reducible exact tidemillref05_taken.mono _ _ _ _)
      | (with_reducible exact LeO.refl _)
      | (with_reducible exact LeO.none _)
      | (with_reducible refine LeO.ite ?_ ?_)
      | (with_reducible refine LeO.bind ?_ (fun _ => ?_))
      | exact ih0 _ _ _ _ _ _ _ _ _ _
      | exact ih1 _ _ _ _ _ _ _ _ _ _
      | exact ih2 _ _ _ _ _ _ _ _ _
      | exact tidemillref05_Has.mono _ _ _ _ _ _ _
      | exact tidemillref05_taken.mono _ _ _ _
      | exact LeO.none _
      | refine LeO.ite ?_ ?_
      | refine LeO.bind ?_ (fun _ => ?_)
    · intro y0 y1 y2 y3 y4 y5 y6 y7 y8 y9
      unfold tidemillref05_vertex.l0
      repeat' first
      | (with_reducible exact ih0 _ _ _ _ _ _ _ _ _ _)
      | (with_reducible exact ih1 _ _ _ _ _ _ _ _ _ _)
      | (with_reducible exact ih2 _ _ _ _ _ _ _ _ _)
      | (with_reducible exact tidemillref05_Has.mono _ _ _ _ _ _ _)
      | (with_reducible exact tidemillref05_taken.mono _ _ _ _)
      | (with_reducible exact LeO.refl _)
      | (with_reducible exact LeO.none _)
      | (with_reducible refine LeO.ite ?_ ?_)
      | (with_reducible refine LeO.bind ?_ (fun _ => ?_))
      | exact ih0 _ _ _ _ _ _ _ _ _ _
      | exact ih1 _ _ _ _ _ _ _ _ _ _
      | exact ih2 _ _ _ _ _ _ _ _ _
      | exact tidemillref05_Has.mono _ _ _ _ _ _ _
      | exact tidemillref05_taken.mono _ _ _ _
      | exact LeO.none _
      | refine LeO.ite ?_ ?_
      | refine LeO.bind ?_ (fun _ => ?_)
    · intro y0 y1 y2 y3 y4 y5 y6 y7 y8
      unfold tidemillref05_vertex.l1
      repeat' first
      | (with_reducible exact ih0 _ _ _ _ _ _ _ _ _ _)
      | (with_reducible exact ih1 _ _ _ _ _ _ _ _ _ _)
      | (with_reducible exact ih2 _ _ _ _ _ _ _ _ _)
      | (with_reducible exact tidemillref05_Has.mono _ _ _ _ _ _ _)
      | (with_reducible exact tidemillref05_taken.mono _ _ _ _)
      | (with_reducible exact LeO.refl _)
      | (with_reducible exact LeO.none _)
      | (with_reducible refine LeO.ite ?_ ?_)
      | (with_reducible refine LeO.bind ?_ (fun _ => ?_))
      | exact ih0 _ _ _ _ _ _ _ _ _ _
      | exact ih1 _ _ _ _ _ _ _ _ _ _
      | exact ih2 _ _ _ _ _ _ _ _ _
      | exact tidemillref05_Has.mono _ _ _ _ _ _ _
      | exact tidemillref05_taken.mono _ _ _ _
      | exact LeO.none _
      | refine LeO.ite ?_ ?_
      | refine LeO.bind ?_ (fun _ => ?_)
theorem tidemillref05_vertex.mono : ∀ a0 a1 a2 k, LeO (tidemillref05_vertex.f k a0 a1 a2) (tidemillref05_vertex.f (k + 1) a0 a1 a2) := by
  intro a0 a1 a2 k
  obtain ⟨ih0, ih1, ih2⟩ := tidemillref05_vertex.mono_l k
  unfold tidemillref05_vertex.f
  repeat' first
      | (with_reducible exact ih0 _ _ _ _ _ _ _ _ _ _)
      | (with_reducible exact ih1 _ _ _ _ _ _ _ _ _ _)
      | (with_reducible exact ih2 _ _ _ _ _ _ _ _ _)
      | (with_reducible exact tidemillref05_Has.mono _ _ _ _ _ _ _)
      | (with_reducible exact tidemillref05_taken.mono _ _ _ _)
      | (with_reducible exact LeO.refl _)
      | (with_reducible exact LeO.none _)
      | (with_reducible refine LeO.ite ?_ ?_)
      | (with_reducible refine LeO.bind ?_ (fun _ => ?_))
      | exact ih0 _ _ _ _ _ _ _ _ _ _
      | exact ih1 _ _ _ _ _ _ _ _ _ _
      | exact ih2 _ _ _ _ _ _ _ _ _
      | exact tidemillref05_Has.mono _ _ _ _ _ _ _
      | exact tidemillref05_taken.mono _ _ _ _
      | exact LeO.none _
      | refine LeO.ite ?_ ?_
      | refine LeO.bind ?_ (fun _ => ?_)
set_option maxHeartbeats 8000000 in
set_option maxRecDepth 100000 in
theorem tidemillref05_vertex.calls (k : Nat) (A0_0 : Option Addr) (c0_0 : Nat) (l0_0 : List (S37)) (a0_1 : Int) (a1 : Int) (r : Int) (w : World) (hr0_0 : Kd.C k37 w A0_0 l0_0.length l0_0) (hc0_0 : l0_0.length ≤ c0_0) (h : tidemillref05_vertex.f k l0_0 a0_1 a1 = some r) :
    Calls Try.prog 44 #[.agg #[.slice A0_0 l0_0.length c0_0, .int .i64 a0_1], .int .i64 a1] w fun e w' => e = .returned (.int .i64 r) ∧ Below w.heap.size w w' := by
  have hu24 := Try.underlying24
  have hu37 := Try.underlying37
  have HR0_0 := Aside0.mk hr0_0
  have HC0_0 := Aside0.mk hc0_0
  clear hr0_0 hc0_0
  have HB := Aside0.mk (Below.refl w.heap.size w)
  have H : (if 0 ≤ a1 then (if a1 < (l0_0.length : Int) then (if ((rd_T37 l0_0 a1).f0) < 1 then (tidemillref05_vertex.j0 k a1 true l0_0 a0_1 ((rd_T37 l0_0 a1).f0) ((rd_T37 l0_0 a1).f1) ((rd_T37 l0_0 a1).f2.f0) ((rd_T37 l0_0 a1).f2.f1) ((rd_T37 l0_0 a1).f2.f2) ((rd_T37 l0_0 a1).f3)) else (tidemillref05_vertex.j0 k a1 (decide (((rd_T37 l0_0 a1).f0) > 10)) l0_0 a0_1 ((rd_T37 l0_0 a1).f0) ((rd_T37 l0_0 a1).f1) ((rd_T37 l0_0 a1).f2.f0) ((rd_T37 l0_0 a1).f2.f1) ((rd_T37 l0_0 a1).f2.f2) ((rd_T37 l0_0 a1).f3))) else (none)) else (none)) = some r := h
  clear h
  by_cases c3 : 0 ≤ a1
  · rw [if_pos c3] at H
    have c3b0 : decide (0 ≤ a1) = true := decide_eq_true c3
    clear c3
    by_cases c4 : a1 < (l0_0.length : Int)
    · rw [if_pos c4] at H
      have c4b0 : decide (a1 < (l0_0.length : Int)) = true := decide_eq_true c4
      clear c4
      have HC5 := Aside0.mk H
      clear H
      go_enter Try.func44, Try.ntmps44
      go_upto_region 2 with (first | ((with_reducible refine gate_dst (N := 2) rfl ?_); refine box_event ?hg (N := 2) ?hd (cs := #[.slice A0_0 l0_0.length c0_0, .int .i64 a0_1]) (t := 24) ?hr ?_; (case hd => rfl); (case hg => rfl); (case hr => first | (go_simp; done) | (go_simp; rfl)); intro gb199 hg w6 hbox hb; have n0_ := Aside0.mk (below_step (by repeat (first | (with_reducible first | exact HB.out | apply below_alloc | apply pw_below_drewN | apply below_drew1) | exact HB.out)) hb); have n1_ := Aside0.mk (hbox); have n2_ := Aside0.mk ((by rw [hg]; exact (below_size (by repeat (first | (with_reducible first | exact HB.out | apply below_alloc | apply pw_below_drewN | apply below_drew1) | exact HB.out))) : w.heap.size ≤ gb199)); have n3_ := Aside0.mk ((by rw [hg]; exact (below_size (by repeat (first | (with_reducible first | exact HB.out | apply below_alloc | apply pw_below_drewN | apply below_drew1) | exact HB.out))) : w.heap.size ≤ gb199)); clear HB; have HB := n0_; have BK199 := n1_; have GW199 := n2_; have GE199 := n3_; clear n0_ n1_ n2_ n3_; clear hb hbox hg; have hcz7_0 : w6.cell? ⟨gb199, 0, none⟩ = some (.slice A0_0 l0_0.length c0_0) := (blk_cell BK199.out 0).trans rfl; have hcz7_1 : w6.cell? ⟨gb199, 1, none⟩ = some (.int .i64 a0_1) := (blk_cell BK199.out 1).trans rfl; have hfz7_0 := blk_frozen BK199.out 0; have hfz7_1 := blk_frozen BK199.out 1; have p200 : 0 ≤ (a1 : Int) := of_decide_eq_true (by first | (with_reducible assumption) | assumption); have q200 : a1 < (l0_0.length : Int) := of_decide_eq_true (by first | (with_reducible assumption) | assumption); obtain ⟨ad200, A200_1, c200_1, A200_4, c200_4, e200, hx200_0, hx200_1, hx200_2, hx200_3, hx200_4, hx200_5, hl200_1, hi200_1, hl200_4, hi200_4⟩ := at_T37 HR0_0.out a1 p200 q200; cases e200; replace hx200_0 := (HB.out.cell (World.block_lt_of_cell? w _ hx200_0)).trans hx200_0; replace hx200_1 := (HB.out.cell (World.block_lt_of_cell? w _ hx200_1)).trans hx200_1; replace hx200_2 := (HB.out.cell (World.block_lt_of_cell? w _ hx200_2)).trans hx200_2; replace hx200_3 := (HB.out.cell (World.block_lt_of_cell? w _ hx200_3)).trans hx200_3; replace hx200_4 := (HB.out.cell (World.block_lt_of_cell? w _ hx200_4)).trans hx200_4; replace hx200_5 := (HB.out.cell (World.block_lt_of_cell? w _ hx200_5)).trans hx200_5; have HR200_1 := Aside0.mk hi200_1; have HC200_1 := Aside0.mk hl200_1; clear hi200_1 hl200_1; have HR200_4 := Aside0.mk hi200_4; have HC200_4 := Aside0.mk hl200_4; clear hi200_4 hl200_4; replace p200 := eq_true p200; replace q200 := eq_true q200) | ((with_reducible refine gate_dst (N := 5) rfl ?_); refine box_event ?hg (N := 5) ?hd (cs := #[.int .i64 0, .slice none 0 0, .int .i64 0, .int .i64 0, .slice none 0 0, .int .i64 0]) (t := 37) ?hr ?_; (case hd => rfl); (case hg => rfl); (case hr => first | (go_simp; done) | (go_simp; rfl)); intro gb201 hg w8 hbox hb; have n0_ := Aside0.mk (blk_below (g := gb199) (o := .cells #[.slice (some ad200) l0_0.length c0_0, .int .i64 a0_1] 24 (0, 0)) (by (with_reducible repeat (first | refine blk_drewN ?_ _ | refine blk_drew ?_ | refine blk_alloc ?_ _)); exact BK199.out) hb); have n1_ := Aside0.mk (below_step (by repeat (first | (with_reducible first | exact HB.out | apply below_alloc | apply pw_below_drewN | apply below_drew1 | refine below_set ?_ GE199.out) | exact HB.out)) hb); have n2_ := Aside0.mk (hbox); have n3_ := Aside0.mk ((by rw [hg]; exact (below_size (by repeat (first | (with_reducible first | exact HB.out | apply below_alloc | apply pw_below_drewN | apply below_drew1 | refine below_set ?_ GE199.out) | exact HB.out))) : w.heap.size ≤ gb201)); have n4_ := Aside0.mk ((by rw [hg]; exact (below_size (by repeat (first | (with_reducible first | exact HB.out | apply below_alloc | apply pw_below_drewN | apply below_drew1 | refine below_set ?_ GE199.out) | exact HB.out))) : w.heap.size ≤ gb201)); have n5_ := Aside0.mk ((by rw [hg]; exact Nat.ne_of_lt (blk_lt (g := gb199) (o := .cells #[.slice (some ad200) l0_0.length c0_0, .int .i64 a0_1] 24 (0, 0)) (by (with_reducible repeat (first | refine blk_drewN ?_ _ | refine blk_drew ?_ | refine blk_alloc ?_ _)); exact BK199.out)) : gb199 ≠ gb201)); have n6_ := Aside0.mk ((by rw [hg]; exact Nat.ne_of_gt (blk_lt (g := gb199) (o := .cells #[.slice (some ad200) l0_0.length c0_0, .int .i64 a0_1] 24 (0, 0)) (by (with_reducible repeat (first | refine blk_drewN ?_ _ | refine blk_drew ?_ | refine blk_alloc ?_ _)); exact BK199.out)) : gb201 ≠ gb199)); clear BK199; clear HB; have BK199 := n0_; have HB := n1_; have BK201 := n2_; have GW201 := n3_; have GE201 := n4_; have NB199_201 := n5_; have NB201_199 := n6_; clear n0_ n1_ n2_ n3_ n4_ n5_ n6_; clear hb hbox hg; have hnb9 := NB201_199.out; have hnc9 := NB199_201.out; have hcz10_0 : w8.cell? ⟨gb201, 0, none⟩ = some (.int .i64 0) := (blk_cell BK201.out 0).trans rfl; have hcz10_1 : w8.cell? ⟨gb201, 1, none⟩ = some (.slice none 0 0) := (blk_cell BK201.out 1).trans rfl; have hcz10_2 : w8.cell? ⟨gb201, 2, none⟩ = some (.int .i64 0) := (blk_cell BK201.out 2).trans rfl; have hcz10_3 : w8.cell? ⟨gb201, 3, none⟩ = some (.int .i64 0) := (blk_cell BK201.out 3).trans rfl; have hcz10_4 : w8.cell? ⟨gb201, 4, none⟩ = some (.slice none 0 0) := (blk_cell BK201.out 4).trans rfl; have hcz10_5 : w8.cell? ⟨gb201, 5, none⟩ = some (.int .i64 0) := (blk_cell BK201.out 5).trans rfl; have hfz10_0 := blk_frozen BK201.out 0; have hfz10_1 := blk_frozen BK201.out 1; have hfz10_2 := blk_frozen BK201.out 2; have hfz10_3 := blk_frozen BK201.out 3; have hfz10_4 := blk_frozen BK201.out 4; have hfz10_5 := blk_frozen BK201.out 5))
      repeat (go_quiet (first | ((with_reducible refine gate_dst (N := 2) rfl ?_); refine box_event ?hg (N := 2) ?hd (cs := #[.slice A0_0 l0_0.length c0_0, .int .i64 a0_1]) (t := 24) ?hr ?_; (case hd => rfl); (case hg => rfl); (case hr => first | (go_simp; done) | (go_simp; rfl)); intro gb199 hg w6 hbox hb; have n0_ := Aside0.mk (below_step (by repeat (first | (with_reducible first | exact HB.out | apply below_alloc | apply pw_below_drewN | apply below_drew1) | exact HB.out)) hb); have n1_ := Aside0.mk (hbox); have n2_ := Aside0.mk ((by rw [hg]; exact (below_size (by repeat (first | (with_reducible first | exact HB.out | apply below_alloc | apply pw_below_drewN | apply below_drew1) | exact HB.out))) : w.heap.size ≤ gb199)); have n3_ := Aside0.mk ((by rw [hg]; exact (below_size (by repeat (first | (with_reducible first | exact HB.out | apply below_alloc | apply pw_below_drewN | apply below_drew1) | exact HB.out))) : w.heap.size ≤ gb199)); clear HB; have HB := n0_; have BK199 := n1_; have GW199 := n2_; have GE199 := n3_; clear n0_ n1_ n2_ n3_; clear hb hbox hg; have hcz7_0 : w6.cell? ⟨gb199, 0, none⟩ = some (.slice A0_0 l0_0.length c0_0) := (blk_cell BK199.out 0).trans rfl; have hcz7_1 : w6.cell? ⟨gb199, 1, none⟩ = some (.int .i64 a0_1) := (blk_cell BK199.out 1).trans rfl; have hfz7_0 := blk_frozen BK199.out 0; have hfz7_1 := blk_frozen BK199.out 1; have p200 : 0 ≤ (a1 : Int) := of_decide_eq_true (by first | (with_reducible assumption) | assumption); have q200 : a1 < (l0_0.length : Int) := of_decide_eq_true (by first | (with_reducible assumption) | assumption); obtain ⟨ad200, A200_1, c200_1, A200_4, c200_4, e200, hx200_0, hx200_1, hx200_2, hx200_3, hx200_4, hx200_5, hl200_1, hi200_1, hl200_4, hi200_4⟩ := at_T37 HR0_0.out a1 p200 q200; cases e200; replace hx200_0 := (HB.out.cell (World.block_lt_of_cell? w _ hx200_0)).trans hx200_0; replace hx200_1 := (HB.out.cell (World.block_lt_of_cell? w _ hx200_1)).trans hx200_1; replace hx200_2 := (HB.out.cell (World.block_lt_of_cell? w _ hx200_2)).trans hx200_2; replace hx200_3 := (HB.out.cell (World.block_lt_of_cell? w _ hx200_3)).trans hx200_3; replace hx200_4 := (HB.out.cell (World.block_lt_of_cell? w _ hx200_4)).trans hx200_4; replace hx200_5 := (HB.out.cell (World.block_lt_of_cell? w _ hx200_5)).trans hx200_5; have HR200_1 := Aside0.mk hi200_1; have HC200_1 := Aside0.mk hl200_1; clear hi200_1 hl200_1; have HR200_4 := Aside0.mk hi200_4; have HC200_4 := Aside0.mk hl200_4; clear hi200_4 hl200_4; replace p200 := eq_true p200; replace q200 := eq_true q200) | ((with_reducible refine gate_dst (N := 5) rfl ?_); refine box_event ?hg (N := 5) ?hd (cs := #[.int .i64 0, .slice none 0 0, .int .i64 0, .int .i64 0, .slice none 0 0, .int .i64 0]) (t := 37) ?hr ?_; (case hd => rfl); (case hg => rfl); (case hr => first | (go_simp; done) | (go_simp; rfl)); intro gb201 hg w8 hbox hb; have n0_ := Aside0.mk (blk_below (g := gb199) (o := .cells #[.slice (some ad200) l0_0.length c0_0, .int .i64 a0_1] 24 (0, 0)) (by (with_reducible repeat (first | refine blk_drewN ?_ _ | refine blk_drew ?_ | refine blk_alloc ?_ _)); exact BK199.out) hb); have n1_ := Aside0.mk (below_step (by repeat (first | (with_reducible first | exact HB.out | apply below_alloc | apply pw_below_drewN | apply below_drew1 | refine below_set ?_ GE199.out) | exact HB.out)) hb); have n2_ := Aside0.mk (hbox); have n3_ := Aside0.mk ((by rw [hg]; exact (below_size (by repeat (first | (with_reducible first | exact HB.out | apply below_alloc | apply pw_below_drewN | apply below_drew1 | refine below_set ?_ GE199.out) | exact HB.out))) : w.heap.size ≤ gb201)); have n4_ := Aside0.mk ((by rw [hg]; exact (below_size (by repeat (first | (with_reducible first | exact HB.out | apply below_alloc | apply pw_below_drewN | apply below_drew1 | refine below_set ?_ GE199.out) | exact HB.out))) : w.heap.size ≤ gb201)); have n5_ := Aside0.mk ((by rw [hg]; exact Nat.ne_of_lt (blk_lt (g := gb199) (o := .cells #[.slice (some ad200) l0_0.length c0_0, .int .i64 a0_1] 24 (0, 0)) (by (with_reducible repeat (first | refine blk_drewN ?_ _ | refine blk_drew ?_ | refine blk_alloc ?_ _)); exact BK199.out)) : gb199 ≠ gb201)); have n6_ := Aside0.mk ((by rw [hg]; exact Nat.ne_of_gt (blk_lt (g := gb199) (o := .cells #[.slice (some ad200) l0_0.length c0_0, .int .i64 a0_1] 24 (0, 0)) (by (with_reducible repeat (first | refine blk_drewN ?_ _ | refine blk_drew ?_ | refine blk_alloc ?_ _)); exact BK199.out)) : gb201 ≠ gb199)); clear BK199; clear HB; have BK199 := n0_; have HB := n1_; have BK201 := n2_; have GW201 := n3_; have GE201 := n4_; have NB199_201 := n5_; have NB201_199 := n6_; clear n0_ n1_ n2_ n3_ n4_ n5_ n6_; clear hb hbox hg; have hnb9 := NB201_199.out; have hnc9 := NB199_201.out; have hcz10_0 : w8.cell? ⟨gb201, 0, none⟩ = some (.int .i64 0) := (blk_cell BK201.out 0).trans rfl; have hcz10_1 : w8.cell? ⟨gb201, 1, none⟩ = some (.slice none 0 0) := (blk_cell BK201.out 1).trans rfl; have hcz10_2 : w8.cell? ⟨gb201, 2, none⟩ = some (.int .i64 0) := (blk_cell BK201.out 2).trans rfl; have hcz10_3 : w8.cell? ⟨gb201, 3, none⟩ = some (.int .i64 0) := (blk_cell BK201.out 3).trans rfl; have hcz10_4 : w8.cell? ⟨gb201, 4, none⟩ = some (.slice none 0 0) := (blk_cell BK201.out 4).trans rfl; have hcz10_5 : w8.cell? ⟨gb201, 5, none⟩ = some (.int .i64 0) := (blk_cell BK201.out 5).trans rfl; have hfz10_0 := blk_frozen BK201.out 0; have hfz10_1 := blk_frozen BK201.out 1; have hfz10_2 := blk_frozen BK201.out 2; have hfz10_3 := blk_frozen BK201.out 3; have hfz10_4 := blk_frozen BK201.out 4; have hfz10_5 := blk_frozen BK201.out 5)); go_upto_region 2 with (first | ((with_reducible refine gate_dst (N := 2) rfl ?_); refine box_event ?hg (N := 2) ?hd (cs := #[.slice A0_0 l0_0.length c0_0, .int .i64 a0_1]) (t := 24) ?hr ?_; (case hd => rfl); (case hg => rfl); (case hr => first | (go_simp; done) | (go_simp; rfl)); intro gb199 hg w6 hbox hb; have n0_ := Aside0.mk (below_step (by repeat (first | (with_reducible first | exact HB.out | apply below_alloc | apply pw_below_drewN | apply below_drew1) | exact HB.out)) hb); have n1_ := Aside0.mk (hbox); have n2_ := Aside0.mk ((by rw [hg]; exact (below_size (by repeat (first | (with_reducible first | exact HB.out | apply below_alloc | apply pw_below_drewN | apply below_drew1) | exact HB.out))) : w.heap.size ≤ gb199)); have n3_ := Aside0.mk ((by rw [hg]; exact (below_size (by repeat (first | (with_reducible first | exact HB.out | apply below_alloc | apply pw_below_drewN | apply below_drew1) | exact HB.out))) : w.heap.size ≤ gb199)); clear HB; have HB := n0_; have BK199 := n1_; have GW199 := n2_; have GE199 := n3_; clear n0_ n1_ n2_ n3_; clear hb hbox hg; have hcz7_0 : w6.cell? ⟨gb199, 0, none⟩ = some (.slice A0_0 l0_0.length c0_0) := (blk_cell BK199.out 0).trans rfl; have hcz7_1 : w6.cell? ⟨gb199, 1, none⟩ = some (.int .i64 a0_1) := (blk_cell BK199.out 1).trans rfl; have hfz7_0 := blk_frozen BK199.out 0; have hfz7_1 := blk_frozen BK199.out 1; have p200 : 0 ≤ (a1 : Int) := of_decide_eq_true (by first | (with_reducible assumption) | assumption); have q200 : a1 < (l0_0.length : Int) := of_decide_eq_true (by first | (with_reducible assumption) | assumption); obtain ⟨ad200, A200_1, c200_1, A200_4, c200_4, e200, hx200_0, hx200_1, hx200_2, hx200_3, hx200_4, hx200_5, hl200_1, hi200_1, hl200_4, hi200_4⟩ := at_T37 HR0_0.out a1 p200 q200; cases e200; replace hx200_0 := (HB.out.cell (World.block_lt_of_cell? w _ hx200_0)).trans hx200_0; replace hx200_1 := (HB.out.cell (World.block_lt_of_cell? w _ hx200_1)).trans hx200_1; replace hx200_2 := (HB.out.cell (World.block_lt_of_cell? w _ hx200_2)).trans hx200_2; replace hx200_3 := (HB.out.cell (World.block_lt_of_cell? w _ hx200_3)).trans hx200_3; replace hx200_4 := (HB.out.cell (World.block_lt_of_cell? w _ hx200_4)).trans hx200_4; replace hx200_5 := (HB.out.cell (World.block_lt_of_cell? w _ hx200_5)).trans hx200_5; have HR200_1 := Aside0.mk hi200_1; have HC200_1 := Aside0.mk hl200_1; clear hi200_1 hl200_1; have HR200_4 := Aside0.mk hi200_4; have HC200_4 := Aside0.mk hl200_4; clear hi200_4 hl200_4; replace p200 := eq_true p200; replace q200 := eq_true q200) | ((with_reducible refine gate_dst (N := 5) rfl ?_); refine box_event ?hg (N := 5) ?hd (cs := #[.int .i64 0, .slice none 0 0, .int .i64 0, .int .i64 0, .slice none 0 0, .int .i64 0]) (t := 37) ?hr ?_; (case hd => rfl); (case hg => rfl); (case hr => first | (go_simp; done) | (go_simp; rfl)); intro gb201 hg w8 hbox hb; have n0_ := Aside0.mk (blk_below (g := gb199) (o := .cells #[.slice (some ad200) l0_0.length c0_0, .int .i64 a0_1] 24 (0, 0)) (by (with_reducible repeat (first | refine blk_drewN ?_ _ | refine blk_drew ?_ | refine blk_alloc ?_ _)); exact BK199.out) hb); have n1_ := Aside0.mk (below_step (by repeat (first | (with_reducible first | exact HB.out | apply below_alloc | apply pw_below_drewN | apply below_drew1 | refine below_set ?_ GE199.out) | exact HB.out)) hb); have n2_ := Aside0.mk (hbox); have n3_ := Aside0.mk ((by rw [hg]; exact (below_size (by repeat (first | (with_reducible first | exact HB.out | apply below_alloc | apply pw_below_drewN | apply below_drew1 | refine below_set ?_ GE199.out) | exact HB.out))) : w.heap.size ≤ gb201)); have n4_ := Aside0.mk ((by rw [hg]; exact (below_size (by repeat (first | (with_reducible first | exact HB.out | apply below_alloc | apply pw_below_drewN | apply below_drew1 | refine below_set ?_ GE199.out) | exact HB.out))) : w.heap.size ≤ gb201)); have n5_ := Aside0.mk ((by rw [hg]; exact Nat.ne_of_lt (blk_lt (g := gb199) (o := .cells #[.slice (some ad200) l0_0.length c0_0, .int .i64 a0_1] 24 (0, 0)) (by (with_reducible repeat (first | refine blk_drewN ?_ _ | refine blk_drew ?_ | refine blk_alloc ?_ _)); exact BK199.out)) : gb199 ≠ gb201)); have n6_ := Aside0.mk ((by rw [hg]; exact Nat.ne_of_gt (blk_lt (g := gb199) (o := .cells #[.slice (some ad200) l0_0.length c0_0, .int .i64 a0_1] 24 (0, 0)) (by (with_reducible repeat (first | refine blk_drewN ?_ _ | refine blk_drew ?_ | refine blk_alloc ?_ _)); exact BK199.out)) : gb201 ≠ gb199)); clear BK199; clear HB; have BK199 := n0_; have HB := n1_; have BK201 := n2_; have GW201 := n3_; have GE201 := n4_; have NB199_201 := n5_; have NB201_199 := n6_; clear n0_ n1_ n2_ n3_ n4_ n5_ n6_; clear hb hbox hg; have hnb9 := NB201_199.out; have hnc9 := NB199_201.out; have hcz10_0 : w8.cell? ⟨gb201, 0, none⟩ = some (.int .i64 0) := (blk_cell BK201.out 0).trans rfl; have hcz10_1 : w8.cell? ⟨gb201, 1, none⟩ = some (.slice none 0 0) := (blk_cell BK201.out 1).trans rfl; have hcz10_2 : w8.cell? ⟨gb201, 2, none⟩ = some (.int .i64 0) := (blk_cell BK201.out 2).trans rfl; have hcz10_3 : w8.cell? ⟨gb201, 3, none⟩ = some (.int .i64 0) := (blk_cell BK201.out 3).trans rfl; have hcz10_4 : w8.cell? ⟨gb201, 4, none⟩ = some (.slice none 0 0) := (blk_cell BK201.out 4).trans rfl; have hcz10_5 : w8.cell? ⟨gb201, 5, none⟩ = some (.int .i64 0) := (blk_cell BK201.out 5).trans rfl; have hfz10_0 := blk_frozen BK201.out 0; have hfz10_1 := blk_frozen BK201.out 1; have hfz10_2 := blk_frozen BK201.out 2; have hfz10_3 := blk_frozen BK201.out 3; have hfz10_4 := blk_frozen BK201.out 4; have hfz10_5 := blk_frozen BK201.out 5)))
      (try simp only [Act.put, List.setIfInBounds_toArray, List.set_cons_zero, List.set_cons_succ])
      go_cut [20] (fun v20 wc => ∃ (kq : Nat) (x20_4 : Bool), v20 = .bool x20_4 ∧ Aside0 (tidemillref05_vertex.j0 kq a1 x20_4 l0_0 a0_1 ((rd_T37 l0_0 a1).f0) ((rd_T37 l0_0 a1).f1) ((rd_T37 l0_0 a1).f2.f0) ((rd_T37 l0_0 a1).f2.f1) ((rd_T37 l0_0 a1).f2.f2) ((rd_T37 l0_0 a1).f3) = some r) ∧ Aside0 (kq ≤ k) ∧ Aside0 (wc.heap[gb199]? = some (.cells #[(.slice (some ad200) l0_0.length c0_0), .int .i64 a0_1] 24 (0, 0))) ∧ Aside0 (wc.heap[gb201]? = some (.cells #[.int .i64 ((rd_T37 l0_0 a1).f0), (.slice A200_1 ((rd_T37 l0_0 a1).f1).length c200_1), .int .i64 ((rd_T37 l0_0 a1).f2.f0), .int .i64 ((rd_T37 l0_0 a1).f2.f1), (.slice A200_4 ((rd_T37 l0_0 a1).f2.f2).length c200_4), .int .i64 ((rd_T37 l0_0 a1).f3)] 37 (0, 0))) ∧ Aside0 (Below w.heap.size w wc))
      case first =>
        have H := HC5.out
        clear HC5
        by_cases c11 : ((rd_T37 l0_0 a1).f0) < 1
        · rw [if_pos c11] at H
          have c11b0 : decide (((rd_T37 l0_0 a1).f0) < 1) = true := decide_eq_true c11
          clear c11
          (first | rw [c11b0] | (simp only [i64_w, i32_w]; rw [c11b0]) | skip)
          have H' := Aside0.mk H
          clear H
          have hnb12 := NB201_199.out
          have hnc12 := NB199_201.out
          have hcz13_0 : w8.cell? ⟨gb201, 0, none⟩ = some (.int .i64 0) := (blk_cell BK201.out 0).trans rfl
          have hcz13_1 : w8.cell? ⟨gb201, 1, none⟩ = some (.slice none 0 0) := (blk_cell BK201.out 1).trans rfl
          have hcz13_2 : w8.cell? ⟨gb201, 2, none⟩ = some (.int .i64 0) := (blk_cell BK201.out 2).trans rfl
          have hcz13_3 : w8.cell? ⟨gb201, 3, none⟩ = some (.int .i64 0) := (blk_cell BK201.out 3).trans rfl
          have hcz13_4 : w8.cell? ⟨gb201, 4, none⟩ = some (.slice none 0 0) := (blk_cell BK201.out 4).trans rfl
          have hcz13_5 : w8.cell? ⟨gb201, 5, none⟩ = some (.int .i64 0) := (blk_cell BK201.out 5).trans rfl
          have hfz13_0 := blk_frozen BK201.out 0
          have hfz13_1 := blk_frozen BK201.out 1
          have hfz13_2 := blk_frozen BK201.out 2
          have hfz13_3 := blk_frozen BK201.out 3
          have hfz13_4 := blk_frozen BK201.out 4
          have hfz13_5 := blk_frozen BK201.out 5
          go_wp2
          repeat (go_quiet (fail); try go_wp2)
          go_meet
          case rel => exact ⟨_, (true), (by first | rfl | (simp; done) | (simp [*]; done)), H', ⟨by first | omega | exact Nat.le_refl _⟩, ⟨by (with_reducible repeat (first | refine blk_drewN ?_ _ | refine blk_drew ?_ | refine blk_alloc ?_ _)); refine blk_far ?_ NB199_201.out _; (with_reducible repeat (first | refine blk_drewN ?_ _ | refine blk_drew ?_ | refine blk_alloc ?_ _)); refine blk_far ?_ NB199_201.out _; (with_reducible repeat (first | refine blk_drewN ?_ _ | refine blk_drew ?_ | refine blk_alloc ?_ _)); refine blk_far ?_ NB199_201.out _; (with_reducible repeat (first | refine blk_drewN ?_ _ | refine blk_drew ?_ | refine blk_alloc ?_ _)); refine blk_far ?_ NB199_201.out _; (with_reducible repeat (first | refine blk_drewN ?_ _ | refine blk_drew ?_ | refine blk_alloc ?_ _)); refine blk_far ?_ NB199_201.out _; (with_reducible repeat (first | refine blk_drewN ?_ _ | refine blk_drew ?_ | refine blk_alloc ?_ _)); refine blk_far ?_ NB199_201.out _; (with_reducible repeat (first | refine blk_drewN ?_ _ | refine blk_drew ?_ | refine blk_alloc ?_ _)); exact BK199.out⟩, ⟨by (with_reducible repeat (first | refine blk_drewN ?_ _ | refine blk_drew ?_ | refine blk_alloc ?_ _)); refine blk_put (cs := #[.int .i64 ((rd_T37 l0_0 a1).f0), .slice A200_1 ((rd_T37 l0_0 a1).f1).length c200_1, .int .i64 ((rd_T37 l0_0 a1).f2.f0), .int .i64 ((rd_T37 l0_0 a1).f2.f1), .slice A200_4 ((rd_T37 l0_0 a1).f2.f2).length c200_4, .int .i64 0]) ?_ 5 _ rfl; (with_reducible repeat (first | refine blk_drewN ?_ _ | refine blk_drew ?_ | refine blk_alloc ?_ _)); refine blk_put (cs := #[.int .i64 ((rd_T37 l0_0 a1).f0), .slice A200_1 ((rd_T37 l0_0 a1).f1).length c200_1, .int .i64 ((rd_T37 l0_0 a1).f2.f0), .int .i64 ((rd_T37 l0_0 a1).f2.f1), .slice none 0 0, .int .i64 0]) ?_ 4 _ rfl; (with_reducible repeat (first | refine blk_drewN ?_ _ | refine blk_drew ?_ | refine blk_alloc ?_ _)); refine blk_put (cs := #[.int .i64 ((rd_T37 l0_0 a1).f0), .slice A200_1 ((rd_T37 l0_0 a1).f1).length c200_1, .int .i64 ((rd_T37 l0_0 a1).f2.f0), .int .i64 0, .slice none 0 0, .int .i64 0]) ?_ 3 _ rfl; (with_reducible repeat (first | refine blk_drewN ?_ _ | refine blk_drew ?_ | refine blk_alloc ?_ _)); refine blk_put (cs := #[.int .i64 ((rd_T37 l0_0 a1).f0), .slice A200_1 ((rd_T37 l0_0 a1).f1).length c200_1, .int .i64 0, .int .i64 0, .slice none 0 0, .int .i64 0]) ?_ 2 _ rfl; (with_reducible repeat (first | refine blk_drewN ?_ _ | refine blk_drew ?_ | refine blk_alloc ?_ _)); refine blk_put (cs := #[.int .i64 ((rd_T37 l0_0 a1).f0), .slice none 0 0, .int .i64 0, .int .i64 0, .slice none 0 0, .int .i64 0]) ?_ 1 _ rfl; (with_reducible repeat (first | refine blk_drewN ?_ _ | refine blk_drew ?_ | refine blk_alloc ?_ _)); refine blk_put (cs := #[.int .i64 0, .slice none 0 0, .int .i64 0, .int .i64 0, .slice none 0 0, .int .i64 0]) ?_ 0 _ rfl; (with_reducible repeat (first | refine blk_drewN ?_ _ | refine blk_drew ?_ | refine blk_alloc ?_ _)); exact BK201.out⟩, ⟨by repeat (first | (with_reducible first | exact HB.out | apply below_alloc | apply pw_below_drewN | apply below_drew1 | refine below_set ?_ GE199.out | refine below_set ?_ GE201.out) | exact HB.out)⟩⟩
        · rw [if_neg c11] at H
          have c11b0 : decide (((rd_T37 l0_0 a1).f0) < 1) = false := decide_eq_false c11
          clear c11
          (first | rw [c11b0] | (simp only [i64_w, i32_w]; rw [c11b0]) | skip)
          have H' := Aside0.mk H
          clear H
          have hnb14 := NB201_199.out
          have hnc14 := NB199_201.out
          have hcz15_0 : w8.cell? ⟨gb201, 0, none⟩ = some (.int .i64 0) := (blk_cell BK201.out 0).trans rfl
          have hcz15_1 : w8.cell? ⟨gb201, 1, none⟩ = some (.slice none 0 0) := (blk_cell BK201.out 1).trans rfl
          have hcz15_2 : w8.cell? ⟨gb201, 2, none⟩ = some (.int .i64 0) := (blk_cell BK201.out 2).trans rfl
          have hcz15_3 : w8.cell? ⟨gb201, 3, none⟩ = some (.int .i64 0) := (blk_cell BK201.out 3).trans rfl
          have hcz15_4 : w8.cell? ⟨gb201, 4, none⟩ = some (.slice none 0 0) := (blk_cell BK201.out 4).trans rfl
          have hcz15_5 : w8.cell? ⟨gb201, 5, none⟩ = some (.int .i64 0) := (blk_cell BK201.out 5).trans rfl
          have hfz15_0 := blk_frozen BK201.out 0
          have hfz15_1 := blk_frozen BK201.out 1
          have hfz15_2 := blk_frozen BK201.out 2
          have hfz15_3 := blk_frozen BK201.out 3
          have hfz15_4 := blk_frozen BK201.out 4
          have hfz15_5 := blk_frozen BK201.out 5
          go_wp2
          repeat (go_quiet (fail); try go_wp2)
          go_meet
          case rel => exact ⟨_, (decide (((rd_T37 l0_0 a1).f0) > 10)), (by first | rfl | (simp; done) | (simp [*]; done)), H', ⟨by first | omega | exact Nat.le_refl _⟩, ⟨by (with_reducible repeat (first | refine blk_drewN ?_ _ | refine blk_drew ?_ | refine blk_alloc ?_ _)); refine blk_far ?_ NB199_201.out _; (with_reducible repeat (first | refine blk_drewN ?_ _ | refine blk_drew ?_ | refine blk_alloc ?_ _)); refine blk_far ?_ NB199_201.out _; (with_reducible repeat (first | refine blk_drewN ?_ _ | refine blk_drew ?_ | refine blk_alloc ?_ _)); refine blk_far ?_ NB199_201.out _; (with_reducible repeat (first | refine blk_drewN ?_ _ | refine blk_drew ?_ | refine blk_alloc ?_ _)); refine blk_far ?_ NB199_201.out _; (with_reducible repeat (first | refine blk_drewN ?_ _ | refine blk_drew ?_ | refine blk_alloc ?_ _)); refine blk_far ?_ NB199_201.out _; (with_reducible repeat (first | refine blk_drewN ?_ _ | refine blk_drew ?_ | refine blk_alloc ?_ _)); refine blk_far ?_ NB199_201.out _; (with_reducible repeat (first | refine blk_drewN ?_ _ | refine blk_drew ?_ | refine blk_alloc ?_ _)); exact BK199.out⟩, ⟨by (with_reducible repeat (first | refine blk_drewN ?_ _ | refine blk_drew ?_ | refine blk_alloc ?_ _)); refine blk_put (cs := #[.int .i64 ((rd_T37 l0_0 a1).f0), .slice A200_1 ((rd_T37 l0_0 a1).f1).length c200_1, .int .i64 ((rd_T37 l0_0 a1).f2.f0), .int .i64 ((rd_T37 l0_0 a1).f2.f1), .slice A200_4 ((rd_T37 l0_0 a1).f2.f2).length c200_4, .int .i64 0]) ?_ 5 _ rfl; (with_reducible repeat (first | refine blk_drewN ?_ _ | refine blk_drew ?_ | refine blk_alloc ?_ _)); refine blk_put (cs := #[.int .i64 ((rd_T37 l0_0 a1).f0), .slice A200_1 ((rd_T37 l0_0 a1).f1).length c200_1, .int .i64 ((rd_T37 l0_0 a1).f2.f0), .int .i64 ((rd_T37 l0_0 a1).f2.f1), .slice none 0 0, .int .i64 0]) ?_ 4 _ rfl; (with_reducible repeat (first | refine blk_drewN ?_ _ | refine blk_drew ?_ | refine blk_alloc ?_ _)); refine blk_put (cs := #[.int .i64 ((rd_T37 l0_0 a1).f0), .slice A200_1 ((rd_T37 l0_0 a1).f1).length c200_1, .int .i64 ((rd_T37 l0_0 a1).f2.f0), .int .i64 0, .slice none 0 0, .int .i64 0]) ?_ 3 _ rfl; (with_reducible repeat (first | refine blk_drewN ?_ _ | refine blk_drew ?_ | refine blk_alloc ?_ _)); refine blk_put (cs := #[.int .i64 ((rd_T37 l0_0 a1).f0), .slice A200_1 ((rd_T37 l0_0 a1).f1).length c200_1, .int .i64 0, .int .i64 0, .slice none 0 0, .int .i64 0]) ?_ 2 _ rfl; (with_reducible repeat (first | refine blk_drewN ?_ _ | refine blk_drew ?_ | refine blk_alloc ?_ _)); refine blk_put (cs := #[.int .i64 ((rd_T37 l0_0 a1).f0), .slice none 0 0, .int .i64 0, .int .i64 0, .slice none 0 0, .int .i64 0]) ?_ 1 _ rfl; (with_reducible repeat (first | refine blk_drewN ?_ _ | refine blk_drew ?_ | refine blk_alloc ?_ _)); refine blk_put (cs := #[.int .i64 0, .slice none 0 0, .int .i64 0, .int .i64 0, .slice none 0 0, .int .i64 0]) ?_ 0 _ rfl; (with_reducible repeat (first | refine blk_drewN ?_ _ | refine blk_drew ?_ | refine blk_alloc ?_ _)); exact BK201.out⟩, ⟨by repeat (first | (with_reducible first | exact HB.out | apply below_alloc | apply pw_below_drewN | apply below_drew1 | refine below_set ?_ GE199.out | refine below_set ?_ GE201.out) | exact HB.out)⟩⟩
      case rest =>
        clear HC5
        try clear c1
        try clear c2
        try clear p2
        try clear q2
        try clear hx2
        try clear c3
        try clear c3b0
        try clear c4
        try clear c4b0
        try clear c9
        try clear c11
        try clear c11b0
        try clear c12
        try clear c14
        try clear hcz10_0
        try clear hcz10_1
        try clear hcz10_2
        try clear hcz10_3
        try clear hcz10_4
        try clear hcz10_5
        try clear hcz13_0
        try clear hcz13_1
        try clear hcz13_2
        try clear hcz13_3
        try clear hcz13_4
        try clear hcz13_5
        try clear hcz15_0
        try clear hcz15_1
        try clear hcz15_2
        try clear hcz15_3
        try clear hcz15_4
        try clear hcz15_5
        try clear hcz7_0
        try clear hcz7_1
        try clear hfz10_0
        try clear hfz10_1
        try clear hfz10_2
        try clear hfz10_3
        try clear hfz10_4
        try clear hfz10_5
        try clear hfz13_0
        try clear hfz13_1
        try clear hfz13_2
        try clear hfz13_3
        try clear hfz13_4
        try clear hfz13_5
        try clear hfz15_0
        try clear hfz15_1
        try clear hfz15_2
        try clear hfz15_3
        try clear hfz15_4
        try clear hfz15_5
        try clear hfz7_0
        try clear hfz7_1
        try clear hx200_0
        try clear hx200_1
        try clear hx200_2
        try clear hx200_3
        try clear hx200_4
        try clear hx200_5
        try clear p200
        try clear q200
        obtain ⟨kq, x20_4, rfl, HA, HJ4, BK199, BK201, HB⟩ := hcut
        cases kq with
        | zero => exact absurd HA.out (by simp [tidemillref05_vertex.j0])
        | succ kj4 =>
          have H := HA.out
          clear HA
          simp only [tidemillref05_vertex.j0] at H
          by_cases c16 : x20_4 = true
          · subst c16
            have H1 : (some 1) = some r := by rw [if_pos rfl] at H; exact H
            clear H
            have H := H1
            clear H1
            obtain rfl := Option.some.inj H
            go_wp2
            repeat (go_quiet (fail); try go_wp2)
            go_ret
            exact ⟨by first | rfl | (simp [errW_none, errW_some] <;> rfl) | (simp [*, errW_none, errW_some] <;> rfl), by repeat (first | (with_reducible first | exact HB.out | apply below_alloc | apply pw_below_drewN | apply below_drew1 | refine below_set ?_ GE199.out | refine below_set ?_ GE201.out) | exact HB.out)⟩
          · replace c16 := Bool.eq_false_iff.mpr c16
            subst c16
            have H1 : (tidemillref05_vertex.l0 kj4 a1 0 l0_0 a0_1 ((rd_T37 l0_0 a1).f0) ((rd_T37 l0_0 a1).f1) ((rd_T37 l0_0 a1).f2.f0) ((rd_T37 l0_0 a1).f2.f1) ((rd_T37 l0_0 a1).f2.f2) ((rd_T37 l0_0 a1).f3)) = some r := by rw [if_neg (show ¬ (false = true) by decide)] at H; exact H
            clear H
            have H := H1
            clear H1
            have H' := Aside0.mk H
            clear H
            go_wp2
            repeat (go_quiet (fail); try go_wp2)
            go_loopg [6] kj4 (fun kq v6 w' => ∃ (x6_2 : Int), v6 = .int .i64 x6_2 ∧ Aside0 (tidemillref05_vertex.l0 kq a1 x6_2 l0_0 a0_1 ((rd_T37 l0_0 a1).f0) ((rd_T37 l0_0 a1).f1) ((rd_T37 l0_0 a1).f2.f0) ((rd_T37 l0_0 a1).f2.f1) ((rd_T37 l0_0 a1).f2.f2) ((rd_T37 l0_0 a1).f3) = some r) ∧ Aside0 (kq ≤ kj4) ∧ Aside0 (w'.heap[gb199]? = some (.cells #[(.slice (some ad200) l0_0.length c0_0), .int .i64 a0_1] 24 (0, 0))) ∧ Aside0 (w'.heap[gb201]? = some (.cells #[.int .i64 ((rd_T37 l0_0 a1).f0), (.slice A200_1 ((rd_T37 l0_0 a1).f1).length c200_1), .int .i64 ((rd_T37 l0_0 a1).f2.f0), .int .i64 ((rd_T37 l0_0 a1).f2.f1), (.slice A200_4 ((rd_T37 l0_0 a1).f2.f2).length c200_4), .int .i64 ((rd_T37 l0_0 a1).f3)] 37 (0, 0))) ∧ Aside0 (Below w.heap.size w w'))
            case atStart => exact ⟨(0), (by first | rfl | (simp; done) | (simp [*]; done)), H', ⟨Nat.le_refl _⟩, ⟨by (with_reducible repeat (first | refine blk_drewN ?_ _ | refine blk_drew ?_ | refine blk_alloc ?_ _)); exact BK199.out⟩, ⟨by (with_reducible repeat (first | refine blk_drewN ?_ _ | refine blk_drew ?_ | refine blk_alloc ?_ _)); exact BK201.out⟩, ⟨by repeat (first | (with_reducible first | exact HB.out | apply below_alloc | apply pw_below_drewN | apply below_drew1 | refine below_set ?_ GE199.out | refine below_set ?_ GE201.out) | exact HB.out)⟩⟩
            case round =>
              clear H'
              try clear c1
              try clear c2
              try clear p2
              try clear q2
              try clear hx2
              try clear c3
              try clear c3b0
              try clear c4
              try clear c4b0
              try clear c9
              try clear c11
              try clear c11b0
              try clear c12
              try clear c14
              try clear c16
              try clear hcz10_0
              try clear hcz10_1
              try clear hcz10_2
              try clear hcz10_3
              try clear hcz10_4
              try clear hcz10_5
              try clear hcz13_0
              try clear hcz13_1
              try clear hcz13_2
              try clear hcz13_3
              try clear hcz13_4
              try clear hcz13_5
              try clear hcz15_0
              try clear hcz15_1
              try clear hcz15_2
              try clear hcz15_3
              try clear hcz15_4
              try clear hcz15_5
              try clear hcz7_0
              try clear hcz7_1
              try clear hfz10_0
              try clear hfz10_1
              try clear hfz10_2
              try clear hfz10_3
              try clear hfz10_4
              try clear hfz10_5
              try clear hfz13_0
              try clear hfz13_1
              try clear hfz13_2
              try clear hfz13_3
              try clear hfz13_4
              try clear hfz13_5
              try clear hfz15_0
              try clear hfz15_1
              try clear hfz15_2
              try clear hfz15_3
              try clear hfz15_4
              try clear hfz15_5
              try clear hfz7_0
              try clear hfz7_1
              try clear hx200_0
              try clear hx200_1
              try clear hx200_2
              try clear hx200_3
              try clear hx200_4
              try clear hx200_5
              try clear p2
              try clear p200
              try clear q2
              try clear q200
              obtain ⟨x6_2, rfl, HA, HK2, BK199, BK201, HB⟩ := hrel
              cases gk with
              | zero => exact absurd HA.out (by simp [tidemillref05_vertex.l0])
              | succ k2 =>
                have H := HA.out
                clear HA
                simp only [tidemillref05_vertex.l0] at H
                by_cases c17 : x6_2 < (((rd_T37 l0_0 a1).f1).length : Int)
                · rw [if_pos c17] at H
                  have c17b0 : decide (x6_2 < (((rd_T37 l0_0 a1).f1).length : Int)) = true := decide_eq_true c17
                  clear c17
                  by_cases c18 : 0 ≤ x6_2
                  · rw [if_pos c18] at H
                    have c18b0 : decide (0 ≤ x6_2) = true := decide_eq_true c18
                    clear c18
                    by_cases c19 : (rd ((rd_T37 l0_0 a1).f1) x6_2) < 0
                    · rw [if_pos c19] at H
                      have c19b0 : decide ((rd ((rd_T37 l0_0 a1).f1) x6_2) < 0) = true := decide_eq_true c19
                      clear c19
                      obtain rfl := Option.some.inj H
                      have hnb20 := NB201_199.out
                      have hnc20 := NB199_201.out
                      have hcz21_0 : wr.cell? ⟨gb201, 0, none⟩ = some (.int .i64 ((rd_T37 l0_0 a1).f0)) := (blk_cell BK201.out 0).trans rfl
                      have hcz21_1 : wr.cell? ⟨gb201, 1, none⟩ = some (.slice A200_1 ((rd_T37 l0_0 a1).f1).length c200_1) := (blk_cell BK201.out 1).trans rfl
                      have hcz21_2 : wr.cell? ⟨gb201, 2, none⟩ = some (.int .i64 ((rd_T37 l0_0 a1).f2.f0)) := (blk_cell BK201.out 2).trans rfl
                      have hcz21_3 : wr.cell? ⟨gb201, 3, none⟩ = some (.int .i64 ((rd_T37 l0_0 a1).f2.f1)) := (blk_cell BK201.out 3).trans rfl
                      have hcz21_4 : wr.cell? ⟨gb201, 4, none⟩ = some (.slice A200_4 ((rd_T37 l0_0 a1).f2.f2).length c200_4) := (blk_cell BK201.out 4).trans rfl
                      have hcz21_5 : wr.cell? ⟨gb201, 5, none⟩ = some (.int .i64 ((rd_T37 l0_0 a1).f3)) := (blk_cell BK201.out 5).trans rfl
                      have hfz21_0 := blk_frozen BK201.out 0
                      have hfz21_1 := blk_frozen BK201.out 1
                      have hfz21_2 := blk_frozen BK201.out 2
                      have hfz21_3 := blk_frozen BK201.out 3
                      have hfz21_4 := blk_frozen BK201.out 4
                      have hfz21_5 := blk_frozen BK201.out 5
                      have p202 : 0 ≤ (x6_2 : Int) := of_decide_eq_true (by first | (with_reducible assumption) | assumption)
                      have q202 : x6_2 < (((rd_T37 l0_0 a1).f1).length : Int) := of_decide_eq_true (by first | (with_reducible assumption) | assumption)
                      obtain ⟨ad202, e202, hx202_0⟩ := Kd.at_int HR200_1.out x6_2 p202 q202
                      cases e202
                      replace hx202_0 := (HB.out.cell (World.block_lt_of_cell? w _ hx202_0)).trans hx202_0
                      replace p202 := eq_true p202
                      replace q202 := eq_true q202
                      go_wp2
                      repeat (go_quiet (fail); try go_wp2)
                      go_ret
                      exact ⟨by first | rfl | (simp [errW_none, errW_some] <;> rfl) | (simp [*, errW_none, errW_some] <;> rfl), by repeat (first | (with_reducible first | exact HB.out | apply below_alloc | apply pw_below_drewN | apply below_drew1 | refine below_set ?_ GE199.out | refine below_set ?_ GE201.out) | exact HB.out)⟩
                    · rw [if_neg c19] at H
                      have c19b0 : decide ((rd ((rd_T37 l0_0 a1).f1) x6_2) < 0) = false := decide_eq_false c19
                      clear c19
                      by_cases c22 : (rd ((rd_T37 l0_0 a1).f1) x6_2) ≥ a1
                      · rw [if_pos c22] at H
                        have c22b0 : decide (a1 ≤ (rd ((rd_T37 l0_0 a1).f1) x6_2)) = true := decide_eq_true c22
                        clear c22
                        obtain rfl := Option.some.inj H
                        have hnb23 := NB201_199.out
                        have hnc23 := NB199_201.out
                        have hcz24_0 : wr.cell? ⟨gb201, 0, none⟩ = some (.int .i64 ((rd_T37 l0_0 a1).f0)) := (blk_cell BK201.out 0).trans rfl
                        have hcz24_1 : wr.cell? ⟨gb201, 1, none⟩ = some (.slice A200_1 ((rd_T37 l0_0 a1).f1).length c200_1) := (blk_cell BK201.out 1).trans rfl
                        have hcz24_2 : wr.cell? ⟨gb201, 2, none⟩ = some (.int .i64 ((rd_T37 l0_0 a1).f2.f0)) := (blk_cell BK201.out 2).trans rfl
                        have hcz24_3 : wr.cell? ⟨gb201, 3, none⟩ = some (.int .i64 ((rd_T37 l0_0 a1).f2.f1)) := (blk_cell BK201.out 3).trans rfl
                        have hcz24_4 : wr.cell? ⟨gb201, 4, none⟩ = some (.slice A200_4 ((rd_T37 l0_0 a1).f2.f2).length c200_4) := (blk_cell BK201.out 4).trans rfl
                        have hcz24_5 : wr.cell? ⟨gb201, 5, none⟩ = some (.int .i64 ((rd_T37 l0_0 a1).f3)) := (blk_cell BK201.out 5).trans rfl
                        have hfz24_0 := blk_frozen BK201.out 0
                        have hfz24_1 := blk_frozen BK201.out 1
                        have hfz24_2 := blk_frozen BK201.out 2
                        have hfz24_3 := blk_frozen BK201.out 3
                        have hfz24_4 := blk_frozen BK201.out 4
                        have hfz24_5 := blk_frozen BK201.out 5
                        have p202 : 0 ≤ (x6_2 : Int) := of_decide_eq_true (by first | (with_reducible assumption) | assumption)
                        have q202 : x6_2 < (((rd_T37 l0_0 a1).f1).length : Int) := of_decide_eq_true (by first | (with_reducible assumption) | assumption)
                        obtain ⟨ad202, e202, hx202_0⟩ := Kd.at_int HR200_1.out x6_2 p202 q202
                        cases e202
                        replace hx202_0 := (HB.out.cell (World.block_lt_of_cell? w _ hx202_0)).trans hx202_0
                        replace p202 := eq_true p202
                        replace q202 := eq_true q202
                        have p203 : 0 ≤ (x6_2 : Int) := of_decide_eq_true (by first | (with_reducible assumption) | assumption)
                        have q203 : x6_2 < (((rd_T37 l0_0 a1).f1).length : Int) := of_decide_eq_true (by first | (with_reducible assumption) | assumption)
                        obtain ⟨ad203, e203, hx203_0⟩ := Kd.at_int HR200_1.out x6_2 p203 q203
                        obtain rfl : ad202 = ad203 := (by injection e203)
                        replace hx203_0 := (HB.out.cell (World.block_lt_of_cell? w _ hx203_0)).trans hx203_0
                        replace p203 := eq_true p203
                        replace q203 := eq_true q203
                        go_wp2
                        repeat (go_quiet (fail); try go_wp2)
                        go_ret
                        exact ⟨by first | rfl | (simp [errW_none, errW_some] <;> rfl) | (simp [*, errW_none, errW_some] <;> rfl), by repeat (first | (with_reducible first | exact HB.out | apply below_alloc | apply pw_below_drewN | apply below_drew1 | refine below_set ?_ GE199.out | refine below_set ?_ GE201.out) | exact HB.out)⟩
                      · rw [if_neg c22] at H
                        have c22b0 : decide (a1 ≤ (rd ((rd_T37 l0_0 a1).f1) x6_2)) = false := decide_eq_false c22
                        clear c22
                        have H' := Aside0.mk H
                        clear H
                        have hnb25 := NB201_199.out
                        have hnc25 := NB199_201.out
                        have hcz26_0 : wr.cell? ⟨gb201, 0, none⟩ = some (.int .i64 ((rd_T37 l0_0 a1).f0)) := (blk_cell BK201.out 0).trans rfl
                        have hcz26_1 : wr.cell? ⟨gb201, 1, none⟩ = some (.slice A200_1 ((rd_T37 l0_0 a1).f1).length c200_1) := (blk_cell BK201.out 1).trans rfl
                        have hcz26_2 : wr.cell? ⟨gb201, 2, none⟩ = some (.int .i64 ((rd_T37 l0_0 a1).f2.f0)) := (blk_cell BK201.out 2).trans rfl
                        have hcz26_3 : wr.cell? ⟨gb201, 3, none⟩ = some (.int .i64 ((rd_T37 l0_0 a1).f2.f1)) := (blk_cell BK201.out 3).trans rfl
                        have hcz26_4 : wr.cell? ⟨gb201, 4, none⟩ = some (.slice A200_4 ((rd_T37 l0_0 a1).f2.f2).length c200_4) := (blk_cell BK201.out 4).trans rfl
                        have hcz26_5 : wr.cell? ⟨gb201, 5, none⟩ = some (.int .i64 ((rd_T37 l0_0 a1).f3)) := (blk_cell BK201.out 5).trans rfl
                        have hfz26_0 := blk_frozen BK201.out 0
                        have hfz26_1 := blk_frozen BK201.out 1
                        have hfz26_2 := blk_frozen BK201.out 2
                        have hfz26_3 := blk_frozen BK201.out 3
                        have hfz26_4 := blk_frozen BK201.out 4
                        have hfz26_5 := blk_frozen BK201.out 5
                        have p202 : 0 ≤ (x6_2 : Int) := of_decide_eq_true (by first | (with_reducible assumption) | assumption)
                        have q202 : x6_2 < (((rd_T37 l0_0 a1).f1).length : Int) := of_decide_eq_true (by first | (with_reducible assumption) | assumption)
                        obtain ⟨ad202, e202, hx202_0⟩ := Kd.at_int HR200_1.out x6_2 p202 q202
                        cases e202
                        replace hx202_0 := (HB.out.cell (World.block_lt_of_cell? w _ hx202_0)).trans hx202_0
                        replace p202 := eq_true p202
                        replace q202 := eq_true q202
                        have p203 : 0 ≤ (x6_2 : Int) := of_decide_eq_true (by first | (with_reducible assumption) | assumption)
                        have q203 : x6_2 < (((rd_T37 l0_0 a1).f1).length : Int) := of_decide_eq_true (by first | (with_reducible assumption) | assumption)
                        obtain ⟨ad203, e203, hx203_0⟩ := Kd.at_int HR200_1.out x6_2 p203 q203
                        obtain rfl : ad202 = ad203 := (by injection e203)
                        replace hx203_0 := (HB.out.cell (World.block_lt_of_cell? w _ hx203_0)).trans hx203_0
                        replace p203 := eq_true p203
                        replace q203 := eq_true q203
                        go_wp2
                        repeat (go_quiet (fail); try go_wp2)
                        go_roundg k2
                        case measure => have := HJ4.out; have := HK2.out; omega
                        case rel => exact ⟨(wrap64 (x6_2 + 1)), (by first | rfl | (simp; done) | (simp [*]; done)), H', ⟨by have := HJ4.out; have := HK2.out; omega⟩, ⟨by (with_reducible repeat (first | refine blk_drewN ?_ _ | refine blk_drew ?_ | refine blk_alloc ?_ _)); exact BK199.out⟩, ⟨by (with_reducible repeat (first | refine blk_drewN ?_ _ | refine blk_drew ?_ | refine blk_alloc ?_ _)); exact BK201.out⟩, ⟨by repeat (first | (with_reducible first | exact HB.out | apply below_alloc | apply pw_below_drewN | apply below_drew1 | refine below_set ?_ GE199.out | refine below_set ?_ GE201.out) | exact HB.out)⟩⟩
                  · rw [if_neg c18] at H
                    exact absurd H (by simp)
                · rw [if_neg c17] at H
                  have c17b0 : decide (x6_2 < (((rd_T37 l0_0 a1).f1).length : Int)) = false := decide_eq_false c17
                  clear c17
                  replace H := Option.bind_eq_some_iff.mp H
                  obtain ⟨t204, A270, H⟩ := H
                  replace H : (if t204 = true then ((tidemillref05_taken.f k2 l0_0 a0_1 a1).bind fun t205 => (if t205 = true then (some 12) else (tidemillref05_vertex.l1 k2 0 l0_0 a0_1 ((rd_T37 l0_0 a1).f0) ((rd_T37 l0_0 a1).f1) ((rd_T37 l0_0 a1).f2.f0) ((rd_T37 l0_0 a1).f2.f1) ((rd_T37 l0_0 a1).f2.f2) ((rd_T37 l0_0 a1).f3)))) else (some 5)) = some r := H
                  have A27 := Aside0.mk A270
                  clear A270
                  by_cases c28 : t204 = true
                  · subst c28
                    have H1 : ((tidemillref05_taken.f k2 l0_0 a0_1 a1).bind fun t205 => (if t205 = true then (some 12) else (tidemillref05_vertex.l1 k2 0 l0_0 a0_1 ((rd_T37 l0_0 a1).f0) ((rd_T37 l0_0 a1).f1) ((rd_T37 l0_0 a1).f2.f0) ((rd_T37 l0_0 a1).f2.f1) ((rd_T37 l0_0 a1).f2.f2) ((rd_T37 l0_0 a1).f3)))) = some r := by rw [if_pos rfl] at H; exact H
                    clear H
                    have H := H1
                    clear H1
                    replace H := Option.bind_eq_some_iff.mp H
                    obtain ⟨t205, A290, H⟩ := H
                    replace H : (if t205 = true then (some 12) else (tidemillref05_vertex.l1 k2 0 l0_0 a0_1 ((rd_T37 l0_0 a1).f0) ((rd_T37 l0_0 a1).f1) ((rd_T37 l0_0 a1).f2.f0) ((rd_T37 l0_0 a1).f2.f1) ((rd_T37 l0_0 a1).f2.f2) ((rd_T37 l0_0 a1).f3))) = some r := H
                    have A29 := Aside0.mk A290
                    clear A290
                    by_cases c30 : t205 = true
                    · subst c30
                      have H1 : (some 12) = some r := by rw [if_pos rfl] at H; exact H
                      clear H
                      have H := H1
                      clear H1
                      obtain rfl := Option.some.inj H
                      have hnb31 := NB201_199.out
                      have hnc31 := NB199_201.out
                      have hcz32_0 : wr.cell? ⟨gb201, 0, none⟩ = some (.int .i64 ((rd_T37 l0_0 a1).f0)) := (blk_cell BK201.out 0).trans rfl
                      have hcz32_1 : wr.cell? ⟨gb201, 1, none⟩ = some (.slice A200_1 ((rd_T37 l0_0 a1).f1).length c200_1) := (blk_cell BK201.out 1).trans rfl
                      have hcz32_2 : wr.cell? ⟨gb201, 2, none⟩ = some (.int .i64 ((rd_T37 l0_0 a1).f2.f0)) := (blk_cell BK201.out 2).trans rfl
                      have hcz32_3 : wr.cell? ⟨gb201, 3, none⟩ = some (.int .i64 ((rd_T37 l0_0 a1).f2.f1)) := (blk_cell BK201.out 3).trans rfl
                      have hcz32_4 : wr.cell? ⟨gb201, 4, none⟩ = some (.slice A200_4 ((rd_T37 l0_0 a1).f2.f2).length c200_4) := (blk_cell BK201.out 4).trans rfl
                      have hcz32_5 : wr.cell? ⟨gb201, 5, none⟩ = some (.int .i64 ((rd_T37 l0_0 a1).f3)) := (blk_cell BK201.out 5).trans rfl
                      have hfz32_0 := blk_frozen BK201.out 0
                      have hfz32_1 := blk_frozen BK201.out 1
                      have hfz32_2 := blk_frozen BK201.out 2
                      have hfz32_3 := blk_frozen BK201.out 3
                      have hfz32_4 := blk_frozen BK201.out 4
                      have hfz32_5 := blk_frozen BK201.out 5
                      go_wp2_with (first | (go_at_call 61; (with_reducible refine (tidemillref05_Has.calls k2 ((rd_T37 l0_0 a1).f0) _ _ ((rd_T37 l0_0 a1).f1) ((rd_T37 l0_0 a1).f2.f0) ((rd_T37 l0_0 a1).f2.f1) _ _ ((rd_T37 l0_0 a1).f2.f2) ((rd_T37 l0_0 a1).f3) true _ ?side1 ?side2 ?side3 ?side4 A27.out).mono ?_); (case side1 => repeat (first | exact (Kd.C_below HR200_1.out HB.out) | (with_reducible refine Kd.C_alloc ?_ _) | (with_reducible refine Kd.C_drewN ?_ _) | (with_reducible refine Kd.C_drew ?_))); (case side2 => exact HC200_1.out); (case side3 => repeat (first | exact (Kd.C_below HR200_4.out HB.out) | (with_reducible refine Kd.C_alloc ?_ _) | (with_reducible refine Kd.C_drewN ?_ _) | (with_reducible refine Kd.C_drew ?_))); (case side4 => exact HC200_4.out); rintro e w33 ⟨rfl, hb⟩; have n0_ := Aside0.mk (blk_below (g := gb199) (o := .cells #[.slice (some ad200) l0_0.length c0_0, .int .i64 a0_1] 24 (0, 0)) (by (with_reducible repeat (first | refine blk_drewN ?_ _ | refine blk_drew ?_ | refine blk_alloc ?_ _)); exact BK199.out) hb); have n1_ := Aside0.mk (blk_below (g := gb201) (o := .cells #[.int .i64 ((rd_T37 l0_0 a1).f0), .slice A200_1 ((rd_T37 l0_0 a1).f1).length c200_1, .int .i64 ((rd_T37 l0_0 a1).f2.f0), .int .i64 ((rd_T37 l0_0 a1).f2.f1), .slice A200_4 ((rd_T37 l0_0 a1).f2.f2).length c200_4, .int .i64 ((rd_T37 l0_0 a1).f3)] 37 (0, 0)) (by (with_reducible repeat (first | refine blk_drewN ?_ _ | refine blk_drew ?_ | refine blk_alloc ?_ _)); exact BK201.out) hb); have n2_ := Aside0.mk (below_step (by repeat (first | (with_reducible first | exact HB.out | apply below_alloc | apply pw_below_drewN | apply below_drew1 | refine below_set ?_ GE199.out | refine below_set ?_ GE201.out) | exact HB.out)) hb); clear BK199; clear BK201; clear HB; have BK199 := n0_; have BK201 := n1_; have HB := n2_; clear n0_ n1_ n2_; (try clear hb); (try clear hb2); (try clear hk); (try clear hi); have hcz34_0 : w33.cell? ⟨gb199, 0, none⟩ = some (.slice (some ad200) l0_0.length c0_0) := (blk_cell BK199.out 0).trans rfl; have hcz34_1 : w33.cell? ⟨gb199, 1, none⟩ = some (.int .i64 a0_1) := (blk_cell BK199.out 1).trans rfl; have hfz34_0 := blk_frozen BK199.out 0; have hfz34_1 := blk_frozen BK199.out 1) | (go_at_call 62; (with_reducible refine (tidemillref05_taken.calls k2 _ _ l0_0 a0_1 a1 true _ ?side1 ?side2 A29.out).mono ?_); (case side1 => repeat (first | exact (Kd.C_below HR0_0.out HB.out) | (with_reducible refine Kd.C_alloc ?_ _) | (with_reducible refine Kd.C_drewN ?_ _) | (with_reducible refine Kd.C_drew ?_))); (case side2 => exact HC0_0.out); rintro e w35 ⟨rfl, hb⟩; have n0_ := Aside0.mk (blk_below (g := gb199) (o := .cells #[.slice (some ad200) l0_0.length c0_0, .int .i64 a0_1] 24 (0, 0)) (by (with_reducible repeat (first | refine blk_drewN ?_ _ | refine blk_drew ?_ | refine blk_alloc ?_ _)); exact BK199.out) hb); have n1_ := Aside0.mk (blk_below (g := gb201) (o := .cells #[.int .i64 ((rd_T37 l0_0 a1).f0), .slice A200_1 ((rd_T37 l0_0 a1).f1).length c200_1, .int .i64 ((rd_T37 l0_0 a1).f2.f0), .int .i64 ((rd_T37 l0_0 a1).f2.f1), .slice A200_4 ((rd_T37 l0_0 a1).f2.f2).length c200_4, .int .i64 ((rd_T37 l0_0 a1).f3)] 37 (0, 0)) (by (with_reducible repeat (first | refine blk_drewN ?_ _ | refine blk_drew ?_ | refine blk_alloc ?_ _)); exact BK201.out) hb); have n2_ := Aside0.mk (below_step (by repeat (first | (with_reducible first | exact HB.out | apply below_alloc | apply pw_below_drewN | apply below_drew1 | refine below_set ?_ GE199.out | refine below_set ?_ GE201.out) | exact HB.out)) hb); clear BK199; clear BK201; clear HB; have BK199 := n0_; have BK201 := n1_; have HB := n2_; clear n0_ n1_ n2_; (try clear hb); (try clear hb2); (try clear hk); (try clear hi)))
                      repeat (go_quiet (first | (go_at_call 61; (with_reducible refine (tidemillref05_Has.calls k2 ((rd_T37 l0_0 a1).f0) _ _ ((rd_T37 l0_0 a1).f1) ((rd_T37 l0_0 a1).f2.f0) ((rd_T37 l0_0 a1).f2.f1) _ _ ((rd_T37 l0_0 a1).f2.f2) ((rd_T37 l0_0 a1).f3) true _ ?side1 ?side2 ?side3 ?side4 A27.out).mono ?_); (case side1 => repeat (first | exact (Kd.C_below HR200_1.out HB.out) | (with_reducible refine Kd.C_alloc ?_ _) | (with_reducible refine Kd.C_drewN ?_ _) | (with_reducible refine Kd.C_drew ?_))); (case side2 => exact HC200_1.out); (case side3 => repeat (first | exact (Kd.C_below HR200_4.out HB.out) | (with_reducible refine Kd.C_alloc ?_ _) | (with_reducible refine Kd.C_drewN ?_ _) | (with_reducible refine Kd.C_drew ?_))); (case side4 => exact HC200_4.out); rintro e w33 ⟨rfl, hb⟩; have n0_ := Aside0.mk (blk_below (g := gb199) (o := .cells #[.slice (some ad200) l0_0.length c0_0, .int .i64 a0_1] 24 (0, 0)) (by (with_reducible repeat (first | refine blk_drewN ?_ _ | refine blk_drew ?_ | refine blk_alloc ?_ _)); exact BK199.out) hb); have n1_ := Aside0.mk (blk_below (g := gb201) (o := .cells #[.int .i64 ((rd_T37 l0_0 a1).f0), .slice A200_1 ((rd_T37 l0_0 a1).f1).length c200_1, .int .i64 ((rd_T37 l0_0 a1).f2.f0), .int .i64 ((rd_T37 l0_0 a1).f2.f1), .slice A200_4 ((rd_T37 l0_0 a1).f2.f2).length c200_4, .int .i64 ((rd_T37 l0_0 a1).f3)] 37 (0, 0)) (by (with_reducible repeat (first | refine blk_drewN ?_ _ | refine blk_drew ?_ | refine blk_alloc ?_ _)); exact BK201.out) hb); have n2_ := Aside0.mk (below_step (by repeat (first | (with_reducible first | exact HB.out | apply below_alloc | apply pw_below_drewN | apply below_drew1 | refine below_set ?_ GE199.out | refine below_set ?_ GE201.out) | exact HB.out)) hb); clear BK199; clear BK201; clear HB; have BK199 := n0_; have BK201 := n1_; have HB := n2_; clear n0_ n1_ n2_; (try clear hb); (try clear hb2); (try clear hk); (try clear hi); have hcz34_0 : w33.cell? ⟨gb199, 0, none⟩ = some (.slice (some ad200) l0_0.length c0_0) := (blk_cell BK199.out 0).trans rfl; have hcz34_1 : w33.cell? ⟨gb199, 1, none⟩ = some (.int .i64 a0_1) := (blk_cell BK199.out 1).trans rfl; have hfz34_0 := blk_frozen BK199.out 0; have hfz34_1 := blk_frozen BK199.out 1) | (go_at_call 62; (with_reducible refine (tidemillref05_taken.calls k2 _ _ l0_0 a0_1 a1 true _ ?side1 ?side2 A29.out).mono ?_); (case side1 => repeat (first | exact (Kd.C_below HR0_0.out HB.out) | (with_reducible refine Kd.C_alloc ?_ _) | (with_reducible refine Kd.C_drewN ?_ _) | (with_reducible refine Kd.C_drew ?_))); (case side2 => exact HC0_0.out); rintro e w35 ⟨rfl, hb⟩; have n0_ := Aside0.mk (blk_below (g := gb199) (o := .cells #[.slice (some ad200) l0_0.length c0_0, .int .i64 a0_1] 24 (0, 0)) (by (with_reducible repeat (first | refine blk_drewN ?_ _ | refine blk_drew ?_ | refine blk_alloc ?_ _)); exact BK199.out) hb); have n1_ := Aside0.mk (blk_below (g := gb201) (o := .cells #[.int .i64 ((rd_T37 l0_0 a1).f0), .slice A200_1 ((rd_T37 l0_0 a1).f1).length c200_1, .int .i64 ((rd_T37 l0_0 a1).f2.f0), .int .i64 ((rd_T37 l0_0 a1).f2.f1), .slice A200_4 ((rd_T37 l0_0 a1).f2.f2).length c200_4, .int .i64 ((rd_T37 l0_0 a1).f3)] 37 (0, 0)) (by (with_reducible repeat (first | refine blk_drewN ?_ _ | refine blk_drew ?_ | refine blk_alloc ?_ _)); exact BK201.out) hb); have n2_ := Aside0.mk (below_step (by repeat (first | (with_reducible first | exact HB.out | apply below_alloc | apply pw_below_drewN | apply below_drew1 | refine below_set ?_ GE199.out | refine below_set ?_ GE201.out) | exact HB.out)) hb); clear BK199; clear BK201; clear HB; have BK199 := n0_; have BK201 := n1_; have HB := n2_; clear n0_ n1_ n2_; (try clear hb); (try clear hb2); (try clear hk); (try clear hi))); try go_wp2_with (first | (go_at_call 61; (with_reducible refine (tidemillref05_Has.calls k2 ((rd_T37 l0_0 a1).f0) _ _ ((rd_T37 l0_0 a1).f1) ((rd_T37 l0_0 a1).f2.f0) ((rd_T37 l0_0 a1).f2.f1) _ _ ((rd_T37 l0_0 a1).f2.f2) ((rd_T37 l0_0 a1).f3) true _ ?side1 ?side2 ?side3 ?side4 A27.out).mono ?_); (case side1 => repeat (first | exact (Kd.C_below HR200_1.out HB.out) | (with_reducible refine Kd.C_alloc ?_ _) | (with_reducible refine Kd.C_drewN ?_ _) | (with_reducible refine Kd.C_drew ?_))); (case side2 => exact HC200_1.out); (case side3 => repeat (first | exact (Kd.C_below HR200_4.out HB.out) | (with_reducible refine Kd.C_alloc ?_ _) | (with_reducible refine Kd.C_drewN ?_ _) | (with_reducible refine Kd.C_drew ?_))); (case side4 => exact HC200_4.out); rintro e w33 ⟨rfl, hb⟩; have n0_ := Aside0.mk (blk_below (g := gb199) (o := .cells #[.slice (some ad200) l0_0.length c0_0, .int .i64 a0_1] 24 (0, 0)) (by (with_reducible repeat (first | refine blk_drewN ?_ _ | refine blk_drew ?_ | refine blk_alloc ?_ _)); exact BK199.out) hb); have n1_ := Aside0.mk (blk_below (g := gb201) (o := .cells #[.int .i64 ((rd_T37 l0_0 a1).f0), .slice A200_1 ((rd_T37 l0_0 a1).f1).length c200_1, .int .i64 ((rd_T37 l0_0 a1).f2.f0), .int .i64 ((rd_T37 l0_0 a1).f2.f1), .slice A200_4 ((rd_T37 l0_0 a1).f2.f2).length c200_4, .int .i64 ((rd_T37 l0_0 a1).f3)] 37 (0, 0)) (by (with_reducible repeat (first | refine blk_drewN ?_ _ | refine blk_drew ?_ | refine blk_alloc ?_ _)); exact BK201.out) hb); have n2_ := Aside0.mk (below_step (by repeat (first | (with_reducible first | exact HB.out | apply below_alloc | apply pw_below_drewN | apply below_drew1 | refine below_set ?_ GE199.out | refine below_set ?_ GE201.out) | exact HB.out)) hb); clear BK199; clear BK201; clear HB; have BK199 := n0_; have BK201 := n1_; have HB := n2_; clear n0_ n1_ n2_; (try clear hb); (try clear hb2); (try clear hk); (try clear hi); have hcz34_0 : w33.cell? ⟨gb199, 0, none⟩ = some (.slice (some ad200) l0_0.length c0_0) := (blk_cell BK199.out 0).trans rfl; have hcz34_1 : w33.cell? ⟨gb199, 1, none⟩ = some (.int .i64 a0_1) := (blk_cell BK199.out 1).trans rfl; have hfz34_0 := blk_frozen BK199.out 0; have hfz34_1 := blk_frozen BK199.out 1) | (go_at_call 62; (with_reducible refine (tidemillref05_taken.calls k2 _ _ l0_0 a0_1 a1 true _ ?side1 ?side2 A29.out).mono ?_); (case side1 => repeat (first | exact (Kd.C_below HR0_0.out HB.out) | (with_reducible refine Kd.C_alloc ?_ _) | (with_reducible refine Kd.C_drewN ?_ _) | (with_reducible refine Kd.C_drew ?_))); (case side2 => exact HC0_0.out); rintro e w35 ⟨rfl, hb⟩; have n0_ := Aside0.mk (blk_below (g := gb199) (o := .cells #[.slice (some ad200) l0_0.length c0_0, .int .i64 a0_1] 24 (0, 0)) (by (with_reducible repeat (first | refine blk_drewN ?_ _ | refine blk_drew ?_ | refine blk_alloc ?_ _)); exact BK199.out) hb); have n1_ := Aside0.mk (blk_below (g := gb201) (o := .cells #[.int .i64 ((rd_T37 l0_0 a1).f0), .slice A200_1 ((rd_T37 l0_0 a1).f1).length c200_1, .int .i64 ((rd_T37 l0_0 a1).f2.f0), .int .i64 ((rd_T37 l0_0 a1).f2.f1), .slice A200_4 ((rd_T37 l0_0 a1).f2.f2).length c200_4, .int .i64 ((rd_T37 l0_0 a1).f3)] 37 (0, 0)) (by (with_reducible repeat (first | refine blk_drewN ?_ _ | refine blk_drew ?_ | refine blk_alloc ?_ _)); exact BK201.out) hb); have n2_ := Aside0.mk (below_step (by repeat (first | (with_reducible first | exact HB.out | apply below_alloc | apply pw_below_drewN | apply below_drew1 | refine below_set ?_ GE199.out | refine below_set ?_ GE201.out) | exact HB.out)) hb); clear BK199; clear BK201; clear HB; have BK199 := n0_; have BK201 := n1_; have HB := n2_; clear n0_ n1_ n2_; (try clear hb); (try clear hb2); (try clear hk); (try clear hi))))
                      go_ret
                      exact ⟨by first | rfl | (simp [errW_none, errW_some] <;> rfl) | (simp [*, errW_none, errW_some] <;> rfl), by repeat (first | (with_reducible first | exact HB.out | apply below_alloc | apply pw_below_drewN | apply below_drew1 | refine below_set ?_ GE199.out | refine below_set ?_ GE201.out) | exact HB.out)⟩
                    · replace c30 := Bool.eq_false_iff.mpr c30
                      subst c30
                      have H1 : (tidemillref05_vertex.l1 k2 0 l0_0 a0_1 ((rd_T37 l0_0 a1).f0) ((rd_T37 l0_0 a1).f1) ((rd_T37 l0_0 a1).f2.f0) ((rd_T37 l0_0 a1).f2.f1) ((rd_T37 l0_0 a1).f2.f2) ((rd_T37 l0_0 a1).f3)) = some r := by rw [if_neg (show ¬ (false = true) by decide)] at H; exact H
                      clear H
                      have H := H1
                      clear H1
                      have H' := Aside0.mk H
                      clear H
                      have hnb36 := NB201_199.out
                      have hnc36 := NB199_201.out
                      have hcz37_0 : wr.cell? ⟨gb201, 0, none⟩ = some (.int .i64 ((rd_T37 l0_0 a1).f0)) := (blk_cell BK201.out 0).trans rfl
                      have hcz37_1 : wr.cell? ⟨gb201, 1, none⟩ = some (.slice A200_1 ((rd_T37 l0_0 a1).f1).length c200_1) := (blk_cell BK201.out 1).trans rfl
                      have hcz37_2 : wr.cell? ⟨gb201, 2, none⟩ = some (.int .i64 ((rd_T37 l0_0 a1).f2.f0)) := (blk_cell BK201.out 2).trans rfl
                      have hcz37_3 : wr.cell? ⟨gb201, 3, none⟩ = some (.int .i64 ((rd_T37 l0_0 a1).f2.f1)) := (blk_cell BK201.out 3).trans rfl
                      have hcz37_4 : wr.cell? ⟨gb201, 4, none⟩ = some (.slice A200_4 ((rd_T37 l0_0 a1).f2.f2).length c200_4) := (blk_cell BK201.out 4).trans rfl
                      have hcz37_5 : wr.cell? ⟨gb201, 5, none⟩ = some (.int .i64 ((rd_T37 l0_0 a1).f3)) := (blk_cell BK201.out 5).trans rfl
                      have hfz37_0 := blk_frozen BK201.out 0
                      have hfz37_1 := blk_frozen BK201.out 1
                      have hfz37_2 := blk_frozen BK201.out 2
                      have hfz37_3 := blk_frozen BK201.out 3
                      have hfz37_4 := blk_frozen BK201.out 4
                      have hfz37_5 := blk_frozen BK201.out 5
                      go_wp2_with (first | (go_at_call 61; (with_reducible refine (tidemillref05_Has.calls k2 ((rd_T37 l0_0 a1).f0) _ _ ((rd_T37 l0_0 a1).f1) ((rd_T37 l0_0 a1).f2.f0) ((rd_T37 l0_0 a1).f2.f1) _ _ ((rd_T37 l0_0 a1).f2.f2) ((rd_T37 l0_0 a1).f3) true _ ?side1 ?side2 ?side3 ?side4 A27.out).mono ?_); (case side1 => repeat (first | exact (Kd.C_below HR200_1.out HB.out) | (with_reducible refine Kd.C_alloc ?_ _) | (with_reducible refine Kd.C_drewN ?_ _) | (with_reducible refine Kd.C_drew ?_))); (case side2 => exact HC200_1.out); (case side3 => repeat (first | exact (Kd.C_below HR200_4.out HB.out) | (with_reducible refine Kd.C_alloc ?_ _) | (with_reducible refine Kd.C_drewN ?_ _) | (with_reducible refine Kd.C_drew ?_))); (case side4 => exact HC200_4.out); rintro e w38 ⟨rfl, hb⟩; have n0_ := Aside0.mk (blk_below (g := gb199) (o := .cells #[.slice (some ad200) l0_0.length c0_0, .int .i64 a0_1] 24 (0, 0)) (by (with_reducible repeat (first | refine blk_drewN ?_ _ | refine blk_drew ?_ | refine blk_alloc ?_ _)); exact BK199.out) hb); have n1_ := Aside0.mk (blk_below (g := gb201) (o := .cells #[.int .i64 ((rd_T37 l0_0 a1).f0), .slice A200_1 ((rd_T37 l0_0 a1).f1).length c200_1, .int .i64 ((rd_T37 l0_0 a1).f2.f0), .int .i64 ((rd_T37 l0_0 a1).f2.f1), .slice A200_4 ((rd_T37 l0_0 a1).f2.f2).length c200_4, .int .i64 ((rd_T37 l0_0 a1).f3)] 37 (0, 0)) (by (with_reducible repeat (first | refine blk_drewN ?_ _ | refine blk_drew ?_ | refine blk_alloc ?_ _)); exact BK201.out) hb); have n2_ := Aside0.mk (below_step (by repeat (first | (with_reducible first | exact HB.out | apply below_alloc | apply pw_below_drewN | apply below_drew1 | refine below_set ?_ GE199.out | refine below_set ?_ GE201.out) | exact HB.out)) hb); clear BK199; clear BK201; clear HB; have BK199 := n0_; have BK201 := n1_; have HB := n2_; clear n0_ n1_ n2_; (try clear hb); (try clear hb2); (try clear hk); (try clear hi); have hcz39_0 : w38.cell? ⟨gb199, 0, none⟩ = some (.slice (some ad200) l0_0.length c0_0) := (blk_cell BK199.out 0).trans rfl; have hcz39_1 : w38.cell? ⟨gb199, 1, none⟩ = some (.int .i64 a0_1) := (blk_cell BK199.out 1).trans rfl; have hfz39_0 := blk_frozen BK199.out 0; have hfz39_1 := blk_frozen BK199.out 1) | (go_at_call 62; (with_reducible refine (tidemillref05_taken.calls k2 _ _ l0_0 a0_1 a1 false _ ?side1 ?side2 A29.out).mono ?_); (case side1 => repeat (first | exact (Kd.C_below HR0_0.out HB.out) | (with_reducible refine Kd.C_alloc ?_ _) | (with_reducible refine Kd.C_drewN ?_ _) | (with_reducible refine Kd.C_drew ?_))); (case side2 => exact HC0_0.out); rintro e w40 ⟨rfl, hb⟩; have n0_ := Aside0.mk (blk_below (g := gb199) (o := .cells #[.slice (some ad200) l0_0.length c0_0, .int .i64 a0_1] 24 (0, 0)) (by (with_reducible repeat (first | refine blk_drewN ?_ _ | refine blk_drew ?_ | refine blk_alloc ?_ _)); exact BK199.out) hb); have n1_ := Aside0.mk (blk_below (g := gb201) (o := .cells #[.int .i64 ((rd_T37 l0_0 a1).f0), .slice A200_1 ((rd_T37 l0_0 a1).f1).length c200_1, .int .i64 ((rd_T37 l0_0 a1).f2.f0), .int .i64 ((rd_T37 l0_0 a1).f2.f1), .slice A200_4 ((rd_T37 l0_0 a1).f2.f2).length c200_4, .int .i64 ((rd_T37 l0_0 a1).f3)] 37 (0, 0)) (by (with_reducible repeat (first | refine blk_drewN ?_ _ | refine blk_drew ?_ | refine blk_alloc ?_ _)); exact BK201.out) hb); have n2_ := Aside0.mk (below_step (by repeat (first | (with_reducible first | exact HB.out | apply below_alloc | apply pw_below_drewN | apply below_drew1 | refine below_set ?_ GE199.out | refine below_set ?_ GE201.out) | exact HB.out)) hb); clear BK199; clear BK201; clear HB; have BK199 := n0_; have BK201 := n1_; have HB := n2_; clear n0_ n1_ n2_; (try clear hb); (try clear hb2); (try clear hk); (try clear hi)))
                      repeat (go_quiet (first | (go_at_call 61; (with_reducible refine (tidemillref05_Has.calls k2 ((rd_T37 l0_0 a1).f0) _ _ ((rd_T37 l0_0 a1).f1) ((rd_T37 l0_0 a1).f2.f0) ((rd_T37 l0_0 a1).f2.f1) _ _ ((rd_T37 l0_0 a1).f2.f2) ((rd_T37 l0_0 a1).f3) true _ ?side1 ?side2 ?side3 ?side4 A27.out).mono ?_); (case side1 => repeat (first | exact (Kd.C_below HR200_1.out HB.out) | (with_reducible refine Kd.C_alloc ?_ _) | (with_reducible refine Kd.C_drewN ?_ _) | (with_reducible refine Kd.C_drew ?_))); (case side2 => exact HC200_1.out); (case side3 => repeat (first | exact (Kd.C_below HR200_4.out HB.out) | (with_reducible refine Kd.C_alloc ?_ _) | (with_reducible refine Kd.C_drewN ?_ _) | (with_reducible refine Kd.C_drew ?_))); (case side4 => exact HC200_4.out); rintro e w38 ⟨rfl, hb⟩; have n0_ := Aside0.mk (blk_below (g := gb199) (o := .cells #[.slice (some ad200) l0_0.length c0_0, .int .i64 a0_1] 24 (0, 0)) (by (with_reducible repeat (first | refine blk_drewN ?_ _ | refine blk_drew ?_ | refine blk_alloc ?_ _)); exact BK199.out) hb); have n1_ := Aside0.mk (blk_below (g := gb201) (o := .cells #[.int .i64 ((rd_T37 l0_0 a1).f0), .slice A200_1 ((rd_T37 l0_0 a1).f1).length c200_1, .int .i64 ((rd_T37 l0_0 a1).f2.f0), .int .i64 ((rd_T37 l0_0 a1).f2.f1), .slice A200_4 ((rd_T37 l0_0 a1).f2.f2).length c200_4, .int .i64 ((rd_T37 l0_0 a1).f3)] 37 (0, 0)) (by (with_reducible repeat (first | refine blk_drewN ?_ _ | refine blk_drew ?_ | refine blk_alloc ?_ _)); exact BK201.out) hb); have n2_ := Aside0.mk (below_step (by repeat (first | (with_reducible first | exact HB.out | apply below_alloc | apply pw_below_drewN | apply below_drew1 | refine below_set ?_ GE199.out | refine below_set ?_ GE201.out) | exact HB.out)) hb); clear BK199; clear BK201; clear HB; have BK199 := n0_; have BK201 := n1_; have HB := n2_; clear n0_ n1_ n2_; (try clear hb); (try clear hb2); (try clear hk); (try clear hi); have hcz39_0 : w38.cell? ⟨gb199, 0, none⟩ = some (.slice (some ad200) l0_0.length c0_0) := (blk_cell BK199.out 0).trans rfl; have hcz39_1 : w38.cell? ⟨gb199, 1, none⟩ = some (.int .i64 a0_1) := (blk_cell BK199.out 1).trans rfl; have hfz39_0 := blk_frozen BK199.out 0; have hfz39_1 := blk_frozen BK199.out 1) | (go_at_call 62; (with_reducible refine (tidemillref05_taken.calls k2 _ _ l0_0 a0_1 a1 false _ ?side1 ?side2 A29.out).mono ?_); (case side1 => repeat (first | exact (Kd.C_below HR0_0.out HB.out) | (with_reducible refine Kd.C_alloc ?_ _) | (with_reducible refine Kd.C_drewN ?_ _) | (with_reducible refine Kd.C_drew ?_))); (case side2 => exact HC0_0.out); rintro e w40 ⟨rfl, hb⟩; have n0_ := Aside0.mk (blk_below (g := gb199) (o := .cells #[.slice (some ad200) l0_0.length c0_0, .int .i64 a0_1] 24 (0, 0)) (by (with_reducible repeat (first | refine blk_drewN ?_ _ | refine blk_drew ?_ | refine blk_alloc ?_ _)); exact BK199.out) hb); have n1_ := Aside0.mk (blk_below (g := gb201) (o := .cells #[.int .i64 ((rd_T37 l0_0 a1).f0), .slice A200_1 ((rd_T37 l0_0 a1).f1).length c200_1, .int .i64 ((rd_T37 l0_0 a1).f2.f0), .int .i64 ((rd_T37 l0_0 a1).f2.f1), .slice A200_4 ((rd_T37 l0_0 a1).f2.f2).length c200_4, .int .i64 ((rd_T37 l0_0 a1).f3)] 37 (0, 0)) (by (with_reducible repeat (first | refine blk_drewN ?_ _ | refine blk_drew ?_ | refine blk_alloc ?_ _)); exact BK201.out) hb); have n2_ := Aside0.mk (below_step (by repeat (first | (with_reducible first | exact HB.out | apply below_alloc | apply pw_below_drewN | apply below_drew1 | refine below_set ?_ GE199.out | refine below_set ?_ GE201.out) | exact HB.out)) hb); clear BK199; clear BK201; clear HB; have BK199 := n0_; have BK201 := n1_; have HB := n2_; clear n0_ n1_ n2_; (try clear hb); (try clear hb2); (try clear hk); (try clear hi))); try go_wp2_with (first | (go_at_call 61; (with_reducible refine (tidemillref05_Has.calls k2 ((rd_T37 l0_0 a1).f0) _ _ ((rd_T37 l0_0 a1).f1) ((rd_T37 l0_0 a1).f2.f0) ((rd_T37 l0_0 a1).f2.f1) _ _ ((rd_T37 l0_0 a1).f2.f2) ((rd_T37 l0_0 a1).f3) true _ ?side1 ?side2 ?side3 ?side4 A27.out).mono ?_); (case side1 => repeat (first | exact (Kd.C_below HR200_1.out HB.out) | (with_reducible refine Kd.C_alloc ?_ _) | (with_reducible refine Kd.C_drewN ?_ _) | (with_reducible refine Kd.C_drew ?_))); (case side2 => exact HC200_1.out); (case side3 => repeat (first | exact (Kd.C_below HR200_4.out HB.out) | (with_reducible refine Kd.C_alloc ?_ _) | (with_reducible refine Kd.C_drewN ?_ _) | (with_reducible refine Kd.C_drew ?_))); (case side4 => exact HC200_4.out); rintro e w38 ⟨rfl, hb⟩; have n0_ := Aside0.mk (blk_below (g := gb199) (o := .cells #[.slice (some ad200) l0_0.length c0_0, .int .i64 a0_1] 24 (0, 0)) (by (with_reducible repeat (first | refine blk_drewN ?_ _ | refine blk_drew ?_ | refine blk_alloc ?_ _)); exact BK199.out) hb); have n1_ := Aside0.mk (blk_below (g := gb201) (o := .cells #[.int .i64 ((rd_T37 l0_0 a1).f0), .slice A200_1 ((rd_T37 l0_0 a1).f1).length c200_1, .int .i64 ((rd_T37 l0_0 a1).f2.f0), .int .i64 ((rd_T37 l0_0 a1).f2.f1), .slice A200_4 ((rd_T37 l0_0 a1).f2.f2).length c200_4, .int .i64 ((rd_T37 l0_0 a1).f3)] 37 (0, 0)) (by (with_reducible repeat (first | refine blk_drewN ?_ _ | refine blk_drew ?_ | refine blk_alloc ?_ _)); exact BK201.out) hb); have n2_ := Aside0.mk (below_step (by repeat (first | (with_reducible first | exact HB.out | apply below_alloc | apply pw_below_drewN | apply below_drew1 | refine below_set ?_ GE199.out | refine below_set ?_ GE201.out) | exact HB.out)) hb); clear BK199; clear BK201; clear HB; have BK199 := n0_; have BK201 := n1_; have HB := n2_; clear n0_ n1_ n2_; (try clear hb); (try clear hb2); (try clear hk); (try clear hi); have hcz39_0 : w38.cell? ⟨gb199, 0, none⟩ = some (.slice (some ad200) l0_0.length c0_0) := (blk_cell BK199.out 0).trans rfl; have hcz39_1 : w38.cell? ⟨gb199, 1, none⟩ = some (.int .i64 a0_1) := (blk_cell BK199.out 1).trans rfl; have hfz39_0 := blk_frozen BK199.out 0; have hfz39_1 := blk_frozen BK199.out 1) | (go_at_call 62; (with_reducible refine (tidemillref05_taken.calls k2 _ _ l0_0 a0_1 a1 false _ ?side1 ?side2 A29.out).mono ?_); (case side1 => repeat (first | exact (Kd.C_below HR0_0.out HB.out) | (with_reducible refine Kd.C_alloc ?_ _) | (with_reducible refine Kd.C_drewN ?_ _) | (with_reducible refine Kd.C_drew ?_))); (case side2 => exact HC0_0.out); rintro e w40 ⟨rfl, hb⟩; have n0_ := Aside0.mk (blk_below (g := gb199) (o := .cells #[.slice (some ad200) l0_0.length c0_0, .int .i64 a0_1] 24 (0, 0)) (by (with_reducible repeat (first | refine blk_drewN ?_ _ | refine blk_drew ?_ | refine blk_alloc ?_ _)); exact BK199.out) hb); have n1_ := Aside0.mk (blk_below (g := gb201) (o := .cells #[.int .i64 ((rd_T37 l0_0 a1).f0), .slice A200_1 ((rd_T37 l0_0 a1).f1).length c200_1, .int .i64 ((rd_T37 l0_0 a1).f2.f0), .int .i64 ((rd_T37 l0_0 a1).f2.f1), .slice A200_4 ((rd_T37 l0_0 a1).f2.f2).length c200_4, .int .i64 ((rd_T37 l0_0 a1).f3)] 37 (0, 0)) (by (with_reducible repeat (first | refine blk_drewN ?_ _ | refine blk_drew ?_ | refine blk_alloc ?_ _)); exact BK201.out) hb); have n2_ := Aside0.mk (below_step (by repeat (first | (with_reducible first | exact HB.out | apply below_alloc | apply pw_below_drewN | apply below_drew1 | refine below_set ?_ GE199.out | refine below_set ?_ GE201.out) | exact HB.out)) hb); clear BK199; clear BK201; clear HB; have BK199 := n0_; have BK201 := n1_; have HB := n2_; clear n0_ n1_ n2_; (try clear hb); (try clear hb2); (try clear hk); (try clear hi))))
                      go_loopg [7] k2 (fun kq v7 w' => ∃ (x7_3 : Int), v7 = .int .i64 x7_3 ∧ Aside0 (tidemillref05_vertex.l1 kq x7_3 l0_0 a0_1 ((rd_T37 l0_0 a1).f0) ((rd_T37 l0_0 a1).f1) ((rd_T37 l0_0 a1).f2.f0) ((rd_T37 l0_0 a1).f2.f1) ((rd_T37 l0_0 a1).f2.f2) ((rd_T37 l0_0 a1).f3) = some r) ∧ Aside0 (kq ≤ k2) ∧ Aside0 (w'.heap[gb199]? = some (.cells #[(.slice (some ad200) l0_0.length c0_0), .int .i64 a0_1] 24 (0, 0))) ∧ Aside0 (w'.heap[gb201]? = some (.cells #[.int .i64 ((rd_T37 l0_0 a1).f0), (.slice A200_1 ((rd_T37 l0_0 a1).f1).length c200_1), .int .i64 ((rd_T37 l0_0 a1).f2.f0), .int .i64 ((rd_T37 l0_0 a1).f2.f1), (.slice A200_4 ((rd_T37 l0_0 a1).f2.f2).length c200_4), .int .i64 ((rd_T37 l0_0 a1).f3)] 37 (0, 0))) ∧ Aside0 (Below w.heap.size w w'))
                      case atStart => exact ⟨(0), (by first | rfl | (simp; done) | (simp [*]; done)), H', ⟨Nat.le_refl _⟩, ⟨by (with_reducible repeat (first | refine blk_drewN ?_ _ | refine blk_drew ?_ | refine blk_alloc ?_ _)); exact BK199.out⟩, ⟨by (with_reducible repeat (first | refine blk_drewN ?_ _ | refine blk_drew ?_ | refine blk_alloc ?_ _)); exact BK201.out⟩, ⟨by repeat (first | (with_reducible first | exact HB.out | apply below_alloc | apply pw_below_drewN | apply below_drew1 | refine below_set ?_ GE199.out | refine below_set ?_ GE201.out) | exact HB.out)⟩⟩
                      case round =>
                        clear H'
                        try clear c1
                        try clear c2
                        try clear p2
                        try clear q2
                        try clear hx2
                        try clear c3
                        try clear c3b0
                        try clear c4
                        try clear c4b0
                        try clear p6
                        try clear c9
                        try clear c11
                        try clear c11b0
                        try clear c12
                        try clear c14
                        try clear c16
                        try clear c17
                        try clear c17b0
                        try clear c18
                        try clear c18b0
                        try clear c19
                        try clear c19b0
                        try clear c20
                        try clear p20
                        try clear q20
                        try clear hx20
                        try clear c22
                        try clear c22b0
                        try clear c23
                        try clear c25
                        try clear c28
                        try clear c30
                        try clear c31
                        try clear c36
                        try clear hcz10_0
                        try clear hcz10_1
                        try clear hcz10_2
                        try clear hcz10_3
                        try clear hcz10_4
                        try clear hcz10_5
                        try clear hcz13_0
                        try clear hcz13_1
                        try clear hcz13_2
                        try clear hcz13_3
                        try clear hcz13_4
                        try clear hcz13_5
                        try clear hcz15_0
                        try clear hcz15_1
                        try clear hcz15_2
                        try clear hcz15_3
                        try clear hcz15_4
                        try clear hcz15_5
                        try clear hcz21_0
                        try clear hcz21_1
                        try clear hcz21_2
                        try clear hcz21_3
                        try clear hcz21_4
                        try clear hcz21_5
                        try clear hcz24_0
                        try clear hcz24_1
                        try clear hcz24_2
                        try clear hcz24_3
                        try clear hcz24_4
                        try clear hcz24_5
                        try clear hcz26_0
                        try clear hcz26_1
                        try clear hcz26_2
                        try clear hcz26_3
                        try clear hcz26_4
                        try clear hcz26_5
                        try clear hcz32_0
                        try clear hcz32_1
                        try clear hcz32_2
                        try clear hcz32_3
                        try clear hcz32_4
                        try clear hcz32_5
                        try clear hcz34_0
                        try clear hcz34_1
                        try clear hcz37_0
                        try clear hcz37_1
                        try clear hcz37_2
                        try clear hcz37_3
                        try clear hcz37_4
                        try clear hcz37_5
                        try clear hcz39_0
                        try clear hcz39_1
                        try clear hcz7_0
                        try clear hcz7_1
                        try clear hfz10_0
                        try clear hfz10_1
                        try clear hfz10_2
                        try clear hfz10_3
                        try clear hfz10_4
                        try clear hfz10_5
                        try clear hfz13_0
                        try clear hfz13_1
                        try clear hfz13_2
                        try clear hfz13_3
                        try clear hfz13_4
                        try clear hfz13_5
                        try clear hfz15_0
                        try clear hfz15_1
                        try clear hfz15_2
                        try clear hfz15_3
                        try clear hfz15_4
                        try clear hfz15_5
                        try clear hfz21_0
                        try clear hfz21_1
                        try clear hfz21_2
                        try clear hfz21_3
                        try clear hfz21_4
                        try clear hfz21_5
                        try clear hfz24_0
                        try clear hfz24_1
                        try clear hfz24_2
                        try clear hfz24_3
                        try clear hfz24_4
                        try clear hfz24_5
                        try clear hfz26_0
                        try clear hfz26_1
                        try clear hfz26_2
                        try clear hfz26_3
                        try clear hfz26_4
                        try clear hfz26_5
                        try clear hfz32_0
                        try clear hfz32_1
                        try clear hfz32_2
                        try clear hfz32_3
                        try clear hfz32_4
                        try clear hfz32_5
                        try clear hfz34_0
                        try clear hfz34_1
                        try clear hfz37_0
                        try clear hfz37_1
                        try clear hfz37_2
                        try clear hfz37_3
                        try clear hfz37_4
                        try clear hfz37_5
                        try clear hfz39_0
                        try clear hfz39_1
                        try clear hfz7_0
                        try clear hfz7_1
                        try clear hx200_0
                        try clear hx200_1
                        try clear hx200_2
                        try clear hx200_3
                        try clear hx200_4
                        try clear hx200_5
                        try clear hx202_0
                        try clear hx203_0
                        try clear p2
                        try clear p200
                        try clear p202
                        try clear p203
                        try clear q2
                        try clear q200
                        try clear q202
                        try clear q203
                        obtain ⟨x7_3, rfl, HA, HK3, BK199, BK201, HB⟩ := hrel
                        cases gk with
                        | zero => exact absurd HA.out (by simp [tidemillref05_vertex.l1])
                        | succ k3 =>
                          have H := HA.out
                          clear HA
                          simp only [tidemillref05_vertex.l1] at H
                          by_cases c41 : x7_3 < (((rd_T37 l0_0 a1).f1).length : Int)
                          · rw [if_pos c41] at H
                            have c41b0 : decide (x7_3 < (((rd_T37 l0_0 a1).f1).length : Int)) = true := decide_eq_true c41
                            clear c41
                            by_cases c42 : 0 ≤ x7_3
                            · rw [if_pos c42] at H
                              have c42b0 : decide (0 ≤ x7_3) = true := decide_eq_true c42
                              clear c42
                              by_cases c43 : 0 ≤ (rd ((rd_T37 l0_0 a1).f1) x7_3)
                              · rw [if_pos c43] at H
                                have c43b0 : decide (0 ≤ (rd ((rd_T37 l0_0 a1).f1) x7_3)) = true := decide_eq_true c43
                                clear c43
                                by_cases c44 : (rd ((rd_T37 l0_0 a1).f1) x7_3) < (l0_0.length : Int)
                                · rw [if_pos c44] at H
                                  have c44b0 : decide ((rd ((rd_T37 l0_0 a1).f1) x7_3) < (l0_0.length : Int)) = true := decide_eq_true c44
                                  clear c44
                                  by_cases c45 : ((rd_T37 l0_0 (rd ((rd_T37 l0_0 a1).f1) x7_3)).f0) = 10
                                  · rw [if_pos c45] at H
                                    have c45b0 : (((rd_T37 l0_0 (rd ((rd_T37 l0_0 a1).f1) x7_3)).f0) == 10) = true := beq_iff_eq.mpr c45
                                    have c45b1 : (((rd_T37 l0_0 (rd ((rd_T37 l0_0 a1).f1) x7_3)).f0) != 10) = false := bne_eq_false_iff_eq.mpr c45
                                    clear c45
                                    obtain rfl := Option.some.inj H
                                    have hnb46 := NB201_199.out
                                    have hnc46 := NB199_201.out
                                    have hcz47_0 : wr.cell? ⟨gb201, 0, none⟩ = some (.int .i64 ((rd_T37 l0_0 a1).f0)) := (blk_cell BK201.out 0).trans rfl
                                    have hcz47_1 : wr.cell? ⟨gb201, 1, none⟩ = some (.slice A200_1 ((rd_T37 l0_0 a1).f1).length c200_1) := (blk_cell BK201.out 1).trans rfl
                                    have hcz47_2 : wr.cell? ⟨gb201, 2, none⟩ = some (.int .i64 ((rd_T37 l0_0 a1).f2.f0)) := (blk_cell BK201.out 2).trans rfl
                                    have hcz47_3 : wr.cell? ⟨gb201, 3, none⟩ = some (.int .i64 ((rd_T37 l0_0 a1).f2.f1)) := (blk_cell BK201.out 3).trans rfl
                                    have hcz47_4 : wr.cell? ⟨gb201, 4, none⟩ = some (.slice A200_4 ((rd_T37 l0_0 a1).f2.f2).length c200_4) := (blk_cell BK201.out 4).trans rfl
                                    have hcz47_5 : wr.cell? ⟨gb201, 5, none⟩ = some (.int .i64 ((rd_T37 l0_0 a1).f3)) := (blk_cell BK201.out 5).trans rfl
                                    have hfz47_0 := blk_frozen BK201.out 0
                                    have hfz47_1 := blk_frozen BK201.out 1
                                    have hfz47_2 := blk_frozen BK201.out 2
                                    have hfz47_3 := blk_frozen BK201.out 3
                                    have hfz47_4 := blk_frozen BK201.out 4
                                    have hfz47_5 := blk_frozen BK201.out 5
                                    have hcz48_0 : wr.cell? ⟨gb199, 0, none⟩ = some (.slice (some ad200) l0_0.length c0_0) := (blk_cell BK199.out 0).trans rfl
                                    have hcz48_1 : wr.cell? ⟨gb199, 1, none⟩ = some (.int .i64 a0_1) := (blk_cell BK199.out 1).trans rfl
                                    have hfz48_0 := blk_frozen BK199.out 0
                                    have hfz48_1 := blk_frozen BK199.out 1
                                    have p206 : 0 ≤ (x7_3 : Int) := of_decide_eq_true (by first | (with_reducible assumption) | assumption)
                                    have q206 : x7_3 < (((rd_T37 l0_0 a1).f1).length : Int) := of_decide_eq_true (by first | (with_reducible assumption) | assumption)
                                    obtain ⟨ad206, e206, hx206_0⟩ := Kd.at_int HR200_1.out x7_3 p206 q206
                                    cases e206
                                    replace hx206_0 := (HB.out.cell (World.block_lt_of_cell? w _ hx206_0)).trans hx206_0
                                    replace p206 := eq_true p206
                                    replace q206 := eq_true q206
                                    have p207 : 0 ≤ ((rd ((rd_T37 l0_0 a1).f1) x7_3) : Int) := of_decide_eq_true (by first | (with_reducible assumption) | assumption)
                                    have q207 : (rd ((rd_T37 l0_0 a1).f1) x7_3) < (l0_0.length : Int) := of_decide_eq_true (by first | (with_reducible assumption) | assumption)
                                    obtain ⟨ad207, A207_1, c207_1, A207_4, c207_4, e207, hx207_0, hx207_1, hx207_2, hx207_3, hx207_4, hx207_5, hl207_1, hi207_1, hl207_4, hi207_4⟩ := at_T37 HR0_0.out (rd ((rd_T37 l0_0 a1).f1) x7_3) p207 q207
                                    obtain rfl : ad200 = ad207 := (by injection e207)
                                    replace hx207_0 := (HB.out.cell (World.block_lt_of_cell? w _ hx207_0)).trans hx207_0
                                    replace hx207_1 := (HB.out.cell (World.block_lt_of_cell? w _ hx207_1)).trans hx207_1
                                    replace hx207_2 := (HB.out.cell (World.block_lt_of_cell? w _ hx207_2)).trans hx207_2
                                    replace hx207_3 := (HB.out.cell (World.block_lt_of_cell? w _ hx207_3)).trans hx207_3
                                    replace hx207_4 := (HB.out.cell (World.block_lt_of_cell? w _ hx207_4)).trans hx207_4
                                    replace hx207_5 := (HB.out.cell (World.block_lt_of_cell? w _ hx207_5)).trans hx207_5
                                    have HR207_1 := Aside0.mk hi207_1
                                    have HC207_1 := Aside0.mk hl207_1
                                    clear hi207_1 hl207_1
                                    have HR207_4 := Aside0.mk hi207_4
                                    have HC207_4 := Aside0.mk hl207_4
                                    clear hi207_4 hl207_4
                                    replace p207 := eq_true p207
                                    replace q207 := eq_true q207
                                    go_wp2
                                    repeat (go_quiet (fail); try go_wp2)
                                    go_ret
                                    exact ⟨by first | rfl | (simp [errW_none, errW_some] <;> rfl) | (simp [*, errW_none, errW_some] <;> rfl), by repeat (first | (with_reducible first | exact HB.out | apply below_alloc | apply pw_below_drewN | apply below_drew1 | refine below_set ?_ GE199.out | refine below_set ?_ GE201.out) | exact HB.out)⟩
                                  · rw [if_neg c45] at H
                                    have c45b0 : (((rd_T37 l0_0 (rd ((rd_T37 l0_0 a1).f1) x7_3)).f0) == 10) = false := beq_eq_false_iff_ne.mpr c45
                                    have c45b1 : (((rd_T37 l0_0 (rd ((rd_T37 l0_0 a1).f1) x7_3)).f0) != 10) = true := bne_iff_ne.mpr c45
                                    have H' := Aside0.mk H
                                    clear H
                                    have hnb49 := NB201_199.out
                                    have hnc49 := NB199_201.out
                                    have hcz50_0 : wr.cell? ⟨gb201, 0, none⟩ = some (.int .i64 ((rd_T37 l0_0 a1).f0)) := (blk_cell BK201.out 0).trans rfl
                                    have hcz50_1 : wr.cell? ⟨gb201, 1, none⟩ = some (.slice A200_1 ((rd_T37 l0_0 a1).f1).length c200_1) := (blk_cell BK201.out 1).trans rfl
                                    have hcz50_2 : wr.cell? ⟨gb201, 2, none⟩ = some (.int .i64 ((rd_T37 l0_0 a1).f2.f0)) := (blk_cell BK201.out 2).trans rfl
                                    have hcz50_3 : wr.cell? ⟨gb201, 3, none⟩ = some (.int .i64 ((rd_T37 l0_0 a1).f2.f1)) := (blk_cell BK201.out 3).trans rfl
                                    have hcz50_4 : wr.cell? ⟨gb201, 4, none⟩ = some (.slice A200_4 ((rd_T37 l0_0 a1).f2.f2).length c200_4) := (blk_cell BK201.out 4).trans rfl
                                    have hcz50_5 : wr.cell? ⟨gb201, 5, none⟩ = some (.int .i64 ((rd_T37 l0_0 a1).f3)) := (blk_cell BK201.out 5).trans rfl
                                    have hfz50_0 := blk_frozen BK201.out 0
                                    have hfz50_1 := blk_frozen BK201.out 1
                                    have hfz50_2 := blk_frozen BK201.out 2
                                    have hfz50_3 := blk_frozen BK201.out 3
                                    have hfz50_4 := blk_frozen BK201.out 4
                                    have hfz50_5 := blk_frozen BK201.out 5
                                    have hcz51_0 : wr.cell? ⟨gb199, 0, none⟩ = some (.slice (some ad200) l0_0.length c0_0) := (blk_cell BK199.out 0).trans rfl
                                    have hcz51_1 : wr.cell? ⟨gb199, 1, none⟩ = some (.int .i64 a0_1) := (blk_cell BK199.out 1).trans rfl
                                    have hfz51_0 := blk_frozen BK199.out 0
                                    have hfz51_1 := blk_frozen BK199.out 1
                                    have p206 : 0 ≤ (x7_3 : Int) := of_decide_eq_true (by first | (with_reducible assumption) | assumption)
                                    have q206 : x7_3 < (((rd_T37 l0_0 a1).f1).length : Int) := of_decide_eq_true (by first | (with_reducible assumption) | assumption)
                                    obtain ⟨ad206, e206, hx206_0⟩ := Kd.at_int HR200_1.out x7_3 p206 q206
                                    cases e206
                                    replace hx206_0 := (HB.out.cell (World.block_lt_of_cell? w _ hx206_0)).trans hx206_0
                                    replace p206 := eq_true p206
                                    replace q206 := eq_true q206
                                    have p207 : 0 ≤ ((rd ((rd_T37 l0_0 a1).f1) x7_3) : Int) := of_decide_eq_true (by first | (with_reducible assumption) | assumption)
                                    have q207 : (rd ((rd_T37 l0_0 a1).f1) x7_3) < (l0_0.length : Int) := of_decide_eq_true (by first | (with_reducible assumption) | assumption)
                                    obtain ⟨ad207, A207_1, c207_1, A207_4, c207_4, e207, hx207_0, hx207_1, hx207_2, hx207_3, hx207_4, hx207_5, hl207_1, hi207_1, hl207_4, hi207_4⟩ := at_T37 HR0_0.out (rd ((rd_T37 l0_0 a1).f1) x7_3) p207 q207
                                    obtain rfl : ad200 = ad207 := (by injection e207)
                                    replace hx207_0 := (HB.out.cell (World.block_lt_of_cell? w _ hx207_0)).trans hx207_0
                                    replace hx207_1 := (HB.out.cell (World.block_lt_of_cell? w _ hx207_1)).trans hx207_1
                                    replace hx207_2 := (HB.out.cell (World.block_lt_of_cell? w _ hx207_2)).trans hx207_2
                                    replace hx207_3 := (HB.out.cell (World.block_lt_of_cell? w _ hx207_3)).trans hx207_3
                                    replace hx207_4 := (HB.out.cell (World.block_lt_of_cell? w _ hx207_4)).trans hx207_4
                                    replace hx207_5 := (HB.out.cell (World.block_lt_of_cell? w _ hx207_5)).trans hx207_5
                                    have HR207_1 := Aside0.mk hi207_1
                                    have HC207_1 := Aside0.mk hl207_1
                                    clear hi207_1 hl207_1
                                    have HR207_4 := Aside0.mk hi207_4
                                    have HC207_4 := Aside0.mk hl207_4
                                    clear hi207_4 hl207_4
                                    replace p207 := eq_true p207
                                    replace q207 := eq_true q207
                                    go_wp2
                                    repeat (go_quiet (fail); try go_wp2)
                                    go_roundg k3
                                    case measure => have := HJ4.out; have := HK2.out; have := HK3.out; omega
                                    case rel => exact ⟨(wrap64 (x7_3 + 1)), (by first | rfl | (simp; done) | (simp [*]; done)), H', ⟨by have := HJ4.out; have := HK2.out; have := HK3.out; omega⟩, ⟨by (with_reducible repeat (first | refine blk_drewN ?_ _ | refine blk_drew ?_ | refine blk_alloc ?_ _)); exact BK199.out⟩, ⟨by (with_reducible repeat (first | refine blk_drewN ?_ _ | refine blk_drew ?_ | refine blk_alloc ?_ _)); exact BK201.out⟩, ⟨by repeat (first | (with_reducible first | exact HB.out | apply below_alloc | apply pw_below_drewN | apply below_drew1 | refine below_set ?_ GE199.out | refine below_set ?_ GE201.out) | exact HB.out)⟩⟩
                                · rw [if_neg c44] at H
                                  exact absurd H (by simp)
                              · rw [if_neg c43] at H
                                exact absurd H (by simp)
                            · rw [if_neg c42] at H
                              exact absurd H (by simp)
                          · rw [if_neg c41] at H
                            have c41b0 : decide (x7_3 < (((rd_T37 l0_0 a1).f1).length : Int)) = false := decide_eq_false c41
                            clear c41
                            by_cases c52 : ((rd_T37 l0_0 a1).f0) = 9
                            · rw [if_pos c52] at H
                              have c52b0 : (((rd_T37 l0_0 a1).f0) == 9) = true := beq_iff_eq.mpr c52
                              have c52b1 : (((rd_T37 l0_0 a1).f0) != 9) = false := bne_eq_false_iff_eq.mpr c52
                              clear c52
                              by_cases c53 : 1 < (((rd_T37 l0_0 a1).f1).length : Int)
                              · rw [if_pos c53] at H
                                have c53b0 : decide (1 < (((rd_T37 l0_0 a1).f1).length : Int)) = true := decide_eq_true c53
                                have c53b1 : decide (1 < ((rd_T37 l0_0 a1).f1).length) = true := decide_eq_true (by omega)
                                clear c53
                                by_cases c54 : 0 ≤ (rd ((rd_T37 l0_0 a1).f1) 1)
                                · rw [if_pos c54] at H
                                  have c54b0 : decide (0 ≤ (rd ((rd_T37 l0_0 a1).f1) 1)) = true := decide_eq_true c54
                                  clear c54
                                  by_cases c55 : (rd ((rd_T37 l0_0 a1).f1) 1) < (l0_0.length : Int)
                                  · rw [if_pos c55] at H
                                    have c55b0 : decide ((rd ((rd_T37 l0_0 a1).f1) 1) < (l0_0.length : Int)) = true := decide_eq_true c55
                                    clear c55
                                    by_cases c56 : ((rd_T37 l0_0 (rd ((rd_T37 l0_0 a1).f1) 1)).f0) = 6
                                    · rw [if_pos c56] at H
                                      have c56b0 : (((rd_T37 l0_0 (rd ((rd_T37 l0_0 a1).f1) 1)).f0) == 6) = true := beq_iff_eq.mpr c56
                                      have c56b1 : (((rd_T37 l0_0 (rd ((rd_T37 l0_0 a1).f1) 1)).f0) != 6) = false := bne_eq_false_iff_eq.mpr c56
                                      clear c56
                                      obtain rfl := Option.some.inj H
                                      have hnb57 := NB201_199.out
                                      have hnc57 := NB199_201.out
                                      have hcz58_0 : wr.cell? ⟨gb201, 0, none⟩ = some (.int .i64 ((rd_T37 l0_0 a1).f0)) := (blk_cell BK201.out 0).trans rfl
                                      have hcz58_1 : wr.cell? ⟨gb201, 1, none⟩ = some (.slice A200_1 ((rd_T37 l0_0 a1).f1).length c200_1) := (blk_cell BK201.out 1).trans rfl
                                      have hcz58_2 : wr.cell? ⟨gb201, 2, none⟩ = some (.int .i64 ((rd_T37 l0_0 a1).f2.f0)) := (blk_cell BK201.out 2).trans rfl
                                      have hcz58_3 : wr.cell? ⟨gb201, 3, none⟩ = some (.int .i64 ((rd_T37 l0_0 a1).f2.f1)) := (blk_cell BK201.out 3).trans rfl
                                      have hcz58_4 : wr.cell? ⟨gb201, 4, none⟩ = some (.slice A200_4 ((rd_T37 l0_0 a1).f2.f2).length c200_4) := (blk_cell BK201.out 4).trans rfl
                                      have hcz58_5 : wr.cell? ⟨gb201, 5, none⟩ = some (.int .i64 ((rd_T37 l0_0 a1).f3)) := (blk_cell BK201.out 5).trans rfl
                                      have hfz58_0 := blk_frozen BK201.out 0
                                      have hfz58_1 := blk_frozen BK201.out 1
                                      have hfz58_2 := blk_frozen BK201.out 2
                                      have hfz58_3 := blk_frozen BK201.out 3
                                      have hfz58_4 := blk_frozen BK201.out 4
                                      have hfz58_5 := blk_frozen BK201.out 5
                                      have hcz59_0 : wr.cell? ⟨gb199, 0, none⟩ = some (.slice (some ad200) l0_0.length c0_0) := (blk_cell BK199.out 0).trans rfl
                                      have hcz59_1 : wr.cell? ⟨gb199, 1, none⟩ = some (.int .i64 a0_1) := (blk_cell BK199.out 1).trans rfl
                                      have hfz59_0 := blk_frozen BK199.out 0
                                      have hfz59_1 := blk_frozen BK199.out 1
                                      have p208 : 0 ≤ (1 : Int) := (by omega)
                                      have q208 : 1 < (((rd_T37 l0_0 a1).f1).length : Int) := of_decide_eq_true (by first | (with_reducible assumption) | assumption)
                                      obtain ⟨ad208, e208, hx208_0⟩ := Kd.at_int HR200_1.out 1 p208 q208
                                      cases e208
                                      (try simp only [show (1 : Int).toNat = 1 from rfl, Nat.reduceMul, Nat.reduceEqDiff, Go.Addr.add, ↓reduceIte] at hx208_0)
                                      have qi208 : (1 < ((rd_T37 l0_0 a1).f1).length) = True := eq_true (by omega)
                                      (try rw [show ((1 : Int)).toNat = 1 from rfl] at hx208_0)
                                      replace hx208_0 := (HB.out.cell (World.block_lt_of_cell? w _ hx208_0)).trans hx208_0
                                      replace p208 := eq_true p208
                                      replace q208 := eq_true q208
                                      have p209 : 0 ≤ ((rd ((rd_T37 l0_0 a1).f1) 1) : Int) := of_decide_eq_true (by first | (with_reducible assumption) | assumption)
                                      have q209 : (rd ((rd_T37 l0_0 a1).f1) 1) < (l0_0.length : Int) := of_decide_eq_true (by first | (with_reducible assumption) | assumption)
                                      obtain ⟨ad209, A209_1, c209_1, A209_4, c209_4, e209, hx209_0, hx209_1, hx209_2, hx209_3, hx209_4, hx209_5, hl209_1, hi209_1, hl209_4, hi209_4⟩ := at_T37 HR0_0.out (rd ((rd_T37 l0_0 a1).f1) 1) p209 q209
                                      obtain rfl : ad200 = ad209 := (by injection e209)
                                      replace hx209_0 := (HB.out.cell (World.block_lt_of_cell? w _ hx209_0)).trans hx209_0
                                      replace hx209_1 := (HB.out.cell (World.block_lt_of_cell? w _ hx209_1)).trans hx209_1
                                      replace hx209_2 := (HB.out.cell (World.block_lt_of_cell? w _ hx209_2)).trans hx209_2
                                      replace hx209_3 := (HB.out.cell (World.block_lt_of_cell? w _ hx209_3)).trans hx209_3
                                      replace hx209_4 := (HB.out.cell (World.block_lt_of_cell? w _ hx209_4)).trans hx209_4
                                      replace hx209_5 := (HB.out.cell (World.block_lt_of_cell? w _ hx209_5)).trans hx209_5
                                      have HR209_1 := Aside0.mk hi209_1
                                      have HC209_1 := Aside0.mk hl209_1
                                      clear hi209_1 hl209_1
                                      have HR209_4 := Aside0.mk hi209_4
                                      have HC209_4 := Aside0.mk hl209_4
                                      clear hi209_4 hl209_4
                                      replace p209 := eq_true p209
                                      replace q209 := eq_true q209
                                      go_wp2
                                      repeat (go_quiet (fail); try go_wp2)
                                      go_ret
                                      exact ⟨by first | rfl | (simp [errW_none, errW_some] <;> rfl) | (simp [*, errW_none, errW_some] <;> rfl), by repeat (first | (with_reducible first | exact HB.out | apply below_alloc | apply pw_below_drewN | apply below_drew1 | refine below_set ?_ GE199.out | refine below_set ?_ GE201.out) | exact HB.out)⟩
                                    · rw [if_neg c56] at H
                                      have c56b0 : (((rd_T37 l0_0 (rd ((rd_T37 l0_0 a1).f1) 1)).f0) == 6) = false := beq_eq_false_iff_ne.mpr c56
                                      have c56b1 : (((rd_T37 l0_0 (rd ((rd_T37 l0_0 a1).f1) 1)).f0) != 6) = true := bne_iff_ne.mpr c56
                                      obtain rfl := Option.some.inj H
                                      have hnb60 := NB201_199.out
                                      have hnc60 := NB199_201.out
                                      have hcz61_0 : wr.cell? ⟨gb201, 0, none⟩ = some (.int .i64 ((rd_T37 l0_0 a1).f0)) := (blk_cell BK201.out 0).trans rfl
                                      have hcz61_1 : wr.cell? ⟨gb201, 1, none⟩ = some (.slice A200_1 ((rd_T37 l0_0 a1).f1).length c200_1) := (blk_cell BK201.out 1).trans rfl
                                      have hcz61_2 : wr.cell? ⟨gb201, 2, none⟩ = some (.int .i64 ((rd_T37 l0_0 a1).f2.f0)) := (blk_cell BK201.out 2).trans rfl
                                      have hcz61_3 : wr.cell? ⟨gb201, 3, none⟩ = some (.int .i64 ((rd_T37 l0_0 a1).f2.f1)) := (blk_cell BK201.out 3).trans rfl
                                      have hcz61_4 : wr.cell? ⟨gb201, 4, none⟩ = some (.slice A200_4 ((rd_T37 l0_0 a1).f2.f2).length c200_4) := (blk_cell BK201.out 4).trans rfl
                                      have hcz61_5 : wr.cell? ⟨gb201, 5, none⟩ = some (.int .i64 ((rd_T37 l0_0 a1).f3)) := (blk_cell BK201.out 5).trans rfl
                                      have hfz61_0 := blk_frozen BK201.out 0
                                      have hfz61_1 := blk_frozen BK201.out 1
                                      have hfz61_2 := blk_frozen BK201.out 2
                                      have hfz61_3 := blk_frozen BK201.out 3
                                      have hfz61_4 := blk_frozen BK201.out 4
                                      have hfz61_5 := blk_frozen BK201.out 5
                                      have hcz62_0 : wr.cell? ⟨gb199, 0, none⟩ = some (.slice (some ad200) l0_0.length c0_0) := (blk_cell BK199.out 0).trans rfl
                                      have hcz62_1 : wr.cell? ⟨gb199, 1, none⟩ = some (.int .i64 a0_1) := (blk_cell BK199.out 1).trans rfl
                                      have hfz62_0 := blk_frozen BK199.out 0
                                      have hfz62_1 := blk_frozen BK199.out 1
                                      have p208 : 0 ≤ (1 : Int) := (by omega)
                                      have q208 : 1 < (((rd_T37 l0_0 a1).f1).length : Int) := of_decide_eq_true (by first | (with_reducible assumption) | assumption)
                                      obtain ⟨ad208, e208, hx208_0⟩ := Kd.at_int HR200_1.out 1 p208 q208
                                      cases e208
                                      (try simp only [show (1 : Int).toNat = 1 from rfl, Nat.reduceMul, Nat.reduceEqDiff, Go.Addr.add, ↓reduceIte] at hx208_0)
                                      have qi208 : (1 < ((rd_T37 l0_0 a1).f1).length) = True := eq_true (by omega)
                                      (try rw [show ((1 : Int)).toNat = 1 from rfl] at hx208_0)
                                      replace hx208_0 := (HB.out.cell (World.block_lt_of_cell? w _ hx208_0)).trans hx208_0
                                      replace p208 := eq_true p208
                                      replace q208 := eq_true q208
                                      have p209 : 0 ≤ ((rd ((rd_T37 l0_0 a1).f1) 1) : Int) := of_decide_eq_true (by first | (with_reducible assumption) | assumption)
                                      have q209 : (rd ((rd_T37 l0_0 a1).f1) 1) < (l0_0.length : Int) := of_decide_eq_true (by first | (with_reducible assumption) | assumption)
                                      obtain ⟨ad209, A209_1, c209_1, A209_4, c209_4, e209, hx209_0, hx209_1, hx209_2, hx209_3, hx209_4, hx209_5, hl209_1, hi209_1, hl209_4, hi209_4⟩ := at_T37 HR0_0.out (rd ((rd_T37 l0_0 a1).f1) 1) p209 q209
                                      obtain rfl : ad200 = ad209 := (by injection e209)
                                      replace hx209_0 := (HB.out.cell (World.block_lt_of_cell? w _ hx209_0)).trans hx209_0
                                      replace hx209_1 := (HB.out.cell (World.block_lt_of_cell? w _ hx209_1)).trans hx209_1
                                      replace hx209_2 := (HB.out.cell (World.block_lt_of_cell? w _ hx209_2)).trans hx209_2
                                      replace hx209_3 := (HB.out.cell (World.block_lt_of_cell? w _ hx209_3)).trans hx209_3
                                      replace hx209_4 := (HB.out.cell (World.block_lt_of_cell? w _ hx209_4)).trans hx209_4
                                      replace hx209_5 := (HB.out.cell (World.block_lt_of_cell? w _ hx209_5)).trans hx209_5
                                      have HR209_1 := Aside0.mk hi209_1
                                      have HC209_1 := Aside0.mk hl209_1
                                      clear hi209_1 hl209_1
                                      have HR209_4 := Aside0.mk hi209_4
                                      have HC209_4 := Aside0.mk hl209_4
                                      clear hi209_4 hl209_4
                                      replace p209 := eq_true p209
                                      replace q209 := eq_true q209
                                      go_wp2
                                      repeat (go_quiet (fail); try go_wp2)
                                      go_ret
                                      exact ⟨by first | rfl | (simp [errW_none, errW_some] <;> rfl) | (simp [*, errW_none, errW_some] <;> rfl), by repeat (first | (with_reducible first | exact HB.out | apply below_alloc | apply pw_below_drewN | apply below_drew1 | refine below_set ?_ GE199.out | refine below_set ?_ GE201.out) | exact HB.out)⟩
                                  · rw [if_neg c55] at H
                                    exact absurd H (by simp)
                                · rw [if_neg c54] at H
                                  exact absurd H (by simp)
                              · rw [if_neg c53] at H
                                exact absurd H (by simp)
                            · rw [if_neg c52] at H
                              have c52b0 : (((rd_T37 l0_0 a1).f0) == 9) = false := beq_eq_false_iff_ne.mpr c52
                              have c52b1 : (((rd_T37 l0_0 a1).f0) != 9) = true := bne_iff_ne.mpr c52
                              obtain rfl := Option.some.inj H
                              have hnb63 := NB201_199.out
                              have hnc63 := NB199_201.out
                              have hcz64_0 : wr.cell? ⟨gb201, 0, none⟩ = some (.int .i64 ((rd_T37 l0_0 a1).f0)) := (blk_cell BK201.out 0).trans rfl
                              have hcz64_1 : wr.cell? ⟨gb201, 1, none⟩ = some (.slice A200_1 ((rd_T37 l0_0 a1).f1).length c200_1) := (blk_cell BK201.out 1).trans rfl
                              have hcz64_2 : wr.cell? ⟨gb201, 2, none⟩ = some (.int .i64 ((rd_T37 l0_0 a1).f2.f0)) := (blk_cell BK201.out 2).trans rfl
                              have hcz64_3 : wr.cell? ⟨gb201, 3, none⟩ = some (.int .i64 ((rd_T37 l0_0 a1).f2.f1)) := (blk_cell BK201.out 3).trans rfl
                              have hcz64_4 : wr.cell? ⟨gb201, 4, none⟩ = some (.slice A200_4 ((rd_T37 l0_0 a1).f2.f2).length c200_4) := (blk_cell BK201.out 4).trans rfl
                              have hcz64_5 : wr.cell? ⟨gb201, 5, none⟩ = some (.int .i64 ((rd_T37 l0_0 a1).f3)) := (blk_cell BK201.out 5).trans rfl
                              have hfz64_0 := blk_frozen BK201.out 0
                              have hfz64_1 := blk_frozen BK201.out 1
                              have hfz64_2 := blk_frozen BK201.out 2
                              have hfz64_3 := blk_frozen BK201.out 3
                              have hfz64_4 := blk_frozen BK201.out 4
                              have hfz64_5 := blk_frozen BK201.out 5
                              go_wp2
                              repeat (go_quiet (fail); try go_wp2)
                              go_ret
                              exact ⟨by first | rfl | (simp [errW_none, errW_some] <;> rfl) | (simp [*, errW_none, errW_some] <;> rfl), by repeat (first | (with_reducible first | exact HB.out | apply below_alloc | apply pw_below_drewN | apply below_drew1 | refine below_set ?_ GE199.out | refine below_set ?_ GE201.out) | exact HB.out)⟩
                  · replace c28 := Bool.eq_false_iff.mpr c28
                    subst c28
                    have H1 : (some 5) = some r := by rw [if_neg (show ¬ (false = true) by decide)] at H; exact H
                    clear H
                    have H := H1
                    clear H1
                    obtain rfl := Option.some.inj H
                    have hnb65 := NB201_199.out
                    have hnc65 := NB199_201.out
                    have hcz66_0 : wr.cell? ⟨gb201, 0, none⟩ = some (.int .i64 ((rd_T37 l0_0 a1).f0)) := (blk_cell BK201.out 0).trans rfl
                    have hcz66_1 : wr.cell? ⟨gb201, 1, none⟩ = some (.slice A200_1 ((rd_T37 l0_0 a1).f1).length c200_1) := (blk_cell BK201.out 1).trans rfl
                    have hcz66_2 : wr.cell? ⟨gb201, 2, none⟩ = some (.int .i64 ((rd_T37 l0_0 a1).f2.f0)) := (blk_cell BK201.out 2).trans rfl
                    have hcz66_3 : wr.cell? ⟨gb201, 3, none⟩ = some (.int .i64 ((rd_T37 l0_0 a1).f2.f1)) := (blk_cell BK201.out 3).trans rfl
                    have hcz66_4 : wr.cell? ⟨gb201, 4, none⟩ = some (.slice A200_4 ((rd_T37 l0_0 a1).f2.f2).length c200_4) := (blk_cell BK201.out 4).trans rfl
                    have hcz66_5 : wr.cell? ⟨gb201, 5, none⟩ = some (.int .i64 ((rd_T37 l0_0 a1).f3)) := (blk_cell BK201.out 5).trans rfl
                    have hfz66_0 := blk_frozen BK201.out 0
                    have hfz66_1 := blk_frozen BK201.out 1
                    have hfz66_2 := blk_frozen BK201.out 2
                    have hfz66_3 := blk_frozen BK201.out 3
                    have hfz66_4 := blk_frozen BK201.out 4
                    have hfz66_5 := blk_frozen BK201.out 5
                    go_wp2_with (first | (go_at_call 61; (with_reducible refine (tidemillref05_Has.calls k2 ((rd_T37 l0_0 a1).f0) _ _ ((rd_T37 l0_0 a1).f1) ((rd_T37 l0_0 a1).f2.f0) ((rd_T37 l0_0 a1).f2.f1) _ _ ((rd_T37 l0_0 a1).f2.f2) ((rd_T37 l0_0 a1).f3) false _ ?side1 ?side2 ?side3 ?side4 A27.out).mono ?_); (case side1 => repeat (first | exact (Kd.C_below HR200_1.out HB.out) | (with_reducible refine Kd.C_alloc ?_ _) | (with_reducible refine Kd.C_drewN ?_ _) | (with_reducible refine Kd.C_drew ?_))); (case side2 => exact HC200_1.out); (case side3 => repeat (first | exact (Kd.C_below HR200_4.out HB.out) | (with_reducible refine Kd.C_alloc ?_ _) | (with_reducible refine Kd.C_drewN ?_ _) | (with_reducible refine Kd.C_drew ?_))); (case side4 => exact HC200_4.out); rintro e w67 ⟨rfl, hb⟩; have n0_ := Aside0.mk (blk_below (g := gb199) (o := .cells #[.slice (some ad200) l0_0.length c0_0, .int .i64 a0_1] 24 (0, 0)) (by (with_reducible repeat (first | refine blk_drewN ?_ _ | refine blk_drew ?_ | refine blk_alloc ?_ _)); exact BK199.out) hb); have n1_ := Aside0.mk (blk_below (g := gb201) (o := .cells #[.int .i64 ((rd_T37 l0_0 a1).f0), .slice A200_1 ((rd_T37 l0_0 a1).f1).length c200_1, .int .i64 ((rd_T37 l0_0 a1).f2.f0), .int .i64 ((rd_T37 l0_0 a1).f2.f1), .slice A200_4 ((rd_T37 l0_0 a1).f2.f2).length c200_4, .int .i64 ((rd_T37 l0_0 a1).f3)] 37 (0, 0)) (by (with_reducible repeat (first | refine blk_drewN ?_ _ | refine blk_drew ?_ | refine blk_alloc ?_ _)); exact BK201.out) hb); have n2_ := Aside0.mk (below_step (by repeat (first | (with_reducible first | exact HB.out | apply below_alloc | apply pw_below_drewN | apply below_drew1 | refine below_set ?_ GE199.out | refine below_set ?_ GE201.out) | exact HB.out)) hb); clear BK199; clear BK201; clear HB; have BK199 := n0_; have BK201 := n1_; have HB := n2_; clear n0_ n1_ n2_; (try clear hb); (try clear hb2); (try clear hk); (try clear hi)))
                    repeat (go_quiet (first | (go_at_call 61; (with_reducible refine (tidemillref05_Has.calls k2 ((rd_T37 l0_0 a1).f0) _ _ ((rd_T37 l0_0 a1).f1) ((rd_T37 l0_0 a1).f2.f0) ((rd_T37 l0_0 a1).f2.f1) _ _ ((rd_T37 l0_0 a1).f2.f2) ((rd_T37 l0_0 a1).f3) false _ ?side1 ?side2 ?side3 ?side4 A27.out).mono ?_); (case side1 => repeat (first | exact (Kd.C_below HR200_1.out HB.out) | (with_reducible refine Kd.C_alloc ?_ _) | (with_reducible refine Kd.C_drewN ?_ _) | (with_reducible refine Kd.C_drew ?_))); (case side2 => exact HC200_1.out); (case side3 => repeat (first | exact (Kd.C_below HR200_4.out HB.out) | (with_reducible refine Kd.C_alloc ?_ _) | (with_reducible refine Kd.C_drewN ?_ _) | (with_reducible refine Kd.C_drew ?_))); (case side4 => exact HC200_4.out); rintro e w67 ⟨rfl, hb⟩; have n0_ := Aside0.mk (blk_below (g := gb199) (o := .cells #[.slice (some ad200) l0_0.length c0_0, .int .i64 a0_1] 24 (0, 0)) (by (with_reducible repeat (first | refine blk_drewN ?_ _ | refine blk_drew ?_ | refine blk_alloc ?_ _)); exact BK199.out) hb); have n1_ := Aside0.mk (blk_below (g := gb201) (o := .cells #[.int .i64 ((rd_T37 l0_0 a1).f0), .slice A200_1 ((rd_T37 l0_0 a1).f1).length c200_1, .int .i64 ((rd_T37 l0_0 a1).f2.f0), .int .i64 ((rd_T37 l0_0 a1).f2.f1), .slice A200_4 ((rd_T37 l0_0 a1).f2.f2).length c200_4, .int .i64 ((rd_T37 l0_0 a1).f3)] 37 (0, 0)) (by (with_reducible repeat (first | refine blk_drewN ?_ _ | refine blk_drew ?_ | refine blk_alloc ?_ _)); exact BK201.out) hb); have n2_ := Aside0.mk (below_step (by repeat (first | (with_reducible first | exact HB.out | apply below_alloc | apply pw_below_drewN | apply below_drew1 | refine below_set ?_ GE199.out | refine below_set ?_ GE201.out) | exact HB.out)) hb); clear BK199; clear BK201; clear HB; have BK199 := n0_; have BK201 := n1_; have HB := n2_; clear n0_ n1_ n2_; (try clear hb); (try clear hb2); (try clear hk); (try clear hi))); try go_wp2_with (first | (go_at_call 61; (with_reducible refine (tidemillref05_Has.calls k2 ((rd_T37 l0_0 a1).f0) _ _ ((rd_T37 l0_0 a1).f1) ((rd_T37 l0_0 a1).f2.f0) ((rd_T37 l0_0 a1).f2.f1) _ _ ((rd_T37 l0_0 a1).f2.f2) ((rd_T37 l0_0 a1).f3) false _ ?side1 ?side2 ?side3 ?side4 A27.out).mono ?_); (case side1 => repeat (first | exact (Kd.C_below HR200_1.out HB.out) | (with_reducible refine Kd.C_alloc ?_ _) | (with_reducible refine Kd.C_drewN ?_ _) | (with_reducible refine Kd.C_drew ?_))); (case side2 => exact HC200_1.out); (case side3 => repeat (first | exact (Kd.C_below HR200_4.out HB.out) | (with_reducible refine Kd.C_alloc ?_ _) | (with_reducible refine Kd.C_drewN ?_ _) | (with_reducible refine Kd.C_drew ?_))); (case side4 => exact HC200_4.out); rintro e w67 ⟨rfl, hb⟩; have n0_ := Aside0.mk (blk_below (g := gb199) (o := .cells #[.slice (some ad200) l0_0.length c0_0, .int .i64 a0_1] 24 (0, 0)) (by (with_reducible repeat (first | refine blk_drewN ?_ _ | refine blk_drew ?_ | refine blk_alloc ?_ _)); exact BK199.out) hb); have n1_ := Aside0.mk (blk_below (g := gb201) (o := .cells #[.int .i64 ((rd_T37 l0_0 a1).f0), .slice A200_1 ((rd_T37 l0_0 a1).f1).length c200_1, .int .i64 ((rd_T37 l0_0 a1).f2.f0), .int .i64 ((rd_T37 l0_0 a1).f2.f1), .slice A200_4 ((rd_T37 l0_0 a1).f2.f2).length c200_4, .int .i64 ((rd_T37 l0_0 a1).f3)] 37 (0, 0)) (by (with_reducible repeat (first | refine blk_drewN ?_ _ | refine blk_drew ?_ | refine blk_alloc ?_ _)); exact BK201.out) hb); have n2_ := Aside0.mk (below_step (by repeat (first | (with_reducible first | exact HB.out | apply below_alloc | apply pw_below_drewN | apply below_drew1 | refine below_set ?_ GE199.out | refine below_set ?_ GE201.out) | exact HB.out)) hb); clear BK199; clear BK201; clear HB; have BK199 := n0_; have BK201 := n1_; have HB := n2_; clear n0_ n1_ n2_; (try clear hb); (try clear hb2); (try clear hk); (try clear hi))))
                    go_ret
                    exact ⟨by first | rfl | (simp [errW_none, errW_some] <;> rfl) | (simp [*, errW_none, errW_some] <;> rfl), by repeat (first | (with_reducible first | exact HB.out | apply below_alloc | apply pw_below_drewN | apply below_drew1 | refine below_set ?_ GE199.out | refine below_set ?_ GE201.out) | exact HB.out)⟩
    · rw [if_neg c4] at H
      exact absurd H (by simp)
  · rw [if_neg c3] at H
    exact absurd H (by simp)

end Go.Proofs.Ytlandgbhbfdekaa.Ex
