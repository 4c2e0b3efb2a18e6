-- Written by a program of this work (wip/given.py) out of the translation; Lean checks it.
import Derived.Test.YteanncfmaomhaaaEx0
import Derived.Test.YteanncfmaomhaaaWFoot
import Derived.Test.YteanncfmaomhaaaWN
import Derived.Test.YteanncfmaomhaaaWRepsOne
import Derived.Test.YteanncfmaomhaaaWShare
import Derived.Test.YteanncfmaomhaaaWKept
import Derived.Test.YteanncfmaomhaaaWApart
import Derived.Test.YteanncfmaomhaaaEx6
import Derived.Test.YteanncfmaomhaaaEx7
namespace Go.Proofs.Yteanncfmaomhaaa.Ex
open Go.RowKit Go.Proofs.YteanncfmaomhaaaW.PrintWords Go.Proofs.YteanncfmaomhaaaW.PrintLast Go.Proofs.YteanncfmaomhaaaW.PrintMore
attribute [local go_sem] max2_int min2_int max_two min_two max_three min_three max_four min_four   -- for this text's walks alone
set_option linter.unusedVariables false
set_option linter.unusedSimpArgs false

/-! ### tidemillref05_vertex: function 21 -/
mutual
def tidemillref05_vertex.j0 : Nat → Int → Bool → List (S40) → Int → Int → List Int → Int → Int → List (S38) → Int → Option (Int)
  | 0, _, _, _, _, _, _, _, _, _, _ => none
  | k + 1, x1, x20, x187000, x187001, x189000, x189001, x189002, x189003, x189004, x189005 => if x20 = true then (some 1) else (tidemillref05_vertex.l0 k x1 0 x187000 x187001 x189000 x189001 x189002 x189003 x189004 x189005)
def tidemillref05_vertex.l0 : Nat → Int → Int → List (S40) → Int → Int → List Int → Int → Int → List (S38) → Int → Option (Int)
  | 0, _, _, _, _, _, _, _, _, _, _ => none
  | k + 1, x1, x6, x187000, x187001, x189000, x189001, x189002, x189003, x189004, x189005 => if x6 < (x189001.length : Int) then (if 0 ≤ x6 then (if (rd x189001 x6) < 0 then (some 2) else (if (rd x189001 x6) ≥ x1 then (some 2) else (tidemillref05_vertex.l0 k x1 (wrap64 (x6 + 1)) x187000 x187001 x189000 x189001 x189002 x189003 x189004 x189005))) else (none)) else ((tidemillref05_Has.f k x189000 x189001 x189002 x189003 x189004 x189005).bind fun t191 => (if t191 = true then ((tidemillref05_taken.f k x187000 x187001 x1).bind fun t192 => (if t192 = true then (some 12) else (tidemillref05_vertex.l1 k 0 x187000 x187001 x189000 x189001 x189002 x189003 x189004 x189005))) else (some 5)))
def tidemillref05_vertex.l1 : Nat → Int → List (S40) → Int → Int → List Int → Int → Int → List (S38) → Int → Option (Int)
  | 0, _, _, _, _, _, _, _, _, _ => none
  | k + 1, x7, x187000, x187001, x189000, x189001, x189002, x189003, x189004, x189005 => if x7 < (x189001.length : Int) then (if 0 ≤ x7 then (if 0 ≤ (rd x189001 x7) then (if (rd x189001 x7) < (x187000.length : Int) then (if ((rd_T40 x187000 (rd x189001 x7)).f0) = 10 then (some 5) else (tidemillref05_vertex.l1 k (wrap64 (x7 + 1)) x187000 x187001 x189000 x189001 x189002 x189003 x189004 x189005)) else (none)) else (none)) else (none)) else (if x189000 = 9 then (if 1 < (x189001.length : Int) then (if 0 ≤ (rd x189001 1) then (if (rd x189001 1) < (x187000.length : Int) then (if ((rd_T40 x187000 (rd x189001 1)).f0) = 6 then (some 0) else (some 5)) else (none)) else (none)) else (none)) else (some 0))
end
def tidemillref05_vertex.f (k : Nat) (l0_0 : List (S40)) (a0_1 : Int) (a1 : Int) : Option (Int) := if 0 ≤ a1 then (if a1 < (l0_0.length : Int) then (if ((rd_T40 l0_0 a1).f0) < 1 then (tidemillref05_vertex.j0 k a1 true l0_0 a0_1 ((rd_T40 l0_0 a1).f0) ((rd_T40 l0_0 a1).f1) ((rd_T40 l0_0 a1).f2.f0) ((rd_T40 l0_0 a1).f2.f1) ((rd_T40 l0_0 a1).f2.f2) ((rd_T40 l0_0 a1).f3)) else (tidemillref05_vertex.j0 k a1 (decide (((rd_T40 l0_0 a1).f0) > 10)) l0_0 a0_1 ((rd_T40 l0_0 a1).f0) ((rd_T40 l0_0 a1).f1) ((rd_T40 l0_0 a1).f2.f0) ((rd_T40 l0_0 a1).f2.f1) ((rd_T40 l0_0 a1).f2.f2) ((rd_T40 l0_0 a1).f3))) else (none)) else (none)
theorem tidemillref05_vertex.mono_l : ∀ k, (∀ y0 y1 y2 y3 y4 y5 y6 y7 y8 y9, LeO (tidemillref05_vertex.j0 k y0 y1 y2 y3 y4 y5 y6 y7 y8 y9) (tidemillref05_vertex.j0 (k + 1) y0 y1 y2 y3 y4 y5 y6 y7 y8 y9)) ∧ (∀ y0 y1 y2 y3 y4 y5 y6 y7 y8 y9, LeO (tidemillref05_vertex.l0 k y0 y1 y2 y3 y4 y5 y6 y7 y8 y9) (tidemillref05_vertex.l0 (k + 1) y0 y1 y2 y3 y4 y5 y6 y7 y8 y9)) ∧ (∀ y0 y1 y2 y3 y4 y5 y6 y7 y8, LeO (tidemillref05_vertex.l1 k y0 y1 y2 y3 y4 y5 y6 y7 y8) (tidemillref05_vertex.l1 (k + 1) y0 y1 y2 y3 y4 y5 y6 y7 y8))
  | 0 => ⟨fun _ _ _ _ _ _ _ _ _ _ r h => by simp [tidemillref05_vertex.j0] at h, fun _ _ _ _ _ _ _ _ _ _ r h => by simp [tidemillref05_vertex.l0] at h, fun _ _ _ _ _ _ _ _ _ r h => by simp [tidemillref05_vertex.l1] at h⟩
  | k + 1 => by
    obtain ⟨ih0, ih1, ih2⟩ := tidemillref05_vertex.mono_l k
    refine ⟨?_, ?_, ?_⟩
    · intro y0 y1 y2 y3 y4 y5 y6 y7 y8 y9
      unfold tidemillref05_vertex.j0
      repeat' first
      | (with_reducible exact ih0 _ _ _ _ _ _ _ _ _ _)
      | (with_reducible exact ih1 _ _ _ _ _ _ _ _ _ _)
      | (with_reducible exact ih2 _ _ _ _ _ _ _ _ _)
      | (with_reducible exact tidemillref05_Has.mono _ _ _ _ _ _ _)
      | (with_reducible exact tidemillref05_taken.mono _ _ _ _)
      | (with_reducible exact LeO.refl _)
      | (with_reducible exact LeO.none _)
      | (with_reducible refine LeO.ite ?_ ?_)
      | (with_reducible refine LeO.bind ?_ (fun _ => ?_))
      | exact ih0 _ _ _ _ _ _ _ _ _ _
      | exact ih1 _ _ _ _ _ _ _ _ _ _
      | exact ih2 _ _ _ _ _ _ _ _ _
      | exact tidemillref05_Has.mono _ _ _ _ _ _ _
      | exact tidemillref05_taken.mono _ _ _ _
      | exact LeO.none _
      | refine LeO.ite ?_ ?_
      | refine LeO.bind ?_ (fun _ => ?_)
    · intro y0 y1 y2 y3 y4 y5 y6 y7 y8 y9
      unfold tidemillref05_vertex.l0
      repeat' first
      | (with_reducible exact ih0 _ _ _ _ _ _ _ _ _ _)
      | (with_reducible exact ih1 _ _ _ _ _ _ _ _ _ _)
      | (with_reducible exact ih2 _ _ _ _ _ _ _ _ _)
      | (with_reducible exact tidemillref05_Has.mono _ _ _ _ _ _ _)
      | (with_reducible exact tidemillref05_taken.mono _ _ _ _)
      | (with_reducible exact LeO.refl _)
      | (with_reducible exact LeO.none _)
      | (with_reducible refine LeO.ite ?_ ?_)
      | (with_reducible refine LeO.bind ?_ (fun _ => ?_))
      | exact ih0 _ _ _ _ _ _ _ _ _ _
      | exact ih1 _ _ _ _ _ _ _ _ _ _
      | exact ih2 _ _ _ _ _ _ _ _ _
      | exact tidemillref05_Has.mono _ _ _ _ _ _ _
      | exact tidemillref05_taken.mono _ _ _ _
      | exact LeO.none _
      | refine LeO.ite ?_ ?_
      | refine LeO.bind ?_ (fun _ => ?_)
    · intro y0 y1 y2 y3 y4 y5 y6 y7 y8
      unfold tidemillref05_vertex.l1
      repeat' first
      | (with_reducible exact ih0 _ _ _ _ _ _ _ _ _ _)
      | (with_reducible exact ih1 _ _ _ _ _ _ _ _ _ _)
      | (with_reducible exact ih2 _ _ _ _ _ _ _ _ _)
      | (with_reducible exact tidemillref05_Has.mono _ _ _ _ _ _ _)
      | (with_reducible exact tidemillref05_taken.mono _ _ _ _)
      | (with_reducible exact LeO.refl _)
      | (with_reducible exact LeO.none _)
      | (with_reducible refine LeO.ite ?_ ?_)
      | (with_reducible refine LeO.bind ?_ (fun _ => ?_))
      | exact ih0 _ _ _ _ _ _ _ _ _ _
      | exact ih1 _ _ _ _ _ _ _ _ _ _
      | exact ih2 _ _ _ _ _ _ _ _ _
      | exact tidemillref05_Has.mono _ _ _ _ _ _ _
      | exact tidemillref05_taken.mono _ _ _ _
      | exact LeO.none _
      | refine LeO.ite ?_ ?_
      | refine LeO.bind ?_ (fun _ => ?_)
theorem tidemillref05_vertex.mono : ∀ a0 a1 a2 k, LeO (tidemillref05_vertex.f k a0 a1 a2) (tidemillref05_vertex.f (k + 1) a0 a1 a2) := by
  intro a0 a1 a2 k
  obtain ⟨ih0, ih1, ih2⟩ := tidemillref05_vertex.mono_l k
  unfold tidemillref05_vertex.f
  repeat' first
      | (with_reducible exact ih0 _ _ _ _ _ _ _ _ _ _)
      | (with_reducible exact ih1 _ _ _ _ _ _ _ _ _ _)
      | (with_reducible exact ih2 _ _ _ _ _ _ _ _ _)
      | (with_reducible exact tidemillref05_Has.mono _ _ _ _ _ _ _)
      | (with_reducible exact tidemillref05_taken.mono _ _ _ _)
      | (with_reducible exact LeO.refl _)
      | (with_reducible exact LeO.none _)
      | (with_reducible refine LeO.ite ?_ ?_)
      | (with_reducible refine LeO.bind ?_ (fun _ => ?_))
      | exact ih0 _ _ _ _ _ _ _ _ _ _
      | exact ih1 _ _ _ _ _ _ _ _ _ _
      | exact ih2 _ _ _ _ _ _ _ _ _
      | exact tidemillref05_Has.mono _ _ _ _ _ _ _
      | exact tidemillref05_taken.mono _ _ _ _
      | exact LeO.none _
      | refine LeO.ite ?_ ?_
      | refine LeO.bind ?_ (fun _ => ?_)
set_option maxHeartbeats 8000000 in
set_option maxRecDepth 100000 in
theorem tidemillref05_vertex.calls (k : Nat) (A0_0 : Option Addr) (c0_0 : Nat) (l0_0 : List (S40)) (a0_1 : Int) (a1 : Int) (r : Int) (w : World) (hr0_0 : Kd.C k40 w A0_0 l0_0.length l0_0) (hc0_0 : l0_0.length ≤ c0_0) (h : tidemillref05_vertex.f k l0_0 a0_1 a1 = some r) :
    Calls Try.prog 21 #[.agg #[.slice A0_0 l0_0.length c0_0, .int .i64 a0_1], .int .i64 a1] w fun e w' => e = .returned (.int .i64 r) ∧ Below w.heap.size w w' := by
  have hu24 := Try.underlying24
  have hu40 := Try.underlying40
  have HR0_0 := Aside0.mk hr0_0
  have HC0_0 := Aside0.mk hc0_0
  clear hr0_0 hc0_0
  have HB := Aside0.mk (Below.refl w.heap.size w)
  have H : (if 0 ≤ a1 then (if a1 < (l0_0.length : Int) then (if ((rd_T40 l0_0 a1).f0) < 1 then (tidemillref05_vertex.j0 k a1 true l0_0 a0_1 ((rd_T40 l0_0 a1).f0) ((rd_T40 l0_0 a1).f1) ((rd_T40 l0_0 a1).f2.f0) ((rd_T40 l0_0 a1).f2.f1) ((rd_T40 l0_0 a1).f2.f2) ((rd_T40 l0_0 a1).f3)) else (tidemillref05_vertex.j0 k a1 (decide (((rd_T40 l0_0 a1).f0) > 10)) l0_0 a0_1 ((rd_T40 l0_0 a1).f0) ((rd_T40 l0_0 a1).f1) ((rd_T40 l0_0 a1).f2.f0) ((rd_T40 l0_0 a1).f2.f1) ((rd_T40 l0_0 a1).f2.f2) ((rd_T40 l0_0 a1).f3))) else (none)) else (none)) = some r := h
  clear h
  by_cases c3 : 0 ≤ a1
  · rw [if_pos c3] at H
    have c3b0 : decide (0 ≤ a1) = true := decide_eq_true c3
    clear c3
    by_cases c4 : a1 < (l0_0.length : Int)
    · rw [if_pos c4] at H
      have c4b0 : decide (a1 < (l0_0.length : Int)) = true := decide_eq_true c4
      clear c4
      have HC5 := Aside0.mk H
      clear H
      go_enter Try.func21, Try.ntmps21
      go_upto_region 2 with (first | ((with_reducible refine gate_dst (N := 2) rfl ?_); refine box_event ?hg (N := 2) ?hd (cs := #[.slice A0_0 l0_0.length c0_0, .int .i64 a0_1]) (t := 24) ?hr ?_; (case hd => rfl); (case hg => rfl); (case hr => first | (go_simp; done) | (go_simp; rfl)); intro gb186 hg w6 hbox hb; have n0_ := Aside0.mk (below_step (by repeat (first | (with_reducible first | exact HB.out | apply below_alloc | apply pw_below_drewN | apply below_drew1) | exact HB.out)) hb); have n1_ := Aside0.mk (hbox); have n2_ := Aside0.mk ((by rw [hg]; exact (below_size (by repeat (first | (with_reducible first | exact HB.out | apply below_alloc | apply pw_below_drewN | apply below_drew1) | exact HB.out))) : w.heap.size ≤ gb186)); have n3_ := Aside0.mk ((by rw [hg]; exact (below_size (by repeat (first | (with_reducible first | exact HB.out | apply below_alloc | apply pw_below_drewN | apply below_drew1) | exact HB.out))) : w.heap.size ≤ gb186)); clear HB; have HB := n0_; have BK186 := n1_; have GW186 := n2_; have GE186 := n3_; clear n0_ n1_ n2_ n3_; clear hb hbox hg; have hcz7_0 : w6.cell? ⟨gb186, 0, none⟩ = some (.slice A0_0 l0_0.length c0_0) := (blk_cell BK186.out 0).trans rfl; have hcz7_1 : w6.cell? ⟨gb186, 1, none⟩ = some (.int .i64 a0_1) := (blk_cell BK186.out 1).trans rfl; have hfz7_0 := blk_frozen BK186.out 0; have hfz7_1 := blk_frozen BK186.out 1; have p187 : 0 ≤ (a1 : Int) := of_decide_eq_true (by first | (with_reducible assumption) | assumption); have q187 : a1 < (l0_0.length : Int) := of_decide_eq_true (by first | (with_reducible assumption) | assumption); obtain ⟨ad187, A187_1, c187_1, A187_4, c187_4, e187, hx187_0, hx187_1, hx187_2, hx187_3, hx187_4, hx187_5, hl187_1, hi187_1, hl187_4, hi187_4⟩ := at_T40 HR0_0.out a1 p187 q187; cases e187; replace hx187_0 := (HB.out.cell (World.block_lt_of_cell? w _ hx187_0)).trans hx187_0; replace hx187_1 := (HB.out.cell (World.block_lt_of_cell? w _ hx187_1)).trans hx187_1; replace hx187_2 := (HB.out.cell (World.block_lt_of_cell? w _ hx187_2)).trans hx187_2; replace hx187_3 := (HB.out.cell (World.block_lt_of_cell? w _ hx187_3)).trans hx187_3; replace hx187_4 := (HB.out.cell (World.block_lt_of_cell? w _ hx187_4)).trans hx187_4; replace hx187_5 := (HB.out.cell (World.block_lt_of_cell? w _ hx187_5)).trans hx187_5; have HR187_1 := Aside0.mk hi187_1; have HC187_1 := Aside0.mk hl187_1; clear hi187_1 hl187_1; have HR187_4 := Aside0.mk hi187_4; have HC187_4 := Aside0.mk hl187_4; clear hi187_4 hl187_4; replace p187 := eq_true p187; replace q187 := eq_true q187) | ((with_reducible refine gate_dst (N := 5) rfl ?_); refine box_event ?hg (N := 5) ?hd (cs := #[.int .i64 0, .slice none 0 0, .int .i64 0, .int .i64 0, .slice none 0 0, .int .i64 0]) (t := 40) ?hr ?_; (case hd => rfl); (case hg => rfl); (case hr => first | (go_simp; done) | (go_simp; rfl)); intro gb188 hg w8 hbox hb; have n0_ := Aside0.mk (blk_below (g := gb186) (o := .cells #[.slice (some ad187) l0_0.length c0_0, .int .i64 a0_1] 24 (0, 0)) (by (with_reducible repeat (first | refine blk_drewN ?_ _ | refine blk_drew ?_ | refine blk_alloc ?_ _)); exact BK186.out) hb); have n1_ := Aside0.mk (below_step (by repeat (first | (with_reducible first | exact HB.out | apply below_alloc | apply pw_below_drewN | apply below_drew1 | refine below_set ?_ GE186.out) | exact HB.out)) hb); have n2_ := Aside0.mk (hbox); have n3_ := Aside0.mk ((by rw [hg]; exact (below_size (by repeat (first | (with_reducible first | exact HB.out | apply below_alloc | apply pw_below_drewN | apply below_drew1 | refine below_set ?_ GE186.out) | exact HB.out))) : w.heap.size ≤ gb188)); have n4_ := Aside0.mk ((by rw [hg]; exact (below_size (by repeat (first | (with_reducible first | exact HB.out | apply below_alloc | apply pw_below_drewN | apply below_drew1 | refine below_set ?_ GE186.out) | exact HB.out))) : w.heap.size ≤ gb188)); have n5_ := Aside0.mk ((by rw [hg]; exact Nat.ne_of_lt (blk_lt (g := gb186) (o := .cells #[.slice (some ad187) l0_0.length c0_0, .int .i64 a0_1] 24 (0, 0)) (by (with_reducible repeat (first | refine blk_drewN ?_ _ | refine blk_drew ?_ | refine blk_alloc ?_ _)); exact BK186.out)) : gb186 ≠ gb188)); have n6_ := Aside0.mk ((by rw [hg]; exact Nat.ne_of_gt (blk_lt (g := gb186) (o := .cells #[.slice (some ad187) l0_0.length c0_0, .int .i64 a0_1] 24 (0, 0)) (by (with_reducible repeat (first | refine blk_drewN ?_ _ | refine blk_drew ?_ | refine blk_alloc ?_ _)); exact BK186.out)) : gb188 ≠ gb186)); clear BK186; clear HB; have BK186 := n0_; have HB := n1_; have BK188 := n2_; have GW188 := n3_; have GE188 := n4_; have NB186_188 := n5_; have NB188_186 := n6_; clear n0_ n1_ n2_ n3_ n4_ n5_ n6_; clear hb hbox hg; have hnb9 := NB188_186.out; have hnc9 := NB186_188.out; have hcz10_0 : w8.cell? ⟨gb188, 0, none⟩ = some (.int .i64 0) := (blk_cell BK188.out 0).trans rfl; have hcz10_1 : w8.cell? ⟨gb188, 1, none⟩ = some (.slice none 0 0) := (blk_cell BK188.out 1).trans rfl; have hcz10_2 : w8.cell? ⟨gb188, 2, none⟩ = some (.int .i64 0) := (blk_cell BK188.out 2).trans rfl; have hcz10_3 : w8.cell? ⟨gb188, 3, none⟩ = some (.int .i64 0) := (blk_cell BK188.out 3).trans rfl; have hcz10_4 : w8.cell? ⟨gb188, 4, none⟩ = some (.slice none 0 0) := (blk_cell BK188.out 4).trans rfl; have hcz10_5 : w8.cell? ⟨gb188, 5, none⟩ = some (.int .i64 0) := (blk_cell BK188.out 5).trans rfl; have hfz10_0 := blk_frozen BK188.out 0; have hfz10_1 := blk_frozen BK188.out 1; have hfz10_2 := blk_frozen BK188.out 2; have hfz10_3 := blk_frozen BK188.out 3; have hfz10_4 := blk_frozen BK188.out 4; have hfz10_5 := blk_frozen BK188.out 5))
      repeat (go_quiet (first | ((with_reducible refine gate_dst (N := 2) rfl ?_); refine box_event ?hg (N := 2) ?hd (cs := #[.slice A0_0 l0_0.length c0_0, .int .i64 a0_1]) (t := 24) ?hr ?_; (case hd => rfl); (case hg => rfl); (case hr => first | (go_simp; done) | (go_simp; rfl)); intro gb186 hg w6 hbox hb; have n0_ := Aside0.mk (below_step (by repeat (first | (with_reducible first | exact HB.out | apply below_alloc | apply pw_below_drewN | apply below_drew1) | exact HB.out)) hb); have n1_ := Aside0.mk (hbox); have n2_ := Aside0.mk ((by rw [hg]; exact (below_size (by repeat (first | (with_reducible first | exact HB.out | apply below_alloc | apply pw_below_drewN | apply below_drew1) | exact HB.out))) : w.heap.size ≤ gb186)); have n3_ := Aside0.mk ((by rw [hg]; exact (below_size (by repeat (first | (with_reducible first | exact HB.out | apply below_alloc | apply pw_below_drewN | apply below_drew1) | exact HB.out))) : w.heap.size ≤ gb186)); clear HB; have HB := n0_; have BK186 := n1_; have GW186 := n2_; have GE186 := n3_; clear n0_ n1_ n2_ n3_; clear hb hbox hg; have hcz7_0 : w6.cell? ⟨gb186, 0, none⟩ = some (.slice A0_0 l0_0.length c0_0) := (blk_cell BK186.out 0).trans rfl; have hcz7_1 : w6.cell? ⟨gb186, 1, none⟩ = some (.int .i64 a0_1) := (blk_cell BK186.out 1).trans rfl; have hfz7_0 := blk_frozen BK186.out 0; have hfz7_1 := blk_frozen BK186.out 1; have p187 : 0 ≤ (a1 : Int) := of_decide_eq_true (by first | (with_reducible assumption) | assumption); have q187 : a1 < (l0_0.length : Int) := of_decide_eq_true (by first | (with_reducible assumption) | assumption); obtain ⟨ad187, A187_1, c187_1, A187_4, c187_4, e187, hx187_0, hx187_1, hx187_2, hx187_3, hx187_4, hx187_5, hl187_1, hi187_1, hl187_4, hi187_4⟩ := at_T40 HR0_0.out a1 p187 q187; cases e187; replace hx187_0 := (HB.out.cell (World.block_lt_of_cell? w _ hx187_0)).trans hx187_0; replace hx187_1 := (HB.out.cell (World.block_lt_of_cell? w _ hx187_1)).trans hx187_1; replace hx187_2 := (HB.out.cell (World.block_lt_of_cell? w _ hx187_2)).trans hx187_2; replace hx187_3 := (HB.out.cell (World.block_lt_of_cell? w _ hx187_3)).trans hx187_3; replace hx187_4 := (HB.out.cell (World.block_lt_of_cell? w _ hx187_4)).trans hx187_4; replace hx187_5 := (HB.out.cell (World.block_lt_of_cell? w _ hx187_5)).trans hx187_5; have HR187_1 := Aside0.mk hi187_1; have HC187_1 := Aside0.mk hl187_1; clear hi187_1 hl187_1; have HR187_4 := Aside0.mk hi187_4; have HC187_4 := Aside0.mk hl187_4; clear hi187_4 hl187_4; replace p187 := eq_true p187; replace q187 := eq_true q187) | ((with_reducible refine gate_dst (N := 5) rfl ?_); refine box_event ?hg (N := 5) ?hd (cs := #[.int .i64 0, .slice none 0 0, .int .i64 0, .int .i64 0, .slice none 0 0, .int .i64 0]) (t := 40) ?hr ?_; (case hd => rfl); (case hg => rfl); (case hr => first | (go_simp; done) | (go_simp; rfl)); intro gb188 hg w8 hbox hb; have n0_ := Aside0.mk (blk_below (g := gb186) (o := .cells #[.slice (some ad187) l0_0.length c0_0, .int .i64 a0_1] 24 (0, 0)) (by (with_reducible repeat (first | refine blk_drewN ?_ _ | refine blk_drew ?_ | refine blk_alloc ?_ _)); exact BK186.out) hb); have n1_ := Aside0.mk (below_step (by repeat (first | (with_reducible first | exact HB.out | apply below_alloc | apply pw_below_drewN | apply below_drew1 | refine below_set ?_ GE186.out) | exact HB.out)) hb); have n2_ := Aside0.mk (hbox); have n3_ := Aside0.mk ((by rw [hg]; exact (below_size (by repeat (first | (with_reducible first | exact HB.out | apply below_alloc | apply pw_below_drewN | apply below_drew1 | refine below_set ?_ GE186.out) | exact HB.out))) : w.heap.size ≤ gb188)); have n4_ := Aside0.mk ((by rw [hg]; exact (below_size (by repeat (first | (with_reducible first | exact HB.out | apply below_alloc | apply pw_below_drewN | apply below_drew1 | refine below_set ?_ GE186.out) | exact HB.out))) : w.heap.size ≤ gb188)); have n5_ := Aside0.mk ((by rw [hg]; exact Nat.ne_of_lt (blk_lt (g := gb186) (o := .cells #[.slice (some ad187) l0_0.length c0_0, .int .i64 a0_1] 24 (0, 0)) (by (with_reducible repeat (first | refine blk_drewN ?_ _ | refine blk_drew ?_ | refine blk_alloc ?_ _)); exact BK186.out)) : gb186 ≠ gb188)); have n6_ := Aside0.mk ((by rw [hg]; exact Nat.ne_of_gt (blk_lt (g := gb186) (o := .cells #[.slice (some ad187) l0_0.length c0_0, .int .i64 a0_1] 24 (0, 0)) (by (with_reducible repeat (first | refine blk_drewN ?_ _ | refine blk_drew ?_ | refine blk_alloc ?_ _)); exact BK186.out)) : gb188 ≠ gb186)); clear BK186; clear HB; have BK186 := n0_; have HB := n1_; have BK188 := n2_; have GW188 := n3_; have GE188 := n4_; have NB186_188 := n5_; have NB188_186 := n6_; clear n0_ n1_ n2_ n3_ n4_ n5_ n6_; clear hb hbox hg; have hnb9 := NB188_186.out; have hnc9 := NB186_188.out; have hcz10_0 : w8.cell? ⟨gb188, 0, none⟩ = some (.int .i64 0) := (blk_cell BK188.out 0).trans rfl; have hcz10_1 : w8.cell? ⟨gb188, 1, none⟩ = some (.slice none 0 0) := (blk_cell BK188.out 1).trans rfl; have hcz10_2 : w8.cell? ⟨gb188, 2, none⟩ = some (.int .i64 0) := (blk_cell BK188.out 2).trans rfl; have hcz10_3 : w8.cell? ⟨gb188, 3, none⟩ = some (.int .i64 0) := (blk_cell BK188.out 3).trans rfl; have hcz10_4 : w8.cell? ⟨gb188, 4, none⟩ = some (.slice none 0 0) := (blk_cell BK188.out 4).trans rfl; have hcz10_5 : w8.cell? ⟨gb188, 5, none⟩ = some (.int .i64 0) := (blk_cell BK188.out 5).trans rfl; have hfz10_0 := blk_frozen BK188.out 0; have hfz10_1 := blk_frozen BK188.out 1; have hfz10_2 := blk_frozen BK188.out 2; have hfz10_3 := blk_frozen BK188.out 3; have hfz10_4 := blk_frozen BK188.out 4; have hfz10_5 := blk_frozen BK188.out 5)); go_upto_region 2 with (first | ((with_reducible refine gate_dst (N := 2) rfl ?_); refine box_event ?hg (N := 2) ?hd (cs := #[.slice A0_0 l0_0.length c0_0, .int .i64 a0_1]) (t := 24) ?hr ?_; (case hd => rfl); (case hg => rfl); (case hr => first | (go_simp; done) | (go_simp; rfl)); intro gb186 hg w6 hbox hb; have n0_ := Aside0.mk (below_step (by repeat (first | (with_reducible first | exact HB.out | apply below_alloc | apply pw_below_drewN | apply below_drew1) | exact HB.out)) hb); have n1_ := Aside0.mk (hbox); have n2_ := Aside0.mk ((by rw [hg]; exact (below_size (by repeat (first | (with_reducible first | exact HB.out | apply below_alloc | apply pw_below_drewN | apply below_drew1) | exact HB.out))) : w.heap.size ≤ gb186)); have n3_ := Aside0.mk ((by rw [hg]; exact (below_size (by repeat (first | (with_reducible first | exact HB.out | apply below_alloc | apply pw_below_drewN | apply below_drew1) | exact HB.out))) : w.heap.size ≤ gb186)); clear HB; have HB := n0_; have BK186 := n1_; have GW186 := n2_; have GE186 := n3_; clear n0_ n1_ n2_ n3_; clear hb hbox hg; have hcz7_0 : w6.cell? ⟨gb186, 0, none⟩ = some (.slice A0_0 l0_0.length c0_0) := (blk_cell BK186.out 0).trans rfl; have hcz7_1 : w6.cell? ⟨gb186, 1, none⟩ = some (.int .i64 a0_1) := (blk_cell BK186.out 1).trans rfl; have hfz7_0 := blk_frozen BK186.out 0; have hfz7_1 := blk_frozen BK186.out 1; have p187 : 0 ≤ (a1 : Int) := of_decide_eq_true (by first | (with_reducible assumption) | assumption); have q187 : a1 < (l0_0.length : Int) := of_decide_eq_true (by first | (with_reducible assumption) | assumption); obtain ⟨ad187, A187_1, c187_1, A187_4, c187_4, e187, hx187_0, hx187_1, hx187_2, hx187_3, hx187_4, hx187_5, hl187_1, hi187_1, hl187_4, hi187_4⟩ := at_T40 HR0_0.out a1 p187 q187; cases e187; replace hx187_0 := (HB.out.cell (World.block_lt_of_cell? w _ hx187_0)).trans hx187_0; replace hx187_1 := (HB.out.cell (World.block_lt_of_cell? w _ hx187_1)).trans hx187_1; replace hx187_2 := (HB.out.cell (World.block_lt_of_cell? w _ hx187_2)).trans hx187_2; replace hx187_3 := (HB.out.cell (World.block_lt_of_cell? w _ hx187_3)).trans hx187_3; replace hx187_4 := (HB.out.cell (World.block_lt_of_cell? w _ hx187_4)).trans hx187_4; replace hx187_5 := (HB.out.cell (World.block_lt_of_cell? w _ hx187_5)).trans hx187_5; have HR187_1 := Aside0.mk hi187_1; have HC187_1 := Aside0.mk hl187_1; clear hi187_1 hl187_1; have HR187_4 := Aside0.mk hi187_4; have HC187_4 := Aside0.mk hl187_4; clear hi187_4 hl187_4; replace p187 := eq_true p187; replace q187 := eq_true q187) | ((with_reducible refine gate_dst (N := 5) rfl ?_); refine box_event ?hg (N := 5) ?hd (cs := #[.int .i64 0, .slice none 0 0, .int .i64 0, .int .i64 0, .slice none 0 0, .int .i64 0]) (t := 40) ?hr ?_; (case hd => rfl); (case hg => rfl); (case hr => first | (go_simp; done) | (go_simp; rfl)); intro gb188 hg w8 hbox hb; have n0_ := Aside0.mk (blk_below (g := gb186) (o := .cells #[.slice (some ad187) l0_0.length c0_0, .int .i64 a0_1] 24 (0, 0)) (by (with_reducible repeat (first | refine blk_drewN ?_ _ | refine blk_drew ?_ | refine blk_alloc ?_ _)); exact BK186.out) hb); have n1_ := Aside0.mk (below_step (by repeat (first | (with_reducible first | exact HB.out | apply below_alloc | apply pw_below_drewN | apply below_drew1 | refine below_set ?_ GE186.out) | exact HB.out)) hb); have n2_ := Aside0.mk (hbox); have n3_ := Aside0.mk ((by rw [hg]; exact (below_size (by repeat (first | (with_reducible first | exact HB.out | apply below_alloc | apply pw_below_drewN | apply below_drew1 | refine below_set ?_ GE186.out) | exact HB.out))) : w.heap.size ≤ gb188)); have n4_ := Aside0.mk ((by rw [hg]; exact (below_size (by repeat (first | (with_reducible first | exact HB.out | apply below_alloc | apply pw_below_drewN | apply below_drew1 | refine below_set ?_ GE186.out) | exact HB.out))) : w.heap.size ≤ gb188)); have n5_ := Aside0.mk ((by rw [hg]; exact Nat.ne_of_lt (blk_lt (g := gb186) (o := .cells #[.slice (some ad187) l0_0.length c0_0, .int .i64 a0_1] 24 (0, 0)) (by (with_reducible repeat (first | refine blk_drewN ?_ _ | refine blk_drew ?_ | refine blk_alloc ?_ _)); exact BK186.out)) : gb186 ≠ gb188)); have n6_ := Aside0.mk ((by rw [hg]; exact Nat.ne_of_gt (blk_lt (g := gb186) (o := .cells #[.slice (some ad187) l0_0.length c0_0, .int .i64 a0_1] 24 (0, 0)) (by (with_reducible repeat (first | refine blk_drewN ?_ _ | refine blk_drew ?_ | refine blk_alloc ?_ _)); exact BK186.out)) : gb188 ≠ gb186)); clear BK186; clear HB; have BK186 := n0_; have HB := n1_; have BK188 := n2_; have GW188 := n3_; have GE188 := n4_; have NB186_188 := n5_; have NB188_186 := n6_; clear n0_ n1_ n2_ n3_ n4_ n5_ n6_; clear hb hbox hg; have hnb9 := NB188_186.out; have hnc9 := NB186_188.out; have hcz10_0 : w8.cell? ⟨gb188, 0, none⟩ = some (.int .i64 0) := (blk_cell BK188.out 0).trans rfl; have hcz10_1 : w8.cell? ⟨gb188, 1, none⟩ = some (.slice none 0 0) := (blk_cell BK188.out 1).trans rfl; have hcz10_2 : w8.cell? ⟨gb188, 2, none⟩ = some (.int .i64 0) := (blk_cell BK188.out 2).trans rfl; have hcz10_3 : w8.cell? ⟨gb188, 3, none⟩ = some (.int .i64 0) := (blk_cell BK188.out 3).trans rfl; have hcz10_4 : w8.cell? ⟨gb188, 4, none⟩ = some (.slice none 0 0) := (blk_cell BK188.out 4).trans rfl; have hcz10_5 : w8.cell? ⟨gb188, 5, none⟩ = some (.int .i64 0) := (blk_cell BK188.out 5).trans rfl; have hfz10_0 := blk_frozen BK188.out 0; have hfz10_1 := blk_frozen BK188.out 1; have hfz10_2 := blk_frozen BK188.out 2; have hfz10_3 := blk_frozen BK188.out 3; have hfz10_4 := blk_frozen BK188.out 4; have hfz10_5 := blk_frozen BK188.out 5)))
      (try simp only [Act.put, List.setIfInBounds_toArray, List.set_cons_zero, List.set_cons_succ])
      go_cut [20] (fun v20 wc => ∃ (kq : Nat) (x20_4 : Bool), v20 = .bool x20_4 ∧ Aside0 (tidemillref05_vertex.j0 kq a1 x20_4 l0_0 a0_1 ((rd_T40 l0_0 a1).f0) ((rd_T40 l0_0 a1).f1) ((rd_T40 l0_0 a1).f2.f0) ((rd_T40 l0_0 a1).f2.f1) ((rd_T40 l0_0 a1).f2.f2) ((rd_T40 l0_0 a1).f3) = some r) ∧ Aside0 (kq ≤ k) ∧ Aside0 (wc.heap[gb186]? = some (.cells #[(.slice (some ad187) l0_0.length c0_0), .int .i64 a0_1] 24 (0, 0))) ∧ Aside0 (wc.heap[gb188]? = some (.cells #[.int .i64 ((rd_T40 l0_0 a1).f0), (.slice A187_1 ((rd_T40 l0_0 a1).f1).length c187_1), .int .i64 ((rd_T40 l0_0 a1).f2.f0), .int .i64 ((rd_T40 l0_0 a1).f2.f1), (.slice A187_4 ((rd_T40 l0_0 a1).f2.f2).length c187_4), .int .i64 ((rd_T40 l0_0 a1).f3)] 40 (0, 0))) ∧ Aside0 (Below w.heap.size w wc))
      case first =>
        have H := HC5.out
        clear HC5
        by_cases c11 : ((rd_T40 l0_0 a1).f0) < 1
        · rw [if_pos c11] at H
          have c11b0 : decide (((rd_T40 l0_0 a1).f0) < 1) = true := decide_eq_true c11
          clear c11
          (first | rw [c11b0] | (simp only [i64_w, i32_w]; rw [c11b0]) | skip)
          have H' := Aside0.mk H
          clear H
          have hnb12 := NB188_186.out
          have hnc12 := NB186_188.out
          have hcz13_0 : w8.cell? ⟨gb188, 0, none⟩ = some (.int .i64 0) := (blk_cell BK188.out 0).trans rfl
          have hcz13_1 : w8.cell? ⟨gb188, 1, none⟩ = some (.slice none 0 0) := (blk_cell BK188.out 1).trans rfl
          have hcz13_2 : w8.cell? ⟨gb188, 2, none⟩ = some (.int .i64 0) := (blk_cell BK188.out 2).trans rfl
          have hcz13_3 : w8.cell? ⟨gb188, 3, none⟩ = some (.int .i64 0) := (blk_cell BK188.out 3).trans rfl
          have hcz13_4 : w8.cell? ⟨gb188, 4, none⟩ = some (.slice none 0 0) := (blk_cell BK188.out 4).trans rfl
          have hcz13_5 : w8.cell? ⟨gb188, 5, none⟩ = some (.int .i64 0) := (blk_cell BK188.out 5).trans rfl
          have hfz13_0 := blk_frozen BK188.out 0
          have hfz13_1 := blk_frozen BK188.out 1
          have hfz13_2 := blk_frozen BK188.out 2
          have hfz13_3 := blk_frozen BK188.out 3
          have hfz13_4 := blk_frozen BK188.out 4
          have hfz13_5 := blk_frozen BK188.out 5
          go_wp2
          repeat (go_quiet (fail); try go_wp2)
          go_meet
          case rel => exact ⟨_, (true), (by first | rfl | (simp; done) | (simp [*]; done)), H', ⟨by first | omega | exact Nat.le_refl _⟩, ⟨by (with_reducible repeat (first | refine blk_drewN ?_ _ | refine blk_drew ?_ | refine blk_alloc ?_ _)); refine blk_far ?_ NB186_188.out _; (with_reducible repeat (first | refine blk_drewN ?_ _ | refine blk_drew ?_ | refine blk_alloc ?_ _)); refine blk_far ?_ NB186_188.out _; (with_reducible repeat (first | refine blk_drewN ?_ _ | refine blk_drew ?_ | refine blk_alloc ?_ _)); refine blk_far ?_ NB186_188.out _; (with_reducible repeat (first | refine blk_drewN ?_ _ | refine blk_drew ?_ | refine blk_alloc ?_ _)); refine blk_far ?_ NB186_188.out _; (with_reducible repeat (first | refine blk_drewN ?_ _ | refine blk_drew ?_ | refine blk_alloc ?_ _)); refine blk_far ?_ NB186_188.out _; (with_reducible repeat (first | refine blk_drewN ?_ _ | refine blk_drew ?_ | refine blk_alloc ?_ _)); refine blk_far ?_ NB186_188.out _; (with_reducible repeat (first | refine blk_drewN ?_ _ | refine blk_drew ?_ | refine blk_alloc ?_ _)); exact BK186.out⟩, ⟨by (with_reducible repeat (first | refine blk_drewN ?_ _ | refine blk_drew ?_ | refine blk_alloc ?_ _)); refine blk_put (cs := #[.int .i64 ((rd_T40 l0_0 a1).f0), .slice A187_1 ((rd_T40 l0_0 a1).f1).length c187_1, .int .i64 ((rd_T40 l0_0 a1).f2.f0), .int .i64 ((rd_T40 l0_0 a1).f2.f1), .slice A187_4 ((rd_T40 l0_0 a1).f2.f2).length c187_4, .int .i64 0]) ?_ 5 _ rfl; (with_reducible repeat (first | refine blk_drewN ?_ _ | refine blk_drew ?_ | refine blk_alloc ?_ _)); refine blk_put (cs := #[.int .i64 ((rd_T40 l0_0 a1).f0), .slice A187_1 ((rd_T40 l0_0 a1).f1).length c187_1, .int .i64 ((rd_T40 l0_0 a1).f2.f0), .int .i64 ((rd_T40 l0_0 a1).f2.f1), .slice none 0 0, .int .i64 0]) ?_ 4 _ rfl; (with_reducible repeat (first | refine blk_drewN ?_ _ | refine blk_drew ?_ | refine blk_alloc ?_ _)); refine blk_put (cs := #[.int .i64 ((rd_T40 l0_0 a1).f0), .slice A187_1 ((rd_T40 l0_0 a1).f1).length c187_1, .int .i64 ((rd_T40 l0_0 a1).f2.f0), .int .i64 0, .slice none 0 0, .int .i64 0]) ?_ 3 _ rfl; (with_reducible repeat (first | refine blk_drewN ?_ _ | refine blk_drew ?_ | refine blk_alloc ?_ _)); refine blk_put (cs := #[.int .i64 ((rd_T40 l0_0 a1).f0), .slice A187_1 ((rd_T40 l0_0 a1).f1).length c187_1, .int .i64 0, .int .i64 0, .slice none 0 0, .int .i64 0]) ?_ 2 _ rfl; (with_reducible repeat (first | refine blk_drewN ?_ _ | refine blk_drew ?_ | refine blk_alloc ?_ _)); refine blk_put (cs := #[.int .i64 ((rd_T40 l0_0 a1).f0), .slice none 0 0, .int .i64 0, .int .i64 0, .slice none 0 0, .int .i64 0]) ?_ 1 _ rfl; (with_reducible repeat (first | refine blk_drewN ?_ _ | refine blk_drew ?_ | refine blk_alloc ?_ _)); refine blk_put (cs := #[.int .i64 0, .slice none 0 0, .int .i64 0, .int .i64 0, .slice none 0 0, .int .i64 0]) ?_ 0 _ rfl; (with_reducible repeat (first | refine blk_drewN ?_ _ | refine blk_drew ?_ | refine blk_alloc ?_ _)); exact BK188.out⟩, ⟨by repeat (first | (with_reducible first | exact HB.out | apply below_alloc | apply pw_below_drewN | apply below_drew1 | refine below_set ?_ GE186.out | refine below_set ?_ GE188.out) | exact HB.out)⟩⟩
        · rw [if_neg c11] at H
          have c11b0 : decide (((rd_T40 l0_0 a1).f0) < 1) = false := decide_eq_false c11
          clear c11
          (first | rw [c11b0] | (simp only [i64_w, i32_w]; rw [c11b0]) | skip)
          have H' := Aside0.mk H
          clear H
          have hnb14 := NB188_186.out
          have hnc14 := NB186_188.out
          have hcz15_0 : w8.cell? ⟨gb188, 0, none⟩ = some (.int .i64 0) := (blk_cell BK188.out 0).trans rfl
          have hcz15_1 : w8.cell? ⟨gb188, 1, none⟩ = some (.slice none 0 0) := (blk_cell BK188.out 1).trans rfl
          have hcz15_2 : w8.cell? ⟨gb188, 2, none⟩ = some (.int .i64 0) := (blk_cell BK188.out 2).trans rfl
          have hcz15_3 : w8.cell? ⟨gb188, 3, none⟩ = some (.int .i64 0) := (blk_cell BK188.out 3).trans rfl
          have hcz15_4 : w8.cell? ⟨gb188, 4, none⟩ = some (.slice none 0 0) := (blk_cell BK188.out 4).trans rfl
          have hcz15_5 : w8.cell? ⟨gb188, 5, none⟩ = some (.int .i64 0) := (blk_cell BK188.out 5).trans rfl
          have hfz15_0 := blk_frozen BK188.out 0
          have hfz15_1 := blk_frozen BK188.out 1
          have hfz15_2 := blk_frozen BK188.out 2
          have hfz15_3 := blk_frozen BK188.out 3
          have hfz15_4 := blk_frozen BK188.out 4
          have hfz15_5 := blk_frozen BK188.out 5
          go_wp2
          repeat (go_quiet (fail); try go_wp2)
          go_meet
          case rel => exact ⟨_, (decide (((rd_T40 l0_0 a1).f0) > 10)), (by first | rfl | (simp; done) | (simp [*]; done)), H', ⟨by first | omega | exact Nat.le_refl _⟩, ⟨by (with_reducible repeat (first | refine blk_drewN ?_ _ | refine blk_drew ?_ | refine blk_alloc ?_ _)); refine blk_far ?_ NB186_188.out _; (with_reducible repeat (first | refine blk_drewN ?_ _ | refine blk_drew ?_ | refine blk_alloc ?_ _)); refine blk_far ?_ NB186_188.out _; (with_reducible repeat (first | refine blk_drewN ?_ _ | refine blk_drew ?_ | refine blk_alloc ?_ _)); refine blk_far ?_ NB186_188.out _; (with_reducible repeat (first | refine blk_drewN ?_ _ | refine blk_drew ?_ | refine blk_alloc ?_ _)); refine blk_far ?_ NB186_188.out _; (with_reducible repeat (first | refine blk_drewN ?_ _ | refine blk_drew ?_ | refine blk_alloc ?_ _)); refine blk_far ?_ NB186_188.out _; (with_reducible repeat (first | refine blk_drewN ?_ _ | refine blk_drew ?_ | refine blk_alloc ?_ _)); refine blk_far ?_ NB186_188.out _; (with_reducible repeat (first | refine blk_drewN ?_ _ | refine blk_drew ?_ | refine blk_alloc ?_ _)); exact BK186.out⟩, ⟨by (with_reducible repeat (first | refine blk_drewN ?_ _ | refine blk_drew ?_ | refine blk_alloc ?_ _)); refine blk_put (cs := #[.int .i64 ((rd_T40 l0_0 a1).f0), .slice A187_1 ((rd_T40 l0_0 a1).f1).length c187_1, .int .i64 ((rd_T40 l0_0 a1).f2.f0), .int .i64 ((rd_T40 l0_0 a1).f2.f1), .slice A187_4 ((rd_T40 l0_0 a1).f2.f2).length c187_4, .int .i64 0]) ?_ 5 _ rfl; (with_reducible repeat (first | refine blk_drewN ?_ _ | refine blk_drew ?_ | refine blk_alloc ?_ _)); refine blk_put (cs := #[.int .i64 ((rd_T40 l0_0 a1).f0), .slice A187_1 ((rd_T40 l0_0 a1).f1).length c187_1, .int .i64 ((rd_T40 l0_0 a1).f2.f0), .int .i64 ((rd_T40 l0_0 a1).f2.f1), .slice none 0 0, .int .i64 0]) ?_ 4 _ rfl; (with_reducible repeat (first | refine blk_drewN ?_ _ | refine blk_drew ?_ | refine blk_alloc ?_ _)); refine blk_put (cs := #[.int .i64 ((rd_T40 l0_0 a1).f0), .slice A187_1 ((rd_T40 l0_0 a1).f1).length c187_1, .int .i64 ((rd_T40 l0_0 a1).f2.f0), .int .i64 0, .slice none 0 0, .int .i64 0]) ?_ 3 _ rfl; (with_reducible repeat (first | refine blk_drewN ?_ _ | refine blk_drew ?_ | refine blk_alloc ?_ _)); refine blk_put (cs := #[.int .i64 ((rd_T40 l0_0 a1).f0), .slice A187_1 ((rd_T40 l0_0 a1).f1).length c187_1, .int .i64 0, .int .i64 0, .slice none 0 0, .int .i64 0]) ?_ 2 _ rfl; (with_reducible repeat (first | refine blk_drewN ?_ _ | refine blk_drew ?_ | refine blk_alloc ?_ _)); refine blk_put (cs := #[.int .i64 ((rd_T40 l0_0 a1).f0), .slice none 0 0, .int .i64 0, .int .i64 0, .slice none 0 0, .int .i64 0]) ?_ 1 _ rfl; (with_reducible repeat (first | refine blk_drewN ?_ _ | refine blk_drew ?_ | refine blk_alloc ?_ _)); refine blk_put (cs := #[.int .i64 0, .slice none 0 0, .int .i64 0, .int .i64 0, .slice none 0 0, .int .i64 0]) ?_ 0 _ rfl; (with_reducible repeat (first | refine blk_drewN ?_ _ | refine blk_drew ?_ | refine blk_alloc ?_ _)); exact BK188.out⟩, ⟨by repeat (first | (with_reducible first | exact HB.out | apply below_alloc | apply pw_below_drewN | apply below_drew1 | refine below_set ?_ GE186.out | refine below_set ?_ GE188.out) | exact HB.out)⟩⟩
      case rest =>
        clear HC5
        try clear c1
        try clear p1
        try clear q1
        try clear hx1
        try clear c2
        try clear p2
        try clear c3
        try clear c3b0
        try clear c4
        try clear c4b0
        try clear c9
        try clear c11
        try clear c11b0
        try clear c12
        try clear c14
        try clear hcz10_0
        try clear hcz10_1
        try clear hcz10_2
        try clear hcz10_3
        try clear hcz10_4
        try clear hcz10_5
        try clear hcz13_0
        try clear hcz13_1
        try clear hcz13_2
        try clear hcz13_3
        try clear hcz13_4
        try clear hcz13_5
        try clear hcz15_0
        try clear hcz15_1
        try clear hcz15_2
        try clear hcz15_3
        try clear hcz15_4
        try clear hcz15_5
        try clear hcz7_0
        try clear hcz7_1
        try clear hfz10_0
        try clear hfz10_1
        try clear hfz10_2
        try clear hfz10_3
        try clear hfz10_4
        try clear hfz10_5
        try clear hfz13_0
        try clear hfz13_1
        try clear hfz13_2
        try clear hfz13_3
        try clear hfz13_4
        try clear hfz13_5
        try clear hfz15_0
        try clear hfz15_1
        try clear hfz15_2
        try clear hfz15_3
        try clear hfz15_4
        try clear hfz15_5
        try clear hfz7_0
        try clear hfz7_1
        try clear hx187_0
        try clear hx187_1
        try clear hx187_2
        try clear hx187_3
        try clear hx187_4
        try clear hx187_5
        try clear p187
        try clear q187
        obtain ⟨kq, x20_4, rfl, HA, HJ4, BK186, BK188, HB⟩ := hcut
        cases kq with
        | zero => exact absurd HA.out (by simp [tidemillref05_vertex.j0])
        | succ kj4 =>
          have H := HA.out
          clear HA
          simp only [tidemillref05_vertex.j0] at H
          by_cases c16 : x20_4 = true
          · subst c16
            have H1 : (some 1) = some r := by rw [if_pos rfl] at H; exact H
            clear H
            have H := H1
            clear H1
            obtain rfl := Option.some.inj H
            go_wp2
            repeat (go_quiet (fail); try go_wp2)
            go_ret
            exact ⟨by first | rfl | (simp [errW_none, errW_some] <;> rfl) | (simp [*, errW_none, errW_some] <;> rfl), by repeat (first | (with_reducible first | exact HB.out | apply below_alloc | apply pw_below_drewN | apply below_drew1 | refine below_set ?_ GE186.out | refine below_set ?_ GE188.out) | exact HB.out)⟩
          · replace c16 := Bool.eq_false_iff.mpr c16
            subst c16
            have H1 : (tidemillref05_vertex.l0 kj4 a1 0 l0_0 a0_1 ((rd_T40 l0_0 a1).f0) ((rd_T40 l0_0 a1).f1) ((rd_T40 l0_0 a1).f2.f0) ((rd_T40 l0_0 a1).f2.f1) ((rd_T40 l0_0 a1).f2.f2) ((rd_T40 l0_0 a1).f3)) = some r := by rw [if_neg (show ¬ (false = true) by decide)] at H; exact H
            clear H
            have H := H1
            clear H1
            have H' := Aside0.mk H
            clear H
            go_wp2
            repeat (go_quiet (fail); try go_wp2)
            go_loopg [6] kj4 (fun kq v6 w' => ∃ (x6_2 : Int), v6 = .int .i64 x6_2 ∧ Aside0 (tidemillref05_vertex.l0 kq a1 x6_2 l0_0 a0_1 ((rd_T40 l0_0 a1).f0) ((rd_T40 l0_0 a1).f1) ((rd_T40 l0_0 a1).f2.f0) ((rd_T40 l0_0 a1).f2.f1) ((rd_T40 l0_0 a1).f2.f2) ((rd_T40 l0_0 a1).f3) = some r) ∧ Aside0 (kq ≤ kj4) ∧ Aside0 (w'.heap[gb186]? = some (.cells #[(.slice (some ad187) l0_0.length c0_0), .int .i64 a0_1] 24 (0, 0))) ∧ Aside0 (w'.heap[gb188]? = some (.cells #[.int .i64 ((rd_T40 l0_0 a1).f0), (.slice A187_1 ((rd_T40 l0_0 a1).f1).length c187_1), .int .i64 ((rd_T40 l0_0 a1).f2.f0), .int .i64 ((rd_T40 l0_0 a1).f2.f1), (.slice A187_4 ((rd_T40 l0_0 a1).f2.f2).length c187_4), .int .i64 ((rd_T40 l0_0 a1).f3)] 40 (0, 0))) ∧ Aside0 (Below w.heap.size w w'))
            case atStart => exact ⟨(0), (by first | rfl | (simp; done) | (simp [*]; done)), H', ⟨Nat.le_refl _⟩, ⟨by (with_reducible repeat (first | refine blk_drewN ?_ _ | refine blk_drew ?_ | refine blk_alloc ?_ _)); exact BK186.out⟩, ⟨by (with_reducible repeat (first | refine blk_drewN ?_ _ | refine blk_drew ?_ | refine blk_alloc ?_ _)); exact BK188.out⟩, ⟨by repeat (first | (with_reducible first | exact HB.out | apply below_alloc | apply pw_below_drewN | apply below_drew1 | refine below_set ?_ GE186.out | refine below_set ?_ GE188.out) | exact HB.out)⟩⟩
            case round =>
              clear H'
              try clear c1
              try clear p1
              try clear q1
              try clear hx1
              try clear c2
              try clear p2
              try clear c3
              try clear c3b0
              try clear c4
              try clear c4b0
              try clear c9
              try clear c11
              try clear c11b0
              try clear c12
              try clear c14
              try clear c16
              try clear hcz10_0
              try clear hcz10_1
              try clear hcz10_2
              try clear hcz10_3
              try clear hcz10_4
              try clear hcz10_5
              try clear hcz13_0
              try clear hcz13_1
              try clear hcz13_2
              try clear hcz13_3
              try clear hcz13_4
              try clear hcz13_5
              try clear hcz15_0
              try clear hcz15_1
              try clear hcz15_2
              try clear hcz15_3
              try clear hcz15_4
              try clear hcz15_5
              try clear hcz7_0
              try clear hcz7_1
              try clear hfz10_0
              try clear hfz10_1
              try clear hfz10_2
              try clear hfz10_3
              try clear hfz10_4
              try clear hfz10_5
              try clear hfz13_0
              try clear hfz13_1
              try clear hfz13_2
              try clear hfz13_3
              try clear hfz13_4
              try clear hfz13_5
              try clear hfz15_0
              try clear hfz15_1
              try clear hfz15_2
              try clear hfz15_3
              try clear hfz15_4
              try clear hfz15_5
              try clear hfz7_0
              try clear hfz7_1
              try clear hx187_0
              try clear hx187_1
              try clear hx187_2
              try clear hx187_3
              try clear hx187_4
              try clear hx187_5
              try clear p1
              try clear p187
              try clear p2
              try clear q1
              try clear q187
              obtain ⟨x6_2, rfl, HA, HK2, BK186, BK188, HB⟩ := hrel
              cases gk with
              | zero => exact absurd HA.out (by simp [tidemillref05_vertex.l0])
              | succ k2 =>
                have H := HA.out
                clear HA
                simp only [tidemillref05_vertex.l0] at H
                by_cases c17 : x6_2 < (((rd_T40 l0_0 a1).f1).length : Int)
                · rw [if_pos c17] at H
                  have c17b0 : decide (x6_2 < (((rd_T40 l0_0 a1).f1).length : Int)) = true := decide_eq_true c17
                  clear c17
                  by_cases c18 : 0 ≤ x6_2
                  · rw [if_pos c18] at H
                    have c18b0 : decide (0 ≤ x6_2) = true := decide_eq_true c18
                    clear c18
                    by_cases c19 : (rd ((rd_T40 l0_0 a1).f1) x6_2) < 0
                    · rw [if_pos c19] at H
                      have c19b0 : decide ((rd ((rd_T40 l0_0 a1).f1) x6_2) < 0) = true := decide_eq_true c19
                      clear c19
                      obtain rfl := Option.some.inj H
                      have hnb20 := NB188_186.out
                      have hnc20 := NB186_188.out
                      have hcz21_0 : wr.cell? ⟨gb188, 0, none⟩ = some (.int .i64 ((rd_T40 l0_0 a1).f0)) := (blk_cell BK188.out 0).trans rfl
                      have hcz21_1 : wr.cell? ⟨gb188, 1, none⟩ = some (.slice A187_1 ((rd_T40 l0_0 a1).f1).length c187_1) := (blk_cell BK188.out 1).trans rfl
                      have hcz21_2 : wr.cell? ⟨gb188, 2, none⟩ = some (.int .i64 ((rd_T40 l0_0 a1).f2.f0)) := (blk_cell BK188.out 2).trans rfl
                      have hcz21_3 : wr.cell? ⟨gb188, 3, none⟩ = some (.int .i64 ((rd_T40 l0_0 a1).f2.f1)) := (blk_cell BK188.out 3).trans rfl
                      have hcz21_4 : wr.cell? ⟨gb188, 4, none⟩ = some (.slice A187_4 ((rd_T40 l0_0 a1).f2.f2).length c187_4) := (blk_cell BK188.out 4).trans rfl
                      have hcz21_5 : wr.cell? ⟨gb188, 5, none⟩ = some (.int .i64 ((rd_T40 l0_0 a1).f3)) := (blk_cell BK188.out 5).trans rfl
                      have hfz21_0 := blk_frozen BK188.out 0
                      have hfz21_1 := blk_frozen BK188.out 1
                      have hfz21_2 := blk_frozen BK188.out 2
                      have hfz21_3 := blk_frozen BK188.out 3
                      have hfz21_4 := blk_frozen BK188.out 4
                      have hfz21_5 := blk_frozen BK188.out 5
                      have p189 : 0 ≤ (x6_2 : Int) := of_decide_eq_true (by first | (with_reducible assumption) | assumption)
                      have q189 : x6_2 < (((rd_T40 l0_0 a1).f1).length : Int) := of_decide_eq_true (by first | (with_reducible assumption) | assumption)
                      obtain ⟨ad189, e189, hx189_0⟩ := Kd.at_int HR187_1.out x6_2 p189 q189
                      cases e189
                      replace hx189_0 := (HB.out.cell (World.block_lt_of_cell? w _ hx189_0)).trans hx189_0
                      replace p189 := eq_true p189
                      replace q189 := eq_true q189
                      go_wp2
                      repeat (go_quiet (fail); try go_wp2)
                      go_ret
                      exact ⟨by first | rfl | (simp [errW_none, errW_some] <;> rfl) | (simp [*, errW_none, errW_some] <;> rfl), by repeat (first | (with_reducible first | exact HB.out | apply below_alloc | apply pw_below_drewN | apply below_drew1 | refine below_set ?_ GE186.out | refine below_set ?_ GE188.out) | exact HB.out)⟩
                    · rw [if_neg c19] at H
                      have c19b0 : decide ((rd ((rd_T40 l0_0 a1).f1) x6_2) < 0) = false := decide_eq_false c19
                      clear c19
                      by_cases c22 : (rd ((rd_T40 l0_0 a1).f1) x6_2) ≥ a1
                      · rw [if_pos c22] at H
                        have c22b0 : decide (a1 ≤ (rd ((rd_T40 l0_0 a1).f1) x6_2)) = true := decide_eq_true c22
                        clear c22
                        obtain rfl := Option.some.inj H
                        have hnb23 := NB188_186.out
                        have hnc23 := NB186_188.out
                        have hcz24_0 : wr.cell? ⟨gb188, 0, none⟩ = some (.int .i64 ((rd_T40 l0_0 a1).f0)) := (blk_cell BK188.out 0).trans rfl
                        have hcz24_1 : wr.cell? ⟨gb188, 1, none⟩ = some (.slice A187_1 ((rd_T40 l0_0 a1).f1).length c187_1) := (blk_cell BK188.out 1).trans rfl
                        have hcz24_2 : wr.cell? ⟨gb188, 2, none⟩ = some (.int .i64 ((rd_T40 l0_0 a1).f2.f0)) := (blk_cell BK188.out 2).trans rfl
                        have hcz24_3 : wr.cell? ⟨gb188, 3, none⟩ = some (.int .i64 ((rd_T40 l0_0 a1).f2.f1)) := (blk_cell BK188.out 3).trans rfl
                        have hcz24_4 : wr.cell? ⟨gb188, 4, none⟩ = some (.slice A187_4 ((rd_T40 l0_0 a1).f2.f2).length c187_4) := (blk_cell BK188.out 4).trans rfl
                        have hcz24_5 : wr.cell? ⟨gb188, 5, none⟩ = some (.int .i64 ((rd_T40 l0_0 a1).f3)) := (blk_cell BK188.out 5).trans rfl
                        have hfz24_0 := blk_frozen BK188.out 0
                        have hfz24_1 := blk_frozen BK188.out 1
                        have hfz24_2 := blk_frozen BK188.out 2
                        have hfz24_3 := blk_frozen BK188.out 3
                        have hfz24_4 := blk_frozen BK188.out 4
                        have hfz24_5 := blk_frozen BK188.out 5
                        have p189 : 0 ≤ (x6_2 : Int) := of_decide_eq_true (by first | (with_reducible assumption) | assumption)
                        have q189 : x6_2 < (((rd_T40 l0_0 a1).f1).length : Int) := of_decide_eq_true (by first | (with_reducible assumption) | assumption)
                        obtain ⟨ad189, e189, hx189_0⟩ := Kd.at_int HR187_1.out x6_2 p189 q189
                        cases e189
                        replace hx189_0 := (HB.out.cell (World.block_lt_of_cell? w _ hx189_0)).trans hx189_0
                        replace p189 := eq_true p189
                        replace q189 := eq_true q189
                        have p190 : 0 ≤ (x6_2 : Int) := of_decide_eq_true (by first | (with_reducible assumption) | assumption)
                        have q190 : x6_2 < (((rd_T40 l0_0 a1).f1).length : Int) := of_decide_eq_true (by first | (with_reducible assumption) | assumption)
                        obtain ⟨ad190, e190, hx190_0⟩ := Kd.at_int HR187_1.out x6_2 p190 q190
                        obtain rfl : ad189 = ad190 := (by injection e190)
                        replace hx190_0 := (HB.out.cell (World.block_lt_of_cell? w _ hx190_0)).trans hx190_0
                        replace p190 := eq_true p190
                        replace q190 := eq_true q190
                        go_wp2
                        repeat (go_quiet (fail); try go_wp2)
                        go_ret
                        exact ⟨by first | rfl | (simp [errW_none, errW_some] <;> rfl) | (simp [*, errW_none, errW_some] <;> rfl), by repeat (first | (with_reducible first | exact HB.out | apply below_alloc | apply pw_below_drewN | apply below_drew1 | refine below_set ?_ GE186.out | refine below_set ?_ GE188.out) | exact HB.out)⟩
                      · rw [if_neg c22] at H
                        have c22b0 : decide (a1 ≤ (rd ((rd_T40 l0_0 a1).f1) x6_2)) = false := decide_eq_false c22
                        clear c22
                        have H' := Aside0.mk H
                        clear H
                        have hnb25 := NB188_186.out
                        have hnc25 := NB186_188.out
                        have hcz26_0 : wr.cell? ⟨gb188, 0, none⟩ = some (.int .i64 ((rd_T40 l0_0 a1).f0)) := (blk_cell BK188.out 0).trans rfl
                        have hcz26_1 : wr.cell? ⟨gb188, 1, none⟩ = some (.slice A187_1 ((rd_T40 l0_0 a1).f1).length c187_1) := (blk_cell BK188.out 1).trans rfl
                        have hcz26_2 : wr.cell? ⟨gb188, 2, none⟩ = some (.int .i64 ((rd_T40 l0_0 a1).f2.f0)) := (blk_cell BK188.out 2).trans rfl
                        have hcz26_3 : wr.cell? ⟨gb188, 3, none⟩ = some (.int .i64 ((rd_T40 l0_0 a1).f2.f1)) := (blk_cell BK188.out 3).trans rfl
                        have hcz26_4 : wr.cell? ⟨gb188, 4, none⟩ = some (.slice A187_4 ((rd_T40 l0_0 a1).f2.f2).length c187_4) := (blk_cell BK188.out 4).trans rfl
                        have hcz26_5 : wr.cell? ⟨gb188, 5, none⟩ = some (.int .i64 ((rd_T40 l0_0 a1).f3)) := (blk_cell BK188.out 5).trans rfl
                        have hfz26_0 := blk_frozen BK188.out 0
                        have hfz26_1 := blk_frozen BK188.out 1
                        have hfz26_2 := blk_frozen BK188.out 2
                        have hfz26_3 := blk_frozen BK188.out 3
                        have hfz26_4 := blk_frozen BK188.out 4
                        have hfz26_5 := blk_frozen BK188.out 5
                        have p189 : 0 ≤ (x6_2 : Int) := of_decide_eq_true (by first | (with_reducible assumption) | assumption)
                        have q189 : x6_2 < (((rd_T40 l0_0 a1).f1).length : Int) := of_decide_eq_true (by first | (with_reducible assumption) | assumption)
                        obtain ⟨ad189, e189, hx189_0⟩ := Kd.at_int HR187_1.out x6_2 p189 q189
                        cases e189
                        replace hx189_0 := (HB.out.cell (World.block_lt_of_cell? w _ hx189_0)).trans hx189_0
                        replace p189 := eq_true p189
                        replace q189 := eq_true q189
                        have p190 : 0 ≤ (x6_2 : Int) := of_decide_eq_true (by first | (with_reducible assumption) | assumption)
                        have q190 : x6_2 < (((rd_T40 l0_0 a1).f1).length : Int) := of_decide_eq_true (by first | (with_reducible assumption) | assumption)
                        obtain ⟨ad190, e190, hx190_0⟩ := Kd.at_int HR187_1.out x6_2 p190 q190
                        obtain rfl : ad189 = ad190 := (by injection e190)
                        replace hx190_0 := (HB.out.cell (World.block_lt_of_cell? w _ hx190_0)).trans hx190_0
                        replace p190 := eq_true p190
                        replace q190 := eq_true q190
                        go_wp2
                        repeat (go_quiet (fail); try go_wp2)
                        go_roundg k2
                        case measure => have := HJ4.out; have := HK2.out; omega
                        case rel => exact ⟨(wrap64 (x6_2 + 1)), (by first | rfl | (simp; done) | (simp [*]; done)), H', ⟨by have := HJ4.out; have := HK2.out; omega⟩, ⟨by (with_reducible repeat (first | refine blk_drewN ?_ _ | refine blk_drew ?_ | refine blk_alloc ?_ _)); exact BK186.out⟩, ⟨by (with_reducible repeat (first | refine blk_drewN ?_ _ | refine blk_drew ?_ | refine blk_alloc ?_ _)); exact BK188.out⟩, ⟨by repeat (first | (with_reducible first | exact HB.out | apply below_alloc | apply pw_below_drewN | apply below_drew1 | refine below_set ?_ GE186.out | refine below_set ?_ GE188.out) | exact HB.out)⟩⟩
                  · rw [if_neg c18] at H
                    exact absurd H (by simp)
                · rw [if_neg c17] at H
                  have c17b0 : decide (x6_2 < (((rd_T40 l0_0 a1).f1).length : Int)) = false := decide_eq_false c17
                  clear c17
                  replace H := Option.bind_eq_some_iff.mp H
                  obtain ⟨t191, A270, H⟩ := H
                  replace H : (if t191 = true then ((tidemillref05_taken.f k2 l0_0 a0_1 a1).bind fun t192 => (if t192 = true then (some 12) else (tidemillref05_vertex.l1 k2 0 l0_0 a0_1 ((rd_T40 l0_0 a1).f0) ((rd_T40 l0_0 a1).f1) ((rd_T40 l0_0 a1).f2.f0) ((rd_T40 l0_0 a1).f2.f1) ((rd_T40 l0_0 a1).f2.f2) ((rd_T40 l0_0 a1).f3)))) else (some 5)) = some r := H
                  have A27 := Aside0.mk A270
                  clear A270
                  by_cases c28 : t191 = true
                  · subst c28
                    have H1 : ((tidemillref05_taken.f k2 l0_0 a0_1 a1).bind fun t192 => (if t192 = true then (some 12) else (tidemillref05_vertex.l1 k2 0 l0_0 a0_1 ((rd_T40 l0_0 a1).f0) ((rd_T40 l0_0 a1).f1) ((rd_T40 l0_0 a1).f2.f0) ((rd_T40 l0_0 a1).f2.f1) ((rd_T40 l0_0 a1).f2.f2) ((rd_T40 l0_0 a1).f3)))) = some r := by rw [if_pos rfl] at H; exact H
                    clear H
                    have H := H1
                    clear H1
                    replace H := Option.bind_eq_some_iff.mp H
                    obtain ⟨t192, A290, H⟩ := H
                    replace H : (if t192 = true then (some 12) else (tidemillref05_vertex.l1 k2 0 l0_0 a0_1 ((rd_T40 l0_0 a1).f0) ((rd_T40 l0_0 a1).f1) ((rd_T40 l0_0 a1).f2.f0) ((rd_T40 l0_0 a1).f2.f1) ((rd_T40 l0_0 a1).f2.f2) ((rd_T40 l0_0 a1).f3))) = some r := H
                    have A29 := Aside0.mk A290
                    clear A290
                    by_cases c30 : t192 = true
                    · subst c30
                      have H1 : (some 12) = some r := by rw [if_pos rfl] at H; exact H
                      clear H
                      have H := H1
                      clear H1
                      obtain rfl := Option.some.inj H
                      have hnb31 := NB188_186.out
                      have hnc31 := NB186_188.out
                      have hcz32_0 : wr.cell? ⟨gb188, 0, none⟩ = some (.int .i64 ((rd_T40 l0_0 a1).f0)) := (blk_cell BK188.out 0).trans rfl
                      have hcz32_1 : wr.cell? ⟨gb188, 1, none⟩ = some (.slice A187_1 ((rd_T40 l0_0 a1).f1).length c187_1) := (blk_cell BK188.out 1).trans rfl
                      have hcz32_2 : wr.cell? ⟨gb188, 2, none⟩ = some (.int .i64 ((rd_T40 l0_0 a1).f2.f0)) := (blk_cell BK188.out 2).trans rfl
                      have hcz32_3 : wr.cell? ⟨gb188, 3, none⟩ = some (.int .i64 ((rd_T40 l0_0 a1).f2.f1)) := (blk_cell BK188.out 3).trans rfl
                      have hcz32_4 : wr.cell? ⟨gb188, 4, none⟩ = some (.slice A187_4 ((rd_T40 l0_0 a1).f2.f2).length c187_4) := (blk_cell BK188.out 4).trans rfl
                      have hcz32_5 : wr.cell? ⟨gb188, 5, none⟩ = some (.int .i64 ((rd_T40 l0_0 a1).f3)) := (blk_cell BK188.out 5).trans rfl
                      have hfz32_0 := blk_frozen BK188.out 0
                      have hfz32_1 := blk_frozen BK188.out 1
                      have hfz32_2 := blk_frozen BK188.out 2
                      have hfz32_3 := blk_frozen BK188.out 3
                      have hfz32_4 := blk_frozen BK188.out 4
                      have hfz32_5 := blk_frozen BK188.out 5
                      go_wp2_with (first | (go_at_call 37; (with_reducible refine (tidemillref05_Has.calls k2 ((rd_T40 l0_0 a1).f0) _ _ ((rd_T40 l0_0 a1).f1) ((rd_T40 l0_0 a1).f2.f0) ((rd_T40 l0_0 a1).f2.f1) _ _ ((rd_T40 l0_0 a1).f2.f2) ((rd_T40 l0_0 a1).f3) true _ ?side1 ?side2 ?side3 ?side4 A27.out).mono ?_); (case side1 => repeat (first | exact (Kd.C_below HR187_1.out HB.out) | (with_reducible refine Kd.C_alloc ?_ _) | (with_reducible refine Kd.C_drewN ?_ _) | (with_reducible refine Kd.C_drew ?_))); (case side2 => exact HC187_1.out); (case side3 => repeat (first | exact (Kd.C_below HR187_4.out HB.out) | (with_reducible refine Kd.C_alloc ?_ _) | (with_reducible refine Kd.C_drewN ?_ _) | (with_reducible refine Kd.C_drew ?_))); (case side4 => exact HC187_4.out); rintro e w33 ⟨rfl, hb⟩; have n0_ := Aside0.mk (blk_below (g := gb186) (o := .cells #[.slice (some ad187) l0_0.length c0_0, .int .i64 a0_1] 24 (0, 0)) (by (with_reducible repeat (first | refine blk_drewN ?_ _ | refine blk_drew ?_ | refine blk_alloc ?_ _)); exact BK186.out) hb); have n1_ := Aside0.mk (blk_below (g := gb188) (o := .cells #[.int .i64 ((rd_T40 l0_0 a1).f0), .slice A187_1 ((rd_T40 l0_0 a1).f1).length c187_1, .int .i64 ((rd_T40 l0_0 a1).f2.f0), .int .i64 ((rd_T40 l0_0 a1).f2.f1), .slice A187_4 ((rd_T40 l0_0 a1).f2.f2).length c187_4, .int .i64 ((rd_T40 l0_0 a1).f3)] 40 (0, 0)) (by (with_reducible repeat (first | refine blk_drewN ?_ _ | refine blk_drew ?_ | refine blk_alloc ?_ _)); exact BK188.out) hb); have n2_ := Aside0.mk (below_step (by repeat (first | (with_reducible first | exact HB.out | apply below_alloc | apply pw_below_drewN | apply below_drew1 | refine below_set ?_ GE186.out | refine below_set ?_ GE188.out) | exact HB.out)) hb); clear BK186; clear BK188; clear HB; have BK186 := n0_; have BK188 := n1_; have HB := n2_; clear n0_ n1_ n2_; (try clear hb); (try clear hb2); (try clear hk); (try clear hi); have hcz34_0 : w33.cell? ⟨gb186, 0, none⟩ = some (.slice (some ad187) l0_0.length c0_0) := (blk_cell BK186.out 0).trans rfl; have hcz34_1 : w33.cell? ⟨gb186, 1, none⟩ = some (.int .i64 a0_1) := (blk_cell BK186.out 1).trans rfl; have hfz34_0 := blk_frozen BK186.out 0; have hfz34_1 := blk_frozen BK186.out 1) | (go_at_call 38; (with_reducible refine (tidemillref05_taken.calls k2 _ _ l0_0 a0_1 a1 true _ ?side1 ?side2 A29.out).mono ?_); (case side1 => repeat (first | exact (Kd.C_below HR0_0.out HB.out) | (with_reducible refine Kd.C_alloc ?_ _) | (with_reducible refine Kd.C_drewN ?_ _) | (with_reducible refine Kd.C_drew ?_))); (case side2 => exact HC0_0.out); rintro e w35 ⟨rfl, hb⟩; have n0_ := Aside0.mk (blk_below (g := gb186) (o := .cells #[.slice (some ad187) l0_0.length c0_0, .int .i64 a0_1] 24 (0, 0)) (by (with_reducible repeat (first | refine blk_drewN ?_ _ | refine blk_drew ?_ | refine blk_alloc ?_ _)); exact BK186.out) hb); have n1_ := Aside0.mk (blk_below (g := gb188) (o := .cells #[.int .i64 ((rd_T40 l0_0 a1).f0), .slice A187_1 ((rd_T40 l0_0 a1).f1).length c187_1, .int .i64 ((rd_T40 l0_0 a1).f2.f0), .int .i64 ((rd_T40 l0_0 a1).f2.f1), .slice A187_4 ((rd_T40 l0_0 a1).f2.f2).length c187_4, .int .i64 ((rd_T40 l0_0 a1).f3)] 40 (0, 0)) (by (with_reducible repeat (first | refine blk_drewN ?_ _ | refine blk_drew ?_ | refine blk_alloc ?_ _)); exact BK188.out) hb); have n2_ := Aside0.mk (below_step (by repeat (first | (with_reducible first | exact HB.out | apply below_alloc | apply pw_below_drewN | apply below_drew1 | refine below_set ?_ GE186.out | refine below_set ?_ GE188.out) | exact HB.out)) hb); clear BK186; clear BK188; clear HB; have BK186 := n0_; have BK188 := n1_; have HB := n2_; clear n0_ n1_ n2_; (try clear hb); (try clear hb2); (try clear hk); (try clear hi)))
                      repeat (go_quiet (first | (go_at_call 37; (with_reducible refine (tidemillref05_Has.calls k2 ((rd_T40 l0_0 a1).f0) _ _ ((rd_T40 l0_0 a1).f1) ((rd_T40 l0_0 a1).f2.f0) ((rd_T40 l0_0 a1).f2.f1) _ _ ((rd_T40 l0_0 a1).f2.f2) ((rd_T40 l0_0 a1).f3) true _ ?side1 ?side2 ?side3 ?side4 A27.out).mono ?_); (case side1 => repeat (first | exact (Kd.C_below HR187_1.out HB.out) | (with_reducible refine Kd.C_alloc ?_ _) | (with_reducible refine Kd.C_drewN ?_ _) | (with_reducible refine Kd.C_drew ?_))); (case side2 => exact HC187_1.out); (case side3 => repeat (first | exact (Kd.C_below HR187_4.out HB.out) | (with_reducible refine Kd.C_alloc ?_ _) | (with_reducible refine Kd.C_drewN ?_ _) | (with_reducible refine Kd.C_drew ?_))); (case side4 => exact HC187_4.out); rintro e w33 ⟨rfl, hb⟩; have n0_ := Aside0.mk (blk_below (g := gb186) (o := .cells #[.slice (some ad187) l0_0.length c0_0, .int .i64 a0_1] 24 (0, 0)) (by (with_reducible repeat (first | refine blk_drewN ?_ _ | refine blk_drew ?_ | refine blk_alloc ?_ _)); exact BK186.out) hb); have n1_ := Aside0.mk (blk_below (g := gb188) (o := .cells #[.int .i64 ((rd_T40 l0_0 a1).f0), .slice A187_1 ((rd_T40 l0_0 a1).f1).length c187_1, .int .i64 ((rd_T40 l0_0 a1).f2.f0), .int .i64 ((rd_T40 l0_0 a1).f2.f1), .slice A187_4 ((rd_T40 l0_0 a1).f2.f2).length c187_4, .int .i64 ((rd_T40 l0_0 a1).f3)] 40 (0, 0)) (by (with_reducible repeat (first | refine blk_drewN ?_ _ | refine blk_drew ?_ | refine blk_alloc ?_ _)); exact BK188.out) hb); have n2_ := Aside0.mk (below_step (by repeat (first | (with_reducible first | exact HB.out | apply below_alloc | apply pw_below_drewN | apply below_drew1 | refine below_set ?_ GE186.out | refine below_set ?_ GE188.out) | exact HB.out)) hb); clear BK186; clear BK188; clear HB; have BK186 := n0_; have BK188 := n1_; have HB := n2_; clear n0_ n1_ n2_; (try clear hb); (try clear hb2); (try clear hk); (try clear hi); have hcz34_0 : w33.cell? ⟨gb186, 0, none⟩ = some (.slice (some ad187) l0_0.length c0_0) := (blk_cell BK186.out 0).trans rfl; have hcz34_1 : w33.cell? ⟨gb186, 1, none⟩ = some (.int .i64 a0_1) := (blk_cell BK186.out 1).trans rfl; have hfz34_0 := blk_frozen BK186.out 0; have hfz34_1 := blk_frozen BK186.out 1) | (go_at_call 38; (with_reducible refine (tidemillref05_taken.calls k2 _ _ l0_0 a0_1 a1 true _ ?side1 ?side2 A29.out).mono ?_); (case side1 => repeat (first | exact (Kd.C_below HR0_0.out HB.out) | (with_reducible refine Kd.C_alloc ?_ _) | (with_reducible refine Kd.C_drewN ?_ _) | (with_reducible refine Kd.C_drew ?_))); (case side2 => exact HC0_0.out); rintro e w35 ⟨rfl, hb⟩; have n0_ := Aside0.mk (blk_below (g := gb186) (o := .cells #[.slice (some ad187) l0_0.length c0_0, .int .i64 a0_1] 24 (0, 0)) (by (with_reducible repeat (first | refine blk_drewN ?_ _ | refine blk_drew ?_ | refine blk_alloc ?_ _)); exact BK186.out) hb); have n1_ := Aside0.mk (blk_below (g := gb188) (o := .cells #[.int .i64 ((rd_T40 l0_0 a1).f0), .slice A187_1 ((rd_T40 l0_0 a1).f1).length c187_1, .int .i64 ((rd_T40 l0_0 a1).f2.f0), .int .i64 ((rd_T40 l0_0 a1).f2.f1), .slice A187_4 ((rd_T40 l0_0 a1).f2.f2).length c187_4, .int .i64 ((rd_T40 l0_0 a1).f3)] 40 (0, 0)) (by (with_reducible repeat (first | refine blk_drewN ?_ _ | refine blk_drew ?_ | refine blk_alloc ?_ _)); exact BK188.out) hb); have n2_ := Aside0.mk (below_step (by repeat (first | (with_reducible first | exact HB.out | apply below_alloc | apply pw_below_drewN | apply below_drew1 | refine below_set ?_ GE186.out | refine below_set ?_ GE188.out) | exact HB.out)) hb); clear BK186; clear BK188; clear HB; have BK186 := n0_; have BK188 := n1_; have HB := n2_; clear n0_ n1_ n2_; (try clear hb); (try clear hb2); (try clear hk); (try clear hi))); try go_wp2_with (first | (go_at_call 37; (with_reducible refine (tidemillref05_Has.calls k2 ((rd_T40 l0_0 a1).f0) _ _ ((rd_T40 l0_0 a1).f1) ((rd_T40 l0_0 a1).f2.f0) ((rd_T40 l0_0 a1).f2.f1) _ _ ((rd_T40 l0_0 a1).f2.f2) ((rd_T40 l0_0 a1).f3) true _ ?side1 ?side2 ?side3 ?side4 A27.out).mono ?_); (case side1 => repeat (first | exact (Kd.C_below HR187_1.out HB.out) | (with_reducible refine Kd.C_alloc ?_ _) | (with_reducible refine Kd.C_drewN ?_ _) | (with_reducible refine Kd.C_drew ?_))); (case side2 => exact HC187_1.out); (case side3 => repeat (first | exact (Kd.C_below HR187_4.out HB.out) | (with_reducible refine Kd.C_alloc ?_ _) | (with_reducible refine Kd.C_drewN ?_ _) | (with_reducible refine Kd.C_drew ?_))); (case side4 => exact HC187_4.out); rintro e w33 ⟨rfl, hb⟩; have n0_ := Aside0.mk (blk_below (g := gb186) (o := .cells #[.slice (some ad187) l0_0.length c0_0, .int .i64 a0_1] 24 (0, 0)) (by (with_reducible repeat (first | refine blk_drewN ?_ _ | refine blk_drew ?_ | refine blk_alloc ?_ _)); exact BK186.out) hb); have n1_ := Aside0.mk (blk_below (g := gb188) (o := .cells #[.int .i64 ((rd_T40 l0_0 a1).f0), .slice A187_1 ((rd_T40 l0_0 a1).f1).length c187_1, .int .i64 ((rd_T40 l0_0 a1).f2.f0), .int .i64 ((rd_T40 l0_0 a1).f2.f1), .slice A187_4 ((rd_T40 l0_0 a1).f2.f2).length c187_4, .int .i64 ((rd_T40 l0_0 a1).f3)] 40 (0, 0)) (by (with_reducible repeat (first | refine blk_drewN ?_ _ | refine blk_drew ?_ | refine blk_alloc ?_ _)); exact BK188.out) hb); have n2_ := Aside0.mk (below_step (by repeat (first | (with_reducible first | exact HB.out | apply below_alloc | apply pw_below_drewN | apply below_drew1 | refine below_set ?_ GE186.out | refine below_set ?_ GE188.out) | exact HB.out)) hb); clear BK186; clear BK188; clear HB; have BK186 := n0_; have BK188 := n1_; have HB := n2_; clear n0_ n1_ n2_; (try clear hb); (try clear hb2); (try clear hk); (try clear hi); have hcz34_0 : w33.cell? ⟨gb186, 0, none⟩ = some (.slice (some ad187) l0_0.length c0_0) := (blk_cell BK186.out 0).trans rfl; have hcz34_1 : w33.cell? ⟨gb186, 1, none⟩ = some (.int .i64 a0_1) := (blk_cell BK186.out 1).trans rfl; have hfz34_0 := blk_frozen BK186.out 0; have hfz34_1 := blk_frozen BK186.out 1) | (go_at_call 38; (with_reducible refine (tidemillref05_taken.calls k2 _ _ l0_0 a0_1 a1 true _ ?side1 ?side2 A29.out).mono ?_); (case side1 => repeat (first | exact (Kd.C_below HR0_0.out HB.out) | (with_reducible refine Kd.C_alloc ?_ _) | (with_reducible refine Kd.C_drewN ?_ _) | (with_reducible refine Kd.C_drew ?_))); (case side2 => exact HC0_0.out); rintro e w35 ⟨rfl, hb⟩; have n0_ := Aside0.mk (blk_below (g := gb186) (o := .cells #[.slice (some ad187) l0_0.length c0_0, .int .i64 a0_1] 24 (0, 0)) (by (with_reducible repeat (first | refine blk_drewN ?_ _ | refine blk_drew ?_ | refine blk_alloc ?_ _)); exact BK186.out) hb); have n1_ := Aside0.mk (blk_below (g := gb188) (o := .cells #[.int .i64 ((rd_T40 l0_0 a1).f0), .slice A187_1 ((rd_T40 l0_0 a1).f1).length c187_1, .int .i64 ((rd_T40 l0_0 a1).f2.f0), .int .i64 ((rd_T40 l0_0 a1).f2.f1), .slice A187_4 ((rd_T40 l0_0 a1).f2.f2).length c187_4, .int .i64 ((rd_T40 l0_0 a1).f3)] 40 (0, 0)) (by (with_reducible repeat (first | refine blk_drewN ?_ _ | refine blk_drew ?_ | refine blk_alloc ?_ _)); exact BK188.out) hb); have n2_ := Aside0.mk (below_step (by repeat (first | (with_reducible first | exact HB.out | apply below_alloc | apply pw_below_drewN | apply below_drew1 | refine below_set ?_ GE186.out | refine below_set ?_ GE188.out) | exact HB.out)) hb); clear BK186; clear BK188; clear HB; have BK186 := n0_; have BK188 := n1_; have HB := n2_; clear n0_ n1_ n2_; (try clear hb); (try clear hb2); (try clear hk); (try clear hi))))
                      go_ret
                      exact ⟨by first | rfl | (simp [errW_none, errW_some] <;> rfl) | (simp [*, errW_none, errW_some] <;> rfl), by repeat (first | (with_reducible first | exact HB.out | apply below_alloc | apply pw_below_drewN | apply below_drew1 | refine below_set ?_ GE186.out | refine below_set ?_ GE188.out) | exact HB.out)⟩
                    · replace c30 := Bool.eq_false_iff.mpr c30
                      subst c30
                      have H1 : (tidemillref05_vertex.l1 k2 0 l0_0 a0_1 ((rd_T40 l0_0 a1).f0) ((rd_T40 l0_0 a1).f1) ((rd_T40 l0_0 a1).f2.f0) ((rd_T40 l0_0 a1).f2.f1) ((rd_T40 l0_0 a1).f2.f2) ((rd_T40 l0_0 a1).f3)) = some r := by rw [if_neg (show ¬ (false = true) by decide)] at H; exact H
                      clear H
                      have H := H1
                      clear H1
                      have H' := Aside0.mk H
                      clear H
                      have hnb36 := NB188_186.out
                      have hnc36 := NB186_188.out
                      have hcz37_0 : wr.cell? ⟨gb188, 0, none⟩ = some (.int .i64 ((rd_T40 l0_0 a1).f0)) := (blk_cell BK188.out 0).trans rfl
                      have hcz37_1 : wr.cell? ⟨gb188, 1, none⟩ = some (.slice A187_1 ((rd_T40 l0_0 a1).f1).length c187_1) := (blk_cell BK188.out 1).trans rfl
                      have hcz37_2 : wr.cell? ⟨gb188, 2, none⟩ = some (.int .i64 ((rd_T40 l0_0 a1).f2.f0)) := (blk_cell BK188.out 2).trans rfl
                      have hcz37_3 : wr.cell? ⟨gb188, 3, none⟩ = some (.int .i64 ((rd_T40 l0_0 a1).f2.f1)) := (blk_cell BK188.out 3).trans rfl
                      have hcz37_4 : wr.cell? ⟨gb188, 4, none⟩ = some (.slice A187_4 ((rd_T40 l0_0 a1).f2.f2).length c187_4) := (blk_cell BK188.out 4).trans rfl
                      have hcz37_5 : wr.cell? ⟨gb188, 5, none⟩ = some (.int .i64 ((rd_T40 l0_0 a1).f3)) := (blk_cell BK188.out 5).trans rfl
                      have hfz37_0 := blk_frozen BK188.out 0
                      have hfz37_1 := blk_frozen BK188.out 1
                      have hfz37_2 := blk_frozen BK188.out 2
                      have hfz37_3 := blk_frozen BK188.out 3
                      have hfz37_4 := blk_frozen BK188.out 4
                      have hfz37_5 := blk_frozen BK188.out 5
                      go_wp2_with (first | (go_at_call 37; (with_reducible refine (tidemillref05_Has.calls k2 ((rd_T40 l0_0 a1).f0) _ _ ((rd_T40 l0_0 a1).f1) ((rd_T40 l0_0 a1).f2.f0) ((rd_T40 l0_0 a1).f2.f1) _ _ ((rd_T40 l0_0 a1).f2.f2) ((rd_T40 l0_0 a1).f3) true _ ?side1 ?side2 ?side3 ?side4 A27.out).mono ?_); (case side1 => repeat (first | exact (Kd.C_below HR187_1.out HB.out) | (with_reducible refine Kd.C_alloc ?_ _) | (with_reducible refine Kd.C_drewN ?_ _) | (with_reducible refine Kd.C_drew ?_))); (case side2 => exact HC187_1.out); (case side3 => repeat (first | exact (Kd.C_below HR187_4.out HB.out) | (with_reducible refine Kd.C_alloc ?_ _) | (with_reducible refine Kd.C_drewN ?_ _) | (with_reducible refine Kd.C_drew ?_))); (case side4 => exact HC187_4.out); rintro e w38 ⟨rfl, hb⟩; have n0_ := Aside0.mk (blk_below (g := gb186) (o := .cells #[.slice (some ad187) l0_0.length c0_0, .int .i64 a0_1] 24 (0, 0)) (by (with_reducible repeat (first | refine blk_drewN ?_ _ | refine blk_drew ?_ | refine blk_alloc ?_ _)); exact BK186.out) hb); have n1_ := Aside0.mk (blk_below (g := gb188) (o := .cells #[.int .i64 ((rd_T40 l0_0 a1).f0), .slice A187_1 ((rd_T40 l0_0 a1).f1).length c187_1, .int .i64 ((rd_T40 l0_0 a1).f2.f0), .int .i64 ((rd_T40 l0_0 a1).f2.f1), .slice A187_4 ((rd_T40 l0_0 a1).f2.f2).length c187_4, .int .i64 ((rd_T40 l0_0 a1).f3)] 40 (0, 0)) (by (with_reducible repeat (first | refine blk_drewN ?_ _ | refine blk_drew ?_ | refine blk_alloc ?_ _)); exact BK188.out) hb); have n2_ := Aside0.mk (below_step (by repeat (first | (with_reducible first | exact HB.out | apply below_alloc | apply pw_below_drewN | apply below_drew1 | refine below_set ?_ GE186.out | refine below_set ?_ GE188.out) | exact HB.out)) hb); clear BK186; clear BK188; clear HB; have BK186 := n0_; have BK188 := n1_; have HB := n2_; clear n0_ n1_ n2_; (try clear hb); (try clear hb2); (try clear hk); (try clear hi); have hcz39_0 : w38.cell? ⟨gb186, 0, none⟩ = some (.slice (some ad187) l0_0.length c0_0) := (blk_cell BK186.out 0).trans rfl; have hcz39_1 : w38.cell? ⟨gb186, 1, none⟩ = some (.int .i64 a0_1) := (blk_cell BK186.out 1).trans rfl; have hfz39_0 := blk_frozen BK186.out 0; have hfz39_1 := blk_frozen BK186.out 1) | (go_at_call 38; (with_reducible refine (tidemillref05_taken.calls k2 _ _ l0_0 a0_1 a1 false _ ?side1 ?side2 A29.out).mono ?_); (case side1 => repeat (first | exact (Kd.C_below HR0_0.out HB.out) | (with_reducible refine Kd.C_alloc ?_ _) | (with_reducible refine Kd.C_drewN ?_ _) | (with_reducible refine Kd.C_drew ?_))); (case side2 => exact HC0_0.out); rintro e w40 ⟨rfl, hb⟩; have n0_ := Aside0.mk (blk_below (g := gb186) (o := .cells #[.slice (some ad187) l0_0.length c0_0, .int .i64 a0_1] 24 (0, 0)) (by (with_reducible repeat (first | refine blk_drewN ?_ _ | refine blk_drew ?_ | refine blk_alloc ?_ _)); exact BK186.out) hb); have n1_ := Aside0.mk (blk_below (g := gb188) (o := .cells #[.int .i64 ((rd_T40 l0_0 a1).f0), .slice A187_1 ((rd_T40 l0_0 a1).f1).length c187_1, .int .i64 ((rd_T40 l0_0 a1).f2.f0), .int .i64 ((rd_T40 l0_0 a1).f2.f1), .slice A187_4 ((rd_T40 l0_0 a1).f2.f2).length c187_4, .int .i64 ((rd_T40 l0_0 a1).f3)] 40 (0, 0)) (by (with_reducible repeat (first | refine blk_drewN ?_ _ | refine blk_drew ?_ | refine blk_alloc ?_ _)); exact BK188.out) hb); have n2_ := Aside0.mk (below_step (by repeat (first | (with_reducible first | exact HB.out | apply below_alloc | apply pw_below_drewN | apply below_drew1 | refine below_set ?_ GE186.out | refine below_set ?_ GE188.out) | exact HB.out)) hb); clear BK186; clear BK188; clear HB; have BK186 := n0_; have BK188 := n1_; have HB := n2_; clear n0_ n1_ n2_; (try clear hb); (try clear hb2); (try clear hk); (try clear hi)))
                      repeat (go_quiet (first | (go_at_call 37; (with_reducible refine (tidemillref05_Has.calls k2 ((rd_T40 l0_0 a1).f0) _ _ ((rd_T40 l0_0 a1).f1) ((rd_T40 l0_0 a1).f2.f0) ((rd_T40 l0_0 a1).f2.f1) _ _ ((rd_T40 l0_0 a1).f2.f2) ((rd_T40 l0_0 a1).f3) true _ ?side1 ?side2 ?side3 ?side4 A27.out).mono ?_); (case side1 => repeat (first | exact (Kd.C_below HR187_1.out HB.out) | (with_reducible refine Kd.C_alloc ?_ _) | (with_reducible refine Kd.C_drewN ?_ _) | (with_reducible refine Kd.C_drew ?_))); (case side2 => exact HC187_1.out); (case side3 => repeat (first | exact (Kd.C_below HR187_4.out HB.out) | (with_reducible refine Kd.C_alloc ?_ _) | (with_reducible refine Kd.C_drewN ?_ _) | (with_reducible refine Kd.C_drew ?_))); (case side4 => exact HC187_4.out); rintro e w38 ⟨rfl, hb⟩; have n0_ := Aside0.mk (blk_below (g := gb186) (o := .cells #[.slice (some ad187) l0_0.length c0_0, .int .i64 a0_1] 24 (0, 0)) (by (with_reducible repeat (first | refine blk_drewN ?_ _ | refine blk_drew ?_ | refine blk_alloc ?_ _)); exact BK186.out) hb); have n1_ := Aside0.mk (blk_below (g := gb188) (o := .cells #[.int .i64 ((rd_T40 l0_0 a1).f0), .slice A187_1 ((rd_T40 l0_0 a1).f1).length c187_1, .int .i64 ((rd_T40 l0_0 a1).f2.f0), .int .i64 ((rd_T40 l0_0 a1).f2.f1), .slice A187_4 ((rd_T40 l0_0 a1).f2.f2).length c187_4, .int .i64 ((rd_T40 l0_0 a1).f3)] 40 (0, 0)) (by (with_reducible repeat (first | refine blk_drewN ?_ _ | refine blk_drew ?_ | refine blk_alloc ?_ _)); exact BK188.out) hb); have n2_ := Aside0.mk (below_step (by repeat (first | (with_reducible first | exact HB.out | apply below_alloc | apply pw_below_drewN | apply below_drew1 | refine below_set ?_ GE186.out | refine below_set ?_ GE188.out) | exact HB.out)) hb); clear BK186; clear BK188; clear HB; have BK186 := n0_; have BK188 := n1_; have HB := n2_; clear n0_ n1_ n2_; (try clear hb); (try clear hb2); (try clear hk); (try clear hi); have hcz39_0 : w38.cell? ⟨gb186, 0, none⟩ = some (.slice (some ad187) l0_0.length c0_0) := (blk_cell BK186.out 0).trans rfl; have hcz39_1 : w38.cell? ⟨gb186, 1, none⟩ = some (.int .i64 a0_1) := (blk_cell BK186.out 1).trans rfl; have hfz39_0 := blk_frozen BK186.out 0; have hfz39_1 := blk_frozen BK186.out 1) | (go_at_call 38; (with_reducible refine (tidemillref05_taken.calls k2 _ _ l0_0 a0_1 a1 false _ ?side1 ?side2 A29.out).mono ?_); (case side1 => repeat (first | exact (Kd.C_below HR0_0.out HB.out) | (with_reducible refine Kd.C_alloc ?_ _) | (with_reducible refine Kd.C_drewN ?_ _) | (with_reducible refine Kd.C_drew ?_))); (case side2 => exact HC0_0.out); rintro e w40 ⟨rfl, hb⟩; have n0_ := Aside0.mk (blk_below (g := gb186) (o := .cells #[.slice (some ad187) l0_0.length c0_0, .int .i64 a0_1] 24 (0, 0)) (by (with_reducible repeat (first | refine blk_drewN ?_ _ | refine blk_drew ?_ | refine blk_alloc ?_ _)); exact BK186.out) hb); have n1_ := Aside0.mk (blk_below (g := gb188) (o := .cells #[.int .i64 ((rd_T40 l0_0 a1).f0), .slice A187_1 ((rd_T40 l0_0 a1).f1).length c187_1, .int .i64 ((rd_T40 l0_0 a1).f2.f0), .int .i64 ((rd_T40 l0_0 a1).f2.f1), .slice A187_4 ((rd_T40 l0_0 a1).f2.f2).length c187_4, .int .i64 ((rd_T40 l0_0 a1).f3)] 40 (0, 0)) (by (with_reducible repeat (first | refine blk_drewN ?_ _ | refine blk_drew ?_ | refine blk_alloc ?_ _)); exact BK188.out) hb); have n2_ := Aside0.mk (below_step (by repeat (first | (with_reducible first | exact HB.out | apply below_alloc | apply pw_below_drewN | apply below_drew1 | refine below_set ?_ GE186.out | refine below_set ?_ GE188.out) | exact HB.out)) hb); clear BK186; clear BK188; clear HB; have BK186 := n0_; have BK188 := n1_; have HB := n2_; clear n0_ n1_ n2_; (try clear hb); (try clear hb2); (try clear hk); (try clear hi))); try go_wp2_with (first | (go_at_call 37; (with_reducible refine (tidemillref05_Has.calls k2 ((rd_T40 l0_0 a1).f0) _ _ ((rd_T40 l0_0 a1).f1) ((rd_T40 l0_0 a1).f2.f0) ((rd_T40 l0_0 a1).f2.f1) _ _ ((rd_T40 l0_0 a1).f2.f2) ((rd_T40 l0_0 a1).f3) true _ ?side1 ?side2 ?side3 ?side4 A27.out).mono ?_); (case side1 => repeat (first | exact (Kd.C_below HR187_1.out HB.out) | (with_reducible refine Kd.C_alloc ?_ _) | (with_reducible refine Kd.C_drewN ?_ _) | (with_reducible refine Kd.C_drew ?_))); (case side2 => exact HC187_1.out); (case side3 => repeat (first | exact (Kd.C_below HR187_4.out HB.out) | (with_reducible refine Kd.C_alloc ?_ _) | (with_reducible refine Kd.C_drewN ?_ _) | (with_reducible refine Kd.C_drew ?_))); (case side4 => exact HC187_4.out); rintro e w38 ⟨rfl, hb⟩; have n0_ := Aside0.mk (blk_below (g := gb186) (o := .cells #[.slice (some ad187) l0_0.length c0_0, .int .i64 a0_1] 24 (0, 0)) (by (with_reducible repeat (first | refine blk_drewN ?_ _ | refine blk_drew ?_ | refine blk_alloc ?_ _)); exact BK186.out) hb); have n1_ := Aside0.mk (blk_below (g := gb188) (o := .cells #[.int .i64 ((rd_T40 l0_0 a1).f0), .slice A187_1 ((rd_T40 l0_0 a1).f1).length c187_1, .int .i64 ((rd_T40 l0_0 a1).f2.f0), .int .i64 ((rd_T40 l0_0 a1).f2.f1), .slice A187_4 ((rd_T40 l0_0 a1).f2.f2).length c187_4, .int .i64 ((rd_T40 l0_0 a1).f3)] 40 (0, 0)) (by (with_reducible repeat (first | refine blk_drewN ?_ _ | refine blk_drew ?_ | refine blk_alloc ?_ _)); exact BK188.out) hb); have n2_ := Aside0.mk (below_step (by repeat (first | (with_reducible first | exact HB.out | apply below_alloc | apply pw_below_drewN | apply below_drew1 | refine below_set ?_ GE186.out | refine below_set ?_ GE188.out) | exact HB.out)) hb); clear BK186; clear BK188; clear HB; have BK186 := n0_; have BK188 := n1_; have HB := n2_; clear n0_ n1_ n2_; (try clear hb); (try clear hb2); (try clear hk); (try clear hi); have hcz39_0 : w38.cell? ⟨gb186, 0, none⟩ = some (.slice (some ad187) l0_0.length c0_0) := (blk_cell BK186.out 0).trans rfl; have hcz39_1 : w38.cell? ⟨gb186, 1, none⟩ = some (.int .i64 a0_1) := (blk_cell BK186.out 1).trans rfl; have hfz39_0 := blk_frozen BK186.out 0; have hfz39_1 := blk_frozen BK186.out 1) | (go_at_call 38; (with_reducible refine (tidemillref05_taken.calls k2 _ _ l0_0 a0_1 a1 false _ ?side1 ?side2 A29.out).mono ?_); (case side1 => repeat (first | exact (Kd.C_below HR0_0.out HB.out) | (with_reducible refine Kd.C_alloc ?_ _) | (with_reducible refine Kd.C_drewN ?_ _) | (with_reducible refine Kd.C_drew ?_))); (case side2 => exact HC0_0.out); rintro e w40 ⟨rfl, hb⟩; have n0_ := Aside0.mk (blk_below (g := gb186) (o := .cells #[.slice (some ad187) l0_0.length c0_0, .int .i64 a0_1] 24 (0, 0)) (by (with_reducible repeat (first | refine blk_drewN ?_ _ | refine blk_drew ?_ | refine blk_alloc ?_ _)); exact BK186.out) hb); have n1_ := Aside0.mk (blk_below (g := gb188) (o := .cells #[.int .i64 ((rd_T40 l0_0 a1).f0), .slice A187_1 ((rd_T40 l0_0 a1).f1).length c187_1, .int .i64 ((rd_T40 l0_0 a1).f2.f0), .int .i64 ((rd_T40 l0_0 a1).f2.f1), .slice A187_4 ((rd_T40 l0_0 a1).f2.f2).length c187_4, .int .i64 ((rd_T40 l0_0 a1).f3)] 40 (0, 0)) (by (with_reducible repeat (first | refine blk_drewN ?_ _ | refine blk_drew ?_ | refine blk_alloc ?_ _)); exact BK188.out) hb); have n2_ := Aside0.mk (below_step (by repeat (first | (with_reducible first | exact HB.out | apply below_alloc | apply pw_below_drewN | apply below_drew1 | refine below_set ?_ GE186.out | refine below_set ?_ GE188.out) | exact HB.out)) hb); clear BK186; clear BK188; clear HB; have BK186 := n0_; have BK188 := n1_; have HB := n2_; clear n0_ n1_ n2_; (try clear hb); (try clear hb2); (try clear hk); (try clear hi))))
                      go_loopg [7] k2 (fun kq v7 w' => ∃ (x7_3 : Int), v7 = .int .i64 x7_3 ∧ Aside0 (tidemillref05_vertex.l1 kq x7_3 l0_0 a0_1 ((rd_T40 l0_0 a1).f0) ((rd_T40 l0_0 a1).f1) ((rd_T40 l0_0 a1).f2.f0) ((rd_T40 l0_0 a1).f2.f1) ((rd_T40 l0_0 a1).f2.f2) ((rd_T40 l0_0 a1).f3) = some r) ∧ Aside0 (kq ≤ k2) ∧ Aside0 (w'.heap[gb186]? = some (.cells #[(.slice (some ad187) l0_0.length c0_0), .int .i64 a0_1] 24 (0, 0))) ∧ Aside0 (w'.heap[gb188]? = some (.cells #[.int .i64 ((rd_T40 l0_0 a1).f0), (.slice A187_1 ((rd_T40 l0_0 a1).f1).length c187_1), .int .i64 ((rd_T40 l0_0 a1).f2.f0), .int .i64 ((rd_T40 l0_0 a1).f2.f1), (.slice A187_4 ((rd_T40 l0_0 a1).f2.f2).length c187_4), .int .i64 ((rd_T40 l0_0 a1).f3)] 40 (0, 0))) ∧ Aside0 (Below w.heap.size w w'))
                      case atStart => exact ⟨(0), (by first | rfl | (simp; done) | (simp [*]; done)), H', ⟨Nat.le_refl _⟩, ⟨by (with_reducible repeat (first | refine blk_drewN ?_ _ | refine blk_drew ?_ | refine blk_alloc ?_ _)); exact BK186.out⟩, ⟨by (with_reducible repeat (first | refine blk_drewN ?_ _ | refine blk_drew ?_ | refine blk_alloc ?_ _)); exact BK188.out⟩, ⟨by repeat (first | (with_reducible first | exact HB.out | apply below_alloc | apply pw_below_drewN | apply below_drew1 | refine below_set ?_ GE186.out | refine below_set ?_ GE188.out) | exact HB.out)⟩⟩
                      case round =>
                        clear H'
                        try clear c1
                        try clear p1
                        try clear q1
                        try clear hx1
                        try clear c2
                        try clear p2
                        try clear c3
                        try clear c3b0
                        try clear c4
                        try clear c4b0
                        try clear p6
                        try clear c9
                        try clear c11
                        try clear c11b0
                        try clear c12
                        try clear c14
                        try clear c16
                        try clear c17
                        try clear c17b0
                        try clear c18
                        try clear c18b0
                        try clear p18
                        try clear q18
                        try clear hx18
                        try clear c19
                        try clear c19b0
                        try clear p19
                        try clear q19
                        try clear hx19
                        try clear c20
                        try clear c21
                        try clear c22
                        try clear c22b0
                        try clear c23
                        try clear c25
                        try clear c28
                        try clear c30
                        try clear c31
                        try clear c36
                        try clear hcz10_0
                        try clear hcz10_1
                        try clear hcz10_2
                        try clear hcz10_3
                        try clear hcz10_4
                        try clear hcz10_5
                        try clear hcz13_0
                        try clear hcz13_1
                        try clear hcz13_2
                        try clear hcz13_3
                        try clear hcz13_4
                        try clear hcz13_5
                        try clear hcz15_0
                        try clear hcz15_1
                        try clear hcz15_2
                        try clear hcz15_3
                        try clear hcz15_4
                        try clear hcz15_5
                        try clear hcz21_0
                        try clear hcz21_1
                        try clear hcz21_2
                        try clear hcz21_3
                        try clear hcz21_4
                        try clear hcz21_5
                        try clear hcz24_0
                        try clear hcz24_1
                        try clear hcz24_2
                        try clear hcz24_3
                        try clear hcz24_4
                        try clear hcz24_5
                        try clear hcz26_0
                        try clear hcz26_1
                        try clear hcz26_2
                        try clear hcz26_3
                        try clear hcz26_4
                        try clear hcz26_5
                        try clear hcz32_0
                        try clear hcz32_1
                        try clear hcz32_2
                        try clear hcz32_3
                        try clear hcz32_4
                        try clear hcz32_5
                        try clear hcz34_0
                        try clear hcz34_1
                        try clear hcz37_0
                        try clear hcz37_1
                        try clear hcz37_2
                        try clear hcz37_3
                        try clear hcz37_4
                        try clear hcz37_5
                        try clear hcz39_0
                        try clear hcz39_1
                        try clear hcz7_0
                        try clear hcz7_1
                        try clear hfz10_0
                        try clear hfz10_1
                        try clear hfz10_2
                        try clear hfz10_3
                        try clear hfz10_4
                        try clear hfz10_5
                        try clear hfz13_0
                        try clear hfz13_1
                        try clear hfz13_2
                        try clear hfz13_3
                        try clear hfz13_4
                        try clear hfz13_5
                        try clear hfz15_0
                        try clear hfz15_1
                        try clear hfz15_2
                        try clear hfz15_3
                        try clear hfz15_4
                        try clear hfz15_5
                        try clear hfz21_0
                        try clear hfz21_1
                        try clear hfz21_2
                        try clear hfz21_3
                        try clear hfz21_4
                        try clear hfz21_5
                        try clear hfz24_0
                        try clear hfz24_1
                        try clear hfz24_2
                        try clear hfz24_3
                        try clear hfz24_4
                        try clear hfz24_5
                        try clear hfz26_0
                        try clear hfz26_1
                        try clear hfz26_2
                        try clear hfz26_3
                        try clear hfz26_4
                        try clear hfz26_5
                        try clear hfz32_0
                        try clear hfz32_1
                        try clear hfz32_2
                        try clear hfz32_3
                        try clear hfz32_4
                        try clear hfz32_5
                        try clear hfz34_0
                        try clear hfz34_1
                        try clear hfz37_0
                        try clear hfz37_1
                        try clear hfz37_2
                        try clear hfz37_3
                        try clear hfz37_4
                        try clear hfz37_5
                        try clear hfz39_0
                        try clear hfz39_1
                        try clear hfz7_0
                        try clear hfz7_1
                        try clear hx187_0
                        try clear hx187_1
                        try clear hx187_2
                        try clear hx187_3
                        try clear hx187_4
                        try clear hx187_5
                        try clear hx189_0
                        try clear hx190_0
                        try clear p1
                        try clear p187
                        try clear p189
                        try clear p190
                        try clear p2
                        try clear q1
                        try clear q187
                        try clear q189
                        try clear q190
                        obtain ⟨x7_3, rfl, HA, HK3, BK186, BK188, HB⟩ := hrel
                        cases gk with
                        | zero => exact absurd HA.out (by simp [tidemillref05_vertex.l1])
                        | succ k3 =>
                          have H := HA.out
                          clear HA
                          simp only [tidemillref05_vertex.l1] at H
                          by_cases c41 : x7_3 < (((rd_T40 l0_0 a1).f1).length : Int)
                          · rw [if_pos c41] at H
                            have c41b0 : decide (x7_3 < (((rd_T40 l0_0 a1).f1).length : Int)) = true := decide_eq_true c41
                            clear c41
                            by_cases c42 : 0 ≤ x7_3
                            · rw [if_pos c42] at H
                              have c42b0 : decide (0 ≤ x7_3) = true := decide_eq_true c42
                              clear c42
                              by_cases c43 : 0 ≤ (rd ((rd_T40 l0_0 a1).f1) x7_3)
                              · rw [if_pos c43] at H
                                have c43b0 : decide (0 ≤ (rd ((rd_T40 l0_0 a1).f1) x7_3)) = true := decide_eq_true c43
                                clear c43
                                by_cases c44 : (rd ((rd_T40 l0_0 a1).f1) x7_3) < (l0_0.length : Int)
                                · rw [if_pos c44] at H
                                  have c44b0 : decide ((rd ((rd_T40 l0_0 a1).f1) x7_3) < (l0_0.length : Int)) = true := decide_eq_true c44
                                  clear c44
                                  by_cases c45 : ((rd_T40 l0_0 (rd ((rd_T40 l0_0 a1).f1) x7_3)).f0) = 10
                                  · rw [if_pos c45] at H
                                    have c45b0 : (((rd_T40 l0_0 (rd ((rd_T40 l0_0 a1).f1) x7_3)).f0) == 10) = true := beq_iff_eq.mpr c45
                                    have c45b1 : (((rd_T40 l0_0 (rd ((rd_T40 l0_0 a1).f1) x7_3)).f0) != 10) = false := bne_eq_false_iff_eq.mpr c45
                                    clear c45
                                    obtain rfl := Option.some.inj H
                                    have hnb46 := NB188_186.out
                                    have hnc46 := NB186_188.out
                                    have hcz47_0 : wr.cell? ⟨gb188, 0, none⟩ = some (.int .i64 ((rd_T40 l0_0 a1).f0)) := (blk_cell BK188.out 0).trans rfl
                                    have hcz47_1 : wr.cell? ⟨gb188, 1, none⟩ = some (.slice A187_1 ((rd_T40 l0_0 a1).f1).length c187_1) := (blk_cell BK188.out 1).trans rfl
                                    have hcz47_2 : wr.cell? ⟨gb188, 2, none⟩ = some (.int .i64 ((rd_T40 l0_0 a1).f2.f0)) := (blk_cell BK188.out 2).trans rfl
                                    have hcz47_3 : wr.cell? ⟨gb188, 3, none⟩ = some (.int .i64 ((rd_T40 l0_0 a1).f2.f1)) := (blk_cell BK188.out 3).trans rfl
                                    have hcz47_4 : wr.cell? ⟨gb188, 4, none⟩ = some (.slice A187_4 ((rd_T40 l0_0 a1).f2.f2).length c187_4) := (blk_cell BK188.out 4).trans rfl
                                    have hcz47_5 : wr.cell? ⟨gb188, 5, none⟩ = some (.int .i64 ((rd_T40 l0_0 a1).f3)) := (blk_cell BK188.out 5).trans rfl
                                    have hfz47_0 := blk_frozen BK188.out 0
                                    have hfz47_1 := blk_frozen BK188.out 1
                                    have hfz47_2 := blk_frozen BK188.out 2
                                    have hfz47_3 := blk_frozen BK188.out 3
                                    have hfz47_4 := blk_frozen BK188.out 4
                                    have hfz47_5 := blk_frozen BK188.out 5
                                    have hcz48_0 : wr.cell? ⟨gb186, 0, none⟩ = some (.slice (some ad187) l0_0.length c0_0) := (blk_cell BK186.out 0).trans rfl
                                    have hcz48_1 : wr.cell? ⟨gb186, 1, none⟩ = some (.int .i64 a0_1) := (blk_cell BK186.out 1).trans rfl
                                    have hfz48_0 := blk_frozen BK186.out 0
                                    have hfz48_1 := blk_frozen BK186.out 1
                                    have p193 : 0 ≤ (x7_3 : Int) := of_decide_eq_true (by first | (with_reducible assumption) | assumption)
                                    have q193 : x7_3 < (((rd_T40 l0_0 a1).f1).length : Int) := of_decide_eq_true (by first | (with_reducible assumption) | assumption)
                                    obtain ⟨ad193, e193, hx193_0⟩ := Kd.at_int HR187_1.out x7_3 p193 q193
                                    cases e193
                                    replace hx193_0 := (HB.out.cell (World.block_lt_of_cell? w _ hx193_0)).trans hx193_0
                                    replace p193 := eq_true p193
                                    replace q193 := eq_true q193
                                    have p194 : 0 ≤ ((rd ((rd_T40 l0_0 a1).f1) x7_3) : Int) := of_decide_eq_true (by first | (with_reducible assumption) | assumption)
                                    have q194 : (rd ((rd_T40 l0_0 a1).f1) x7_3) < (l0_0.length : Int) := of_decide_eq_true (by first | (with_reducible assumption) | assumption)
                                    obtain ⟨ad194, A194_1, c194_1, A194_4, c194_4, e194, hx194_0, hx194_1, hx194_2, hx194_3, hx194_4, hx194_5, hl194_1, hi194_1, hl194_4, hi194_4⟩ := at_T40 HR0_0.out (rd ((rd_T40 l0_0 a1).f1) x7_3) p194 q194
                                    obtain rfl : ad187 = ad194 := (by injection e194)
                                    replace hx194_0 := (HB.out.cell (World.block_lt_of_cell? w _ hx194_0)).trans hx194_0
                                    replace hx194_1 := (HB.out.cell (World.block_lt_of_cell? w _ hx194_1)).trans hx194_1
                                    replace hx194_2 := (HB.out.cell (World.block_lt_of_cell? w _ hx194_2)).trans hx194_2
                                    replace hx194_3 := (HB.out.cell (World.block_lt_of_cell? w _ hx194_3)).trans hx194_3
                                    replace hx194_4 := (HB.out.cell (World.block_lt_of_cell? w _ hx194_4)).trans hx194_4
                                    replace hx194_5 := (HB.out.cell (World.block_lt_of_cell? w _ hx194_5)).trans hx194_5
                                    have HR194_1 := Aside0.mk hi194_1
                                    have HC194_1 := Aside0.mk hl194_1
                                    clear hi194_1 hl194_1
                                    have HR194_4 := Aside0.mk hi194_4
                                    have HC194_4 := Aside0.mk hl194_4
                                    clear hi194_4 hl194_4
                                    replace p194 := eq_true p194
                                    replace q194 := eq_true q194
                                    go_wp2
                                    repeat (go_quiet (fail); try go_wp2)
                                    go_ret
                                    exact ⟨by first | rfl | (simp [errW_none, errW_some] <;> rfl) | (simp [*, errW_none, errW_some] <;> rfl), by repeat (first | (with_reducible first | exact HB.out | apply below_alloc | apply pw_below_drewN | apply below_drew1 | refine below_set ?_ GE186.out | refine below_set ?_ GE188.out) | exact HB.out)⟩
                                  · rw [if_neg c45] at H
                                    have c45b0 : (((rd_T40 l0_0 (rd ((rd_T40 l0_0 a1).f1) x7_3)).f0) == 10) = false := beq_eq_false_iff_ne.mpr c45
                                    have c45b1 : (((rd_T40 l0_0 (rd ((rd_T40 l0_0 a1).f1) x7_3)).f0) != 10) = true := bne_iff_ne.mpr c45
                                    have H' := Aside0.mk H
                                    clear H
                                    have hnb49 := NB188_186.out
                                    have hnc49 := NB186_188.out
                                    have hcz50_0 : wr.cell? ⟨gb188, 0, none⟩ = some (.int .i64 ((rd_T40 l0_0 a1).f0)) := (blk_cell BK188.out 0).trans rfl
                                    have hcz50_1 : wr.cell? ⟨gb188, 1, none⟩ = some (.slice A187_1 ((rd_T40 l0_0 a1).f1).length c187_1) := (blk_cell BK188.out 1).trans rfl
                                    have hcz50_2 : wr.cell? ⟨gb188, 2, none⟩ = some (.int .i64 ((rd_T40 l0_0 a1).f2.f0)) := (blk_cell BK188.out 2).trans rfl
                                    have hcz50_3 : wr.cell? ⟨gb188, 3, none⟩ = some (.int .i64 ((rd_T40 l0_0 a1).f2.f1)) := (blk_cell BK188.out 3).trans rfl
                                    have hcz50_4 : wr.cell? ⟨gb188, 4, none⟩ = some (.slice A187_4 ((rd_T40 l0_0 a1).f2.f2).length c187_4) := (blk_cell BK188.out 4).trans rfl
                                    have hcz50_5 : wr.cell? ⟨gb188, 5, none⟩ = some (.int .i64 ((rd_T40 l0_0 a1).f3)) := (blk_cell BK188.out 5).trans rfl
                                    have hfz50_0 := blk_frozen BK188.out 0
                                    have hfz50_1 := blk_frozen BK188.out 1
                                    have hfz50_2 := blk_frozen BK188.out 2
                                    have hfz50_3 := blk_frozen BK188.out 3
                                    have hfz50_4 := blk_frozen BK188.out 4
                                    have hfz50_5 := blk_frozen BK188.out 5
                                    have hcz51_0 : wr.cell? ⟨gb186, 0, none⟩ = some (.slice (some ad187) l0_0.length c0_0) := (blk_cell BK186.out 0).trans rfl
                                    have hcz51_1 : wr.cell? ⟨gb186, 1, none⟩ = some (.int .i64 a0_1) := (blk_cell BK186.out 1).trans rfl
                                    have hfz51_0 := blk_frozen BK186.out 0
                                    have hfz51_1 := blk_frozen BK186.out 1
                                    have p193 : 0 ≤ (x7_3 : Int) := of_decide_eq_true (by first | (with_reducible assumption) | assumption)
                                    have q193 : x7_3 < (((rd_T40 l0_0 a1).f1).length : Int) := of_decide_eq_true (by first | (with_reducible assumption) | assumption)
                                    obtain ⟨ad193, e193, hx193_0⟩ := Kd.at_int HR187_1.out x7_3 p193 q193
                                    cases e193
                                    replace hx193_0 := (HB.out.cell (World.block_lt_of_cell? w _ hx193_0)).trans hx193_0
                                    replace p193 := eq_true p193
                                    replace q193 := eq_true q193
                                    have p194 : 0 ≤ ((rd ((rd_T40 l0_0 a1).f1) x7_3) : Int) := of_decide_eq_true (by first | (with_reducible assumption) | assumption)
                                    have q194 : (rd ((rd_T40 l0_0 a1).f1) x7_3) < (l0_0.length : Int) := of_decide_eq_true (by first | (with_reducible assumption) | assumption)
                                    obtain ⟨ad194, A194_1, c194_1, A194_4, c194_4, e194, hx194_0, hx194_1, hx194_2, hx194_3, hx194_4, hx194_5, hl194_1, hi194_1, hl194_4, hi194_4⟩ := at_T40 HR0_0.out (rd ((rd_T40 l0_0 a1).f1) x7_3) p194 q194
                                    obtain rfl : ad187 = ad194 := (by injection e194)
                                    replace hx194_0 := (HB.out.cell (World.block_lt_of_cell? w _ hx194_0)).trans hx194_0
                                    replace hx194_1 := (HB.out.cell (World.block_lt_of_cell? w _ hx194_1)).trans hx194_1
                                    replace hx194_2 := (HB.out.cell (World.block_lt_of_cell? w _ hx194_2)).trans hx194_2
                                    replace hx194_3 := (HB.out.cell (World.block_lt_of_cell? w _ hx194_3)).trans hx194_3
                                    replace hx194_4 := (HB.out.cell (World.block_lt_of_cell? w _ hx194_4)).trans hx194_4
                                    replace hx194_5 := (HB.out.cell (World.block_lt_of_cell? w _ hx194_5)).trans hx194_5
                                    have HR194_1 := Aside0.mk hi194_1
                                    have HC194_1 := Aside0.mk hl194_1
                                    clear hi194_1 hl194_1
                                    have HR194_4 := Aside0.mk hi194_4
                                    have HC194_4 := Aside0.mk hl194_4
                                    clear hi194_4 hl194_4
                                    replace p194 := eq_true p194
                                    replace q194 := eq_true q194
                                    go_wp2
                                    repeat (go_quiet (fail); try go_wp2)
                                    go_roundg k3
                                    case measure => have := HJ4.out; have := HK2.out; have := HK3.out; omega
                                    case rel => exact ⟨(wrap64 (x7_3 + 1)), (by first | rfl | (simp; done) | (simp [*]; done)), H', ⟨by have := HJ4.out; have := HK2.out; have := HK3.out; omega⟩, ⟨by (with_reducible repeat (first | refine blk_drewN ?_ _ | refine blk_drew ?_ | refine blk_alloc ?_ _)); exact BK186.out⟩, ⟨by (with_reducible repeat (first | refine blk_drewN ?_ _ | refine blk_drew ?_ | refine blk_alloc ?_ _)); exact BK188.out⟩, ⟨by repeat (first | (with_reducible first | exact HB.out | apply below_alloc | apply pw_below_drewN | apply below_drew1 | refine below_set ?_ GE186.out | refine below_set ?_ GE188.out) | exact HB.out)⟩⟩
                                · rw [if_neg c44] at H
                                  exact absurd H (by simp)
                              · rw [if_neg c43] at H
                                exact absurd H (by simp)
                            · rw [if_neg c42] at H
                              exact absurd H (by simp)
                          · rw [if_neg c41] at H
                            have c41b0 : decide (x7_3 < (((rd_T40 l0_0 a1).f1).length : Int)) = false := decide_eq_false c41
                            clear c41
                            by_cases c52 : ((rd_T40 l0_0 a1).f0) = 9
                            · rw [if_pos c52] at H
                              have c52b0 : (((rd_T40 l0_0 a1).f0) == 9) = true := beq_iff_eq.mpr c52
                              have c52b1 : (((rd_T40 l0_0 a1).f0) != 9) = false := bne_eq_false_iff_eq.mpr c52
                              clear c52
                              by_cases c53 : 1 < (((rd_T40 l0_0 a1).f1).length : Int)
                              · rw [if_pos c53] at H
                                have c53b0 : decide (1 < (((rd_T40 l0_0 a1).f1).length : Int)) = true := decide_eq_true c53
                                have c53b1 : decide (1 < ((rd_T40 l0_0 a1).f1).length) = true := decide_eq_true (by omega)
                                clear c53
                                by_cases c54 : 0 ≤ (rd ((rd_T40 l0_0 a1).f1) 1)
                                · rw [if_pos c54] at H
                                  have c54b0 : decide (0 ≤ (rd ((rd_T40 l0_0 a1).f1) 1)) = true := decide_eq_true c54
                                  clear c54
                                  by_cases c55 : (rd ((rd_T40 l0_0 a1).f1) 1) < (l0_0.length : Int)
                                  · rw [if_pos c55] at H
                                    have c55b0 : decide ((rd ((rd_T40 l0_0 a1).f1) 1) < (l0_0.length : Int)) = true := decide_eq_true c55
                                    clear c55
                                    by_cases c56 : ((rd_T40 l0_0 (rd ((rd_T40 l0_0 a1).f1) 1)).f0) = 6
                                    · rw [if_pos c56] at H
                                      have c56b0 : (((rd_T40 l0_0 (rd ((rd_T40 l0_0 a1).f1) 1)).f0) == 6) = true := beq_iff_eq.mpr c56
                                      have c56b1 : (((rd_T40 l0_0 (rd ((rd_T40 l0_0 a1).f1) 1)).f0) != 6) = false := bne_eq_false_iff_eq.mpr c56
                                      clear c56
                                      obtain rfl := Option.some.inj H
                                      have hnb57 := NB188_186.out
                                      have hnc57 := NB186_188.out
                                      have hcz58_0 : wr.cell? ⟨gb188, 0, none⟩ = some (.int .i64 ((rd_T40 l0_0 a1).f0)) := (blk_cell BK188.out 0).trans rfl
                                      have hcz58_1 : wr.cell? ⟨gb188, 1, none⟩ = some (.slice A187_1 ((rd_T40 l0_0 a1).f1).length c187_1) := (blk_cell BK188.out 1).trans rfl
                                      have hcz58_2 : wr.cell? ⟨gb188, 2, none⟩ = some (.int .i64 ((rd_T40 l0_0 a1).f2.f0)) := (blk_cell BK188.out 2).trans rfl
                                      have hcz58_3 : wr.cell? ⟨gb188, 3, none⟩ = some (.int .i64 ((rd_T40 l0_0 a1).f2.f1)) := (blk_cell BK188.out 3).trans rfl
                                      have hcz58_4 : wr.cell? ⟨gb188, 4, none⟩ = some (.slice A187_4 ((rd_T40 l0_0 a1).f2.f2).length c187_4) := (blk_cell BK188.out 4).trans rfl
                                      have hcz58_5 : wr.cell? ⟨gb188, 5, none⟩ = some (.int .i64 ((rd_T40 l0_0 a1).f3)) := (blk_cell BK188.out 5).trans rfl
                                      have hfz58_0 := blk_frozen BK188.out 0
                                      have hfz58_1 := blk_frozen BK188.out 1
                                      have hfz58_2 := blk_frozen BK188.out 2
                                      have hfz58_3 := blk_frozen BK188.out 3
                                      have hfz58_4 := blk_frozen BK188.out 4
                                      have hfz58_5 := blk_frozen BK188.out 5
                                      have hcz59_0 : wr.cell? ⟨gb186, 0, none⟩ = some (.slice (some ad187) l0_0.length c0_0) := (blk_cell BK186.out 0).trans rfl
                                      have hcz59_1 : wr.cell? ⟨gb186, 1, none⟩ = some (.int .i64 a0_1) := (blk_cell BK186.out 1).trans rfl
                                      have hfz59_0 := blk_frozen BK186.out 0
                                      have hfz59_1 := blk_frozen BK186.out 1
                                      have p195 : 0 ≤ (1 : Int) := (by omega)
                                      have q195 : 1 < (((rd_T40 l0_0 a1).f1).length : Int) := of_decide_eq_true (by first | (with_reducible assumption) | assumption)
                                      obtain ⟨ad195, e195, hx195_0⟩ := Kd.at_int HR187_1.out 1 p195 q195
                                      cases e195
                                      (try simp only [show (1 : Int).toNat = 1 from rfl, Nat.reduceMul, Nat.reduceEqDiff, Go.Addr.add, ↓reduceIte] at hx195_0)
                                      have qi195 : (1 < ((rd_T40 l0_0 a1).f1).length) = True := eq_true (by omega)
                                      (try rw [show ((1 : Int)).toNat = 1 from rfl] at hx195_0)
                                      replace hx195_0 := (HB.out.cell (World.block_lt_of_cell? w _ hx195_0)).trans hx195_0
                                      replace p195 := eq_true p195
                                      replace q195 := eq_true q195
                                      have p196 : 0 ≤ ((rd ((rd_T40 l0_0 a1).f1) 1) : Int) := of_decide_eq_true (by first | (with_reducible assumption) | assumption)
                                      have q196 : (rd ((rd_T40 l0_0 a1).f1) 1) < (l0_0.length : Int) := of_decide_eq_true (by first | (with_reducible assumption) | assumption)
                                      obtain ⟨ad196, A196_1, c196_1, A196_4, c196_4, e196, hx196_0, hx196_1, hx196_2, hx196_3, hx196_4, hx196_5, hl196_1, hi196_1, hl196_4, hi196_4⟩ := at_T40 HR0_0.out (rd ((rd_T40 l0_0 a1).f1) 1) p196 q196
                                      obtain rfl : ad187 = ad196 := (by injection e196)
                                      replace hx196_0 := (HB.out.cell (World.block_lt_of_cell? w _ hx196_0)).trans hx196_0
                                      replace hx196_1 := (HB.out.cell (World.block_lt_of_cell? w _ hx196_1)).trans hx196_1
                                      replace hx196_2 := (HB.out.cell (World.block_lt_of_cell? w _ hx196_2)).trans hx196_2
                                      replace hx196_3 := (HB.out.cell (World.block_lt_of_cell? w _ hx196_3)).trans hx196_3
                                      replace hx196_4 := (HB.out.cell (World.block_lt_of_cell? w _ hx196_4)).trans hx196_4
                                      replace hx196_5 := (HB.out.cell (World.block_lt_of_cell? w _ hx196_5)).trans hx196_5
                                      have HR196_1 := Aside0.mk hi196_1
                                      have HC196_1 := Aside0.mk hl196_1
                                      clear hi196_1 hl196_1
                                      have HR196_4 := Aside0.mk hi196_4
                                      have HC196_4 := Aside0.mk hl196_4
                                      clear hi196_4 hl196_4
                                      replace p196 := eq_true p196
                                      replace q196 := eq_true q196
                                      go_wp2
                                      repeat (go_quiet (fail); try go_wp2)
                                      go_ret
                                      exact ⟨by first | rfl | (simp [errW_none, errW_some] <;> rfl) | (simp [*, errW_none, errW_some] <;> rfl), by repeat (first | (with_reducible first | exact HB.out | apply below_alloc | apply pw_below_drewN | apply below_drew1 | refine below_set ?_ GE186.out | refine below_set ?_ GE188.out) | exact HB.out)⟩
                                    · rw [if_neg c56] at H
                                      have c56b0 : (((rd_T40 l0_0 (rd ((rd_T40 l0_0 a1).f1) 1)).f0) == 6) = false := beq_eq_false_iff_ne.mpr c56
                                      have c56b1 : (((rd_T40 l0_0 (rd ((rd_T40 l0_0 a1).f1) 1)).f0) != 6) = true := bne_iff_ne.mpr c56
                                      obtain rfl := Option.some.inj H
                                      have hnb60 := NB188_186.out
                                      have hnc60 := NB186_188.out
                                      have hcz61_0 : wr.cell? ⟨gb188, 0, none⟩ = some (.int .i64 ((rd_T40 l0_0 a1).f0)) := (blk_cell BK188.out 0).trans rfl
                                      have hcz61_1 : wr.cell? ⟨gb188, 1, none⟩ = some (.slice A187_1 ((rd_T40 l0_0 a1).f1).length c187_1) := (blk_cell BK188.out 1).trans rfl
                                      have hcz61_2 : wr.cell? ⟨gb188, 2, none⟩ = some (.int .i64 ((rd_T40 l0_0 a1).f2.f0)) := (blk_cell BK188.out 2).trans rfl
                                      have hcz61_3 : wr.cell? ⟨gb188, 3, none⟩ = some (.int .i64 ((rd_T40 l0_0 a1).f2.f1)) := (blk_cell BK188.out 3).trans rfl
                                      have hcz61_4 : wr.cell? ⟨gb188, 4, none⟩ = some (.slice A187_4 ((rd_T40 l0_0 a1).f2.f2).length c187_4) := (blk_cell BK188.out 4).trans rfl
                                      have hcz61_5 : wr.cell? ⟨gb188, 5, none⟩ = some (.int .i64 ((rd_T40 l0_0 a1).f3)) := (blk_cell BK188.out 5).trans rfl
                                      have hfz61_0 := blk_frozen BK188.out 0
                                      have hfz61_1 := blk_frozen BK188.out 1
                                      have hfz61_2 := blk_frozen BK188.out 2
                                      have hfz61_3 := blk_frozen BK188.out 3
                                      have hfz61_4 := blk_frozen BK188.out 4
                                      have hfz61_5 := blk_frozen BK188.out 5
                                      have hcz62_0 : wr.cell? ⟨gb186, 0, none⟩ = some (.slice (some ad187) l0_0.length c0_0) := (blk_cell BK186.out 0).trans rfl
                                      have hcz62_1 : wr.cell? ⟨gb186, 1, none⟩ = some (.int .i64 a0_1) := (blk_cell BK186.out 1).trans rfl
                                      have hfz62_0 := blk_frozen BK186.out 0
                                      have hfz62_1 := blk_frozen BK186.out 1
                                      have p195 : 0 ≤ (1 : Int) := (by omega)
                                      have q195 : 1 < (((rd_T40 l0_0 a1).f1).length : Int) := of_decide_eq_true (by first | (with_reducible assumption) | assumption)
                                      obtain ⟨ad195, e195, hx195_0⟩ := Kd.at_int HR187_1.out 1 p195 q195
                                      cases e195
                                      (try simp only [show (1 : Int).toNat = 1 from rfl, Nat.reduceMul, Nat.reduceEqDiff, Go.Addr.add, ↓reduceIte] at hx195_0)
                                      have qi195 : (1 < ((rd_T40 l0_0 a1).f1).length) = True := eq_true (by omega)
                                      (try rw [show ((1 : Int)).toNat = 1 from rfl] at hx195_0)
                                      replace hx195_0 := (HB.out.cell (World.block_lt_of_cell? w _ hx195_0)).trans hx195_0
                                      replace p195 := eq_true p195
                                      replace q195 := eq_true q195
                                      have p196 : 0 ≤ ((rd ((rd_T40 l0_0 a1).f1) 1) : Int) := of_decide_eq_true (by first | (with_reducible assumption) | assumption)
                                      have q196 : (rd ((rd_T40 l0_0 a1).f1) 1) < (l0_0.length : Int) := of_decide_eq_true (by first | (with_reducible assumption) | assumption)
                                      obtain ⟨ad196, A196_1, c196_1, A196_4, c196_4, e196, hx196_0, hx196_1, hx196_2, hx196_3, hx196_4, hx196_5, hl196_1, hi196_1, hl196_4, hi196_4⟩ := at_T40 HR0_0.out (rd ((rd_T40 l0_0 a1).f1) 1) p196 q196
                                      obtain rfl : ad187 = ad196 := (by injection e196)
                                      replace hx196_0 := (HB.out.cell (World.block_lt_of_cell? w _ hx196_0)).trans hx196_0
                                      replace hx196_1 := (HB.out.cell (World.block_lt_of_cell? w _ hx196_1)).trans hx196_1
                                      replace hx196_2 := (HB.out.cell (World.block_lt_of_cell? w _ hx196_2)).trans hx196_2
                                      replace hx196_3 := (HB.out.cell (World.block_lt_of_cell? w _ hx196_3)).trans hx196_3
                                      replace hx196_4 := (HB.out.cell (World.block_lt_of_cell? w _ hx196_4)).trans hx196_4
                                      replace hx196_5 := (HB.out.cell (World.block_lt_of_cell? w _ hx196_5)).trans hx196_5
                                      have HR196_1 := Aside0.mk hi196_1
                                      have HC196_1 := Aside0.mk hl196_1
                                      clear hi196_1 hl196_1
                                      have HR196_4 := Aside0.mk hi196_4
                                      have HC196_4 := Aside0.mk hl196_4
                                      clear hi196_4 hl196_4
                                      replace p196 := eq_true p196
                                      replace q196 := eq_true q196
                                      go_wp2
                                      repeat (go_quiet (fail); try go_wp2)
                                      go_ret
                                      exact ⟨by first | rfl | (simp [errW_none, errW_some] <;> rfl) | (simp [*, errW_none, errW_some] <;> rfl), by repeat (first | (with_reducible first | exact HB.out | apply below_alloc | apply pw_below_drewN | apply below_drew1 | refine below_set ?_ GE186.out | refine below_set ?_ GE188.out) | exact HB.out)⟩
                                  · rw [if_neg c55] at H
                                    exact absurd H (by simp)
                                · rw [if_neg c54] at H
                                  exact absurd H (by simp)
                              · rw [if_neg c53] at H
                                exact absurd H (by simp)
                            · rw [if_neg c52] at H
                              have c52b0 : (((rd_T40 l0_0 a1).f0) == 9) = false := beq_eq_false_iff_ne.mpr c52
                              have c52b1 : (((rd_T40 l0_0 a1).f0) != 9) = true := bne_iff_ne.mpr c52
                              obtain rfl := Option.some.inj H
                              have hnb63 := NB188_186.out
                              have hnc63 := NB186_188.out
                              have hcz64_0 : wr.cell? ⟨gb188, 0, none⟩ = some (.int .i64 ((rd_T40 l0_0 a1).f0)) := (blk_cell BK188.out 0).trans rfl
                              have hcz64_1 : wr.cell? ⟨gb188, 1, none⟩ = some (.slice A187_1 ((rd_T40 l0_0 a1).f1).length c187_1) := (blk_cell BK188.out 1).trans rfl
                              have hcz64_2 : wr.cell? ⟨gb188, 2, none⟩ = some (.int .i64 ((rd_T40 l0_0 a1).f2.f0)) := (blk_cell BK188.out 2).trans rfl
                              have hcz64_3 : wr.cell? ⟨gb188, 3, none⟩ = some (.int .i64 ((rd_T40 l0_0 a1).f2.f1)) := (blk_cell BK188.out 3).trans rfl
                              have hcz64_4 : wr.cell? ⟨gb188, 4, none⟩ = some (.slice A187_4 ((rd_T40 l0_0 a1).f2.f2).length c187_4) := (blk_cell BK188.out 4).trans rfl
                              have hcz64_5 : wr.cell? ⟨gb188, 5, none⟩ = some (.int .i64 ((rd_T40 l0_0 a1).f3)) := (blk_cell BK188.out 5).trans rfl
                              have hfz64_0 := blk_frozen BK188.out 0
                              have hfz64_1 := blk_frozen BK188.out 1
                              have hfz64_2 := blk_frozen BK188.out 2
                              have hfz64_3 := blk_frozen BK188.out 3
                              have hfz64_4 := blk_frozen BK188.out 4
                              have hfz64_5 := blk_frozen BK188.out 5
                              go_wp2
                              repeat (go_quiet (fail); try go_wp2)
                              go_ret
                              exact ⟨by first | rfl | (simp [errW_none, errW_some] <;> rfl) | (simp [*, errW_none, errW_some] <;> rfl), by repeat (first | (with_reducible first | exact HB.out | apply below_alloc | apply pw_below_drewN | apply below_drew1 | refine below_set ?_ GE186.out | refine below_set ?_ GE188.out) | exact HB.out)⟩
                  · replace c28 := Bool.eq_false_iff.mpr c28
                    subst c28
                    have H1 : (some 5) = some r := by rw [if_neg (show ¬ (false = true) by decide)] at H; exact H
                    clear H
                    have H := H1
                    clear H1
                    obtain rfl := Option.some.inj H
                    have hnb65 := NB188_186.out
                    have hnc65 := NB186_188.out
                    have hcz66_0 : wr.cell? ⟨gb188, 0, none⟩ = some (.int .i64 ((rd_T40 l0_0 a1).f0)) := (blk_cell BK188.out 0).trans rfl
                    have hcz66_1 : wr.cell? ⟨gb188, 1, none⟩ = some (.slice A187_1 ((rd_T40 l0_0 a1).f1).length c187_1) := (blk_cell BK188.out 1).trans rfl
                    have hcz66_2 : wr.cell? ⟨gb188, 2, none⟩ = some (.int .i64 ((rd_T40 l0_0 a1).f2.f0)) := (blk_cell BK188.out 2).trans rfl
                    have hcz66_3 : wr.cell? ⟨gb188, 3, none⟩ = some (.int .i64 ((rd_T40 l0_0 a1).f2.f1)) := (blk_cell BK188.out 3).trans rfl
                    have hcz66_4 : wr.cell? ⟨gb188, 4, none⟩ = some (.slice A187_4 ((rd_T40 l0_0 a1).f2.f2).length c187_4) := (blk_cell BK188.out 4).trans rfl
                    have hcz66_5 : wr.cell? ⟨gb188, 5, none⟩ = some (.int .i64 ((rd_T40 l0_0 a1).f3)) := (blk_cell BK188.out 5).trans rfl
                    have hfz66_0 := blk_frozen BK188.out 0
                    have hfz66_1 := blk_frozen BK188.out 1
                    have hfz66_2 := blk_frozen BK188.out 2
                    have hfz66_3 := blk_frozen BK188.out 3
                    have hfz66_4 := blk_frozen BK188.out 4
                    have hfz66_5 := blk_frozen BK188.out 5
                    go_wp2_with (first | (go_at_call 37; (with_reducible refine (tidemillref05_Has.calls k2 ((rd_T40 l0_0 a1).f0) _ _ ((rd_T40 l0_0 a1).f1) ((rd_T40 l0_0 a1).f2.f0) ((rd_T40 l0_0 a1).f2.f1) _ _ ((rd_T40 l0_0 a1).f2.f2) ((rd_T40 l0_0 a1).f3) false _ ?side1 ?side2 ?side3 ?side4 A27.out).mono ?_); (case side1 => repeat (first | exact (Kd.C_below HR187_1.out HB.out) | (with_reducible refine Kd.C_alloc ?_ _) | (with_reducible refine Kd.C_drewN ?_ _) | (with_reducible refine Kd.C_drew ?_))); (case side2 => exact HC187_1.out); (case side3 => repeat (first | exact (Kd.C_below HR187_4.out HB.out) | (with_reducible refine Kd.C_alloc ?_ _) | (with_reducible refine Kd.C_drewN ?_ _) | (with_reducible refine Kd.C_drew ?_))); (case side4 => exact HC187_4.out); rintro e w67 ⟨rfl, hb⟩; have n0_ := Aside0.mk (blk_below (g := gb186) (o := .cells #[.slice (some ad187) l0_0.length c0_0, .int .i64 a0_1] 24 (0, 0)) (by (with_reducible repeat (first | refine blk_drewN ?_ _ | refine blk_drew ?_ | refine blk_alloc ?_ _)); exact BK186.out) hb); have n1_ := Aside0.mk (blk_below (g := gb188) (o := .cells #[.int .i64 ((rd_T40 l0_0 a1).f0), .slice A187_1 ((rd_T40 l0_0 a1).f1).length c187_1, .int .i64 ((rd_T40 l0_0 a1).f2.f0), .int .i64 ((rd_T40 l0_0 a1).f2.f1), .slice A187_4 ((rd_T40 l0_0 a1).f2.f2).length c187_4, .int .i64 ((rd_T40 l0_0 a1).f3)] 40 (0, 0)) (by (with_reducible repeat (first | refine blk_drewN ?_ _ | refine blk_drew ?_ | refine blk_alloc ?_ _)); exact BK188.out) hb); have n2_ := Aside0.mk (below_step (by repeat (first | (with_reducible first | exact HB.out | apply below_alloc | apply pw_below_drewN | apply below_drew1 | refine below_set ?_ GE186.out | refine below_set ?_ GE188.out) | exact HB.out)) hb); clear BK186; clear BK188; clear HB; have BK186 := n0_; have BK188 := n1_; have HB := n2_; clear n0_ n1_ n2_; (try clear hb); (try clear hb2); (try clear hk); (try clear hi)))
                    repeat (go_quiet (first | (go_at_call 37; (with_reducible refine (tidemillref05_Has.calls k2 ((rd_T40 l0_0 a1).f0) _ _ ((rd_T40 l0_0 a1).f1) ((rd_T40 l0_0 a1).f2.f0) ((rd_T40 l0_0 a1).f2.f1) _ _ ((rd_T40 l0_0 a1).f2.f2) ((rd_T40 l0_0 a1).f3) false _ ?side1 ?side2 ?side3 ?side4 A27.out).mono ?_); (case side1 => repeat (first | exact (Kd.C_below HR187_1.out HB.out) | (with_reducible refine Kd.C_alloc ?_ _) | (with_reducible refine Kd.C_drewN ?_ _) | (with_reducible refine Kd.C_drew ?_))); (case side2 => exact HC187_1.out); (case side3 => repeat (first | exact (Kd.C_below HR187_4.out HB.out) | (with_reducible refine Kd.C_alloc ?_ _) | (with_reducible refine Kd.C_drewN ?_ _) | (with_reducible refine Kd.C_drew ?_))); (case side4 => exact HC187_4.out); rintro e w67 ⟨rfl, hb⟩; have n0_ := Aside0.mk (blk_below (g := gb186) (o := .cells #[.slice (some ad187) l0_0.length c0_0, .int .i64 a0_1] 24 (0, 0)) (by (with_reducible repeat (first | refine blk_drewN ?_ _ | refine blk_drew ?_ | refine blk_alloc ?_ _)); exact BK186.out) hb); have n1_ := Aside0.mk (blk_below (g := gb188) (o := .cells #[.int .i64 ((rd_T40 l0_0 a1).f0), .slice A187_1 ((rd_T40 l0_0 a1).f1).length c187_1, .int .i64 ((rd_T40 l0_0 a1).f2.f0), .int .i64 ((rd_T40 l0_0 a1).f2.f1), .slice A187_4 ((rd_T40 l0_0 a1).f2.f2).length c187_4, .int .i64 ((rd_T40 l0_0 a1).f3)] 40 (0, 0)) (by (with_reducible repeat (first | refine blk_drewN ?_ _ | refine blk_drew ?_ | refine blk_alloc ?_ _)); exact BK188.out) hb); have n2_ := Aside0.mk (below_step (by repeat (first | (with_reducible first | exact HB.out | apply below_alloc | apply pw_below_drewN | apply below_drew1 | refine below_set ?_ GE186.out | refine below_set ?_ GE188.out) | exact HB.out)) hb); clear BK186; clear BK188; clear HB; have BK186 := n0_; have BK188 := n1_; have HB := n2_; clear n0_ n1_ n2_; (try clear hb); (try clear hb2); (try clear hk); (try clear hi))); try go_wp2_with (first | (go_at_call 37; (with_reducible refine (tidemillref05_Has.calls k2 ((rd_T40 l0_0 a1).f0) _ _ ((rd_T40 l0_0 a1).f1) ((rd_T40 l0_0 a1).f2.f0) ((rd_T40 l0_0 a1).f2.f1) _ _ ((rd_T40 l0_0 a1).f2.f2) ((rd_T40 l0_0 a1).f3) false _ ?side1 ?side2 ?side3 ?side4 A27.out).mono ?_); (case side1 => repeat (first | exact (Kd.C_below HR187_1.out HB.out) | (with_reducible refine Kd.C_alloc ?_ _) | (with_reducible refine Kd.C_drewN ?_ _) | (with_reducible refine Kd.C_drew ?_))); (case side2 => exact HC187_1.out); (case side3 => repeat (first | exact (Kd.C_below HR187_4.out HB.out) | (with_reducible refine Kd.C_alloc ?_ _) | (with_reducible refine Kd.C_drewN ?_ _) | (with_reducible refine Kd.C_drew ?_))); (case side4 => exact HC187_4.out); rintro e w67 ⟨rfl, hb⟩; have n0_ := Aside0.mk (blk_below (g := gb186) (o := .cells #[.slice (some ad187) l0_0.length c0_0, .int .i64 a0_1] 24 (0, 0)) (by (with_reducible repeat (first | refine blk_drewN ?_ _ | refine blk_drew ?_ | refine blk_alloc ?_ _)); exact BK186.out) hb); have n1_ := Aside0.mk (blk_below (g := gb188) (o := .cells #[.int .i64 ((rd_T40 l0_0 a1).f0), .slice A187_1 ((rd_T40 l0_0 a1).f1).length c187_1, .int .i64 ((rd_T40 l0_0 a1).f2.f0), .int .i64 ((rd_T40 l0_0 a1).f2.f1), .slice A187_4 ((rd_T40 l0_0 a1).f2.f2).length c187_4, .int .i64 ((rd_T40 l0_0 a1).f3)] 40 (0, 0)) (by (with_reducible repeat (first | refine blk_drewN ?_ _ | refine blk_drew ?_ | refine blk_alloc ?_ _)); exact BK188.out) hb); have n2_ := Aside0.mk (below_step (by repeat (first | (with_reducible first | exact HB.out | apply below_alloc | apply pw_below_drewN | apply below_drew1 | refine below_set ?_ GE186.out | refine below_set ?_ GE188.out) | exact HB.out)) hb); clear BK186; clear BK188; clear HB; have BK186 := n0_; have BK188 := n1_; have HB := n2_; clear n0_ n1_ n2_; (try clear hb); (try clear hb2); (try clear hk); (try clear hi))))
                    go_ret
                    exact ⟨by first | rfl | (simp [errW_none, errW_some] <;> rfl) | (simp [*, errW_none, errW_some] <;> rfl), by repeat (first | (with_reducible first | exact HB.out | apply below_alloc | apply pw_below_drewN | apply below_drew1 | refine below_set ?_ GE186.out | refine below_set ?_ GE188.out) | exact HB.out)⟩
    · rw [if_neg c4] at H
      exact absurd H (by simp)
  · rw [if_neg c3] at H
    exact absurd H (by simp)

end Go.Proofs.Yteanncfmaomhaaa.Ex
