-- Written by a program of this work (wip/given.py) out of the translation; Lean checks it.
import Derived.Test.YthkilejcddgodaaEx0
import Derived.Test.YthkilejcddgodaaWRepsOne
import Derived.Test.YthkilejcddgodaaWGuard
import Derived.Test.YthkilejcddgodaaWApart
import Derived.Test.YthkilejcddgodaaWKept
import Derived.Test.YthkilejcddgodaaWFoot
import Derived.Test.YthkilejcddgodaaWShare
import Derived.Test.YthkilejcddgodaaWN
import Derived.Test.YthkilejcddgodaaEx3
import Derived.Test.YthkilejcddgodaaEx4
namespace Go.Proofs.Ythkilejcddgodaa.Ex
open Go.RowKit Go.Proofs.YthkilejcddgodaaW.PrintWords Go.Proofs.YthkilejcddgodaaW.PrintLast Go.Proofs.YthkilejcddgodaaW.PrintMore
attribute [local go_sem] max2_int min2_int max_two min_two max_three min_three max_four min_four   -- for this text's walks alone
set_option linter.unusedVariables false
set_option linter.unusedSimpArgs false

/-! ### tidemilllaw17_FlowKeeps: function 4 -/
def tidemilllaw17_FlowKeeps.l0 : Nat → Bool → List (S29) → Int → Int → List Int → Int → Int → List (S25) → Int → Int → Int → Int → Option (Bool)
  | 0, _, _, _, _, _, _, _, _, _, _, _, _ => none
  | k + 1, x5, x6, x8, x237000, x237001, x237002, x237003, x237004, x237005, x238000, x238001, x238002 => if x8 < (x6.length : Int) then (if 0 ≤ x8 then (if ((rd_T29 x6 x8).f2) = x238002 then (if x237000 = 5 then (if x237000 = 2 then (if x237000 = 4 then (if ((rd_T29 x6 x8).f1) = (wrap64 (x238001 + x8)) then (tidemilllaw17_FlowKeeps.l0 k x5 x6 (wrap64 (x8 + 1)) x237000 x237001 x237002 x237003 x237004 x237005 x238000 x238001 x238002) else (some false)) else (tidemilllaw17_FlowKeeps.l0 k x5 x6 (wrap64 (x8 + 1)) x237000 x237001 x237002 x237003 x237004 x237005 x238000 x238001 x238002)) else (if x237000 = 4 then (if ((rd_T29 x6 x8).f1) = (wrap64 (x238001 + x8)) then (tidemilllaw17_FlowKeeps.l0 k x5 x6 (wrap64 (x8 + 1)) x237000 x237001 x237002 x237003 x237004 x237005 x238000 x238001 x238002) else (some false)) else (if ((rd_T29 x6 x8).f1) = x238001 then (tidemilllaw17_FlowKeeps.l0 k x5 x6 (wrap64 (x8 + 1)) x237000 x237001 x237002 x237003 x237004 x237005 x238000 x238001 x238002) else (some false)))) else (if ((rd_T29 x6 x8).f0) = x238000 then (if x237000 = 2 then (if x237000 = 4 then (if ((rd_T29 x6 x8).f1) = (wrap64 (x238001 + x8)) then (tidemilllaw17_FlowKeeps.l0 k x5 x6 (wrap64 (x8 + 1)) x237000 x237001 x237002 x237003 x237004 x237005 x238000 x238001 x238002) else (some false)) else (tidemilllaw17_FlowKeeps.l0 k x5 x6 (wrap64 (x8 + 1)) x237000 x237001 x237002 x237003 x237004 x237005 x238000 x238001 x238002)) else (if x237000 = 4 then (if ((rd_T29 x6 x8).f1) = (wrap64 (x238001 + x8)) then (tidemilllaw17_FlowKeeps.l0 k x5 x6 (wrap64 (x8 + 1)) x237000 x237001 x237002 x237003 x237004 x237005 x238000 x238001 x238002) else (some false)) else (if ((rd_T29 x6 x8).f1) = x238001 then (tidemilllaw17_FlowKeeps.l0 k x5 x6 (wrap64 (x8 + 1)) x237000 x237001 x237002 x237003 x237004 x237005 x238000 x238001 x238002) else (some false)))) else (some false))) else (some false)) else (none)) else (if x237000 = 2 then (if x5 = true then (if (x6.length : Int) = 1 then (if x237000 = 3 then (if (x6.length : Int) ≤ 1 then (some (decide ((x6.length : Int) ≤ 4))) else (some false)) else (some (decide ((x6.length : Int) ≤ 4)))) else (some false)) else (some false)) else (if x237000 = 5 then (if x5 = true then (if (x6.length : Int) = 1 then (if x237000 = 3 then (if (x6.length : Int) ≤ 1 then (some (decide ((x6.length : Int) ≤ 4))) else (some false)) else (some (decide ((x6.length : Int) ≤ 4)))) else (some false)) else (some false)) else (if x237000 = 1 then (if x5 = true then (if (x6.length : Int) = 1 then (if x237000 = 3 then (if (x6.length : Int) ≤ 1 then (some (decide ((x6.length : Int) ≤ 4))) else (some false)) else (some (decide ((x6.length : Int) ≤ 4)))) else (some false)) else (some false)) else (if x5 = true then (if x237000 = 10 then (if (x6.length : Int) = 1 then (if x237000 = 3 then (if (x6.length : Int) ≤ 1 then (some (decide ((x6.length : Int) ≤ 4))) else (some false)) else (some (decide ((x6.length : Int) ≤ 4)))) else (some false)) else (if x237000 = 3 then (if (x6.length : Int) ≤ 1 then (some (decide ((x6.length : Int) ≤ 4))) else (some false)) else (some (decide ((x6.length : Int) ≤ 4))))) else (some false)))))
def tidemilllaw17_FlowKeeps.f (k : Nat) (a0_0 : Int) (l0_1 : List Int) (a0_2 : Int) (a0_3 : Int) (l0_4 : List (S25)) (a0_5 : Int) (a1_0 : Int) (a1_1 : Int) (a1_2 : Int) : Option (Bool) := (tidemilllaw17_shown.f k).bind fun t238 => ((tidemillref04_Count.f k a0_2 a0_3 l0_4).bind fun t239 => (if t239 > 3000 then (some t238) else ((flow_Apply.f k a0_0 l0_1 a0_2 a0_3 l0_4 a0_5 a1_0 a1_1 a1_2).bind fun bt240 => (if bt240.2 = 0 then (tidemilllaw17_FlowKeeps.l0 k t238 bt240.1 0 a0_0 l0_1 a0_2 a0_3 l0_4 a0_5 a1_0 a1_1 a1_2) else (if t238 = true then (some ((bt240.1.length : Int) == 0)) else (some false))))))
theorem tidemilllaw17_FlowKeeps.mono_l : ∀ k, (∀ y0 y1 y2 y3 y4 y5 y6 y7 y8 y9 y10 y11, LeO (tidemilllaw17_FlowKeeps.l0 k y0 y1 y2 y3 y4 y5 y6 y7 y8 y9 y10 y11) (tidemilllaw17_FlowKeeps.l0 (k + 1) y0 y1 y2 y3 y4 y5 y6 y7 y8 y9 y10 y11))
  | 0 => fun _ _ _ _ _ _ _ _ _ _ _ _ r h => by simp [tidemilllaw17_FlowKeeps.l0] at h
  | k + 1 => by
    have ih0 := tidemilllaw17_FlowKeeps.mono_l k
    · intro y0 y1 y2 y3 y4 y5 y6 y7 y8 y9 y10 y11
      unfold tidemilllaw17_FlowKeeps.l0
      repeat' first
      | (with_reducible exact ih0 _ _ _ _ _ _ _ _ _ _ _ _)
      | (with_reducible exact flow_Apply.mono _ _ _ _ _ _ _ _ _ _)
      | (with_reducible exact tidemilllaw17_shown.mono _)
      | (with_reducible exact tidemillref04_Count.mono _ _ _ _)
      | (with_reducible exact LeO.refl _)
      | (with_reducible exact LeO.none _)
      | (with_reducible refine LeO.ite ?_ ?_)
      | (with_reducible refine LeO.bind ?_ (fun _ => ?_))
      | exact ih0 _ _ _ _ _ _ _ _ _ _ _ _
      | exact flow_Apply.mono _ _ _ _ _ _ _ _ _ _
      | exact tidemilllaw17_shown.mono _
      | exact tidemillref04_Count.mono _ _ _ _
      | exact LeO.none _
      | refine LeO.ite ?_ ?_
      | refine LeO.bind ?_ (fun _ => ?_)
theorem tidemilllaw17_FlowKeeps.mono : ∀ a0 a1 a2 a3 a4 a5 a6 a7 a8 k, LeO (tidemilllaw17_FlowKeeps.f k a0 a1 a2 a3 a4 a5 a6 a7 a8) (tidemilllaw17_FlowKeeps.f (k + 1) a0 a1 a2 a3 a4 a5 a6 a7 a8) := by
  intro a0 a1 a2 a3 a4 a5 a6 a7 a8 k
  have ih0 := tidemilllaw17_FlowKeeps.mono_l k
  unfold tidemilllaw17_FlowKeeps.f
  repeat' first
      | (with_reducible exact ih0 _ _ _ _ _ _ _ _ _ _ _ _)
      | (with_reducible exact flow_Apply.mono _ _ _ _ _ _ _ _ _ _)
      | (with_reducible exact tidemilllaw17_shown.mono _)
      | (with_reducible exact tidemillref04_Count.mono _ _ _ _)
      | (with_reducible exact LeO.refl _)
      | (with_reducible exact LeO.none _)
      | (with_reducible refine LeO.ite ?_ ?_)
      | (with_reducible refine LeO.bind ?_ (fun _ => ?_))
      | exact ih0 _ _ _ _ _ _ _ _ _ _ _ _
      | exact flow_Apply.mono _ _ _ _ _ _ _ _ _ _
      | exact tidemilllaw17_shown.mono _
      | exact tidemillref04_Count.mono _ _ _ _
      | exact LeO.none _
      | refine LeO.ite ?_ ?_
      | refine LeO.bind ?_ (fun _ => ?_)
set_option maxHeartbeats 8000000 in
set_option maxRecDepth 100000 in
theorem tidemilllaw17_FlowKeeps.calls (k : Nat) (a0_0 : Int) (A0_1 : Option Addr) (c0_1 : Nat) (l0_1 : List Int) (a0_2 : Int) (a0_3 : Int) (A0_4 : Option Addr) (c0_4 : Nat) (l0_4 : List (S25)) (a0_5 : Int) (a1_0 : Int) (a1_1 : Int) (a1_2 : Int) (r : Bool) (w : World) (hr0_1 : Kd.C (Kd.int .i64) w A0_1 l0_1.length l0_1) (hc0_1 : l0_1.length ≤ c0_1) (hr0_4 : Kd.C k25 w A0_4 l0_4.length l0_4) (hc0_4 : l0_4.length ≤ c0_4) (h : tidemilllaw17_FlowKeeps.f k a0_0 l0_1 a0_2 a0_3 l0_4 a0_5 a1_0 a1_1 a1_2 = some r) :
    Calls Try.prog 4 #[.agg #[.int .i64 a0_0, .slice A0_1 l0_1.length c0_1, .int .i64 a0_2, .int .i64 a0_3, .slice A0_4 l0_4.length c0_4, .int .i64 a0_5], .agg #[.int .i64 a1_0, .int .i64 a1_1, .int .i64 a1_2]] w fun e w' => e = .returned (.bool r) ∧ Below w.heap.size w w' := by
  have hu27 := Try.underlying27
  have hu29 := Try.underlying29
  have hu25 := Try.underlying25
  have HR0_1 := Aside0.mk hr0_1
  have HC0_1 := Aside0.mk hc0_1
  clear hr0_1 hc0_1
  have HR0_4 := Aside0.mk hr0_4
  have HC0_4 := Aside0.mk hc0_4
  clear hr0_4 hc0_4
  have HB := Aside0.mk (Below.refl w.heap.size w)
  have H : ((tidemilllaw17_shown.f k).bind fun t238 => ((tidemillref04_Count.f k a0_2 a0_3 l0_4).bind fun t239 => (if t239 > 3000 then (some t238) else ((flow_Apply.f k a0_0 l0_1 a0_2 a0_3 l0_4 a0_5 a1_0 a1_1 a1_2).bind fun bt240 => (if bt240.2 = 0 then (tidemilllaw17_FlowKeeps.l0 k t238 bt240.1 0 a0_0 l0_1 a0_2 a0_3 l0_4 a0_5 a1_0 a1_1 a1_2) else (if t238 = true then (some ((bt240.1.length : Int) == 0)) else (some false))))))) = some r := h
  clear h
  replace H := Option.bind_eq_some_iff.mp H
  obtain ⟨t238, A30, H⟩ := H
  replace H : ((tidemillref04_Count.f k a0_2 a0_3 l0_4).bind fun t239 => (if t239 > 3000 then (some t238) else ((flow_Apply.f k a0_0 l0_1 a0_2 a0_3 l0_4 a0_5 a1_0 a1_1 a1_2).bind fun bt240 => (if bt240.2 = 0 then (tidemilllaw17_FlowKeeps.l0 k t238 bt240.1 0 a0_0 l0_1 a0_2 a0_3 l0_4 a0_5 a1_0 a1_1 a1_2) else (if t238 = true then (some ((bt240.1.length : Int) == 0)) else (some false)))))) = some r := H
  have A3 := Aside0.mk A30
  clear A30
  replace H := Option.bind_eq_some_iff.mp H
  obtain ⟨t239, A40, H⟩ := H
  replace H : (if t239 > 3000 then (some t238) else ((flow_Apply.f k a0_0 l0_1 a0_2 a0_3 l0_4 a0_5 a1_0 a1_1 a1_2).bind fun bt240 => (if bt240.2 = 0 then (tidemilllaw17_FlowKeeps.l0 k t238 bt240.1 0 a0_0 l0_1 a0_2 a0_3 l0_4 a0_5 a1_0 a1_1 a1_2) else (if t238 = true then (some ((bt240.1.length : Int) == 0)) else (some false))))) = some r := H
  have A4 := Aside0.mk A40
  clear A40
  by_cases c5 : t239 > 3000
  · rw [if_pos c5] at H
    have c5b0 : decide (3000 < t239) = true := decide_eq_true c5
    clear c5
    obtain rfl := Option.some.inj H
    go_enter Try.func4, Try.ntmps4
    go_wp2_with (first | ((with_reducible refine gate_dst (N := 2) rfl ?_); (try (refine gate_guard (by rfl) ?_; dsimp only)); refine box_event ?hg (N := 2) ?hd (cs := #[.int .i64 a0_0, .slice A0_1 l0_1.length c0_1, .int .i64 a0_2, .int .i64 a0_3, .slice A0_4 l0_4.length c0_4, .int .i64 a0_5]) (t := 27) ?hr ?_; (case hd => rfl); (case hg => rfl); (case hr => first | (go_simp; done) | (go_simp; rfl)); intro gb236 hg w6 hbox hb; have n0_ := Aside0.mk (below_step (by repeat (first | (with_reducible first | exact HB.out | apply below_alloc | apply pw_below_drewN | apply below_drew1) | exact HB.out)) hb); have n1_ := Aside0.mk (hbox); have n2_ := Aside0.mk ((by rw [hg]; exact (below_size (by repeat (first | (with_reducible first | exact HB.out | apply below_alloc | apply pw_below_drewN | apply below_drew1) | exact HB.out))) : w.heap.size ≤ gb236)); have n3_ := Aside0.mk ((by rw [hg]; exact (below_size (by repeat (first | (with_reducible first | exact HB.out | apply below_alloc | apply pw_below_drewN | apply below_drew1) | exact HB.out))) : w.heap.size ≤ gb236)); clear HB; have HB := n0_; have BK236 := n1_; have GW236 := n2_; have GE236 := n3_; clear n0_ n1_ n2_ n3_; clear hb hbox hg) | ((with_reducible refine gate_dst (N := 3) rfl ?_); (try (refine gate_guard (by rfl) ?_; dsimp only)); refine box_event ?hg (N := 3) ?hd (cs := #[.int .i64 a1_0, .int .i64 a1_1, .int .i64 a1_2]) (t := 29) ?hr ?_; (case hd => rfl); (case hg => rfl); (case hr => first | (go_simp; done) | (go_simp; rfl)); intro gb237 hg w7 hbox hb; have n0_ := Aside0.mk (blk_below (g := gb236) (o := .cells #[.int .i64 a0_0, .slice A0_1 l0_1.length c0_1, .int .i64 a0_2, .int .i64 a0_3, .slice A0_4 l0_4.length c0_4, .int .i64 a0_5] 27 (0, 0)) (by (with_reducible repeat (first | refine blk_drewN ?_ _ | refine blk_drew ?_ | refine blk_alloc ?_ _)); exact BK236.out) hb); have n1_ := Aside0.mk (below_step (by repeat (first | (with_reducible first | exact HB.out | apply below_alloc | apply pw_below_drewN | apply below_drew1 | refine below_set ?_ GE236.out) | exact HB.out)) hb); have n2_ := Aside0.mk (hbox); have n3_ := Aside0.mk ((by rw [hg]; exact (below_size (by repeat (first | (with_reducible first | exact HB.out | apply below_alloc | apply pw_below_drewN | apply below_drew1 | refine below_set ?_ GE236.out) | exact HB.out))) : w.heap.size ≤ gb237)); have n4_ := Aside0.mk ((by rw [hg]; exact (below_size (by repeat (first | (with_reducible first | exact HB.out | apply below_alloc | apply pw_below_drewN | apply below_drew1 | refine below_set ?_ GE236.out) | exact HB.out))) : w.heap.size ≤ gb237)); have n5_ := Aside0.mk ((by rw [hg]; exact Nat.ne_of_lt (blk_lt (g := gb236) (o := .cells #[.int .i64 a0_0, .slice A0_1 l0_1.length c0_1, .int .i64 a0_2, .int .i64 a0_3, .slice A0_4 l0_4.length c0_4, .int .i64 a0_5] 27 (0, 0)) (by (with_reducible repeat (first | refine blk_drewN ?_ _ | refine blk_drew ?_ | refine blk_alloc ?_ _)); exact BK236.out)) : gb236 ≠ gb237)); have n6_ := Aside0.mk ((by rw [hg]; exact Nat.ne_of_gt (blk_lt (g := gb236) (o := .cells #[.int .i64 a0_0, .slice A0_1 l0_1.length c0_1, .int .i64 a0_2, .int .i64 a0_3, .slice A0_4 l0_4.length c0_4, .int .i64 a0_5] 27 (0, 0)) (by (with_reducible repeat (first | refine blk_drewN ?_ _ | refine blk_drew ?_ | refine blk_alloc ?_ _)); exact BK236.out)) : gb237 ≠ gb236)); clear BK236; clear HB; have BK236 := n0_; have HB := n1_; have BK237 := n2_; have GW237 := n3_; have GE237 := n4_; have NB236_237 := n5_; have NB237_236 := n6_; clear n0_ n1_ n2_ n3_ n4_ n5_ n6_; clear hb hbox hg) | (go_at_call 9; (with_reducible refine (tidemilllaw17_shown.calls k  t238 _ A3.out).mono ?_); rintro e w8 ⟨rfl, hb⟩; have n0_ := Aside0.mk (blk_below (g := gb236) (o := .cells #[.int .i64 a0_0, .slice A0_1 l0_1.length c0_1, .int .i64 a0_2, .int .i64 a0_3, .slice A0_4 l0_4.length c0_4, .int .i64 a0_5] 27 (0, 0)) (by (with_reducible repeat (first | refine blk_drewN ?_ _ | refine blk_drew ?_ | refine blk_alloc ?_ _)); exact BK236.out) hb); have n1_ := Aside0.mk (blk_below (g := gb237) (o := .cells #[.int .i64 a1_0, .int .i64 a1_1, .int .i64 a1_2] 29 (0, 0)) (by (with_reducible repeat (first | refine blk_drewN ?_ _ | refine blk_drew ?_ | refine blk_alloc ?_ _)); exact BK237.out) hb); have n2_ := Aside0.mk (below_step (by repeat (first | (with_reducible first | exact HB.out | apply below_alloc | apply pw_below_drewN | apply below_drew1 | refine below_set ?_ GE236.out | refine below_set ?_ GE237.out) | exact HB.out)) hb); clear BK236; clear BK237; clear HB; have BK236 := n0_; have BK237 := n1_; have HB := n2_; clear n0_ n1_ n2_; (try clear hb); (try clear hb2); (try clear hk); (try clear hi); have hnb9 := NB236_237.out; have hnc9 := NB237_236.out; have hcz10_0 : w8.cell? ⟨gb236, 0, none⟩ = some (.int .i64 a0_0) := (blk_cell BK236.out 0).trans rfl; have hcz10_1 : w8.cell? ⟨gb236, 1, none⟩ = some (.slice A0_1 l0_1.length c0_1) := (blk_cell BK236.out 1).trans rfl; have hcz10_2 : w8.cell? ⟨gb236, 2, none⟩ = some (.int .i64 a0_2) := (blk_cell BK236.out 2).trans rfl; have hcz10_3 : w8.cell? ⟨gb236, 3, none⟩ = some (.int .i64 a0_3) := (blk_cell BK236.out 3).trans rfl; have hcz10_4 : w8.cell? ⟨gb236, 4, none⟩ = some (.slice A0_4 l0_4.length c0_4) := (blk_cell BK236.out 4).trans rfl; have hcz10_5 : w8.cell? ⟨gb236, 5, none⟩ = some (.int .i64 a0_5) := (blk_cell BK236.out 5).trans rfl; have hfz10_0 := blk_frozen BK236.out 0; have hfz10_1 := blk_frozen BK236.out 1; have hfz10_2 := blk_frozen BK236.out 2; have hfz10_3 := blk_frozen BK236.out 3; have hfz10_4 := blk_frozen BK236.out 4; have hfz10_5 := blk_frozen BK236.out 5) | (go_at_call 10; (with_reducible refine (tidemillref04_Count.calls k a0_2 a0_3 _ _ l0_4 t239 _ ?side1 ?side2 A4.out).mono ?_); (case side1 => repeat (first | exact (Kd.C_below HR0_4.out HB.out) | (with_reducible refine Kd.C_alloc ?_ _) | (with_reducible refine Kd.C_drewN ?_ _) | (with_reducible refine Kd.C_drew ?_))); (case side2 => exact HC0_4.out); rintro e w11 ⟨rfl, hb⟩; have n0_ := Aside0.mk (blk_below (g := gb236) (o := .cells #[.int .i64 a0_0, .slice A0_1 l0_1.length c0_1, .int .i64 a0_2, .int .i64 a0_3, .slice A0_4 l0_4.length c0_4, .int .i64 a0_5] 27 (0, 0)) (by (with_reducible repeat (first | refine blk_drewN ?_ _ | refine blk_drew ?_ | refine blk_alloc ?_ _)); exact BK236.out) hb); have n1_ := Aside0.mk (blk_below (g := gb237) (o := .cells #[.int .i64 a1_0, .int .i64 a1_1, .int .i64 a1_2] 29 (0, 0)) (by (with_reducible repeat (first | refine blk_drewN ?_ _ | refine blk_drew ?_ | refine blk_alloc ?_ _)); exact BK237.out) hb); have n2_ := Aside0.mk (below_step (by repeat (first | (with_reducible first | exact HB.out | apply below_alloc | apply pw_below_drewN | apply below_drew1 | refine below_set ?_ GE236.out | refine below_set ?_ GE237.out) | exact HB.out)) hb); clear BK236; clear BK237; clear HB; have BK236 := n0_; have BK237 := n1_; have HB := n2_; clear n0_ n1_ n2_; (try clear hb); (try clear hb2); (try clear hk); (try clear hi)))
    repeat (go_quiet (first | ((with_reducible refine gate_dst (N := 2) rfl ?_); (try (refine gate_guard (by rfl) ?_; dsimp only)); refine box_event ?hg (N := 2) ?hd (cs := #[.int .i64 a0_0, .slice A0_1 l0_1.length c0_1, .int .i64 a0_2, .int .i64 a0_3, .slice A0_4 l0_4.length c0_4, .int .i64 a0_5]) (t := 27) ?hr ?_; (case hd => rfl); (case hg => rfl); (case hr => first | (go_simp; done) | (go_simp; rfl)); intro gb236 hg w6 hbox hb; have n0_ := Aside0.mk (below_step (by repeat (first | (with_reducible first | exact HB.out | apply below_alloc | apply pw_below_drewN | apply below_drew1) | exact HB.out)) hb); have n1_ := Aside0.mk (hbox); have n2_ := Aside0.mk ((by rw [hg]; exact (below_size (by repeat (first | (with_reducible first | exact HB.out | apply below_alloc | apply pw_below_drewN | apply below_drew1) | exact HB.out))) : w.heap.size ≤ gb236)); have n3_ := Aside0.mk ((by rw [hg]; exact (below_size (by repeat (first | (with_reducible first | exact HB.out | apply below_alloc | apply pw_below_drewN | apply below_drew1) | exact HB.out))) : w.heap.size ≤ gb236)); clear HB; have HB := n0_; have BK236 := n1_; have GW236 := n2_; have GE236 := n3_; clear n0_ n1_ n2_ n3_; clear hb hbox hg) | ((with_reducible refine gate_dst (N := 3) rfl ?_); (try (refine gate_guard (by rfl) ?_; dsimp only)); refine box_event ?hg (N := 3) ?hd (cs := #[.int .i64 a1_0, .int .i64 a1_1, .int .i64 a1_2]) (t := 29) ?hr ?_; (case hd => rfl); (case hg => rfl); (case hr => first | (go_simp; done) | (go_simp; rfl)); intro gb237 hg w7 hbox hb; have n0_ := Aside0.mk (blk_below (g := gb236) (o := .cells #[.int .i64 a0_0, .slice A0_1 l0_1.length c0_1, .int .i64 a0_2, .int .i64 a0_3, .slice A0_4 l0_4.length c0_4, .int .i64 a0_5] 27 (0, 0)) (by (with_reducible repeat (first | refine blk_drewN ?_ _ | refine blk_drew ?_ | refine blk_alloc ?_ _)); exact BK236.out) hb); have n1_ := Aside0.mk (below_step (by repeat (first | (with_reducible first | exact HB.out | apply below_alloc | apply pw_below_drewN | apply below_drew1 | refine below_set ?_ GE236.out) | exact HB.out)) hb); have n2_ := Aside0.mk (hbox); have n3_ := Aside0.mk ((by rw [hg]; exact (below_size (by repeat (first | (with_reducible first | exact HB.out | apply below_alloc | apply pw_below_drewN | apply below_drew1 | refine below_set ?_ GE236.out) | exact HB.out))) : w.heap.size ≤ gb237)); have n4_ := Aside0.mk ((by rw [hg]; exact (below_size (by repeat (first | (with_reducible first | exact HB.out | apply below_alloc | apply pw_below_drewN | apply below_drew1 | refine below_set ?_ GE236.out) | exact HB.out))) : w.heap.size ≤ gb237)); have n5_ := Aside0.mk ((by rw [hg]; exact Nat.ne_of_lt (blk_lt (g := gb236) (o := .cells #[.int .i64 a0_0, .slice A0_1 l0_1.length c0_1, .int .i64 a0_2, .int .i64 a0_3, .slice A0_4 l0_4.length c0_4, .int .i64 a0_5] 27 (0, 0)) (by (with_reducible repeat (first | refine blk_drewN ?_ _ | refine blk_drew ?_ | refine blk_alloc ?_ _)); exact BK236.out)) : gb236 ≠ gb237)); have n6_ := Aside0.mk ((by rw [hg]; exact Nat.ne_of_gt (blk_lt (g := gb236) (o := .cells #[.int .i64 a0_0, .slice A0_1 l0_1.length c0_1, .int .i64 a0_2, .int .i64 a0_3, .slice A0_4 l0_4.length c0_4, .int .i64 a0_5] 27 (0, 0)) (by (with_reducible repeat (first | refine blk_drewN ?_ _ | refine blk_drew ?_ | refine blk_alloc ?_ _)); exact BK236.out)) : gb237 ≠ gb236)); clear BK236; clear HB; have BK236 := n0_; have HB := n1_; have BK237 := n2_; have GW237 := n3_; have GE237 := n4_; have NB236_237 := n5_; have NB237_236 := n6_; clear n0_ n1_ n2_ n3_ n4_ n5_ n6_; clear hb hbox hg) | (go_at_call 9; (with_reducible refine (tidemilllaw17_shown.calls k  t238 _ A3.out).mono ?_); rintro e w8 ⟨rfl, hb⟩; have n0_ := Aside0.mk (blk_below (g := gb236) (o := .cells #[.int .i64 a0_0, .slice A0_1 l0_1.length c0_1, .int .i64 a0_2, .int .i64 a0_3, .slice A0_4 l0_4.length c0_4, .int .i64 a0_5] 27 (0, 0)) (by (with_reducible repeat (first | refine blk_drewN ?_ _ | refine blk_drew ?_ | refine blk_alloc ?_ _)); exact BK236.out) hb); have n1_ := Aside0.mk (blk_below (g := gb237) (o := .cells #[.int .i64 a1_0, .int .i64 a1_1, .int .i64 a1_2] 29 (0, 0)) (by (with_reducible repeat (first | refine blk_drewN ?_ _ | refine blk_drew ?_ | refine blk_alloc ?_ _)); exact BK237.out) hb); have n2_ := Aside0.mk (below_step (by repeat (first | (with_reducible first | exact HB.out | apply below_alloc | apply pw_below_drewN | apply below_drew1 | refine below_set ?_ GE236.out | refine below_set ?_ GE237.out) | exact HB.out)) hb); clear BK236; clear BK237; clear HB; have BK236 := n0_; have BK237 := n1_; have HB := n2_; clear n0_ n1_ n2_; (try clear hb); (try clear hb2); (try clear hk); (try clear hi); have hnb9 := NB236_237.out; have hnc9 := NB237_236.out; have hcz10_0 : w8.cell? ⟨gb236, 0, none⟩ = some (.int .i64 a0_0) := (blk_cell BK236.out 0).trans rfl; have hcz10_1 : w8.cell? ⟨gb236, 1, none⟩ = some (.slice A0_1 l0_1.length c0_1) := (blk_cell BK236.out 1).trans rfl; have hcz10_2 : w8.cell? ⟨gb236, 2, none⟩ = some (.int .i64 a0_2) := (blk_cell BK236.out 2).trans rfl; have hcz10_3 : w8.cell? ⟨gb236, 3, none⟩ = some (.int .i64 a0_3) := (blk_cell BK236.out 3).trans rfl; have hcz10_4 : w8.cell? ⟨gb236, 4, none⟩ = some (.slice A0_4 l0_4.length c0_4) := (blk_cell BK236.out 4).trans rfl; have hcz10_5 : w8.cell? ⟨gb236, 5, none⟩ = some (.int .i64 a0_5) := (blk_cell BK236.out 5).trans rfl; have hfz10_0 := blk_frozen BK236.out 0; have hfz10_1 := blk_frozen BK236.out 1; have hfz10_2 := blk_frozen BK236.out 2; have hfz10_3 := blk_frozen BK236.out 3; have hfz10_4 := blk_frozen BK236.out 4; have hfz10_5 := blk_frozen BK236.out 5) | (go_at_call 10; (with_reducible refine (tidemillref04_Count.calls k a0_2 a0_3 _ _ l0_4 t239 _ ?side1 ?side2 A4.out).mono ?_); (case side1 => repeat (first | exact (Kd.C_below HR0_4.out HB.out) | (with_reducible refine Kd.C_alloc ?_ _) | (with_reducible refine Kd.C_drewN ?_ _) | (with_reducible refine Kd.C_drew ?_))); (case side2 => exact HC0_4.out); rintro e w11 ⟨rfl, hb⟩; have n0_ := Aside0.mk (blk_below (g := gb236) (o := .cells #[.int .i64 a0_0, .slice A0_1 l0_1.length c0_1, .int .i64 a0_2, .int .i64 a0_3, .slice A0_4 l0_4.length c0_4, .int .i64 a0_5] 27 (0, 0)) (by (with_reducible repeat (first | refine blk_drewN ?_ _ | refine blk_drew ?_ | refine blk_alloc ?_ _)); exact BK236.out) hb); have n1_ := Aside0.mk (blk_below (g := gb237) (o := .cells #[.int .i64 a1_0, .int .i64 a1_1, .int .i64 a1_2] 29 (0, 0)) (by (with_reducible repeat (first | refine blk_drewN ?_ _ | refine blk_drew ?_ | refine blk_alloc ?_ _)); exact BK237.out) hb); have n2_ := Aside0.mk (below_step (by repeat (first | (with_reducible first | exact HB.out | apply below_alloc | apply pw_below_drewN | apply below_drew1 | refine below_set ?_ GE236.out | refine below_set ?_ GE237.out) | exact HB.out)) hb); clear BK236; clear BK237; clear HB; have BK236 := n0_; have BK237 := n1_; have HB := n2_; clear n0_ n1_ n2_; (try clear hb); (try clear hb2); (try clear hk); (try clear hi))); try go_wp2_with (first | ((with_reducible refine gate_dst (N := 2) rfl ?_); (try (refine gate_guard (by rfl) ?_; dsimp only)); refine box_event ?hg (N := 2) ?hd (cs := #[.int .i64 a0_0, .slice A0_1 l0_1.length c0_1, .int .i64 a0_2, .int .i64 a0_3, .slice A0_4 l0_4.length c0_4, .int .i64 a0_5]) (t := 27) ?hr ?_; (case hd => rfl); (case hg => rfl); (case hr => first | (go_simp; done) | (go_simp; rfl)); intro gb236 hg w6 hbox hb; have n0_ := Aside0.mk (below_step (by repeat (first | (with_reducible first | exact HB.out | apply below_alloc | apply pw_below_drewN | apply below_drew1) | exact HB.out)) hb); have n1_ := Aside0.mk (hbox); have n2_ := Aside0.mk ((by rw [hg]; exact (below_size (by repeat (first | (with_reducible first | exact HB.out | apply below_alloc | apply pw_below_drewN | apply below_drew1) | exact HB.out))) : w.heap.size ≤ gb236)); have n3_ := Aside0.mk ((by rw [hg]; exact (below_size (by repeat (first | (with_reducible first | exact HB.out | apply below_alloc | apply pw_below_drewN | apply below_drew1) | exact HB.out))) : w.heap.size ≤ gb236)); clear HB; have HB := n0_; have BK236 := n1_; have GW236 := n2_; have GE236 := n3_; clear n0_ n1_ n2_ n3_; clear hb hbox hg) | ((with_reducible refine gate_dst (N := 3) rfl ?_); (try (refine gate_guard (by rfl) ?_; dsimp only)); refine box_event ?hg (N := 3) ?hd (cs := #[.int .i64 a1_0, .int .i64 a1_1, .int .i64 a1_2]) (t := 29) ?hr ?_; (case hd => rfl); (case hg => rfl); (case hr => first | (go_simp; done) | (go_simp; rfl)); intro gb237 hg w7 hbox hb; have n0_ := Aside0.mk (blk_below (g := gb236) (o := .cells #[.int .i64 a0_0, .slice A0_1 l0_1.length c0_1, .int .i64 a0_2, .int .i64 a0_3, .slice A0_4 l0_4.length c0_4, .int .i64 a0_5] 27 (0, 0)) (by (with_reducible repeat (first | refine blk_drewN ?_ _ | refine blk_drew ?_ | refine blk_alloc ?_ _)); exact BK236.out) hb); have n1_ := Aside0.mk (below_step (by repeat (first | (with_reducible first | exact HB.out | apply below_alloc | apply pw_below_drewN | apply below_drew1 | refine below_set ?_ GE236.out) | exact HB.out)) hb); have n2_ := Aside0.mk (hbox); have n3_ := Aside0.mk ((by rw [hg]; exact (below_size (by repeat (first | (with_reducible first | exact HB.out | apply below_alloc | apply pw_below_drewN | apply below_drew1 | refine below_set ?_ GE236.out) | exact HB.out))) : w.heap.size ≤ gb237)); have n4_ := Aside0.mk ((by rw [hg]; exact (below_size (by repeat (first | (with_reducible first | exact HB.out | apply below_alloc | apply pw_below_drewN | apply below_drew1 | refine below_set ?_ GE236.out) | exact HB.out))) : w.heap.size ≤ gb237)); have n5_ := Aside0.mk ((by rw [hg]; exact Nat.ne_of_lt (blk_lt (g := gb236) (o := .cells #[.int .i64 a0_0, .slice A0_1 l0_1.length c0_1, .int .i64 a0_2, .int .i64 a0_3, .slice A0_4 l0_4.length c0_4, .int .i64 a0_5] 27 (0, 0)) (by (with_reducible repeat (first | refine blk_drewN ?_ _ | refine blk_drew ?_ | refine blk_alloc ?_ _)); exact BK236.out)) : gb236 ≠ gb237)); have n6_ := Aside0.mk ((by rw [hg]; exact Nat.ne_of_gt (blk_lt (g := gb236) (o := .cells #[.int .i64 a0_0, .slice A0_1 l0_1.length c0_1, .int .i64 a0_2, .int .i64 a0_3, .slice A0_4 l0_4.length c0_4, .int .i64 a0_5] 27 (0, 0)) (by (with_reducible repeat (first | refine blk_drewN ?_ _ | refine blk_drew ?_ | refine blk_alloc ?_ _)); exact BK236.out)) : gb237 ≠ gb236)); clear BK236; clear HB; have BK236 := n0_; have HB := n1_; have BK237 := n2_; have GW237 := n3_; have GE237 := n4_; have NB236_237 := n5_; have NB237_236 := n6_; clear n0_ n1_ n2_ n3_ n4_ n5_ n6_; clear hb hbox hg) | (go_at_call 9; (with_reducible refine (tidemilllaw17_shown.calls k  t238 _ A3.out).mono ?_); rintro e w8 ⟨rfl, hb⟩; have n0_ := Aside0.mk (blk_below (g := gb236) (o := .cells #[.int .i64 a0_0, .slice A0_1 l0_1.length c0_1, .int .i64 a0_2, .int .i64 a0_3, .slice A0_4 l0_4.length c0_4, .int .i64 a0_5] 27 (0, 0)) (by (with_reducible repeat (first | refine blk_drewN ?_ _ | refine blk_drew ?_ | refine blk_alloc ?_ _)); exact BK236.out) hb); have n1_ := Aside0.mk (blk_below (g := gb237) (o := .cells #[.int .i64 a1_0, .int .i64 a1_1, .int .i64 a1_2] 29 (0, 0)) (by (with_reducible repeat (first | refine blk_drewN ?_ _ | refine blk_drew ?_ | refine blk_alloc ?_ _)); exact BK237.out) hb); have n2_ := Aside0.mk (below_step (by repeat (first | (with_reducible first | exact HB.out | apply below_alloc | apply pw_below_drewN | apply below_drew1 | refine below_set ?_ GE236.out | refine below_set ?_ GE237.out) | exact HB.out)) hb); clear BK236; clear BK237; clear HB; have BK236 := n0_; have BK237 := n1_; have HB := n2_; clear n0_ n1_ n2_; (try clear hb); (try clear hb2); (try clear hk); (try clear hi); have hnb9 := NB236_237.out; have hnc9 := NB237_236.out; have hcz10_0 : w8.cell? ⟨gb236, 0, none⟩ = some (.int .i64 a0_0) := (blk_cell BK236.out 0).trans rfl; have hcz10_1 : w8.cell? ⟨gb236, 1, none⟩ = some (.slice A0_1 l0_1.length c0_1) := (blk_cell BK236.out 1).trans rfl; have hcz10_2 : w8.cell? ⟨gb236, 2, none⟩ = some (.int .i64 a0_2) := (blk_cell BK236.out 2).trans rfl; have hcz10_3 : w8.cell? ⟨gb236, 3, none⟩ = some (.int .i64 a0_3) := (blk_cell BK236.out 3).trans rfl; have hcz10_4 : w8.cell? ⟨gb236, 4, none⟩ = some (.slice A0_4 l0_4.length c0_4) := (blk_cell BK236.out 4).trans rfl; have hcz10_5 : w8.cell? ⟨gb236, 5, none⟩ = some (.int .i64 a0_5) := (blk_cell BK236.out 5).trans rfl; have hfz10_0 := blk_frozen BK236.out 0; have hfz10_1 := blk_frozen BK236.out 1; have hfz10_2 := blk_frozen BK236.out 2; have hfz10_3 := blk_frozen BK236.out 3; have hfz10_4 := blk_frozen BK236.out 4; have hfz10_5 := blk_frozen BK236.out 5) | (go_at_call 10; (with_reducible refine (tidemillref04_Count.calls k a0_2 a0_3 _ _ l0_4 t239 _ ?side1 ?side2 A4.out).mono ?_); (case side1 => repeat (first | exact (Kd.C_below HR0_4.out HB.out) | (with_reducible refine Kd.C_alloc ?_ _) | (with_reducible refine Kd.C_drewN ?_ _) | (with_reducible refine Kd.C_drew ?_))); (case side2 => exact HC0_4.out); rintro e w11 ⟨rfl, hb⟩; have n0_ := Aside0.mk (blk_below (g := gb236) (o := .cells #[.int .i64 a0_0, .slice A0_1 l0_1.length c0_1, .int .i64 a0_2, .int .i64 a0_3, .slice A0_4 l0_4.length c0_4, .int .i64 a0_5] 27 (0, 0)) (by (with_reducible repeat (first | refine blk_drewN ?_ _ | refine blk_drew ?_ | refine blk_alloc ?_ _)); exact BK236.out) hb); have n1_ := Aside0.mk (blk_below (g := gb237) (o := .cells #[.int .i64 a1_0, .int .i64 a1_1, .int .i64 a1_2] 29 (0, 0)) (by (with_reducible repeat (first | refine blk_drewN ?_ _ | refine blk_drew ?_ | refine blk_alloc ?_ _)); exact BK237.out) hb); have n2_ := Aside0.mk (below_step (by repeat (first | (with_reducible first | exact HB.out | apply below_alloc | apply pw_below_drewN | apply below_drew1 | refine below_set ?_ GE236.out | refine below_set ?_ GE237.out) | exact HB.out)) hb); clear BK236; clear BK237; clear HB; have BK236 := n0_; have BK237 := n1_; have HB := n2_; clear n0_ n1_ n2_; (try clear hb); (try clear hb2); (try clear hk); (try clear hi))))
    go_ret
    exact ⟨by first | rfl | (simp [errW_none, errW_some] <;> rfl) | (simp [*, errW_none, errW_some] <;> rfl), by repeat (first | (with_reducible first | exact HB.out | apply below_alloc | apply pw_below_drewN | apply below_drew1 | refine below_set ?_ GE236.out | refine below_set ?_ GE237.out) | exact HB.out)⟩
  · rw [if_neg c5] at H
    have c5b0 : decide (3000 < t239) = false := decide_eq_false c5
    clear c5
    replace H := Option.bind_eq_some_iff.mp H
    obtain ⟨⟨t240, t243⟩, A120, H⟩ := H
    replace H : (if t243 = 0 then (tidemilllaw17_FlowKeeps.l0 k t238 t240 0 a0_0 l0_1 a0_2 a0_3 l0_4 a0_5 a1_0 a1_1 a1_2) else (if t238 = true then (some ((t240.length : Int) == 0)) else (some false))) = some r := H
    have A12 := Aside0.mk A120
    clear A120
    by_cases c13 : t243 = 0
    · rw [if_pos c13] at H
      have c13b0 : (t243 == 0) = true := beq_iff_eq.mpr c13
      have c13b1 : (t243 != 0) = false := bne_eq_false_iff_eq.mpr c13
      clear c13
      have H' := Aside0.mk H
      clear H
      go_enter Try.func4, Try.ntmps4
      go_wp2_with (first | ((with_reducible refine gate_dst (N := 2) rfl ?_); (try (refine gate_guard (by rfl) ?_; dsimp only)); refine box_event ?hg (N := 2) ?hd (cs := #[.int .i64 a0_0, .slice A0_1 l0_1.length c0_1, .int .i64 a0_2, .int .i64 a0_3, .slice A0_4 l0_4.length c0_4, .int .i64 a0_5]) (t := 27) ?hr ?_; (case hd => rfl); (case hg => rfl); (case hr => first | (go_simp; done) | (go_simp; rfl)); intro gb236 hg w14 hbox hb; have n0_ := Aside0.mk (below_step (by repeat (first | (with_reducible first | exact HB.out | apply below_alloc | apply pw_below_drewN | apply below_drew1) | exact HB.out)) hb); have n1_ := Aside0.mk (hbox); have n2_ := Aside0.mk ((by rw [hg]; exact (below_size (by repeat (first | (with_reducible first | exact HB.out | apply below_alloc | apply pw_below_drewN | apply below_drew1) | exact HB.out))) : w.heap.size ≤ gb236)); have n3_ := Aside0.mk ((by rw [hg]; exact (below_size (by repeat (first | (with_reducible first | exact HB.out | apply below_alloc | apply pw_below_drewN | apply below_drew1) | exact HB.out))) : w.heap.size ≤ gb236)); clear HB; have HB := n0_; have BK236 := n1_; have GW236 := n2_; have GE236 := n3_; clear n0_ n1_ n2_ n3_; clear hb hbox hg) | ((with_reducible refine gate_dst (N := 3) rfl ?_); (try (refine gate_guard (by rfl) ?_; dsimp only)); refine box_event ?hg (N := 3) ?hd (cs := #[.int .i64 a1_0, .int .i64 a1_1, .int .i64 a1_2]) (t := 29) ?hr ?_; (case hd => rfl); (case hg => rfl); (case hr => first | (go_simp; done) | (go_simp; rfl)); intro gb237 hg w15 hbox hb; have n0_ := Aside0.mk (blk_below (g := gb236) (o := .cells #[.int .i64 a0_0, .slice A0_1 l0_1.length c0_1, .int .i64 a0_2, .int .i64 a0_3, .slice A0_4 l0_4.length c0_4, .int .i64 a0_5] 27 (0, 0)) (by (with_reducible repeat (first | refine blk_drewN ?_ _ | refine blk_drew ?_ | refine blk_alloc ?_ _)); exact BK236.out) hb); have n1_ := Aside0.mk (below_step (by repeat (first | (with_reducible first | exact HB.out | apply below_alloc | apply pw_below_drewN | apply below_drew1 | refine below_set ?_ GE236.out) | exact HB.out)) hb); have n2_ := Aside0.mk (hbox); have n3_ := Aside0.mk ((by rw [hg]; exact (below_size (by repeat (first | (with_reducible first | exact HB.out | apply below_alloc | apply pw_below_drewN | apply below_drew1 | refine below_set ?_ GE236.out) | exact HB.out))) : w.heap.size ≤ gb237)); have n4_ := Aside0.mk ((by rw [hg]; exact (below_size (by repeat (first | (with_reducible first | exact HB.out | apply below_alloc | apply pw_below_drewN | apply below_drew1 | refine below_set ?_ GE236.out) | exact HB.out))) : w.heap.size ≤ gb237)); have n5_ := Aside0.mk ((by rw [hg]; exact Nat.ne_of_lt (blk_lt (g := gb236) (o := .cells #[.int .i64 a0_0, .slice A0_1 l0_1.length c0_1, .int .i64 a0_2, .int .i64 a0_3, .slice A0_4 l0_4.length c0_4, .int .i64 a0_5] 27 (0, 0)) (by (with_reducible repeat (first | refine blk_drewN ?_ _ | refine blk_drew ?_ | refine blk_alloc ?_ _)); exact BK236.out)) : gb236 ≠ gb237)); have n6_ := Aside0.mk ((by rw [hg]; exact Nat.ne_of_gt (blk_lt (g := gb236) (o := .cells #[.int .i64 a0_0, .slice A0_1 l0_1.length c0_1, .int .i64 a0_2, .int .i64 a0_3, .slice A0_4 l0_4.length c0_4, .int .i64 a0_5] 27 (0, 0)) (by (with_reducible repeat (first | refine blk_drewN ?_ _ | refine blk_drew ?_ | refine blk_alloc ?_ _)); exact BK236.out)) : gb237 ≠ gb236)); clear BK236; clear HB; have BK236 := n0_; have HB := n1_; have BK237 := n2_; have GW237 := n3_; have GE237 := n4_; have NB236_237 := n5_; have NB237_236 := n6_; clear n0_ n1_ n2_ n3_ n4_ n5_ n6_; clear hb hbox hg) | (go_at_call 9; (with_reducible refine (tidemilllaw17_shown.calls k  t238 _ A3.out).mono ?_); rintro e w16 ⟨rfl, hb⟩; have n0_ := Aside0.mk (blk_below (g := gb236) (o := .cells #[.int .i64 a0_0, .slice A0_1 l0_1.length c0_1, .int .i64 a0_2, .int .i64 a0_3, .slice A0_4 l0_4.length c0_4, .int .i64 a0_5] 27 (0, 0)) (by (with_reducible repeat (first | refine blk_drewN ?_ _ | refine blk_drew ?_ | refine blk_alloc ?_ _)); exact BK236.out) hb); have n1_ := Aside0.mk (blk_below (g := gb237) (o := .cells #[.int .i64 a1_0, .int .i64 a1_1, .int .i64 a1_2] 29 (0, 0)) (by (with_reducible repeat (first | refine blk_drewN ?_ _ | refine blk_drew ?_ | refine blk_alloc ?_ _)); exact BK237.out) hb); have n2_ := Aside0.mk (below_step (by repeat (first | (with_reducible first | exact HB.out | apply below_alloc | apply pw_below_drewN | apply below_drew1 | refine below_set ?_ GE236.out | refine below_set ?_ GE237.out) | exact HB.out)) hb); clear BK236; clear BK237; clear HB; have BK236 := n0_; have BK237 := n1_; have HB := n2_; clear n0_ n1_ n2_; (try clear hb); (try clear hb2); (try clear hk); (try clear hi); have hnb17 := NB236_237.out; have hnc17 := NB237_236.out; have hcz18_0 : w16.cell? ⟨gb236, 0, none⟩ = some (.int .i64 a0_0) := (blk_cell BK236.out 0).trans rfl; have hcz18_1 : w16.cell? ⟨gb236, 1, none⟩ = some (.slice A0_1 l0_1.length c0_1) := (blk_cell BK236.out 1).trans rfl; have hcz18_2 : w16.cell? ⟨gb236, 2, none⟩ = some (.int .i64 a0_2) := (blk_cell BK236.out 2).trans rfl; have hcz18_3 : w16.cell? ⟨gb236, 3, none⟩ = some (.int .i64 a0_3) := (blk_cell BK236.out 3).trans rfl; have hcz18_4 : w16.cell? ⟨gb236, 4, none⟩ = some (.slice A0_4 l0_4.length c0_4) := (blk_cell BK236.out 4).trans rfl; have hcz18_5 : w16.cell? ⟨gb236, 5, none⟩ = some (.int .i64 a0_5) := (blk_cell BK236.out 5).trans rfl; have hfz18_0 := blk_frozen BK236.out 0; have hfz18_1 := blk_frozen BK236.out 1; have hfz18_2 := blk_frozen BK236.out 2; have hfz18_3 := blk_frozen BK236.out 3; have hfz18_4 := blk_frozen BK236.out 4; have hfz18_5 := blk_frozen BK236.out 5) | (go_at_call 10; (with_reducible refine (tidemillref04_Count.calls k a0_2 a0_3 _ _ l0_4 t239 _ ?side1 ?side2 A4.out).mono ?_); (case side1 => repeat (first | exact (Kd.C_below HR0_4.out HB.out) | (with_reducible refine Kd.C_alloc ?_ _) | (with_reducible refine Kd.C_drewN ?_ _) | (with_reducible refine Kd.C_drew ?_))); (case side2 => exact HC0_4.out); rintro e w19 ⟨rfl, hb⟩; have n0_ := Aside0.mk (blk_below (g := gb236) (o := .cells #[.int .i64 a0_0, .slice A0_1 l0_1.length c0_1, .int .i64 a0_2, .int .i64 a0_3, .slice A0_4 l0_4.length c0_4, .int .i64 a0_5] 27 (0, 0)) (by (with_reducible repeat (first | refine blk_drewN ?_ _ | refine blk_drew ?_ | refine blk_alloc ?_ _)); exact BK236.out) hb); have n1_ := Aside0.mk (blk_below (g := gb237) (o := .cells #[.int .i64 a1_0, .int .i64 a1_1, .int .i64 a1_2] 29 (0, 0)) (by (with_reducible repeat (first | refine blk_drewN ?_ _ | refine blk_drew ?_ | refine blk_alloc ?_ _)); exact BK237.out) hb); have n2_ := Aside0.mk (below_step (by repeat (first | (with_reducible first | exact HB.out | apply below_alloc | apply pw_below_drewN | apply below_drew1 | refine below_set ?_ GE236.out | refine below_set ?_ GE237.out) | exact HB.out)) hb); clear BK236; clear BK237; clear HB; have BK236 := n0_; have BK237 := n1_; have HB := n2_; clear n0_ n1_ n2_; (try clear hb); (try clear hb2); (try clear hk); (try clear hi); have hcz20_0 : w19.cell? ⟨gb236, 0, none⟩ = some (.int .i64 a0_0) := (blk_cell BK236.out 0).trans rfl; have hcz20_1 : w19.cell? ⟨gb236, 1, none⟩ = some (.slice A0_1 l0_1.length c0_1) := (blk_cell BK236.out 1).trans rfl; have hcz20_2 : w19.cell? ⟨gb236, 2, none⟩ = some (.int .i64 a0_2) := (blk_cell BK236.out 2).trans rfl; have hcz20_3 : w19.cell? ⟨gb236, 3, none⟩ = some (.int .i64 a0_3) := (blk_cell BK236.out 3).trans rfl; have hcz20_4 : w19.cell? ⟨gb236, 4, none⟩ = some (.slice A0_4 l0_4.length c0_4) := (blk_cell BK236.out 4).trans rfl; have hcz20_5 : w19.cell? ⟨gb236, 5, none⟩ = some (.int .i64 a0_5) := (blk_cell BK236.out 5).trans rfl; have hfz20_0 := blk_frozen BK236.out 0; have hfz20_1 := blk_frozen BK236.out 1; have hfz20_2 := blk_frozen BK236.out 2; have hfz20_3 := blk_frozen BK236.out 3; have hfz20_4 := blk_frozen BK236.out 4; have hfz20_5 := blk_frozen BK236.out 5; have hcz21_0 : w19.cell? ⟨gb237, 0, none⟩ = some (.int .i64 a1_0) := (blk_cell BK237.out 0).trans rfl; have hcz21_1 : w19.cell? ⟨gb237, 1, none⟩ = some (.int .i64 a1_1) := (blk_cell BK237.out 1).trans rfl; have hcz21_2 : w19.cell? ⟨gb237, 2, none⟩ = some (.int .i64 a1_2) := (blk_cell BK237.out 2).trans rfl; have hfz21_0 := blk_frozen BK237.out 0; have hfz21_1 := blk_frozen BK237.out 1; have hfz21_2 := blk_frozen BK237.out 2) | (go_at_call 11; (with_reducible refine (flow_Apply.calls k a0_0 _ _ l0_1 a0_2 a0_3 _ _ l0_4 a0_5 a1_0 a1_1 a1_2 t240 t243 _ ?side1 ?side2 ?side3 ?side4 A12.out).mono ?_); (case side1 => repeat (first | exact (Kd.C_below HR0_1.out HB.out) | (with_reducible refine Kd.C_alloc ?_ _) | (with_reducible refine Kd.C_drewN ?_ _) | (with_reducible refine Kd.C_drew ?_))); (case side2 => exact HC0_1.out); (case side3 => repeat (first | exact (Kd.C_below HR0_4.out HB.out) | (with_reducible refine Kd.C_alloc ?_ _) | (with_reducible refine Kd.C_drewN ?_ _) | (with_reducible refine Kd.C_drew ?_))); (case side4 => exact HC0_4.out); rintro e w22 ⟨v241, rfl, ho0, hb⟩; have n0_ := Aside0.mk (Kd.R_lower (Kd.R_newB ho0 (g := gb237) (o := .cells #[.int .i64 a1_0, .int .i64 a1_1, .int .i64 a1_2] 29 (0, 0)) (by (with_reducible repeat (first | refine blk_drewN ?_ _ | refine blk_drew ?_ | refine blk_alloc ?_ _)); exact BK237.out)) (below_size (by repeat (first | (with_reducible first | exact HB.out | apply below_alloc | apply pw_below_drewN | apply below_drew1 | refine below_set ?_ GE236.out | refine below_set ?_ GE237.out) | exact HB.out)))); have n1_ := Aside0.mk (blk_below (g := gb236) (o := .cells #[.int .i64 a0_0, .slice A0_1 l0_1.length c0_1, .int .i64 a0_2, .int .i64 a0_3, .slice A0_4 l0_4.length c0_4, .int .i64 a0_5] 27 (0, 0)) (by (with_reducible repeat (first | refine blk_drewN ?_ _ | refine blk_drew ?_ | refine blk_alloc ?_ _)); exact BK236.out) hb); have n2_ := Aside0.mk (blk_below (g := gb237) (o := .cells #[.int .i64 a1_0, .int .i64 a1_1, .int .i64 a1_2] 29 (0, 0)) (by (with_reducible repeat (first | refine blk_drewN ?_ _ | refine blk_drew ?_ | refine blk_alloc ?_ _)); exact BK237.out) hb); have n3_ := Aside0.mk (below_step (by repeat (first | (with_reducible first | exact HB.out | apply below_alloc | apply pw_below_drewN | apply below_drew1 | refine below_set ?_ GE236.out | refine below_set ?_ GE237.out) | exact HB.out)) hb); clear BK236; clear BK237; clear HB; have HO242 := n0_; have BK236 := n1_; have BK237 := n2_; have HB := n3_; clear n0_ n1_ n2_ n3_; (try clear hb); (try clear hb2); (try clear hk); (try clear hi); (try clear ho0)))
      repeat (go_quiet (first | ((with_reducible refine gate_dst (N := 2) rfl ?_); (try (refine gate_guard (by rfl) ?_; dsimp only)); refine box_event ?hg (N := 2) ?hd (cs := #[.int .i64 a0_0, .slice A0_1 l0_1.length c0_1, .int .i64 a0_2, .int .i64 a0_3, .slice A0_4 l0_4.length c0_4, .int .i64 a0_5]) (t := 27) ?hr ?_; (case hd => rfl); (case hg => rfl); (case hr => first | (go_simp; done) | (go_simp; rfl)); intro gb236 hg w14 hbox hb; have n0_ := Aside0.mk (below_step (by repeat (first | (with_reducible first | exact HB.out | apply below_alloc | apply pw_below_drewN | apply below_drew1) | exact HB.out)) hb); have n1_ := Aside0.mk (hbox); have n2_ := Aside0.mk ((by rw [hg]; exact (below_size (by repeat (first | (with_reducible first | exact HB.out | apply below_alloc | apply pw_below_drewN | apply below_drew1) | exact HB.out))) : w.heap.size ≤ gb236)); have n3_ := Aside0.mk ((by rw [hg]; exact (below_size (by repeat (first | (with_reducible first | exact HB.out | apply below_alloc | apply pw_below_drewN | apply below_drew1) | exact HB.out))) : w.heap.size ≤ gb236)); clear HB; have HB := n0_; have BK236 := n1_; have GW236 := n2_; have GE236 := n3_; clear n0_ n1_ n2_ n3_; clear hb hbox hg) | ((with_reducible refine gate_dst (N := 3) rfl ?_); (try (refine gate_guard (by rfl) ?_; dsimp only)); refine box_event ?hg (N := 3) ?hd (cs := #[.int .i64 a1_0, .int .i64 a1_1, .int .i64 a1_2]) (t := 29) ?hr ?_; (case hd => rfl); (case hg => rfl); (case hr => first | (go_simp; done) | (go_simp; rfl)); intro gb237 hg w15 hbox hb; have n0_ := Aside0.mk (blk_below (g := gb236) (o := .cells #[.int .i64 a0_0, .slice A0_1 l0_1.length c0_1, .int .i64 a0_2, .int .i64 a0_3, .slice A0_4 l0_4.length c0_4, .int .i64 a0_5] 27 (0, 0)) (by (with_reducible repeat (first | refine blk_drewN ?_ _ | refine blk_drew ?_ | refine blk_alloc ?_ _)); exact BK236.out) hb); have n1_ := Aside0.mk (below_step (by repeat (first | (with_reducible first | exact HB.out | apply below_alloc | apply pw_below_drewN | apply below_drew1 | refine below_set ?_ GE236.out) | exact HB.out)) hb); have n2_ := Aside0.mk (hbox); have n3_ := Aside0.mk ((by rw [hg]; exact (below_size (by repeat (first | (with_reducible first | exact HB.out | apply below_alloc | apply pw_below_drewN | apply below_drew1 | refine below_set ?_ GE236.out) | exact HB.out))) : w.heap.size ≤ gb237)); have n4_ := Aside0.mk ((by rw [hg]; exact (below_size (by repeat (first | (with_reducible first | exact HB.out | apply below_alloc | apply pw_below_drewN | apply below_drew1 | refine below_set ?_ GE236.out) | exact HB.out))) : w.heap.size ≤ gb237)); have n5_ := Aside0.mk ((by rw [hg]; exact Nat.ne_of_lt (blk_lt (g := gb236) (o := .cells #[.int .i64 a0_0, .slice A0_1 l0_1.length c0_1, .int .i64 a0_2, .int .i64 a0_3, .slice A0_4 l0_4.length c0_4, .int .i64 a0_5] 27 (0, 0)) (by (with_reducible repeat (first | refine blk_drewN ?_ _ | refine blk_drew ?_ | refine blk_alloc ?_ _)); exact BK236.out)) : gb236 ≠ gb237)); have n6_ := Aside0.mk ((by rw [hg]; exact Nat.ne_of_gt (blk_lt (g := gb236) (o := .cells #[.int .i64 a0_0, .slice A0_1 l0_1.length c0_1, .int .i64 a0_2, .int .i64 a0_3, .slice A0_4 l0_4.length c0_4, .int .i64 a0_5] 27 (0, 0)) (by (with_reducible repeat (first | refine blk_drewN ?_ _ | refine blk_drew ?_ | refine blk_alloc ?_ _)); exact BK236.out)) : gb237 ≠ gb236)); clear BK236; clear HB; have BK236 := n0_; have HB := n1_; have BK237 := n2_; have GW237 := n3_; have GE237 := n4_; have NB236_237 := n5_; have NB237_236 := n6_; clear n0_ n1_ n2_ n3_ n4_ n5_ n6_; clear hb hbox hg) | (go_at_call 9; (with_reducible refine (tidemilllaw17_shown.calls k  t238 _ A3.out).mono ?_); rintro e w16 ⟨rfl, hb⟩; have n0_ := Aside0.mk (blk_below (g := gb236) (o := .cells #[.int .i64 a0_0, .slice A0_1 l0_1.length c0_1, .int .i64 a0_2, .int .i64 a0_3, .slice A0_4 l0_4.length c0_4, .int .i64 a0_5] 27 (0, 0)) (by (with_reducible repeat (first | refine blk_drewN ?_ _ | refine blk_drew ?_ | refine blk_alloc ?_ _)); exact BK236.out) hb); have n1_ := Aside0.mk (blk_below (g := gb237) (o := .cells #[.int .i64 a1_0, .int .i64 a1_1, .int .i64 a1_2] 29 (0, 0)) (by (with_reducible repeat (first | refine blk_drewN ?_ _ | refine blk_drew ?_ | refine blk_alloc ?_ _)); exact BK237.out) hb); have n2_ := Aside0.mk (below_step (by repeat (first | (with_reducible first | exact HB.out | apply below_alloc | apply pw_below_drewN | apply below_drew1 | refine below_set ?_ GE236.out | refine below_set ?_ GE237.out) | exact HB.out)) hb); clear BK236; clear BK237; clear HB; have BK236 := n0_; have BK237 := n1_; have HB := n2_; clear n0_ n1_ n2_; (try clear hb); (try clear hb2); (try clear hk); (try clear hi); have hnb17 := NB236_237.out; have hnc17 := NB237_236.out; have hcz18_0 : w16.cell? ⟨gb236, 0, none⟩ = some (.int .i64 a0_0) := (blk_cell BK236.out 0).trans rfl; have hcz18_1 : w16.cell? ⟨gb236, 1, none⟩ = some (.slice A0_1 l0_1.length c0_1) := (blk_cell BK236.out 1).trans rfl; have hcz18_2 : w16.cell? ⟨gb236, 2, none⟩ = some (.int .i64 a0_2) := (blk_cell BK236.out 2).trans rfl; have hcz18_3 : w16.cell? ⟨gb236, 3, none⟩ = some (.int .i64 a0_3) := (blk_cell BK236.out 3).trans rfl; have hcz18_4 : w16.cell? ⟨gb236, 4, none⟩ = some (.slice A0_4 l0_4.length c0_4) := (blk_cell BK236.out 4).trans rfl; have hcz18_5 : w16.cell? ⟨gb236, 5, none⟩ = some (.int .i64 a0_5) := (blk_cell BK236.out 5).trans rfl; have hfz18_0 := blk_frozen BK236.out 0; have hfz18_1 := blk_frozen BK236.out 1; have hfz18_2 := blk_frozen BK236.out 2; have hfz18_3 := blk_frozen BK236.out 3; have hfz18_4 := blk_frozen BK236.out 4; have hfz18_5 := blk_frozen BK236.out 5) | (go_at_call 10; (with_reducible refine (tidemillref04_Count.calls k a0_2 a0_3 _ _ l0_4 t239 _ ?side1 ?side2 A4.out).mono ?_); (case side1 => repeat (first | exact (Kd.C_below HR0_4.out HB.out) | (with_reducible refine Kd.C_alloc ?_ _) | (with_reducible refine Kd.C_drewN ?_ _) | (with_reducible refine Kd.C_drew ?_))); (case side2 => exact HC0_4.out); rintro e w19 ⟨rfl, hb⟩; have n0_ := Aside0.mk (blk_below (g := gb236) (o := .cells #[.int .i64 a0_0, .slice A0_1 l0_1.length c0_1, .int .i64 a0_2, .int .i64 a0_3, .slice A0_4 l0_4.length c0_4, .int .i64 a0_5] 27 (0, 0)) (by (with_reducible repeat (first | refine blk_drewN ?_ _ | refine blk_drew ?_ | refine blk_alloc ?_ _)); exact BK236.out) hb); have n1_ := Aside0.mk (blk_below (g := gb237) (o := .cells #[.int .i64 a1_0, .int .i64 a1_1, .int .i64 a1_2] 29 (0, 0)) (by (with_reducible repeat (first | refine blk_drewN ?_ _ | refine blk_drew ?_ | refine blk_alloc ?_ _)); exact BK237.out) hb); have n2_ := Aside0.mk (below_step (by repeat (first | (with_reducible first | exact HB.out | apply below_alloc | apply pw_below_drewN | apply below_drew1 | refine below_set ?_ GE236.out | refine below_set ?_ GE237.out) | exact HB.out)) hb); clear BK236; clear BK237; clear HB; have BK236 := n0_; have BK237 := n1_; have HB := n2_; clear n0_ n1_ n2_; (try clear hb); (try clear hb2); (try clear hk); (try clear hi); have hcz20_0 : w19.cell? ⟨gb236, 0, none⟩ = some (.int .i64 a0_0) := (blk_cell BK236.out 0).trans rfl; have hcz20_1 : w19.cell? ⟨gb236, 1, none⟩ = some (.slice A0_1 l0_1.length c0_1) := (blk_cell BK236.out 1).trans rfl; have hcz20_2 : w19.cell? ⟨gb236, 2, none⟩ = some (.int .i64 a0_2) := (blk_cell BK236.out 2).trans rfl; have hcz20_3 : w19.cell? ⟨gb236, 3, none⟩ = some (.int .i64 a0_3) := (blk_cell BK236.out 3).trans rfl; have hcz20_4 : w19.cell? ⟨gb236, 4, none⟩ = some (.slice A0_4 l0_4.length c0_4) := (blk_cell BK236.out 4).trans rfl; have hcz20_5 : w19.cell? ⟨gb236, 5, none⟩ = some (.int .i64 a0_5) := (blk_cell BK236.out 5).trans rfl; have hfz20_0 := blk_frozen BK236.out 0; have hfz20_1 := blk_frozen BK236.out 1; have hfz20_2 := blk_frozen BK236.out 2; have hfz20_3 := blk_frozen BK236.out 3; have hfz20_4 := blk_frozen BK236.out 4; have hfz20_5 := blk_frozen BK236.out 5; have hcz21_0 : w19.cell? ⟨gb237, 0, none⟩ = some (.int .i64 a1_0) := (blk_cell BK237.out 0).trans rfl; have hcz21_1 : w19.cell? ⟨gb237, 1, none⟩ = some (.int .i64 a1_1) := (blk_cell BK237.out 1).trans rfl; have hcz21_2 : w19.cell? ⟨gb237, 2, none⟩ = some (.int .i64 a1_2) := (blk_cell BK237.out 2).trans rfl; have hfz21_0 := blk_frozen BK237.out 0; have hfz21_1 := blk_frozen BK237.out 1; have hfz21_2 := blk_frozen BK237.out 2) | (go_at_call 11; (with_reducible refine (flow_Apply.calls k a0_0 _ _ l0_1 a0_2 a0_3 _ _ l0_4 a0_5 a1_0 a1_1 a1_2 t240 t243 _ ?side1 ?side2 ?side3 ?side4 A12.out).mono ?_); (case side1 => repeat (first | exact (Kd.C_below HR0_1.out HB.out) | (with_reducible refine Kd.C_alloc ?_ _) | (with_reducible refine Kd.C_drewN ?_ _) | (with_reducible refine Kd.C_drew ?_))); (case side2 => exact HC0_1.out); (case side3 => repeat (first | exact (Kd.C_below HR0_4.out HB.out) | (with_reducible refine Kd.C_alloc ?_ _) | (with_reducible refine Kd.C_drewN ?_ _) | (with_reducible refine Kd.C_drew ?_))); (case side4 => exact HC0_4.out); rintro e w22 ⟨v241, rfl, ho0, hb⟩; have n0_ := Aside0.mk (Kd.R_lower (Kd.R_newB ho0 (g := gb237) (o := .cells #[.int .i64 a1_0, .int .i64 a1_1, .int .i64 a1_2] 29 (0, 0)) (by (with_reducible repeat (first | refine blk_drewN ?_ _ | refine blk_drew ?_ | refine blk_alloc ?_ _)); exact BK237.out)) (below_size (by repeat (first | (with_reducible first | exact HB.out | apply below_alloc | apply pw_below_drewN | apply below_drew1 | refine below_set ?_ GE236.out | refine below_set ?_ GE237.out) | exact HB.out)))); have n1_ := Aside0.mk (blk_below (g := gb236) (o := .cells #[.int .i64 a0_0, .slice A0_1 l0_1.length c0_1, .int .i64 a0_2, .int .i64 a0_3, .slice A0_4 l0_4.length c0_4, .int .i64 a0_5] 27 (0, 0)) (by (with_reducible repeat (first | refine blk_drewN ?_ _ | refine blk_drew ?_ | refine blk_alloc ?_ _)); exact BK236.out) hb); have n2_ := Aside0.mk (blk_below (g := gb237) (o := .cells #[.int .i64 a1_0, .int .i64 a1_1, .int .i64 a1_2] 29 (0, 0)) (by (with_reducible repeat (first | refine blk_drewN ?_ _ | refine blk_drew ?_ | refine blk_alloc ?_ _)); exact BK237.out) hb); have n3_ := Aside0.mk (below_step (by repeat (first | (with_reducible first | exact HB.out | apply below_alloc | apply pw_below_drewN | apply below_drew1 | refine below_set ?_ GE236.out | refine below_set ?_ GE237.out) | exact HB.out)) hb); clear BK236; clear BK237; clear HB; have HO242 := n0_; have BK236 := n1_; have BK237 := n2_; have HB := n3_; clear n0_ n1_ n2_ n3_; (try clear hb); (try clear hb2); (try clear hk); (try clear hi); (try clear ho0))); try go_wp2_with (first | ((with_reducible refine gate_dst (N := 2) rfl ?_); (try (refine gate_guard (by rfl) ?_; dsimp only)); refine box_event ?hg (N := 2) ?hd (cs := #[.int .i64 a0_0, .slice A0_1 l0_1.length c0_1, .int .i64 a0_2, .int .i64 a0_3, .slice A0_4 l0_4.length c0_4, .int .i64 a0_5]) (t := 27) ?hr ?_; (case hd => rfl); (case hg => rfl); (case hr => first | (go_simp; done) | (go_simp; rfl)); intro gb236 hg w14 hbox hb; have n0_ := Aside0.mk (below_step (by repeat (first | (with_reducible first | exact HB.out | apply below_alloc | apply pw_below_drewN | apply below_drew1) | exact HB.out)) hb); have n1_ := Aside0.mk (hbox); have n2_ := Aside0.mk ((by rw [hg]; exact (below_size (by repeat (first | (with_reducible first | exact HB.out | apply below_alloc | apply pw_below_drewN | apply below_drew1) | exact HB.out))) : w.heap.size ≤ gb236)); have n3_ := Aside0.mk ((by rw [hg]; exact (below_size (by repeat (first | (with_reducible first | exact HB.out | apply below_alloc | apply pw_below_drewN | apply below_drew1) | exact HB.out))) : w.heap.size ≤ gb236)); clear HB; have HB := n0_; have BK236 := n1_; have GW236 := n2_; have GE236 := n3_; clear n0_ n1_ n2_ n3_; clear hb hbox hg) | ((with_reducible refine gate_dst (N := 3) rfl ?_); (try (refine gate_guard (by rfl) ?_; dsimp only)); refine box_event ?hg (N := 3) ?hd (cs := #[.int .i64 a1_0, .int .i64 a1_1, .int .i64 a1_2]) (t := 29) ?hr ?_; (case hd => rfl); (case hg => rfl); (case hr => first | (go_simp; done) | (go_simp; rfl)); intro gb237 hg w15 hbox hb; have n0_ := Aside0.mk (blk_below (g := gb236) (o := .cells #[.int .i64 a0_0, .slice A0_1 l0_1.length c0_1, .int .i64 a0_2, .int .i64 a0_3, .slice A0_4 l0_4.length c0_4, .int .i64 a0_5] 27 (0, 0)) (by (with_reducible repeat (first | refine blk_drewN ?_ _ | refine blk_drew ?_ | refine blk_alloc ?_ _)); exact BK236.out) hb); have n1_ := Aside0.mk (below_step (by repeat (first | (with_reducible first | exact HB.out | apply below_alloc | apply pw_below_drewN | apply below_drew1 | refine below_set ?_ GE236.out) | exact HB.out)) hb); have n2_ := Aside0.mk (hbox); have n3_ := Aside0.mk ((by rw [hg]; exact (below_size (by repeat (first | (with_reducible first | exact HB.out | apply below_alloc | apply pw_below_drewN | apply below_drew1 | refine below_set ?_ GE236.out) | exact HB.out))) : w.heap.size ≤ gb237)); have n4_ := Aside0.mk ((by rw [hg]; exact (below_size (by repeat (first | (with_reducible first | exact HB.out | apply below_alloc | apply pw_below_drewN | apply below_drew1 | refine below_set ?_ GE236.out) | exact HB.out))) : w.heap.size ≤ gb237)); have n5_ := Aside0.mk ((by rw [hg]; exact Nat.ne_of_lt (blk_lt (g := gb236) (o := .cells #[.int .i64 a0_0, .slice A0_1 l0_1.length c0_1, .int .i64 a0_2, .int .i64 a0_3, .slice A0_4 l0_4.length c0_4, .int .i64 a0_5] 27 (0, 0)) (by (with_reducible repeat (first | refine blk_drewN ?_ _ | refine blk_drew ?_ | refine blk_alloc ?_ _)); exact BK236.out)) : gb236 ≠ gb237)); have n6_ := Aside0.mk ((by rw [hg]; exact Nat.ne_of_gt (blk_lt (g := gb236) (o := .cells #[.int .i64 a0_0, .slice A0_1 l0_1.length c0_1, .int .i64 a0_2, .int .i64 a0_3, .slice A0_4 l0_4.length c0_4, .int .i64 a0_5] 27 (0, 0)) (by (with_reducible repeat (first | refine blk_drewN ?_ _ | refine blk_drew ?_ | refine blk_alloc ?_ _)); exact BK236.out)) : gb237 ≠ gb236)); clear BK236; clear HB; have BK236 := n0_; have HB := n1_; have BK237 := n2_; have GW237 := n3_; have GE237 := n4_; have NB236_237 := n5_; have NB237_236 := n6_; clear n0_ n1_ n2_ n3_ n4_ n5_ n6_; clear hb hbox hg) | (go_at_call 9; (with_reducible refine (tidemilllaw17_shown.calls k  t238 _ A3.out).mono ?_); rintro e w16 ⟨rfl, hb⟩; have n0_ := Aside0.mk (blk_below (g := gb236) (o := .cells #[.int .i64 a0_0, .slice A0_1 l0_1.length c0_1, .int .i64 a0_2, .int .i64 a0_3, .slice A0_4 l0_4.length c0_4, .int .i64 a0_5] 27 (0, 0)) (by (with_reducible repeat (first | refine blk_drewN ?_ _ | refine blk_drew ?_ | refine blk_alloc ?_ _)); exact BK236.out) hb); have n1_ := Aside0.mk (blk_below (g := gb237) (o := .cells #[.int .i64 a1_0, .int .i64 a1_1, .int .i64 a1_2] 29 (0, 0)) (by (with_reducible repeat (first | refine blk_drewN ?_ _ | refine blk_drew ?_ | refine blk_alloc ?_ _)); exact BK237.out) hb); have n2_ := Aside0.mk (below_step (by repeat (first | (with_reducible first | exact HB.out | apply below_alloc | apply pw_below_drewN | apply below_drew1 | refine below_set ?_ GE236.out | refine below_set ?_ GE237.out) | exact HB.out)) hb); clear BK236; clear BK237; clear HB; have BK236 := n0_; have BK237 := n1_; have HB := n2_; clear n0_ n1_ n2_; (try clear hb); (try clear hb2); (try clear hk); (try clear hi); have hnb17 := NB236_237.out; have hnc17 := NB237_236.out; have hcz18_0 : w16.cell? ⟨gb236, 0, none⟩ = some (.int .i64 a0_0) := (blk_cell BK236.out 0).trans rfl; have hcz18_1 : w16.cell? ⟨gb236, 1, none⟩ = some (.slice A0_1 l0_1.length c0_1) := (blk_cell BK236.out 1).trans rfl; have hcz18_2 : w16.cell? ⟨gb236, 2, none⟩ = some (.int .i64 a0_2) := (blk_cell BK236.out 2).trans rfl; have hcz18_3 : w16.cell? ⟨gb236, 3, none⟩ = some (.int .i64 a0_3) := (blk_cell BK236.out 3).trans rfl; have hcz18_4 : w16.cell? ⟨gb236, 4, none⟩ = some (.slice A0_4 l0_4.length c0_4) := (blk_cell BK236.out 4).trans rfl; have hcz18_5 : w16.cell? ⟨gb236, 5, none⟩ = some (.int .i64 a0_5) := (blk_cell BK236.out 5).trans rfl; have hfz18_0 := blk_frozen BK236.out 0; have hfz18_1 := blk_frozen BK236.out 1; have hfz18_2 := blk_frozen BK236.out 2; have hfz18_3 := blk_frozen BK236.out 3; have hfz18_4 := blk_frozen BK236.out 4; have hfz18_5 := blk_frozen BK236.out 5) | (go_at_call 10; (with_reducible refine (tidemillref04_Count.calls k a0_2 a0_3 _ _ l0_4 t239 _ ?side1 ?side2 A4.out).mono ?_); (case side1 => repeat (first | exact (Kd.C_below HR0_4.out HB.out) | (with_reducible refine Kd.C_alloc ?_ _) | (with_reducible refine Kd.C_drewN ?_ _) | (with_reducible refine Kd.C_drew ?_))); (case side2 => exact HC0_4.out); rintro e w19 ⟨rfl, hb⟩; have n0_ := Aside0.mk (blk_below (g := gb236) (o := .cells #[.int .i64 a0_0, .slice A0_1 l0_1.length c0_1, .int .i64 a0_2, .int .i64 a0_3, .slice A0_4 l0_4.length c0_4, .int .i64 a0_5] 27 (0, 0)) (by (with_reducible repeat (first | refine blk_drewN ?_ _ | refine blk_drew ?_ | refine blk_alloc ?_ _)); exact BK236.out) hb); have n1_ := Aside0.mk (blk_below (g := gb237) (o := .cells #[.int .i64 a1_0, .int .i64 a1_1, .int .i64 a1_2] 29 (0, 0)) (by (with_reducible repeat (first | refine blk_drewN ?_ _ | refine blk_drew ?_ | refine blk_alloc ?_ _)); exact BK237.out) hb); have n2_ := Aside0.mk (below_step (by repeat (first | (with_reducible first | exact HB.out | apply below_alloc | apply pw_below_drewN | apply below_drew1 | refine below_set ?_ GE236.out | refine below_set ?_ GE237.out) | exact HB.out)) hb); clear BK236; clear BK237; clear HB; have BK236 := n0_; have BK237 := n1_; have HB := n2_; clear n0_ n1_ n2_; (try clear hb); (try clear hb2); (try clear hk); (try clear hi); have hcz20_0 : w19.cell? ⟨gb236, 0, none⟩ = some (.int .i64 a0_0) := (blk_cell BK236.out 0).trans rfl; have hcz20_1 : w19.cell? ⟨gb236, 1, none⟩ = some (.slice A0_1 l0_1.length c0_1) := (blk_cell BK236.out 1).trans rfl; have hcz20_2 : w19.cell? ⟨gb236, 2, none⟩ = some (.int .i64 a0_2) := (blk_cell BK236.out 2).trans rfl; have hcz20_3 : w19.cell? ⟨gb236, 3, none⟩ = some (.int .i64 a0_3) := (blk_cell BK236.out 3).trans rfl; have hcz20_4 : w19.cell? ⟨gb236, 4, none⟩ = some (.slice A0_4 l0_4.length c0_4) := (blk_cell BK236.out 4).trans rfl; have hcz20_5 : w19.cell? ⟨gb236, 5, none⟩ = some (.int .i64 a0_5) := (blk_cell BK236.out 5).trans rfl; have hfz20_0 := blk_frozen BK236.out 0; have hfz20_1 := blk_frozen BK236.out 1; have hfz20_2 := blk_frozen BK236.out 2; have hfz20_3 := blk_frozen BK236.out 3; have hfz20_4 := blk_frozen BK236.out 4; have hfz20_5 := blk_frozen BK236.out 5; have hcz21_0 : w19.cell? ⟨gb237, 0, none⟩ = some (.int .i64 a1_0) := (blk_cell BK237.out 0).trans rfl; have hcz21_1 : w19.cell? ⟨gb237, 1, none⟩ = some (.int .i64 a1_1) := (blk_cell BK237.out 1).trans rfl; have hcz21_2 : w19.cell? ⟨gb237, 2, none⟩ = some (.int .i64 a1_2) := (blk_cell BK237.out 2).trans rfl; have hfz21_0 := blk_frozen BK237.out 0; have hfz21_1 := blk_frozen BK237.out 1; have hfz21_2 := blk_frozen BK237.out 2) | (go_at_call 11; (with_reducible refine (flow_Apply.calls k a0_0 _ _ l0_1 a0_2 a0_3 _ _ l0_4 a0_5 a1_0 a1_1 a1_2 t240 t243 _ ?side1 ?side2 ?side3 ?side4 A12.out).mono ?_); (case side1 => repeat (first | exact (Kd.C_below HR0_1.out HB.out) | (with_reducible refine Kd.C_alloc ?_ _) | (with_reducible refine Kd.C_drewN ?_ _) | (with_reducible refine Kd.C_drew ?_))); (case side2 => exact HC0_1.out); (case side3 => repeat (first | exact (Kd.C_below HR0_4.out HB.out) | (with_reducible refine Kd.C_alloc ?_ _) | (with_reducible refine Kd.C_drewN ?_ _) | (with_reducible refine Kd.C_drew ?_))); (case side4 => exact HC0_4.out); rintro e w22 ⟨v241, rfl, ho0, hb⟩; have n0_ := Aside0.mk (Kd.R_lower (Kd.R_newB ho0 (g := gb237) (o := .cells #[.int .i64 a1_0, .int .i64 a1_1, .int .i64 a1_2] 29 (0, 0)) (by (with_reducible repeat (first | refine blk_drewN ?_ _ | refine blk_drew ?_ | refine blk_alloc ?_ _)); exact BK237.out)) (below_size (by repeat (first | (with_reducible first | exact HB.out | apply below_alloc | apply pw_below_drewN | apply below_drew1 | refine below_set ?_ GE236.out | refine below_set ?_ GE237.out) | exact HB.out)))); have n1_ := Aside0.mk (blk_below (g := gb236) (o := .cells #[.int .i64 a0_0, .slice A0_1 l0_1.length c0_1, .int .i64 a0_2, .int .i64 a0_3, .slice A0_4 l0_4.length c0_4, .int .i64 a0_5] 27 (0, 0)) (by (with_reducible repeat (first | refine blk_drewN ?_ _ | refine blk_drew ?_ | refine blk_alloc ?_ _)); exact BK236.out) hb); have n2_ := Aside0.mk (blk_below (g := gb237) (o := .cells #[.int .i64 a1_0, .int .i64 a1_1, .int .i64 a1_2] 29 (0, 0)) (by (with_reducible repeat (first | refine blk_drewN ?_ _ | refine blk_drew ?_ | refine blk_alloc ?_ _)); exact BK237.out) hb); have n3_ := Aside0.mk (below_step (by repeat (first | (with_reducible first | exact HB.out | apply below_alloc | apply pw_below_drewN | apply below_drew1 | refine below_set ?_ GE236.out | refine below_set ?_ GE237.out) | exact HB.out)) hb); clear BK236; clear BK237; clear HB; have HO242 := n0_; have BK236 := n1_; have BK237 := n2_; have HB := n3_; clear n0_ n1_ n2_ n3_; (try clear hb); (try clear hb2); (try clear hk); (try clear hi); (try clear ho0))))
      go_loopg [8] k (fun kq v8 w' => ∃ (x8_1 : Int), v8 = .int .i64 x8_1 ∧ Aside0 (tidemilllaw17_FlowKeeps.l0 kq t238 t240 x8_1 a0_0 l0_1 a0_2 a0_3 l0_4 a0_5 a1_0 a1_1 a1_2 = some r) ∧ Aside0 (kq ≤ k) ∧ Aside0 (Kd.R k29 29 w' w.heap.size (fun k_ => k_ ≠ gb237) v241 t240) ∧ Aside0 (w'.heap[gb236]? = some (.cells #[.int .i64 a0_0, (.slice A0_1 l0_1.length c0_1), .int .i64 a0_2, .int .i64 a0_3, (.slice A0_4 l0_4.length c0_4), .int .i64 a0_5] 27 (0, 0))) ∧ Aside0 (w'.heap[gb237]? = some (.cells #[.int .i64 a1_0, .int .i64 a1_1, .int .i64 a1_2] 29 (0, 0))) ∧ Aside0 (Below w.heap.size w w'))
      case atStart => exact ⟨(0), (by first | rfl | (simp; done) | (simp [*]; done)), H', ⟨Nat.le_refl _⟩, ⟨by (with_reducible repeat (first | apply Kd.R_alloc | apply Kd.R_drewN | apply Kd.R_drew)); exact Kd.R_mono HO242.out (fun _ hk => hk.2)⟩, ⟨by (with_reducible repeat (first | refine blk_drewN ?_ _ | refine blk_drew ?_ | refine blk_alloc ?_ _)); exact BK236.out⟩, ⟨by (with_reducible repeat (first | refine blk_drewN ?_ _ | refine blk_drew ?_ | refine blk_alloc ?_ _)); exact BK237.out⟩, ⟨by repeat (first | (with_reducible first | exact HB.out | apply below_alloc | apply pw_below_drewN | apply below_drew1 | refine below_set ?_ GE236.out | refine below_set ?_ GE237.out) | exact HB.out)⟩⟩
      case round =>
        clear H'
        try clear c1
        try clear p2
        try clear c4
        try clear c5
        try clear c5b0
        try clear c9
        try clear c13
        try clear c13b0
        try clear c13b1
        try clear c17
        try clear hcz10_0
        try clear hcz10_1
        try clear hcz10_2
        try clear hcz10_3
        try clear hcz10_4
        try clear hcz10_5
        try clear hcz18_0
        try clear hcz18_1
        try clear hcz18_2
        try clear hcz18_3
        try clear hcz18_4
        try clear hcz18_5
        try clear hcz20_0
        try clear hcz20_1
        try clear hcz20_2
        try clear hcz20_3
        try clear hcz20_4
        try clear hcz20_5
        try clear hcz21_0
        try clear hcz21_1
        try clear hcz21_2
        try clear hfz10_0
        try clear hfz10_1
        try clear hfz10_2
        try clear hfz10_3
        try clear hfz10_4
        try clear hfz10_5
        try clear hfz18_0
        try clear hfz18_1
        try clear hfz18_2
        try clear hfz18_3
        try clear hfz18_4
        try clear hfz18_5
        try clear hfz20_0
        try clear hfz20_1
        try clear hfz20_2
        try clear hfz20_3
        try clear hfz20_4
        try clear hfz20_5
        try clear hfz21_0
        try clear hfz21_1
        try clear hfz21_2
        obtain ⟨x8_1, rfl, HA, HK1, HO_6, BK236, BK237, HB⟩ := hrel
        cases gk with
        | zero => exact absurd HA.out (by simp [tidemilllaw17_FlowKeeps.l0])
        | succ k1 =>
          have H := HA.out
          clear HA
          simp only [tidemilllaw17_FlowKeeps.l0] at H
          by_cases c23 : x8_1 < (t240.length : Int)
          · rw [if_pos c23] at H
            have c23b0 : decide (x8_1 < (t240.length : Int)) = true := decide_eq_true c23
            clear c23
            by_cases c24 : 0 ≤ x8_1
            · rw [if_pos c24] at H
              have c24b0 : decide (0 ≤ x8_1) = true := decide_eq_true c24
              clear c24
              by_cases c25 : ((rd_T29 t240 x8_1).f2) = a1_2
              · rw [if_pos c25] at H
                have c25b0 : (((rd_T29 t240 x8_1).f2) == a1_2) = true := beq_iff_eq.mpr c25
                have c25b1 : (((rd_T29 t240 x8_1).f2) != a1_2) = false := bne_eq_false_iff_eq.mpr c25
                clear c25
                by_cases c26 : a0_0 = 5
                · rw [if_pos c26] at H
                  have c26b0 : (a0_0 == 5) = true := beq_iff_eq.mpr c26
                  have c26b1 : (a0_0 != 5) = false := bne_eq_false_iff_eq.mpr c26
                  clear c26
                  by_cases c27 : a0_0 = 2
                  · rw [if_pos c27] at H
                    have c27b0 : (a0_0 == 2) = true := beq_iff_eq.mpr c27
                    have c27b1 : (a0_0 != 2) = false := bne_eq_false_iff_eq.mpr c27
                    clear c27
                    by_cases c28 : a0_0 = 4
                    · rw [if_pos c28] at H
                      have c28b0 : (a0_0 == 4) = true := beq_iff_eq.mpr c28
                      have c28b1 : (a0_0 != 4) = false := bne_eq_false_iff_eq.mpr c28
                      clear c28
                      by_cases c29 : ((rd_T29 t240 x8_1).f1) = (wrap64 (a1_1 + x8_1))
                      · rw [if_pos c29] at H
                        have c29b0 : (((rd_T29 t240 x8_1).f1) == (wrap64 (a1_1 + x8_1))) = true := beq_iff_eq.mpr c29
                        have c29b1 : (((rd_T29 t240 x8_1).f1) != (wrap64 (a1_1 + x8_1))) = false := bne_eq_false_iff_eq.mpr c29
                        clear c29
                        have H' := Aside0.mk H
                        clear H
                        obtain ⟨Ao30, co30, eo30⟩ := Kd.R_slice HO_6.out
                        subst eo30
                        have p244 : 0 ≤ (x8_1 : Int) := of_decide_eq_true (by first | (with_reducible assumption) | assumption)
                        have q244 : x8_1 < (t240.length : Int) := of_decide_eq_true (by first | (with_reducible assumption) | assumption)
                        obtain ⟨ad244, e244, hx244_0, hx244_1, hx244_2⟩ := at_T29 (Kd.R_reads' HO_6.out).2.2 x8_1 p244 q244
                        cases e244
                        replace p244 := eq_true p244
                        replace q244 := eq_true q244
                        have hnb31 := NB237_236.out
                        have hnc31 := NB236_237.out
                        have hcz32_0 : wr.cell? ⟨gb237, 0, none⟩ = some (.int .i64 a1_0) := (blk_cell BK237.out 0).trans rfl
                        have hcz32_1 : wr.cell? ⟨gb237, 1, none⟩ = some (.int .i64 a1_1) := (blk_cell BK237.out 1).trans rfl
                        have hcz32_2 : wr.cell? ⟨gb237, 2, none⟩ = some (.int .i64 a1_2) := (blk_cell BK237.out 2).trans rfl
                        have hfz32_0 := blk_frozen BK237.out 0
                        have hfz32_1 := blk_frozen BK237.out 1
                        have hfz32_2 := blk_frozen BK237.out 2
                        have hcz33_0 : wr.cell? ⟨gb236, 0, none⟩ = some (.int .i64 a0_0) := (blk_cell BK236.out 0).trans rfl
                        have hcz33_1 : wr.cell? ⟨gb236, 1, none⟩ = some (.slice A0_1 l0_1.length c0_1) := (blk_cell BK236.out 1).trans rfl
                        have hcz33_2 : wr.cell? ⟨gb236, 2, none⟩ = some (.int .i64 a0_2) := (blk_cell BK236.out 2).trans rfl
                        have hcz33_3 : wr.cell? ⟨gb236, 3, none⟩ = some (.int .i64 a0_3) := (blk_cell BK236.out 3).trans rfl
                        have hcz33_4 : wr.cell? ⟨gb236, 4, none⟩ = some (.slice A0_4 l0_4.length c0_4) := (blk_cell BK236.out 4).trans rfl
                        have hcz33_5 : wr.cell? ⟨gb236, 5, none⟩ = some (.int .i64 a0_5) := (blk_cell BK236.out 5).trans rfl
                        have hfz33_0 := blk_frozen BK236.out 0
                        have hfz33_1 := blk_frozen BK236.out 1
                        have hfz33_2 := blk_frozen BK236.out 2
                        have hfz33_3 := blk_frozen BK236.out 3
                        have hfz33_4 := blk_frozen BK236.out 4
                        have hfz33_5 := blk_frozen BK236.out 5
                        have p245 : 0 ≤ (x8_1 : Int) := of_decide_eq_true (by first | (with_reducible assumption) | assumption)
                        have q245 : x8_1 < (t240.length : Int) := of_decide_eq_true (by first | (with_reducible assumption) | assumption)
                        obtain ⟨ad245, e245, hx245_0, hx245_1, hx245_2⟩ := at_T29 (Kd.R_reads' HO_6.out).2.2 x8_1 p245 q245
                        obtain rfl : ad244 = ad245 := (by injection e245)
                        replace p245 := eq_true p245
                        replace q245 := eq_true q245
                        go_wp2
                        repeat (go_quiet (fail); try go_wp2)
                        go_roundg k1
                        case measure => have := HK1.out; omega
                        case rel => exact ⟨(wrap64 (x8_1 + 1)), (by first | rfl | (simp; done) | (simp [*]; done)), H', ⟨by have := HK1.out; omega⟩, ⟨by (with_reducible repeat (first | apply Kd.R_alloc | apply Kd.R_drewN | apply Kd.R_drew)); exact HO_6.out⟩, ⟨by (with_reducible repeat (first | refine blk_drewN ?_ _ | refine blk_drew ?_ | refine blk_alloc ?_ _)); exact BK236.out⟩, ⟨by (with_reducible repeat (first | refine blk_drewN ?_ _ | refine blk_drew ?_ | refine blk_alloc ?_ _)); exact BK237.out⟩, ⟨by repeat (first | (with_reducible first | exact HB.out | apply below_alloc | apply pw_below_drewN | apply below_drew1 | refine below_set ?_ GE236.out | refine below_set ?_ GE237.out) | exact HB.out)⟩⟩
                      · rw [if_neg c29] at H
                        have c29b0 : (((rd_T29 t240 x8_1).f1) == (wrap64 (a1_1 + x8_1))) = false := beq_eq_false_iff_ne.mpr c29
                        have c29b1 : (((rd_T29 t240 x8_1).f1) != (wrap64 (a1_1 + x8_1))) = true := bne_iff_ne.mpr c29
                        obtain rfl := Option.some.inj H
                        obtain ⟨Ao34, co34, eo34⟩ := Kd.R_slice HO_6.out
                        subst eo34
                        have p244 : 0 ≤ (x8_1 : Int) := of_decide_eq_true (by first | (with_reducible assumption) | assumption)
                        have q244 : x8_1 < (t240.length : Int) := of_decide_eq_true (by first | (with_reducible assumption) | assumption)
                        obtain ⟨ad244, e244, hx244_0, hx244_1, hx244_2⟩ := at_T29 (Kd.R_reads' HO_6.out).2.2 x8_1 p244 q244
                        cases e244
                        replace p244 := eq_true p244
                        replace q244 := eq_true q244
                        have hnb35 := NB237_236.out
                        have hnc35 := NB236_237.out
                        have hcz36_0 : wr.cell? ⟨gb237, 0, none⟩ = some (.int .i64 a1_0) := (blk_cell BK237.out 0).trans rfl
                        have hcz36_1 : wr.cell? ⟨gb237, 1, none⟩ = some (.int .i64 a1_1) := (blk_cell BK237.out 1).trans rfl
                        have hcz36_2 : wr.cell? ⟨gb237, 2, none⟩ = some (.int .i64 a1_2) := (blk_cell BK237.out 2).trans rfl
                        have hfz36_0 := blk_frozen BK237.out 0
                        have hfz36_1 := blk_frozen BK237.out 1
                        have hfz36_2 := blk_frozen BK237.out 2
                        have hcz37_0 : wr.cell? ⟨gb236, 0, none⟩ = some (.int .i64 a0_0) := (blk_cell BK236.out 0).trans rfl
                        have hcz37_1 : wr.cell? ⟨gb236, 1, none⟩ = some (.slice A0_1 l0_1.length c0_1) := (blk_cell BK236.out 1).trans rfl
                        have hcz37_2 : wr.cell? ⟨gb236, 2, none⟩ = some (.int .i64 a0_2) := (blk_cell BK236.out 2).trans rfl
                        have hcz37_3 : wr.cell? ⟨gb236, 3, none⟩ = some (.int .i64 a0_3) := (blk_cell BK236.out 3).trans rfl
                        have hcz37_4 : wr.cell? ⟨gb236, 4, none⟩ = some (.slice A0_4 l0_4.length c0_4) := (blk_cell BK236.out 4).trans rfl
                        have hcz37_5 : wr.cell? ⟨gb236, 5, none⟩ = some (.int .i64 a0_5) := (blk_cell BK236.out 5).trans rfl
                        have hfz37_0 := blk_frozen BK236.out 0
                        have hfz37_1 := blk_frozen BK236.out 1
                        have hfz37_2 := blk_frozen BK236.out 2
                        have hfz37_3 := blk_frozen BK236.out 3
                        have hfz37_4 := blk_frozen BK236.out 4
                        have hfz37_5 := blk_frozen BK236.out 5
                        have p245 : 0 ≤ (x8_1 : Int) := of_decide_eq_true (by first | (with_reducible assumption) | assumption)
                        have q245 : x8_1 < (t240.length : Int) := of_decide_eq_true (by first | (with_reducible assumption) | assumption)
                        obtain ⟨ad245, e245, hx245_0, hx245_1, hx245_2⟩ := at_T29 (Kd.R_reads' HO_6.out).2.2 x8_1 p245 q245
                        obtain rfl : ad244 = ad245 := (by injection e245)
                        replace p245 := eq_true p245
                        replace q245 := eq_true q245
                        go_wp2
                        repeat (go_quiet (fail); try go_wp2)
                        go_ret
                        exact ⟨by first | rfl | (simp [errW_none, errW_some] <;> rfl) | (simp [*, errW_none, errW_some] <;> rfl), by repeat (first | (with_reducible first | exact HB.out | apply below_alloc | apply pw_below_drewN | apply below_drew1 | refine below_set ?_ GE236.out | refine below_set ?_ GE237.out) | exact HB.out)⟩
                    · rw [if_neg c28] at H
                      have c28b0 : (a0_0 == 4) = false := beq_eq_false_iff_ne.mpr c28
                      have c28b1 : (a0_0 != 4) = true := bne_iff_ne.mpr c28
                      have H' := Aside0.mk H
                      clear H
                      obtain ⟨Ao38, co38, eo38⟩ := Kd.R_slice HO_6.out
                      subst eo38
                      have p244 : 0 ≤ (x8_1 : Int) := of_decide_eq_true (by first | (with_reducible assumption) | assumption)
                      have q244 : x8_1 < (t240.length : Int) := of_decide_eq_true (by first | (with_reducible assumption) | assumption)
                      obtain ⟨ad244, e244, hx244_0, hx244_1, hx244_2⟩ := at_T29 (Kd.R_reads' HO_6.out).2.2 x8_1 p244 q244
                      cases e244
                      replace p244 := eq_true p244
                      replace q244 := eq_true q244
                      have hnb39 := NB237_236.out
                      have hnc39 := NB236_237.out
                      have hcz40_0 : wr.cell? ⟨gb237, 0, none⟩ = some (.int .i64 a1_0) := (blk_cell BK237.out 0).trans rfl
                      have hcz40_1 : wr.cell? ⟨gb237, 1, none⟩ = some (.int .i64 a1_1) := (blk_cell BK237.out 1).trans rfl
                      have hcz40_2 : wr.cell? ⟨gb237, 2, none⟩ = some (.int .i64 a1_2) := (blk_cell BK237.out 2).trans rfl
                      have hfz40_0 := blk_frozen BK237.out 0
                      have hfz40_1 := blk_frozen BK237.out 1
                      have hfz40_2 := blk_frozen BK237.out 2
                      have hcz41_0 : wr.cell? ⟨gb236, 0, none⟩ = some (.int .i64 a0_0) := (blk_cell BK236.out 0).trans rfl
                      have hcz41_1 : wr.cell? ⟨gb236, 1, none⟩ = some (.slice A0_1 l0_1.length c0_1) := (blk_cell BK236.out 1).trans rfl
                      have hcz41_2 : wr.cell? ⟨gb236, 2, none⟩ = some (.int .i64 a0_2) := (blk_cell BK236.out 2).trans rfl
                      have hcz41_3 : wr.cell? ⟨gb236, 3, none⟩ = some (.int .i64 a0_3) := (blk_cell BK236.out 3).trans rfl
                      have hcz41_4 : wr.cell? ⟨gb236, 4, none⟩ = some (.slice A0_4 l0_4.length c0_4) := (blk_cell BK236.out 4).trans rfl
                      have hcz41_5 : wr.cell? ⟨gb236, 5, none⟩ = some (.int .i64 a0_5) := (blk_cell BK236.out 5).trans rfl
                      have hfz41_0 := blk_frozen BK236.out 0
                      have hfz41_1 := blk_frozen BK236.out 1
                      have hfz41_2 := blk_frozen BK236.out 2
                      have hfz41_3 := blk_frozen BK236.out 3
                      have hfz41_4 := blk_frozen BK236.out 4
                      have hfz41_5 := blk_frozen BK236.out 5
                      go_wp2
                      repeat (go_quiet (fail); try go_wp2)
                      go_roundg k1
                      case measure => have := HK1.out; omega
                      case rel => exact ⟨(wrap64 (x8_1 + 1)), (by first | rfl | (simp; done) | (simp [*]; done)), H', ⟨by have := HK1.out; omega⟩, ⟨by (with_reducible repeat (first | apply Kd.R_alloc | apply Kd.R_drewN | apply Kd.R_drew)); exact HO_6.out⟩, ⟨by (with_reducible repeat (first | refine blk_drewN ?_ _ | refine blk_drew ?_ | refine blk_alloc ?_ _)); exact BK236.out⟩, ⟨by (with_reducible repeat (first | refine blk_drewN ?_ _ | refine blk_drew ?_ | refine blk_alloc ?_ _)); exact BK237.out⟩, ⟨by repeat (first | (with_reducible first | exact HB.out | apply below_alloc | apply pw_below_drewN | apply below_drew1 | refine below_set ?_ GE236.out | refine below_set ?_ GE237.out) | exact HB.out)⟩⟩
                  · rw [if_neg c27] at H
                    have c27b0 : (a0_0 == 2) = false := beq_eq_false_iff_ne.mpr c27
                    have c27b1 : (a0_0 != 2) = true := bne_iff_ne.mpr c27
                    by_cases c42 : a0_0 = 4
                    · rw [if_pos c42] at H
                      have c42b0 : (a0_0 == 4) = true := beq_iff_eq.mpr c42
                      have c42b1 : (a0_0 != 4) = false := bne_eq_false_iff_eq.mpr c42
                      clear c42
                      by_cases c43 : ((rd_T29 t240 x8_1).f1) = (wrap64 (a1_1 + x8_1))
                      · rw [if_pos c43] at H
                        have c43b0 : (((rd_T29 t240 x8_1).f1) == (wrap64 (a1_1 + x8_1))) = true := beq_iff_eq.mpr c43
                        have c43b1 : (((rd_T29 t240 x8_1).f1) != (wrap64 (a1_1 + x8_1))) = false := bne_eq_false_iff_eq.mpr c43
                        clear c43
                        have H' := Aside0.mk H
                        clear H
                        obtain ⟨Ao44, co44, eo44⟩ := Kd.R_slice HO_6.out
                        subst eo44
                        have p244 : 0 ≤ (x8_1 : Int) := of_decide_eq_true (by first | (with_reducible assumption) | assumption)
                        have q244 : x8_1 < (t240.length : Int) := of_decide_eq_true (by first | (with_reducible assumption) | assumption)
                        obtain ⟨ad244, e244, hx244_0, hx244_1, hx244_2⟩ := at_T29 (Kd.R_reads' HO_6.out).2.2 x8_1 p244 q244
                        cases e244
                        replace p244 := eq_true p244
                        replace q244 := eq_true q244
                        have hnb45 := NB237_236.out
                        have hnc45 := NB236_237.out
                        have hcz46_0 : wr.cell? ⟨gb237, 0, none⟩ = some (.int .i64 a1_0) := (blk_cell BK237.out 0).trans rfl
                        have hcz46_1 : wr.cell? ⟨gb237, 1, none⟩ = some (.int .i64 a1_1) := (blk_cell BK237.out 1).trans rfl
                        have hcz46_2 : wr.cell? ⟨gb237, 2, none⟩ = some (.int .i64 a1_2) := (blk_cell BK237.out 2).trans rfl
                        have hfz46_0 := blk_frozen BK237.out 0
                        have hfz46_1 := blk_frozen BK237.out 1
                        have hfz46_2 := blk_frozen BK237.out 2
                        have hcz47_0 : wr.cell? ⟨gb236, 0, none⟩ = some (.int .i64 a0_0) := (blk_cell BK236.out 0).trans rfl
                        have hcz47_1 : wr.cell? ⟨gb236, 1, none⟩ = some (.slice A0_1 l0_1.length c0_1) := (blk_cell BK236.out 1).trans rfl
                        have hcz47_2 : wr.cell? ⟨gb236, 2, none⟩ = some (.int .i64 a0_2) := (blk_cell BK236.out 2).trans rfl
                        have hcz47_3 : wr.cell? ⟨gb236, 3, none⟩ = some (.int .i64 a0_3) := (blk_cell BK236.out 3).trans rfl
                        have hcz47_4 : wr.cell? ⟨gb236, 4, none⟩ = some (.slice A0_4 l0_4.length c0_4) := (blk_cell BK236.out 4).trans rfl
                        have hcz47_5 : wr.cell? ⟨gb236, 5, none⟩ = some (.int .i64 a0_5) := (blk_cell BK236.out 5).trans rfl
                        have hfz47_0 := blk_frozen BK236.out 0
                        have hfz47_1 := blk_frozen BK236.out 1
                        have hfz47_2 := blk_frozen BK236.out 2
                        have hfz47_3 := blk_frozen BK236.out 3
                        have hfz47_4 := blk_frozen BK236.out 4
                        have hfz47_5 := blk_frozen BK236.out 5
                        have p246 : 0 ≤ (x8_1 : Int) := of_decide_eq_true (by first | (with_reducible assumption) | assumption)
                        have q246 : x8_1 < (t240.length : Int) := of_decide_eq_true (by first | (with_reducible assumption) | assumption)
                        obtain ⟨ad246, e246, hx246_0, hx246_1, hx246_2⟩ := at_T29 (Kd.R_reads' HO_6.out).2.2 x8_1 p246 q246
                        obtain rfl : ad244 = ad246 := (by injection e246)
                        replace p246 := eq_true p246
                        replace q246 := eq_true q246
                        go_wp2
                        repeat (go_quiet (fail); try go_wp2)
                        go_roundg k1
                        case measure => have := HK1.out; omega
                        case rel => exact ⟨(wrap64 (x8_1 + 1)), (by first | rfl | (simp; done) | (simp [*]; done)), H', ⟨by have := HK1.out; omega⟩, ⟨by (with_reducible repeat (first | apply Kd.R_alloc | apply Kd.R_drewN | apply Kd.R_drew)); exact HO_6.out⟩, ⟨by (with_reducible repeat (first | refine blk_drewN ?_ _ | refine blk_drew ?_ | refine blk_alloc ?_ _)); exact BK236.out⟩, ⟨by (with_reducible repeat (first | refine blk_drewN ?_ _ | refine blk_drew ?_ | refine blk_alloc ?_ _)); exact BK237.out⟩, ⟨by repeat (first | (with_reducible first | exact HB.out | apply below_alloc | apply pw_below_drewN | apply below_drew1 | refine below_set ?_ GE236.out | refine below_set ?_ GE237.out) | exact HB.out)⟩⟩
                      · rw [if_neg c43] at H
                        have c43b0 : (((rd_T29 t240 x8_1).f1) == (wrap64 (a1_1 + x8_1))) = false := beq_eq_false_iff_ne.mpr c43
                        have c43b1 : (((rd_T29 t240 x8_1).f1) != (wrap64 (a1_1 + x8_1))) = true := bne_iff_ne.mpr c43
                        obtain rfl := Option.some.inj H
                        obtain ⟨Ao48, co48, eo48⟩ := Kd.R_slice HO_6.out
                        subst eo48
                        have p244 : 0 ≤ (x8_1 : Int) := of_decide_eq_true (by first | (with_reducible assumption) | assumption)
                        have q244 : x8_1 < (t240.length : Int) := of_decide_eq_true (by first | (with_reducible assumption) | assumption)
                        obtain ⟨ad244, e244, hx244_0, hx244_1, hx244_2⟩ := at_T29 (Kd.R_reads' HO_6.out).2.2 x8_1 p244 q244
                        cases e244
                        replace p244 := eq_true p244
                        replace q244 := eq_true q244
                        have hnb49 := NB237_236.out
                        have hnc49 := NB236_237.out
                        have hcz50_0 : wr.cell? ⟨gb237, 0, none⟩ = some (.int .i64 a1_0) := (blk_cell BK237.out 0).trans rfl
                        have hcz50_1 : wr.cell? ⟨gb237, 1, none⟩ = some (.int .i64 a1_1) := (blk_cell BK237.out 1).trans rfl
                        have hcz50_2 : wr.cell? ⟨gb237, 2, none⟩ = some (.int .i64 a1_2) := (blk_cell BK237.out 2).trans rfl
                        have hfz50_0 := blk_frozen BK237.out 0
                        have hfz50_1 := blk_frozen BK237.out 1
                        have hfz50_2 := blk_frozen BK237.out 2
                        have hcz51_0 : wr.cell? ⟨gb236, 0, none⟩ = some (.int .i64 a0_0) := (blk_cell BK236.out 0).trans rfl
                        have hcz51_1 : wr.cell? ⟨gb236, 1, none⟩ = some (.slice A0_1 l0_1.length c0_1) := (blk_cell BK236.out 1).trans rfl
                        have hcz51_2 : wr.cell? ⟨gb236, 2, none⟩ = some (.int .i64 a0_2) := (blk_cell BK236.out 2).trans rfl
                        have hcz51_3 : wr.cell? ⟨gb236, 3, none⟩ = some (.int .i64 a0_3) := (blk_cell BK236.out 3).trans rfl
                        have hcz51_4 : wr.cell? ⟨gb236, 4, none⟩ = some (.slice A0_4 l0_4.length c0_4) := (blk_cell BK236.out 4).trans rfl
                        have hcz51_5 : wr.cell? ⟨gb236, 5, none⟩ = some (.int .i64 a0_5) := (blk_cell BK236.out 5).trans rfl
                        have hfz51_0 := blk_frozen BK236.out 0
                        have hfz51_1 := blk_frozen BK236.out 1
                        have hfz51_2 := blk_frozen BK236.out 2
                        have hfz51_3 := blk_frozen BK236.out 3
                        have hfz51_4 := blk_frozen BK236.out 4
                        have hfz51_5 := blk_frozen BK236.out 5
                        have p246 : 0 ≤ (x8_1 : Int) := of_decide_eq_true (by first | (with_reducible assumption) | assumption)
                        have q246 : x8_1 < (t240.length : Int) := of_decide_eq_true (by first | (with_reducible assumption) | assumption)
                        obtain ⟨ad246, e246, hx246_0, hx246_1, hx246_2⟩ := at_T29 (Kd.R_reads' HO_6.out).2.2 x8_1 p246 q246
                        obtain rfl : ad244 = ad246 := (by injection e246)
                        replace p246 := eq_true p246
                        replace q246 := eq_true q246
                        go_wp2
                        repeat (go_quiet (fail); try go_wp2)
                        go_ret
                        exact ⟨by first | rfl | (simp [errW_none, errW_some] <;> rfl) | (simp [*, errW_none, errW_some] <;> rfl), by repeat (first | (with_reducible first | exact HB.out | apply below_alloc | apply pw_below_drewN | apply below_drew1 | refine below_set ?_ GE236.out | refine below_set ?_ GE237.out) | exact HB.out)⟩
                    · rw [if_neg c42] at H
                      have c42b0 : (a0_0 == 4) = false := beq_eq_false_iff_ne.mpr c42
                      have c42b1 : (a0_0 != 4) = true := bne_iff_ne.mpr c42
                      by_cases c52 : ((rd_T29 t240 x8_1).f1) = a1_1
                      · rw [if_pos c52] at H
                        have c52b0 : (((rd_T29 t240 x8_1).f1) == a1_1) = true := beq_iff_eq.mpr c52
                        have c52b1 : (((rd_T29 t240 x8_1).f1) != a1_1) = false := bne_eq_false_iff_eq.mpr c52
                        clear c52
                        have H' := Aside0.mk H
                        clear H
                        obtain ⟨Ao53, co53, eo53⟩ := Kd.R_slice HO_6.out
                        subst eo53
                        have p244 : 0 ≤ (x8_1 : Int) := of_decide_eq_true (by first | (with_reducible assumption) | assumption)
                        have q244 : x8_1 < (t240.length : Int) := of_decide_eq_true (by first | (with_reducible assumption) | assumption)
                        obtain ⟨ad244, e244, hx244_0, hx244_1, hx244_2⟩ := at_T29 (Kd.R_reads' HO_6.out).2.2 x8_1 p244 q244
                        cases e244
                        replace p244 := eq_true p244
                        replace q244 := eq_true q244
                        have hnb54 := NB237_236.out
                        have hnc54 := NB236_237.out
                        have hcz55_0 : wr.cell? ⟨gb237, 0, none⟩ = some (.int .i64 a1_0) := (blk_cell BK237.out 0).trans rfl
                        have hcz55_1 : wr.cell? ⟨gb237, 1, none⟩ = some (.int .i64 a1_1) := (blk_cell BK237.out 1).trans rfl
                        have hcz55_2 : wr.cell? ⟨gb237, 2, none⟩ = some (.int .i64 a1_2) := (blk_cell BK237.out 2).trans rfl
                        have hfz55_0 := blk_frozen BK237.out 0
                        have hfz55_1 := blk_frozen BK237.out 1
                        have hfz55_2 := blk_frozen BK237.out 2
                        have hcz56_0 : wr.cell? ⟨gb236, 0, none⟩ = some (.int .i64 a0_0) := (blk_cell BK236.out 0).trans rfl
                        have hcz56_1 : wr.cell? ⟨gb236, 1, none⟩ = some (.slice A0_1 l0_1.length c0_1) := (blk_cell BK236.out 1).trans rfl
                        have hcz56_2 : wr.cell? ⟨gb236, 2, none⟩ = some (.int .i64 a0_2) := (blk_cell BK236.out 2).trans rfl
                        have hcz56_3 : wr.cell? ⟨gb236, 3, none⟩ = some (.int .i64 a0_3) := (blk_cell BK236.out 3).trans rfl
                        have hcz56_4 : wr.cell? ⟨gb236, 4, none⟩ = some (.slice A0_4 l0_4.length c0_4) := (blk_cell BK236.out 4).trans rfl
                        have hcz56_5 : wr.cell? ⟨gb236, 5, none⟩ = some (.int .i64 a0_5) := (blk_cell BK236.out 5).trans rfl
                        have hfz56_0 := blk_frozen BK236.out 0
                        have hfz56_1 := blk_frozen BK236.out 1
                        have hfz56_2 := blk_frozen BK236.out 2
                        have hfz56_3 := blk_frozen BK236.out 3
                        have hfz56_4 := blk_frozen BK236.out 4
                        have hfz56_5 := blk_frozen BK236.out 5
                        have p247 : 0 ≤ (x8_1 : Int) := of_decide_eq_true (by first | (with_reducible assumption) | assumption)
                        have q247 : x8_1 < (t240.length : Int) := of_decide_eq_true (by first | (with_reducible assumption) | assumption)
                        obtain ⟨ad247, e247, hx247_0, hx247_1, hx247_2⟩ := at_T29 (Kd.R_reads' HO_6.out).2.2 x8_1 p247 q247
                        obtain rfl : ad244 = ad247 := (by injection e247)
                        replace p247 := eq_true p247
                        replace q247 := eq_true q247
                        go_wp2
                        repeat (go_quiet (fail); try go_wp2)
                        go_roundg k1
                        case measure => have := HK1.out; omega
                        case rel => exact ⟨(wrap64 (x8_1 + 1)), (by first | rfl | (simp; done) | (simp [*]; done)), H', ⟨by have := HK1.out; omega⟩, ⟨by (with_reducible repeat (first | apply Kd.R_alloc | apply Kd.R_drewN | apply Kd.R_drew)); exact HO_6.out⟩, ⟨by (with_reducible repeat (first | refine blk_drewN ?_ _ | refine blk_drew ?_ | refine blk_alloc ?_ _)); exact BK236.out⟩, ⟨by (with_reducible repeat (first | refine blk_drewN ?_ _ | refine blk_drew ?_ | refine blk_alloc ?_ _)); exact BK237.out⟩, ⟨by repeat (first | (with_reducible first | exact HB.out | apply below_alloc | apply pw_below_drewN | apply below_drew1 | refine below_set ?_ GE236.out | refine below_set ?_ GE237.out) | exact HB.out)⟩⟩
                      · rw [if_neg c52] at H
                        have c52b0 : (((rd_T29 t240 x8_1).f1) == a1_1) = false := beq_eq_false_iff_ne.mpr c52
                        have c52b1 : (((rd_T29 t240 x8_1).f1) != a1_1) = true := bne_iff_ne.mpr c52
                        obtain rfl := Option.some.inj H
                        obtain ⟨Ao57, co57, eo57⟩ := Kd.R_slice HO_6.out
                        subst eo57
                        have p244 : 0 ≤ (x8_1 : Int) := of_decide_eq_true (by first | (with_reducible assumption) | assumption)
                        have q244 : x8_1 < (t240.length : Int) := of_decide_eq_true (by first | (with_reducible assumption) | assumption)
                        obtain ⟨ad244, e244, hx244_0, hx244_1, hx244_2⟩ := at_T29 (Kd.R_reads' HO_6.out).2.2 x8_1 p244 q244
                        cases e244
                        replace p244 := eq_true p244
                        replace q244 := eq_true q244
                        have hnb58 := NB237_236.out
                        have hnc58 := NB236_237.out
                        have hcz59_0 : wr.cell? ⟨gb237, 0, none⟩ = some (.int .i64 a1_0) := (blk_cell BK237.out 0).trans rfl
                        have hcz59_1 : wr.cell? ⟨gb237, 1, none⟩ = some (.int .i64 a1_1) := (blk_cell BK237.out 1).trans rfl
                        have hcz59_2 : wr.cell? ⟨gb237, 2, none⟩ = some (.int .i64 a1_2) := (blk_cell BK237.out 2).trans rfl
                        have hfz59_0 := blk_frozen BK237.out 0
                        have hfz59_1 := blk_frozen BK237.out 1
                        have hfz59_2 := blk_frozen BK237.out 2
                        have hcz60_0 : wr.cell? ⟨gb236, 0, none⟩ = some (.int .i64 a0_0) := (blk_cell BK236.out 0).trans rfl
                        have hcz60_1 : wr.cell? ⟨gb236, 1, none⟩ = some (.slice A0_1 l0_1.length c0_1) := (blk_cell BK236.out 1).trans rfl
                        have hcz60_2 : wr.cell? ⟨gb236, 2, none⟩ = some (.int .i64 a0_2) := (blk_cell BK236.out 2).trans rfl
                        have hcz60_3 : wr.cell? ⟨gb236, 3, none⟩ = some (.int .i64 a0_3) := (blk_cell BK236.out 3).trans rfl
                        have hcz60_4 : wr.cell? ⟨gb236, 4, none⟩ = some (.slice A0_4 l0_4.length c0_4) := (blk_cell BK236.out 4).trans rfl
                        have hcz60_5 : wr.cell? ⟨gb236, 5, none⟩ = some (.int .i64 a0_5) := (blk_cell BK236.out 5).trans rfl
                        have hfz60_0 := blk_frozen BK236.out 0
                        have hfz60_1 := blk_frozen BK236.out 1
                        have hfz60_2 := blk_frozen BK236.out 2
                        have hfz60_3 := blk_frozen BK236.out 3
                        have hfz60_4 := blk_frozen BK236.out 4
                        have hfz60_5 := blk_frozen BK236.out 5
                        have p247 : 0 ≤ (x8_1 : Int) := of_decide_eq_true (by first | (with_reducible assumption) | assumption)
                        have q247 : x8_1 < (t240.length : Int) := of_decide_eq_true (by first | (with_reducible assumption) | assumption)
                        obtain ⟨ad247, e247, hx247_0, hx247_1, hx247_2⟩ := at_T29 (Kd.R_reads' HO_6.out).2.2 x8_1 p247 q247
                        obtain rfl : ad244 = ad247 := (by injection e247)
                        replace p247 := eq_true p247
                        replace q247 := eq_true q247
                        go_wp2
                        repeat (go_quiet (fail); try go_wp2)
                        go_ret
                        exact ⟨by first | rfl | (simp [errW_none, errW_some] <;> rfl) | (simp [*, errW_none, errW_some] <;> rfl), by repeat (first | (with_reducible first | exact HB.out | apply below_alloc | apply pw_below_drewN | apply below_drew1 | refine below_set ?_ GE236.out | refine below_set ?_ GE237.out) | exact HB.out)⟩
                · rw [if_neg c26] at H
                  have c26b0 : (a0_0 == 5) = false := beq_eq_false_iff_ne.mpr c26
                  have c26b1 : (a0_0 != 5) = true := bne_iff_ne.mpr c26
                  by_cases c61 : ((rd_T29 t240 x8_1).f0) = a1_0
                  · rw [if_pos c61] at H
                    have c61b0 : (((rd_T29 t240 x8_1).f0) == a1_0) = true := beq_iff_eq.mpr c61
                    have c61b1 : (((rd_T29 t240 x8_1).f0) != a1_0) = false := bne_eq_false_iff_eq.mpr c61
                    clear c61
                    by_cases c62 : a0_0 = 2
                    · rw [if_pos c62] at H
                      have c62b0 : (a0_0 == 2) = true := beq_iff_eq.mpr c62
                      have c62b1 : (a0_0 != 2) = false := bne_eq_false_iff_eq.mpr c62
                      clear c62
                      by_cases c63 : a0_0 = 4
                      · rw [if_pos c63] at H
                        have c63b0 : (a0_0 == 4) = true := beq_iff_eq.mpr c63
                        have c63b1 : (a0_0 != 4) = false := bne_eq_false_iff_eq.mpr c63
                        clear c63
                        by_cases c64 : ((rd_T29 t240 x8_1).f1) = (wrap64 (a1_1 + x8_1))
                        · rw [if_pos c64] at H
                          have c64b0 : (((rd_T29 t240 x8_1).f1) == (wrap64 (a1_1 + x8_1))) = true := beq_iff_eq.mpr c64
                          have c64b1 : (((rd_T29 t240 x8_1).f1) != (wrap64 (a1_1 + x8_1))) = false := bne_eq_false_iff_eq.mpr c64
                          clear c64
                          have H' := Aside0.mk H
                          clear H
                          obtain ⟨Ao65, co65, eo65⟩ := Kd.R_slice HO_6.out
                          subst eo65
                          have p244 : 0 ≤ (x8_1 : Int) := of_decide_eq_true (by first | (with_reducible assumption) | assumption)
                          have q244 : x8_1 < (t240.length : Int) := of_decide_eq_true (by first | (with_reducible assumption) | assumption)
                          obtain ⟨ad244, e244, hx244_0, hx244_1, hx244_2⟩ := at_T29 (Kd.R_reads' HO_6.out).2.2 x8_1 p244 q244
                          cases e244
                          replace p244 := eq_true p244
                          replace q244 := eq_true q244
                          have hnb66 := NB237_236.out
                          have hnc66 := NB236_237.out
                          have hcz67_0 : wr.cell? ⟨gb237, 0, none⟩ = some (.int .i64 a1_0) := (blk_cell BK237.out 0).trans rfl
                          have hcz67_1 : wr.cell? ⟨gb237, 1, none⟩ = some (.int .i64 a1_1) := (blk_cell BK237.out 1).trans rfl
                          have hcz67_2 : wr.cell? ⟨gb237, 2, none⟩ = some (.int .i64 a1_2) := (blk_cell BK237.out 2).trans rfl
                          have hfz67_0 := blk_frozen BK237.out 0
                          have hfz67_1 := blk_frozen BK237.out 1
                          have hfz67_2 := blk_frozen BK237.out 2
                          have hcz68_0 : wr.cell? ⟨gb236, 0, none⟩ = some (.int .i64 a0_0) := (blk_cell BK236.out 0).trans rfl
                          have hcz68_1 : wr.cell? ⟨gb236, 1, none⟩ = some (.slice A0_1 l0_1.length c0_1) := (blk_cell BK236.out 1).trans rfl
                          have hcz68_2 : wr.cell? ⟨gb236, 2, none⟩ = some (.int .i64 a0_2) := (blk_cell BK236.out 2).trans rfl
                          have hcz68_3 : wr.cell? ⟨gb236, 3, none⟩ = some (.int .i64 a0_3) := (blk_cell BK236.out 3).trans rfl
                          have hcz68_4 : wr.cell? ⟨gb236, 4, none⟩ = some (.slice A0_4 l0_4.length c0_4) := (blk_cell BK236.out 4).trans rfl
                          have hcz68_5 : wr.cell? ⟨gb236, 5, none⟩ = some (.int .i64 a0_5) := (blk_cell BK236.out 5).trans rfl
                          have hfz68_0 := blk_frozen BK236.out 0
                          have hfz68_1 := blk_frozen BK236.out 1
                          have hfz68_2 := blk_frozen BK236.out 2
                          have hfz68_3 := blk_frozen BK236.out 3
                          have hfz68_4 := blk_frozen BK236.out 4
                          have hfz68_5 := blk_frozen BK236.out 5
                          have p248 : 0 ≤ (x8_1 : Int) := of_decide_eq_true (by first | (with_reducible assumption) | assumption)
                          have q248 : x8_1 < (t240.length : Int) := of_decide_eq_true (by first | (with_reducible assumption) | assumption)
                          obtain ⟨ad248, e248, hx248_0, hx248_1, hx248_2⟩ := at_T29 (Kd.R_reads' HO_6.out).2.2 x8_1 p248 q248
                          obtain rfl : ad244 = ad248 := (by injection e248)
                          replace p248 := eq_true p248
                          replace q248 := eq_true q248
                          have p249 : 0 ≤ (x8_1 : Int) := of_decide_eq_true (by first | (with_reducible assumption) | assumption)
                          have q249 : x8_1 < (t240.length : Int) := of_decide_eq_true (by first | (with_reducible assumption) | assumption)
                          obtain ⟨ad249, e249, hx249_0, hx249_1, hx249_2⟩ := at_T29 (Kd.R_reads' HO_6.out).2.2 x8_1 p249 q249
                          obtain rfl : ad244 = ad249 := (by injection e249)
                          replace p249 := eq_true p249
                          replace q249 := eq_true q249
                          go_wp2
                          repeat (go_quiet (fail); try go_wp2)
                          go_roundg k1
                          case measure => have := HK1.out; omega
                          case rel => exact ⟨(wrap64 (x8_1 + 1)), (by first | rfl | (simp; done) | (simp [*]; done)), H', ⟨by have := HK1.out; omega⟩, ⟨by (with_reducible repeat (first | apply Kd.R_alloc | apply Kd.R_drewN | apply Kd.R_drew)); exact HO_6.out⟩, ⟨by (with_reducible repeat (first | refine blk_drewN ?_ _ | refine blk_drew ?_ | refine blk_alloc ?_ _)); exact BK236.out⟩, ⟨by (with_reducible repeat (first | refine blk_drewN ?_ _ | refine blk_drew ?_ | refine blk_alloc ?_ _)); exact BK237.out⟩, ⟨by repeat (first | (with_reducible first | exact HB.out | apply below_alloc | apply pw_below_drewN | apply below_drew1 | refine below_set ?_ GE236.out | refine below_set ?_ GE237.out) | exact HB.out)⟩⟩
                        · rw [if_neg c64] at H
                          have c64b0 : (((rd_T29 t240 x8_1).f1) == (wrap64 (a1_1 + x8_1))) = false := beq_eq_false_iff_ne.mpr c64
                          have c64b1 : (((rd_T29 t240 x8_1).f1) != (wrap64 (a1_1 + x8_1))) = true := bne_iff_ne.mpr c64
                          obtain rfl := Option.some.inj H
                          obtain ⟨Ao69, co69, eo69⟩ := Kd.R_slice HO_6.out
                          subst eo69
                          have p244 : 0 ≤ (x8_1 : Int) := of_decide_eq_true (by first | (with_reducible assumption) | assumption)
                          have q244 : x8_1 < (t240.length : Int) := of_decide_eq_true (by first | (with_reducible assumption) | assumption)
                          obtain ⟨ad244, e244, hx244_0, hx244_1, hx244_2⟩ := at_T29 (Kd.R_reads' HO_6.out).2.2 x8_1 p244 q244
                          cases e244
                          replace p244 := eq_true p244
                          replace q244 := eq_true q244
                          have hnb70 := NB237_236.out
                          have hnc70 := NB236_237.out
                          have hcz71_0 : wr.cell? ⟨gb237, 0, none⟩ = some (.int .i64 a1_0) := (blk_cell BK237.out 0).trans rfl
                          have hcz71_1 : wr.cell? ⟨gb237, 1, none⟩ = some (.int .i64 a1_1) := (blk_cell BK237.out 1).trans rfl
                          have hcz71_2 : wr.cell? ⟨gb237, 2, none⟩ = some (.int .i64 a1_2) := (blk_cell BK237.out 2).trans rfl
                          have hfz71_0 := blk_frozen BK237.out 0
                          have hfz71_1 := blk_frozen BK237.out 1
                          have hfz71_2 := blk_frozen BK237.out 2
                          have hcz72_0 : wr.cell? ⟨gb236, 0, none⟩ = some (.int .i64 a0_0) := (blk_cell BK236.out 0).trans rfl
                          have hcz72_1 : wr.cell? ⟨gb236, 1, none⟩ = some (.slice A0_1 l0_1.length c0_1) := (blk_cell BK236.out 1).trans rfl
                          have hcz72_2 : wr.cell? ⟨gb236, 2, none⟩ = some (.int .i64 a0_2) := (blk_cell BK236.out 2).trans rfl
                          have hcz72_3 : wr.cell? ⟨gb236, 3, none⟩ = some (.int .i64 a0_3) := (blk_cell BK236.out 3).trans rfl
                          have hcz72_4 : wr.cell? ⟨gb236, 4, none⟩ = some (.slice A0_4 l0_4.length c0_4) := (blk_cell BK236.out 4).trans rfl
                          have hcz72_5 : wr.cell? ⟨gb236, 5, none⟩ = some (.int .i64 a0_5) := (blk_cell BK236.out 5).trans rfl
                          have hfz72_0 := blk_frozen BK236.out 0
                          have hfz72_1 := blk_frozen BK236.out 1
                          have hfz72_2 := blk_frozen BK236.out 2
                          have hfz72_3 := blk_frozen BK236.out 3
                          have hfz72_4 := blk_frozen BK236.out 4
                          have hfz72_5 := blk_frozen BK236.out 5
                          have p248 : 0 ≤ (x8_1 : Int) := of_decide_eq_true (by first | (with_reducible assumption) | assumption)
                          have q248 : x8_1 < (t240.length : Int) := of_decide_eq_true (by first | (with_reducible assumption) | assumption)
                          obtain ⟨ad248, e248, hx248_0, hx248_1, hx248_2⟩ := at_T29 (Kd.R_reads' HO_6.out).2.2 x8_1 p248 q248
                          obtain rfl : ad244 = ad248 := (by injection e248)
                          replace p248 := eq_true p248
                          replace q248 := eq_true q248
                          have p249 : 0 ≤ (x8_1 : Int) := of_decide_eq_true (by first | (with_reducible assumption) | assumption)
                          have q249 : x8_1 < (t240.length : Int) := of_decide_eq_true (by first | (with_reducible assumption) | assumption)
                          obtain ⟨ad249, e249, hx249_0, hx249_1, hx249_2⟩ := at_T29 (Kd.R_reads' HO_6.out).2.2 x8_1 p249 q249
                          obtain rfl : ad244 = ad249 := (by injection e249)
                          replace p249 := eq_true p249
                          replace q249 := eq_true q249
                          go_wp2
                          repeat (go_quiet (fail); try go_wp2)
                          go_ret
                          exact ⟨by first | rfl | (simp [errW_none, errW_some] <;> rfl) | (simp [*, errW_none, errW_some] <;> rfl), by repeat (first | (with_reducible first | exact HB.out | apply below_alloc | apply pw_below_drewN | apply below_drew1 | refine below_set ?_ GE236.out | refine below_set ?_ GE237.out) | exact HB.out)⟩
                      · rw [if_neg c63] at H
                        have c63b0 : (a0_0 == 4) = false := beq_eq_false_iff_ne.mpr c63
                        have c63b1 : (a0_0 != 4) = true := bne_iff_ne.mpr c63
                        have H' := Aside0.mk H
                        clear H
                        obtain ⟨Ao73, co73, eo73⟩ := Kd.R_slice HO_6.out
                        subst eo73
                        have p244 : 0 ≤ (x8_1 : Int) := of_decide_eq_true (by first | (with_reducible assumption) | assumption)
                        have q244 : x8_1 < (t240.length : Int) := of_decide_eq_true (by first | (with_reducible assumption) | assumption)
                        obtain ⟨ad244, e244, hx244_0, hx244_1, hx244_2⟩ := at_T29 (Kd.R_reads' HO_6.out).2.2 x8_1 p244 q244
                        cases e244
                        replace p244 := eq_true p244
                        replace q244 := eq_true q244
                        have hnb74 := NB237_236.out
                        have hnc74 := NB236_237.out
                        have hcz75_0 : wr.cell? ⟨gb237, 0, none⟩ = some (.int .i64 a1_0) := (blk_cell BK237.out 0).trans rfl
                        have hcz75_1 : wr.cell? ⟨gb237, 1, none⟩ = some (.int .i64 a1_1) := (blk_cell BK237.out 1).trans rfl
                        have hcz75_2 : wr.cell? ⟨gb237, 2, none⟩ = some (.int .i64 a1_2) := (blk_cell BK237.out 2).trans rfl
                        have hfz75_0 := blk_frozen BK237.out 0
                        have hfz75_1 := blk_frozen BK237.out 1
                        have hfz75_2 := blk_frozen BK237.out 2
                        have hcz76_0 : wr.cell? ⟨gb236, 0, none⟩ = some (.int .i64 a0_0) := (blk_cell BK236.out 0).trans rfl
                        have hcz76_1 : wr.cell? ⟨gb236, 1, none⟩ = some (.slice A0_1 l0_1.length c0_1) := (blk_cell BK236.out 1).trans rfl
                        have hcz76_2 : wr.cell? ⟨gb236, 2, none⟩ = some (.int .i64 a0_2) := (blk_cell BK236.out 2).trans rfl
                        have hcz76_3 : wr.cell? ⟨gb236, 3, none⟩ = some (.int .i64 a0_3) := (blk_cell BK236.out 3).trans rfl
                        have hcz76_4 : wr.cell? ⟨gb236, 4, none⟩ = some (.slice A0_4 l0_4.length c0_4) := (blk_cell BK236.out 4).trans rfl
                        have hcz76_5 : wr.cell? ⟨gb236, 5, none⟩ = some (.int .i64 a0_5) := (blk_cell BK236.out 5).trans rfl
                        have hfz76_0 := blk_frozen BK236.out 0
                        have hfz76_1 := blk_frozen BK236.out 1
                        have hfz76_2 := blk_frozen BK236.out 2
                        have hfz76_3 := blk_frozen BK236.out 3
                        have hfz76_4 := blk_frozen BK236.out 4
                        have hfz76_5 := blk_frozen BK236.out 5
                        have p248 : 0 ≤ (x8_1 : Int) := of_decide_eq_true (by first | (with_reducible assumption) | assumption)
                        have q248 : x8_1 < (t240.length : Int) := of_decide_eq_true (by first | (with_reducible assumption) | assumption)
                        obtain ⟨ad248, e248, hx248_0, hx248_1, hx248_2⟩ := at_T29 (Kd.R_reads' HO_6.out).2.2 x8_1 p248 q248
                        obtain rfl : ad244 = ad248 := (by injection e248)
                        replace p248 := eq_true p248
                        replace q248 := eq_true q248
                        go_wp2
                        repeat (go_quiet (fail); try go_wp2)
                        go_roundg k1
                        case measure => have := HK1.out; omega
                        case rel => exact ⟨(wrap64 (x8_1 + 1)), (by first | rfl | (simp; done) | (simp [*]; done)), H', ⟨by have := HK1.out; omega⟩, ⟨by (with_reducible repeat (first | apply Kd.R_alloc | apply Kd.R_drewN | apply Kd.R_drew)); exact HO_6.out⟩, ⟨by (with_reducible repeat (first | refine blk_drewN ?_ _ | refine blk_drew ?_ | refine blk_alloc ?_ _)); exact BK236.out⟩, ⟨by (with_reducible repeat (first | refine blk_drewN ?_ _ | refine blk_drew ?_ | refine blk_alloc ?_ _)); exact BK237.out⟩, ⟨by repeat (first | (with_reducible first | exact HB.out | apply below_alloc | apply pw_below_drewN | apply below_drew1 | refine below_set ?_ GE236.out | refine below_set ?_ GE237.out) | exact HB.out)⟩⟩
                    · rw [if_neg c62] at H
                      have c62b0 : (a0_0 == 2) = false := beq_eq_false_iff_ne.mpr c62
                      have c62b1 : (a0_0 != 2) = true := bne_iff_ne.mpr c62
                      by_cases c77 : a0_0 = 4
                      · rw [if_pos c77] at H
                        have c77b0 : (a0_0 == 4) = true := beq_iff_eq.mpr c77
                        have c77b1 : (a0_0 != 4) = false := bne_eq_false_iff_eq.mpr c77
                        clear c77
                        by_cases c78 : ((rd_T29 t240 x8_1).f1) = (wrap64 (a1_1 + x8_1))
                        · rw [if_pos c78] at H
                          have c78b0 : (((rd_T29 t240 x8_1).f1) == (wrap64 (a1_1 + x8_1))) = true := beq_iff_eq.mpr c78
                          have c78b1 : (((rd_T29 t240 x8_1).f1) != (wrap64 (a1_1 + x8_1))) = false := bne_eq_false_iff_eq.mpr c78
                          clear c78
                          have H' := Aside0.mk H
                          clear H
                          obtain ⟨Ao79, co79, eo79⟩ := Kd.R_slice HO_6.out
                          subst eo79
                          have p244 : 0 ≤ (x8_1 : Int) := of_decide_eq_true (by first | (with_reducible assumption) | assumption)
                          have q244 : x8_1 < (t240.length : Int) := of_decide_eq_true (by first | (with_reducible assumption) | assumption)
                          obtain ⟨ad244, e244, hx244_0, hx244_1, hx244_2⟩ := at_T29 (Kd.R_reads' HO_6.out).2.2 x8_1 p244 q244
                          cases e244
                          replace p244 := eq_true p244
                          replace q244 := eq_true q244
                          have hnb80 := NB237_236.out
                          have hnc80 := NB236_237.out
                          have hcz81_0 : wr.cell? ⟨gb237, 0, none⟩ = some (.int .i64 a1_0) := (blk_cell BK237.out 0).trans rfl
                          have hcz81_1 : wr.cell? ⟨gb237, 1, none⟩ = some (.int .i64 a1_1) := (blk_cell BK237.out 1).trans rfl
                          have hcz81_2 : wr.cell? ⟨gb237, 2, none⟩ = some (.int .i64 a1_2) := (blk_cell BK237.out 2).trans rfl
                          have hfz81_0 := blk_frozen BK237.out 0
                          have hfz81_1 := blk_frozen BK237.out 1
                          have hfz81_2 := blk_frozen BK237.out 2
                          have hcz82_0 : wr.cell? ⟨gb236, 0, none⟩ = some (.int .i64 a0_0) := (blk_cell BK236.out 0).trans rfl
                          have hcz82_1 : wr.cell? ⟨gb236, 1, none⟩ = some (.slice A0_1 l0_1.length c0_1) := (blk_cell BK236.out 1).trans rfl
                          have hcz82_2 : wr.cell? ⟨gb236, 2, none⟩ = some (.int .i64 a0_2) := (blk_cell BK236.out 2).trans rfl
                          have hcz82_3 : wr.cell? ⟨gb236, 3, none⟩ = some (.int .i64 a0_3) := (blk_cell BK236.out 3).trans rfl
                          have hcz82_4 : wr.cell? ⟨gb236, 4, none⟩ = some (.slice A0_4 l0_4.length c0_4) := (blk_cell BK236.out 4).trans rfl
                          have hcz82_5 : wr.cell? ⟨gb236, 5, none⟩ = some (.int .i64 a0_5) := (blk_cell BK236.out 5).trans rfl
                          have hfz82_0 := blk_frozen BK236.out 0
                          have hfz82_1 := blk_frozen BK236.out 1
                          have hfz82_2 := blk_frozen BK236.out 2
                          have hfz82_3 := blk_frozen BK236.out 3
                          have hfz82_4 := blk_frozen BK236.out 4
                          have hfz82_5 := blk_frozen BK236.out 5
                          have p248 : 0 ≤ (x8_1 : Int) := of_decide_eq_true (by first | (with_reducible assumption) | assumption)
                          have q248 : x8_1 < (t240.length : Int) := of_decide_eq_true (by first | (with_reducible assumption) | assumption)
                          obtain ⟨ad248, e248, hx248_0, hx248_1, hx248_2⟩ := at_T29 (Kd.R_reads' HO_6.out).2.2 x8_1 p248 q248
                          obtain rfl : ad244 = ad248 := (by injection e248)
                          replace p248 := eq_true p248
                          replace q248 := eq_true q248
                          have p250 : 0 ≤ (x8_1 : Int) := of_decide_eq_true (by first | (with_reducible assumption) | assumption)
                          have q250 : x8_1 < (t240.length : Int) := of_decide_eq_true (by first | (with_reducible assumption) | assumption)
                          obtain ⟨ad250, e250, hx250_0, hx250_1, hx250_2⟩ := at_T29 (Kd.R_reads' HO_6.out).2.2 x8_1 p250 q250
                          obtain rfl : ad244 = ad250 := (by injection e250)
                          replace p250 := eq_true p250
                          replace q250 := eq_true q250
                          go_wp2
                          repeat (go_quiet (fail); try go_wp2)
                          go_roundg k1
                          case measure => have := HK1.out; omega
                          case rel => exact ⟨(wrap64 (x8_1 + 1)), (by first | rfl | (simp; done) | (simp [*]; done)), H', ⟨by have := HK1.out; omega⟩, ⟨by (with_reducible repeat (first | apply Kd.R_alloc | apply Kd.R_drewN | apply Kd.R_drew)); exact HO_6.out⟩, ⟨by (with_reducible repeat (first | refine blk_drewN ?_ _ | refine blk_drew ?_ | refine blk_alloc ?_ _)); exact BK236.out⟩, ⟨by (with_reducible repeat (first | refine blk_drewN ?_ _ | refine blk_drew ?_ | refine blk_alloc ?_ _)); exact BK237.out⟩, ⟨by repeat (first | (with_reducible first | exact HB.out | apply below_alloc | apply pw_below_drewN | apply below_drew1 | refine below_set ?_ GE236.out | refine below_set ?_ GE237.out) | exact HB.out)⟩⟩
                        · rw [if_neg c78] at H
                          have c78b0 : (((rd_T29 t240 x8_1).f1) == (wrap64 (a1_1 + x8_1))) = false := beq_eq_false_iff_ne.mpr c78
                          have c78b1 : (((rd_T29 t240 x8_1).f1) != (wrap64 (a1_1 + x8_1))) = true := bne_iff_ne.mpr c78
                          obtain rfl := Option.some.inj H
                          obtain ⟨Ao83, co83, eo83⟩ := Kd.R_slice HO_6.out
                          subst eo83
                          have p244 : 0 ≤ (x8_1 : Int) := of_decide_eq_true (by first | (with_reducible assumption) | assumption)
                          have q244 : x8_1 < (t240.length : Int) := of_decide_eq_true (by first | (with_reducible assumption) | assumption)
                          obtain ⟨ad244, e244, hx244_0, hx244_1, hx244_2⟩ := at_T29 (Kd.R_reads' HO_6.out).2.2 x8_1 p244 q244
                          cases e244
                          replace p244 := eq_true p244
                          replace q244 := eq_true q244
                          have hnb84 := NB237_236.out
                          have hnc84 := NB236_237.out
                          have hcz85_0 : wr.cell? ⟨gb237, 0, none⟩ = some (.int .i64 a1_0) := (blk_cell BK237.out 0).trans rfl
                          have hcz85_1 : wr.cell? ⟨gb237, 1, none⟩ = some (.int .i64 a1_1) := (blk_cell BK237.out 1).trans rfl
                          have hcz85_2 : wr.cell? ⟨gb237, 2, none⟩ = some (.int .i64 a1_2) := (blk_cell BK237.out 2).trans rfl
                          have hfz85_0 := blk_frozen BK237.out 0
                          have hfz85_1 := blk_frozen BK237.out 1
                          have hfz85_2 := blk_frozen BK237.out 2
                          have hcz86_0 : wr.cell? ⟨gb236, 0, none⟩ = some (.int .i64 a0_0) := (blk_cell BK236.out 0).trans rfl
                          have hcz86_1 : wr.cell? ⟨gb236, 1, none⟩ = some (.slice A0_1 l0_1.length c0_1) := (blk_cell BK236.out 1).trans rfl
                          have hcz86_2 : wr.cell? ⟨gb236, 2, none⟩ = some (.int .i64 a0_2) := (blk_cell BK236.out 2).trans rfl
                          have hcz86_3 : wr.cell? ⟨gb236, 3, none⟩ = some (.int .i64 a0_3) := (blk_cell BK236.out 3).trans rfl
                          have hcz86_4 : wr.cell? ⟨gb236, 4, none⟩ = some (.slice A0_4 l0_4.length c0_4) := (blk_cell BK236.out 4).trans rfl
                          have hcz86_5 : wr.cell? ⟨gb236, 5, none⟩ = some (.int .i64 a0_5) := (blk_cell BK236.out 5).trans rfl
                          have hfz86_0 := blk_frozen BK236.out 0
                          have hfz86_1 := blk_frozen BK236.out 1
                          have hfz86_2 := blk_frozen BK236.out 2
                          have hfz86_3 := blk_frozen BK236.out 3
                          have hfz86_4 := blk_frozen BK236.out 4
                          have hfz86_5 := blk_frozen BK236.out 5
                          have p248 : 0 ≤ (x8_1 : Int) := of_decide_eq_true (by first | (with_reducible assumption) | assumption)
                          have q248 : x8_1 < (t240.length : Int) := of_decide_eq_true (by first | (with_reducible assumption) | assumption)
                          obtain ⟨ad248, e248, hx248_0, hx248_1, hx248_2⟩ := at_T29 (Kd.R_reads' HO_6.out).2.2 x8_1 p248 q248
                          obtain rfl : ad244 = ad248 := (by injection e248)
                          replace p248 := eq_true p248
                          replace q248 := eq_true q248
                          have p250 : 0 ≤ (x8_1 : Int) := of_decide_eq_true (by first | (with_reducible assumption) | assumption)
                          have q250 : x8_1 < (t240.length : Int) := of_decide_eq_true (by first | (with_reducible assumption) | assumption)
                          obtain ⟨ad250, e250, hx250_0, hx250_1, hx250_2⟩ := at_T29 (Kd.R_reads' HO_6.out).2.2 x8_1 p250 q250
                          obtain rfl : ad244 = ad250 := (by injection e250)
                          replace p250 := eq_true p250
                          replace q250 := eq_true q250
                          go_wp2
                          repeat (go_quiet (fail); try go_wp2)
                          go_ret
                          exact ⟨by first | rfl | (simp [errW_none, errW_some] <;> rfl) | (simp [*, errW_none, errW_some] <;> rfl), by repeat (first | (with_reducible first | exact HB.out | apply below_alloc | apply pw_below_drewN | apply below_drew1 | refine below_set ?_ GE236.out | refine below_set ?_ GE237.out) | exact HB.out)⟩
                      · rw [if_neg c77] at H
                        have c77b0 : (a0_0 == 4) = false := beq_eq_false_iff_ne.mpr c77
                        have c77b1 : (a0_0 != 4) = true := bne_iff_ne.mpr c77
                        by_cases c87 : ((rd_T29 t240 x8_1).f1) = a1_1
                        · rw [if_pos c87] at H
                          have c87b0 : (((rd_T29 t240 x8_1).f1) == a1_1) = true := beq_iff_eq.mpr c87
                          have c87b1 : (((rd_T29 t240 x8_1).f1) != a1_1) = false := bne_eq_false_iff_eq.mpr c87
                          clear c87
                          have H' := Aside0.mk H
                          clear H
                          obtain ⟨Ao88, co88, eo88⟩ := Kd.R_slice HO_6.out
                          subst eo88
                          have p244 : 0 ≤ (x8_1 : Int) := of_decide_eq_true (by first | (with_reducible assumption) | assumption)
                          have q244 : x8_1 < (t240.length : Int) := of_decide_eq_true (by first | (with_reducible assumption) | assumption)
                          obtain ⟨ad244, e244, hx244_0, hx244_1, hx244_2⟩ := at_T29 (Kd.R_reads' HO_6.out).2.2 x8_1 p244 q244
                          cases e244
                          replace p244 := eq_true p244
                          replace q244 := eq_true q244
                          have hnb89 := NB237_236.out
                          have hnc89 := NB236_237.out
                          have hcz90_0 : wr.cell? ⟨gb237, 0, none⟩ = some (.int .i64 a1_0) := (blk_cell BK237.out 0).trans rfl
                          have hcz90_1 : wr.cell? ⟨gb237, 1, none⟩ = some (.int .i64 a1_1) := (blk_cell BK237.out 1).trans rfl
                          have hcz90_2 : wr.cell? ⟨gb237, 2, none⟩ = some (.int .i64 a1_2) := (blk_cell BK237.out 2).trans rfl
                          have hfz90_0 := blk_frozen BK237.out 0
                          have hfz90_1 := blk_frozen BK237.out 1
                          have hfz90_2 := blk_frozen BK237.out 2
                          have hcz91_0 : wr.cell? ⟨gb236, 0, none⟩ = some (.int .i64 a0_0) := (blk_cell BK236.out 0).trans rfl
                          have hcz91_1 : wr.cell? ⟨gb236, 1, none⟩ = some (.slice A0_1 l0_1.length c0_1) := (blk_cell BK236.out 1).trans rfl
                          have hcz91_2 : wr.cell? ⟨gb236, 2, none⟩ = some (.int .i64 a0_2) := (blk_cell BK236.out 2).trans rfl
                          have hcz91_3 : wr.cell? ⟨gb236, 3, none⟩ = some (.int .i64 a0_3) := (blk_cell BK236.out 3).trans rfl
                          have hcz91_4 : wr.cell? ⟨gb236, 4, none⟩ = some (.slice A0_4 l0_4.length c0_4) := (blk_cell BK236.out 4).trans rfl
                          have hcz91_5 : wr.cell? ⟨gb236, 5, none⟩ = some (.int .i64 a0_5) := (blk_cell BK236.out 5).trans rfl
                          have hfz91_0 := blk_frozen BK236.out 0
                          have hfz91_1 := blk_frozen BK236.out 1
                          have hfz91_2 := blk_frozen BK236.out 2
                          have hfz91_3 := blk_frozen BK236.out 3
                          have hfz91_4 := blk_frozen BK236.out 4
                          have hfz91_5 := blk_frozen BK236.out 5
                          have p248 : 0 ≤ (x8_1 : Int) := of_decide_eq_true (by first | (with_reducible assumption) | assumption)
                          have q248 : x8_1 < (t240.length : Int) := of_decide_eq_true (by first | (with_reducible assumption) | assumption)
                          obtain ⟨ad248, e248, hx248_0, hx248_1, hx248_2⟩ := at_T29 (Kd.R_reads' HO_6.out).2.2 x8_1 p248 q248
                          obtain rfl : ad244 = ad248 := (by injection e248)
                          replace p248 := eq_true p248
                          replace q248 := eq_true q248
                          have p251 : 0 ≤ (x8_1 : Int) := of_decide_eq_true (by first | (with_reducible assumption) | assumption)
                          have q251 : x8_1 < (t240.length : Int) := of_decide_eq_true (by first | (with_reducible assumption) | assumption)
                          obtain ⟨ad251, e251, hx251_0, hx251_1, hx251_2⟩ := at_T29 (Kd.R_reads' HO_6.out).2.2 x8_1 p251 q251
                          obtain rfl : ad244 = ad251 := (by injection e251)
                          replace p251 := eq_true p251
                          replace q251 := eq_true q251
                          go_wp2
                          repeat (go_quiet (fail); try go_wp2)
                          go_roundg k1
                          case measure => have := HK1.out; omega
                          case rel => exact ⟨(wrap64 (x8_1 + 1)), (by first | rfl | (simp; done) | (simp [*]; done)), H', ⟨by have := HK1.out; omega⟩, ⟨by (with_reducible repeat (first | apply Kd.R_alloc | apply Kd.R_drewN | apply Kd.R_drew)); exact HO_6.out⟩, ⟨by (with_reducible repeat (first | refine blk_drewN ?_ _ | refine blk_drew ?_ | refine blk_alloc ?_ _)); exact BK236.out⟩, ⟨by (with_reducible repeat (first | refine blk_drewN ?_ _ | refine blk_drew ?_ | refine blk_alloc ?_ _)); exact BK237.out⟩, ⟨by repeat (first | (with_reducible first | exact HB.out | apply below_alloc | apply pw_below_drewN | apply below_drew1 | refine below_set ?_ GE236.out | refine below_set ?_ GE237.out) | exact HB.out)⟩⟩
                        · rw [if_neg c87] at H
                          have c87b0 : (((rd_T29 t240 x8_1).f1) == a1_1) = false := beq_eq_false_iff_ne.mpr c87
                          have c87b1 : (((rd_T29 t240 x8_1).f1) != a1_1) = true := bne_iff_ne.mpr c87
                          obtain rfl := Option.some.inj H
                          obtain ⟨Ao92, co92, eo92⟩ := Kd.R_slice HO_6.out
                          subst eo92
                          have p244 : 0 ≤ (x8_1 : Int) := of_decide_eq_true (by first | (with_reducible assumption) | assumption)
                          have q244 : x8_1 < (t240.length : Int) := of_decide_eq_true (by first | (with_reducible assumption) | assumption)
                          obtain ⟨ad244, e244, hx244_0, hx244_1, hx244_2⟩ := at_T29 (Kd.R_reads' HO_6.out).2.2 x8_1 p244 q244
                          cases e244
                          replace p244 := eq_true p244
                          replace q244 := eq_true q244
                          have hnb93 := NB237_236.out
                          have hnc93 := NB236_237.out
                          have hcz94_0 : wr.cell? ⟨gb237, 0, none⟩ = some (.int .i64 a1_0) := (blk_cell BK237.out 0).trans rfl
                          have hcz94_1 : wr.cell? ⟨gb237, 1, none⟩ = some (.int .i64 a1_1) := (blk_cell BK237.out 1).trans rfl
                          have hcz94_2 : wr.cell? ⟨gb237, 2, none⟩ = some (.int .i64 a1_2) := (blk_cell BK237.out 2).trans rfl
                          have hfz94_0 := blk_frozen BK237.out 0
                          have hfz94_1 := blk_frozen BK237.out 1
                          have hfz94_2 := blk_frozen BK237.out 2
                          have hcz95_0 : wr.cell? ⟨gb236, 0, none⟩ = some (.int .i64 a0_0) := (blk_cell BK236.out 0).trans rfl
                          have hcz95_1 : wr.cell? ⟨gb236, 1, none⟩ = some (.slice A0_1 l0_1.length c0_1) := (blk_cell BK236.out 1).trans rfl
                          have hcz95_2 : wr.cell? ⟨gb236, 2, none⟩ = some (.int .i64 a0_2) := (blk_cell BK236.out 2).trans rfl
                          have hcz95_3 : wr.cell? ⟨gb236, 3, none⟩ = some (.int .i64 a0_3) := (blk_cell BK236.out 3).trans rfl
                          have hcz95_4 : wr.cell? ⟨gb236, 4, none⟩ = some (.slice A0_4 l0_4.length c0_4) := (blk_cell BK236.out 4).trans rfl
                          have hcz95_5 : wr.cell? ⟨gb236, 5, none⟩ = some (.int .i64 a0_5) := (blk_cell BK236.out 5).trans rfl
                          have hfz95_0 := blk_frozen BK236.out 0
                          have hfz95_1 := blk_frozen BK236.out 1
                          have hfz95_2 := blk_frozen BK236.out 2
                          have hfz95_3 := blk_frozen BK236.out 3
                          have hfz95_4 := blk_frozen BK236.out 4
                          have hfz95_5 := blk_frozen BK236.out 5
                          have p248 : 0 ≤ (x8_1 : Int) := of_decide_eq_true (by first | (with_reducible assumption) | assumption)
                          have q248 : x8_1 < (t240.length : Int) := of_decide_eq_true (by first | (with_reducible assumption) | assumption)
                          obtain ⟨ad248, e248, hx248_0, hx248_1, hx248_2⟩ := at_T29 (Kd.R_reads' HO_6.out).2.2 x8_1 p248 q248
                          obtain rfl : ad244 = ad248 := (by injection e248)
                          replace p248 := eq_true p248
                          replace q248 := eq_true q248
                          have p251 : 0 ≤ (x8_1 : Int) := of_decide_eq_true (by first | (with_reducible assumption) | assumption)
                          have q251 : x8_1 < (t240.length : Int) := of_decide_eq_true (by first | (with_reducible assumption) | assumption)
                          obtain ⟨ad251, e251, hx251_0, hx251_1, hx251_2⟩ := at_T29 (Kd.R_reads' HO_6.out).2.2 x8_1 p251 q251
                          obtain rfl : ad244 = ad251 := (by injection e251)
                          replace p251 := eq_true p251
                          replace q251 := eq_true q251
                          go_wp2
                          repeat (go_quiet (fail); try go_wp2)
                          go_ret
                          exact ⟨by first | rfl | (simp [errW_none, errW_some] <;> rfl) | (simp [*, errW_none, errW_some] <;> rfl), by repeat (first | (with_reducible first | exact HB.out | apply below_alloc | apply pw_below_drewN | apply below_drew1 | refine below_set ?_ GE236.out | refine below_set ?_ GE237.out) | exact HB.out)⟩
                  · rw [if_neg c61] at H
                    have c61b0 : (((rd_T29 t240 x8_1).f0) == a1_0) = false := beq_eq_false_iff_ne.mpr c61
                    have c61b1 : (((rd_T29 t240 x8_1).f0) != a1_0) = true := bne_iff_ne.mpr c61
                    obtain rfl := Option.some.inj H
                    obtain ⟨Ao96, co96, eo96⟩ := Kd.R_slice HO_6.out
                    subst eo96
                    have p244 : 0 ≤ (x8_1 : Int) := of_decide_eq_true (by first | (with_reducible assumption) | assumption)
                    have q244 : x8_1 < (t240.length : Int) := of_decide_eq_true (by first | (with_reducible assumption) | assumption)
                    obtain ⟨ad244, e244, hx244_0, hx244_1, hx244_2⟩ := at_T29 (Kd.R_reads' HO_6.out).2.2 x8_1 p244 q244
                    cases e244
                    replace p244 := eq_true p244
                    replace q244 := eq_true q244
                    have hnb97 := NB237_236.out
                    have hnc97 := NB236_237.out
                    have hcz98_0 : wr.cell? ⟨gb237, 0, none⟩ = some (.int .i64 a1_0) := (blk_cell BK237.out 0).trans rfl
                    have hcz98_1 : wr.cell? ⟨gb237, 1, none⟩ = some (.int .i64 a1_1) := (blk_cell BK237.out 1).trans rfl
                    have hcz98_2 : wr.cell? ⟨gb237, 2, none⟩ = some (.int .i64 a1_2) := (blk_cell BK237.out 2).trans rfl
                    have hfz98_0 := blk_frozen BK237.out 0
                    have hfz98_1 := blk_frozen BK237.out 1
                    have hfz98_2 := blk_frozen BK237.out 2
                    have hcz99_0 : wr.cell? ⟨gb236, 0, none⟩ = some (.int .i64 a0_0) := (blk_cell BK236.out 0).trans rfl
                    have hcz99_1 : wr.cell? ⟨gb236, 1, none⟩ = some (.slice A0_1 l0_1.length c0_1) := (blk_cell BK236.out 1).trans rfl
                    have hcz99_2 : wr.cell? ⟨gb236, 2, none⟩ = some (.int .i64 a0_2) := (blk_cell BK236.out 2).trans rfl
                    have hcz99_3 : wr.cell? ⟨gb236, 3, none⟩ = some (.int .i64 a0_3) := (blk_cell BK236.out 3).trans rfl
                    have hcz99_4 : wr.cell? ⟨gb236, 4, none⟩ = some (.slice A0_4 l0_4.length c0_4) := (blk_cell BK236.out 4).trans rfl
                    have hcz99_5 : wr.cell? ⟨gb236, 5, none⟩ = some (.int .i64 a0_5) := (blk_cell BK236.out 5).trans rfl
                    have hfz99_0 := blk_frozen BK236.out 0
                    have hfz99_1 := blk_frozen BK236.out 1
                    have hfz99_2 := blk_frozen BK236.out 2
                    have hfz99_3 := blk_frozen BK236.out 3
                    have hfz99_4 := blk_frozen BK236.out 4
                    have hfz99_5 := blk_frozen BK236.out 5
                    have p248 : 0 ≤ (x8_1 : Int) := of_decide_eq_true (by first | (with_reducible assumption) | assumption)
                    have q248 : x8_1 < (t240.length : Int) := of_decide_eq_true (by first | (with_reducible assumption) | assumption)
                    obtain ⟨ad248, e248, hx248_0, hx248_1, hx248_2⟩ := at_T29 (Kd.R_reads' HO_6.out).2.2 x8_1 p248 q248
                    obtain rfl : ad244 = ad248 := (by injection e248)
                    replace p248 := eq_true p248
                    replace q248 := eq_true q248
                    go_wp2
                    repeat (go_quiet (fail); try go_wp2)
                    go_ret
                    exact ⟨by first | rfl | (simp [errW_none, errW_some] <;> rfl) | (simp [*, errW_none, errW_some] <;> rfl), by repeat (first | (with_reducible first | exact HB.out | apply below_alloc | apply pw_below_drewN | apply below_drew1 | refine below_set ?_ GE236.out | refine below_set ?_ GE237.out) | exact HB.out)⟩
              · rw [if_neg c25] at H
                have c25b0 : (((rd_T29 t240 x8_1).f2) == a1_2) = false := beq_eq_false_iff_ne.mpr c25
                have c25b1 : (((rd_T29 t240 x8_1).f2) != a1_2) = true := bne_iff_ne.mpr c25
                obtain rfl := Option.some.inj H
                obtain ⟨Ao100, co100, eo100⟩ := Kd.R_slice HO_6.out
                subst eo100
                have p244 : 0 ≤ (x8_1 : Int) := of_decide_eq_true (by first | (with_reducible assumption) | assumption)
                have q244 : x8_1 < (t240.length : Int) := of_decide_eq_true (by first | (with_reducible assumption) | assumption)
                obtain ⟨ad244, e244, hx244_0, hx244_1, hx244_2⟩ := at_T29 (Kd.R_reads' HO_6.out).2.2 x8_1 p244 q244
                cases e244
                replace p244 := eq_true p244
                replace q244 := eq_true q244
                have hnb101 := NB237_236.out
                have hnc101 := NB236_237.out
                have hcz102_0 : wr.cell? ⟨gb237, 0, none⟩ = some (.int .i64 a1_0) := (blk_cell BK237.out 0).trans rfl
                have hcz102_1 : wr.cell? ⟨gb237, 1, none⟩ = some (.int .i64 a1_1) := (blk_cell BK237.out 1).trans rfl
                have hcz102_2 : wr.cell? ⟨gb237, 2, none⟩ = some (.int .i64 a1_2) := (blk_cell BK237.out 2).trans rfl
                have hfz102_0 := blk_frozen BK237.out 0
                have hfz102_1 := blk_frozen BK237.out 1
                have hfz102_2 := blk_frozen BK237.out 2
                go_wp2
                repeat (go_quiet (fail); try go_wp2)
                go_ret
                exact ⟨by first | rfl | (simp [errW_none, errW_some] <;> rfl) | (simp [*, errW_none, errW_some] <;> rfl), by repeat (first | (with_reducible first | exact HB.out | apply below_alloc | apply pw_below_drewN | apply below_drew1 | refine below_set ?_ GE236.out | refine below_set ?_ GE237.out) | exact HB.out)⟩
            · rw [if_neg c24] at H
              exact absurd H (by simp)
          · rw [if_neg c23] at H
            have c23b0 : decide (x8_1 < (t240.length : Int)) = false := decide_eq_false c23
            clear c23
            by_cases c103 : a0_0 = 2
            · rw [if_pos c103] at H
              have c103b0 : (a0_0 == 2) = true := beq_iff_eq.mpr c103
              have c103b1 : (a0_0 != 2) = false := bne_eq_false_iff_eq.mpr c103
              clear c103
              by_cases c104 : t238 = true
              · subst c104
                have H1 : (if (t240.length : Int) = 1 then (if a0_0 = 3 then (if (t240.length : Int) ≤ 1 then (some (decide ((t240.length : Int) ≤ 4))) else (some false)) else (some (decide ((t240.length : Int) ≤ 4)))) else (some false)) = some r := by rw [if_pos rfl] at H; exact H
                clear H
                have H := H1
                clear H1
                by_cases c105 : (t240.length : Int) = 1
                · rw [if_pos c105] at H
                  have c105b0 : ((t240.length : Int) == 1) = true := beq_iff_eq.mpr c105
                  have c105b1 : ((t240.length : Int) != 1) = false := bne_eq_false_iff_eq.mpr c105
                  clear c105
                  by_cases c106 : a0_0 = 3
                  · rw [if_pos c106] at H
                    have c106b0 : (a0_0 == 3) = true := beq_iff_eq.mpr c106
                    have c106b1 : (a0_0 != 3) = false := bne_eq_false_iff_eq.mpr c106
                    clear c106
                    by_cases c107 : (t240.length : Int) ≤ 1
                    · rw [if_pos c107] at H
                      have c107b0 : decide ((t240.length : Int) ≤ 1) = true := decide_eq_true c107
                      have c107b1 : decide (t240.length ≤ 1) = true := decide_eq_true (by omega)
                      clear c107
                      obtain rfl := Option.some.inj H
                      obtain ⟨Ao108, co108, eo108⟩ := Kd.R_slice HO_6.out
                      subst eo108
                      have hnb109 := NB236_237.out
                      have hnc109 := NB237_236.out
                      have hcz110_0 : wr.cell? ⟨gb236, 0, none⟩ = some (.int .i64 a0_0) := (blk_cell BK236.out 0).trans rfl
                      have hcz110_1 : wr.cell? ⟨gb236, 1, none⟩ = some (.slice A0_1 l0_1.length c0_1) := (blk_cell BK236.out 1).trans rfl
                      have hcz110_2 : wr.cell? ⟨gb236, 2, none⟩ = some (.int .i64 a0_2) := (blk_cell BK236.out 2).trans rfl
                      have hcz110_3 : wr.cell? ⟨gb236, 3, none⟩ = some (.int .i64 a0_3) := (blk_cell BK236.out 3).trans rfl
                      have hcz110_4 : wr.cell? ⟨gb236, 4, none⟩ = some (.slice A0_4 l0_4.length c0_4) := (blk_cell BK236.out 4).trans rfl
                      have hcz110_5 : wr.cell? ⟨gb236, 5, none⟩ = some (.int .i64 a0_5) := (blk_cell BK236.out 5).trans rfl
                      have hfz110_0 := blk_frozen BK236.out 0
                      have hfz110_1 := blk_frozen BK236.out 1
                      have hfz110_2 := blk_frozen BK236.out 2
                      have hfz110_3 := blk_frozen BK236.out 3
                      have hfz110_4 := blk_frozen BK236.out 4
                      have hfz110_5 := blk_frozen BK236.out 5
                      go_wp2
                      repeat (go_quiet (fail); try go_wp2)
                      go_ret
                      exact ⟨by first | rfl | (simp [errW_none, errW_some] <;> rfl) | (simp [*, errW_none, errW_some] <;> rfl), by repeat (first | (with_reducible first | exact HB.out | apply below_alloc | apply pw_below_drewN | apply below_drew1 | refine below_set ?_ GE236.out | refine below_set ?_ GE237.out) | exact HB.out)⟩
                    · rw [if_neg c107] at H
                      have c107b0 : decide ((t240.length : Int) ≤ 1) = false := decide_eq_false c107
                      have c107b1 : decide (t240.length ≤ 1) = false := decide_eq_false (by omega)
                      clear c107
                      obtain rfl := Option.some.inj H
                      obtain ⟨Ao111, co111, eo111⟩ := Kd.R_slice HO_6.out
                      subst eo111
                      have hnb112 := NB236_237.out
                      have hnc112 := NB237_236.out
                      have hcz113_0 : wr.cell? ⟨gb236, 0, none⟩ = some (.int .i64 a0_0) := (blk_cell BK236.out 0).trans rfl
                      have hcz113_1 : wr.cell? ⟨gb236, 1, none⟩ = some (.slice A0_1 l0_1.length c0_1) := (blk_cell BK236.out 1).trans rfl
                      have hcz113_2 : wr.cell? ⟨gb236, 2, none⟩ = some (.int .i64 a0_2) := (blk_cell BK236.out 2).trans rfl
                      have hcz113_3 : wr.cell? ⟨gb236, 3, none⟩ = some (.int .i64 a0_3) := (blk_cell BK236.out 3).trans rfl
                      have hcz113_4 : wr.cell? ⟨gb236, 4, none⟩ = some (.slice A0_4 l0_4.length c0_4) := (blk_cell BK236.out 4).trans rfl
                      have hcz113_5 : wr.cell? ⟨gb236, 5, none⟩ = some (.int .i64 a0_5) := (blk_cell BK236.out 5).trans rfl
                      have hfz113_0 := blk_frozen BK236.out 0
                      have hfz113_1 := blk_frozen BK236.out 1
                      have hfz113_2 := blk_frozen BK236.out 2
                      have hfz113_3 := blk_frozen BK236.out 3
                      have hfz113_4 := blk_frozen BK236.out 4
                      have hfz113_5 := blk_frozen BK236.out 5
                      go_wp2
                      repeat (go_quiet (fail); try go_wp2)
                      go_ret
                      exact ⟨by first | rfl | (simp [errW_none, errW_some] <;> rfl) | (simp [*, errW_none, errW_some] <;> rfl), by repeat (first | (with_reducible first | exact HB.out | apply below_alloc | apply pw_below_drewN | apply below_drew1 | refine below_set ?_ GE236.out | refine below_set ?_ GE237.out) | exact HB.out)⟩
                  · rw [if_neg c106] at H
                    have c106b0 : (a0_0 == 3) = false := beq_eq_false_iff_ne.mpr c106
                    have c106b1 : (a0_0 != 3) = true := bne_iff_ne.mpr c106
                    obtain rfl := Option.some.inj H
                    obtain ⟨Ao114, co114, eo114⟩ := Kd.R_slice HO_6.out
                    subst eo114
                    have hnb115 := NB236_237.out
                    have hnc115 := NB237_236.out
                    have hcz116_0 : wr.cell? ⟨gb236, 0, none⟩ = some (.int .i64 a0_0) := (blk_cell BK236.out 0).trans rfl
                    have hcz116_1 : wr.cell? ⟨gb236, 1, none⟩ = some (.slice A0_1 l0_1.length c0_1) := (blk_cell BK236.out 1).trans rfl
                    have hcz116_2 : wr.cell? ⟨gb236, 2, none⟩ = some (.int .i64 a0_2) := (blk_cell BK236.out 2).trans rfl
                    have hcz116_3 : wr.cell? ⟨gb236, 3, none⟩ = some (.int .i64 a0_3) := (blk_cell BK236.out 3).trans rfl
                    have hcz116_4 : wr.cell? ⟨gb236, 4, none⟩ = some (.slice A0_4 l0_4.length c0_4) := (blk_cell BK236.out 4).trans rfl
                    have hcz116_5 : wr.cell? ⟨gb236, 5, none⟩ = some (.int .i64 a0_5) := (blk_cell BK236.out 5).trans rfl
                    have hfz116_0 := blk_frozen BK236.out 0
                    have hfz116_1 := blk_frozen BK236.out 1
                    have hfz116_2 := blk_frozen BK236.out 2
                    have hfz116_3 := blk_frozen BK236.out 3
                    have hfz116_4 := blk_frozen BK236.out 4
                    have hfz116_5 := blk_frozen BK236.out 5
                    go_wp2
                    repeat (go_quiet (fail); try go_wp2)
                    go_ret
                    exact ⟨by first | rfl | (simp [errW_none, errW_some] <;> rfl) | (simp [*, errW_none, errW_some] <;> rfl), by repeat (first | (with_reducible first | exact HB.out | apply below_alloc | apply pw_below_drewN | apply below_drew1 | refine below_set ?_ GE236.out | refine below_set ?_ GE237.out) | exact HB.out)⟩
                · rw [if_neg c105] at H
                  have c105b0 : ((t240.length : Int) == 1) = false := beq_eq_false_iff_ne.mpr c105
                  have c105b1 : ((t240.length : Int) != 1) = true := bne_iff_ne.mpr c105
                  obtain rfl := Option.some.inj H
                  obtain ⟨Ao117, co117, eo117⟩ := Kd.R_slice HO_6.out
                  subst eo117
                  have hnb118 := NB236_237.out
                  have hnc118 := NB237_236.out
                  have hcz119_0 : wr.cell? ⟨gb236, 0, none⟩ = some (.int .i64 a0_0) := (blk_cell BK236.out 0).trans rfl
                  have hcz119_1 : wr.cell? ⟨gb236, 1, none⟩ = some (.slice A0_1 l0_1.length c0_1) := (blk_cell BK236.out 1).trans rfl
                  have hcz119_2 : wr.cell? ⟨gb236, 2, none⟩ = some (.int .i64 a0_2) := (blk_cell BK236.out 2).trans rfl
                  have hcz119_3 : wr.cell? ⟨gb236, 3, none⟩ = some (.int .i64 a0_3) := (blk_cell BK236.out 3).trans rfl
                  have hcz119_4 : wr.cell? ⟨gb236, 4, none⟩ = some (.slice A0_4 l0_4.length c0_4) := (blk_cell BK236.out 4).trans rfl
                  have hcz119_5 : wr.cell? ⟨gb236, 5, none⟩ = some (.int .i64 a0_5) := (blk_cell BK236.out 5).trans rfl
                  have hfz119_0 := blk_frozen BK236.out 0
                  have hfz119_1 := blk_frozen BK236.out 1
                  have hfz119_2 := blk_frozen BK236.out 2
                  have hfz119_3 := blk_frozen BK236.out 3
                  have hfz119_4 := blk_frozen BK236.out 4
                  have hfz119_5 := blk_frozen BK236.out 5
                  go_wp2
                  repeat (go_quiet (fail); try go_wp2)
                  go_ret
                  exact ⟨by first | rfl | (simp [errW_none, errW_some] <;> rfl) | (simp [*, errW_none, errW_some] <;> rfl), by repeat (first | (with_reducible first | exact HB.out | apply below_alloc | apply pw_below_drewN | apply below_drew1 | refine below_set ?_ GE236.out | refine below_set ?_ GE237.out) | exact HB.out)⟩
              · replace c104 := Bool.eq_false_iff.mpr c104
                subst c104
                have H1 : (some false) = some r := by rw [if_neg (show ¬ (false = true) by decide)] at H; exact H
                clear H
                have H := H1
                clear H1
                obtain rfl := Option.some.inj H
                obtain ⟨Ao120, co120, eo120⟩ := Kd.R_slice HO_6.out
                subst eo120
                have hnb121 := NB236_237.out
                have hnc121 := NB237_236.out
                have hcz122_0 : wr.cell? ⟨gb236, 0, none⟩ = some (.int .i64 a0_0) := (blk_cell BK236.out 0).trans rfl
                have hcz122_1 : wr.cell? ⟨gb236, 1, none⟩ = some (.slice A0_1 l0_1.length c0_1) := (blk_cell BK236.out 1).trans rfl
                have hcz122_2 : wr.cell? ⟨gb236, 2, none⟩ = some (.int .i64 a0_2) := (blk_cell BK236.out 2).trans rfl
                have hcz122_3 : wr.cell? ⟨gb236, 3, none⟩ = some (.int .i64 a0_3) := (blk_cell BK236.out 3).trans rfl
                have hcz122_4 : wr.cell? ⟨gb236, 4, none⟩ = some (.slice A0_4 l0_4.length c0_4) := (blk_cell BK236.out 4).trans rfl
                have hcz122_5 : wr.cell? ⟨gb236, 5, none⟩ = some (.int .i64 a0_5) := (blk_cell BK236.out 5).trans rfl
                have hfz122_0 := blk_frozen BK236.out 0
                have hfz122_1 := blk_frozen BK236.out 1
                have hfz122_2 := blk_frozen BK236.out 2
                have hfz122_3 := blk_frozen BK236.out 3
                have hfz122_4 := blk_frozen BK236.out 4
                have hfz122_5 := blk_frozen BK236.out 5
                go_wp2
                repeat (go_quiet (fail); try go_wp2)
                go_ret
                exact ⟨by first | rfl | (simp [errW_none, errW_some] <;> rfl) | (simp [*, errW_none, errW_some] <;> rfl), by repeat (first | (with_reducible first | exact HB.out | apply below_alloc | apply pw_below_drewN | apply below_drew1 | refine below_set ?_ GE236.out | refine below_set ?_ GE237.out) | exact HB.out)⟩
            · rw [if_neg c103] at H
              have c103b0 : (a0_0 == 2) = false := beq_eq_false_iff_ne.mpr c103
              have c103b1 : (a0_0 != 2) = true := bne_iff_ne.mpr c103
              by_cases c123 : a0_0 = 5
              · rw [if_pos c123] at H
                have c123b0 : (a0_0 == 5) = true := beq_iff_eq.mpr c123
                have c123b1 : (a0_0 != 5) = false := bne_eq_false_iff_eq.mpr c123
                clear c123
                by_cases c124 : t238 = true
                · subst c124
                  have H1 : (if (t240.length : Int) = 1 then (if a0_0 = 3 then (if (t240.length : Int) ≤ 1 then (some (decide ((t240.length : Int) ≤ 4))) else (some false)) else (some (decide ((t240.length : Int) ≤ 4)))) else (some false)) = some r := by rw [if_pos rfl] at H; exact H
                  clear H
                  have H := H1
                  clear H1
                  by_cases c125 : (t240.length : Int) = 1
                  · rw [if_pos c125] at H
                    have c125b0 : ((t240.length : Int) == 1) = true := beq_iff_eq.mpr c125
                    have c125b1 : ((t240.length : Int) != 1) = false := bne_eq_false_iff_eq.mpr c125
                    clear c125
                    by_cases c126 : a0_0 = 3
                    · rw [if_pos c126] at H
                      have c126b0 : (a0_0 == 3) = true := beq_iff_eq.mpr c126
                      have c126b1 : (a0_0 != 3) = false := bne_eq_false_iff_eq.mpr c126
                      clear c126
                      by_cases c127 : (t240.length : Int) ≤ 1
                      · rw [if_pos c127] at H
                        have c127b0 : decide ((t240.length : Int) ≤ 1) = true := decide_eq_true c127
                        have c127b1 : decide (t240.length ≤ 1) = true := decide_eq_true (by omega)
                        clear c127
                        obtain rfl := Option.some.inj H
                        obtain ⟨Ao128, co128, eo128⟩ := Kd.R_slice HO_6.out
                        subst eo128
                        have hnb129 := NB236_237.out
                        have hnc129 := NB237_236.out
                        have hcz130_0 : wr.cell? ⟨gb236, 0, none⟩ = some (.int .i64 a0_0) := (blk_cell BK236.out 0).trans rfl
                        have hcz130_1 : wr.cell? ⟨gb236, 1, none⟩ = some (.slice A0_1 l0_1.length c0_1) := (blk_cell BK236.out 1).trans rfl
                        have hcz130_2 : wr.cell? ⟨gb236, 2, none⟩ = some (.int .i64 a0_2) := (blk_cell BK236.out 2).trans rfl
                        have hcz130_3 : wr.cell? ⟨gb236, 3, none⟩ = some (.int .i64 a0_3) := (blk_cell BK236.out 3).trans rfl
                        have hcz130_4 : wr.cell? ⟨gb236, 4, none⟩ = some (.slice A0_4 l0_4.length c0_4) := (blk_cell BK236.out 4).trans rfl
                        have hcz130_5 : wr.cell? ⟨gb236, 5, none⟩ = some (.int .i64 a0_5) := (blk_cell BK236.out 5).trans rfl
                        have hfz130_0 := blk_frozen BK236.out 0
                        have hfz130_1 := blk_frozen BK236.out 1
                        have hfz130_2 := blk_frozen BK236.out 2
                        have hfz130_3 := blk_frozen BK236.out 3
                        have hfz130_4 := blk_frozen BK236.out 4
                        have hfz130_5 := blk_frozen BK236.out 5
                        go_wp2
                        repeat (go_quiet (fail); try go_wp2)
                        go_ret
                        exact ⟨by first | rfl | (simp [errW_none, errW_some] <;> rfl) | (simp [*, errW_none, errW_some] <;> rfl), by repeat (first | (with_reducible first | exact HB.out | apply below_alloc | apply pw_below_drewN | apply below_drew1 | refine below_set ?_ GE236.out | refine below_set ?_ GE237.out) | exact HB.out)⟩
                      · rw [if_neg c127] at H
                        have c127b0 : decide ((t240.length : Int) ≤ 1) = false := decide_eq_false c127
                        have c127b1 : decide (t240.length ≤ 1) = false := decide_eq_false (by omega)
                        clear c127
                        obtain rfl := Option.some.inj H
                        obtain ⟨Ao131, co131, eo131⟩ := Kd.R_slice HO_6.out
                        subst eo131
                        have hnb132 := NB236_237.out
                        have hnc132 := NB237_236.out
                        have hcz133_0 : wr.cell? ⟨gb236, 0, none⟩ = some (.int .i64 a0_0) := (blk_cell BK236.out 0).trans rfl
                        have hcz133_1 : wr.cell? ⟨gb236, 1, none⟩ = some (.slice A0_1 l0_1.length c0_1) := (blk_cell BK236.out 1).trans rfl
                        have hcz133_2 : wr.cell? ⟨gb236, 2, none⟩ = some (.int .i64 a0_2) := (blk_cell BK236.out 2).trans rfl
                        have hcz133_3 : wr.cell? ⟨gb236, 3, none⟩ = some (.int .i64 a0_3) := (blk_cell BK236.out 3).trans rfl
                        have hcz133_4 : wr.cell? ⟨gb236, 4, none⟩ = some (.slice A0_4 l0_4.length c0_4) := (blk_cell BK236.out 4).trans rfl
                        have hcz133_5 : wr.cell? ⟨gb236, 5, none⟩ = some (.int .i64 a0_5) := (blk_cell BK236.out 5).trans rfl
                        have hfz133_0 := blk_frozen BK236.out 0
                        have hfz133_1 := blk_frozen BK236.out 1
                        have hfz133_2 := blk_frozen BK236.out 2
                        have hfz133_3 := blk_frozen BK236.out 3
                        have hfz133_4 := blk_frozen BK236.out 4
                        have hfz133_5 := blk_frozen BK236.out 5
                        go_wp2
                        repeat (go_quiet (fail); try go_wp2)
                        go_ret
                        exact ⟨by first | rfl | (simp [errW_none, errW_some] <;> rfl) | (simp [*, errW_none, errW_some] <;> rfl), by repeat (first | (with_reducible first | exact HB.out | apply below_alloc | apply pw_below_drewN | apply below_drew1 | refine below_set ?_ GE236.out | refine below_set ?_ GE237.out) | exact HB.out)⟩
                    · rw [if_neg c126] at H
                      have c126b0 : (a0_0 == 3) = false := beq_eq_false_iff_ne.mpr c126
                      have c126b1 : (a0_0 != 3) = true := bne_iff_ne.mpr c126
                      obtain rfl := Option.some.inj H
                      obtain ⟨Ao134, co134, eo134⟩ := Kd.R_slice HO_6.out
                      subst eo134
                      have hnb135 := NB236_237.out
                      have hnc135 := NB237_236.out
                      have hcz136_0 : wr.cell? ⟨gb236, 0, none⟩ = some (.int .i64 a0_0) := (blk_cell BK236.out 0).trans rfl
                      have hcz136_1 : wr.cell? ⟨gb236, 1, none⟩ = some (.slice A0_1 l0_1.length c0_1) := (blk_cell BK236.out 1).trans rfl
                      have hcz136_2 : wr.cell? ⟨gb236, 2, none⟩ = some (.int .i64 a0_2) := (blk_cell BK236.out 2).trans rfl
                      have hcz136_3 : wr.cell? ⟨gb236, 3, none⟩ = some (.int .i64 a0_3) := (blk_cell BK236.out 3).trans rfl
                      have hcz136_4 : wr.cell? ⟨gb236, 4, none⟩ = some (.slice A0_4 l0_4.length c0_4) := (blk_cell BK236.out 4).trans rfl
                      have hcz136_5 : wr.cell? ⟨gb236, 5, none⟩ = some (.int .i64 a0_5) := (blk_cell BK236.out 5).trans rfl
                      have hfz136_0 := blk_frozen BK236.out 0
                      have hfz136_1 := blk_frozen BK236.out 1
                      have hfz136_2 := blk_frozen BK236.out 2
                      have hfz136_3 := blk_frozen BK236.out 3
                      have hfz136_4 := blk_frozen BK236.out 4
                      have hfz136_5 := blk_frozen BK236.out 5
                      go_wp2
                      repeat (go_quiet (fail); try go_wp2)
                      go_ret
                      exact ⟨by first | rfl | (simp [errW_none, errW_some] <;> rfl) | (simp [*, errW_none, errW_some] <;> rfl), by repeat (first | (with_reducible first | exact HB.out | apply below_alloc | apply pw_below_drewN | apply below_drew1 | refine below_set ?_ GE236.out | refine below_set ?_ GE237.out) | exact HB.out)⟩
                  · rw [if_neg c125] at H
                    have c125b0 : ((t240.length : Int) == 1) = false := beq_eq_false_iff_ne.mpr c125
                    have c125b1 : ((t240.length : Int) != 1) = true := bne_iff_ne.mpr c125
                    obtain rfl := Option.some.inj H
                    obtain ⟨Ao137, co137, eo137⟩ := Kd.R_slice HO_6.out
                    subst eo137
                    have hnb138 := NB236_237.out
                    have hnc138 := NB237_236.out
                    have hcz139_0 : wr.cell? ⟨gb236, 0, none⟩ = some (.int .i64 a0_0) := (blk_cell BK236.out 0).trans rfl
                    have hcz139_1 : wr.cell? ⟨gb236, 1, none⟩ = some (.slice A0_1 l0_1.length c0_1) := (blk_cell BK236.out 1).trans rfl
                    have hcz139_2 : wr.cell? ⟨gb236, 2, none⟩ = some (.int .i64 a0_2) := (blk_cell BK236.out 2).trans rfl
                    have hcz139_3 : wr.cell? ⟨gb236, 3, none⟩ = some (.int .i64 a0_3) := (blk_cell BK236.out 3).trans rfl
                    have hcz139_4 : wr.cell? ⟨gb236, 4, none⟩ = some (.slice A0_4 l0_4.length c0_4) := (blk_cell BK236.out 4).trans rfl
                    have hcz139_5 : wr.cell? ⟨gb236, 5, none⟩ = some (.int .i64 a0_5) := (blk_cell BK236.out 5).trans rfl
                    have hfz139_0 := blk_frozen BK236.out 0
                    have hfz139_1 := blk_frozen BK236.out 1
                    have hfz139_2 := blk_frozen BK236.out 2
                    have hfz139_3 := blk_frozen BK236.out 3
                    have hfz139_4 := blk_frozen BK236.out 4
                    have hfz139_5 := blk_frozen BK236.out 5
                    go_wp2
                    repeat (go_quiet (fail); try go_wp2)
                    go_ret
                    exact ⟨by first | rfl | (simp [errW_none, errW_some] <;> rfl) | (simp [*, errW_none, errW_some] <;> rfl), by repeat (first | (with_reducible first | exact HB.out | apply below_alloc | apply pw_below_drewN | apply below_drew1 | refine below_set ?_ GE236.out | refine below_set ?_ GE237.out) | exact HB.out)⟩
                · replace c124 := Bool.eq_false_iff.mpr c124
                  subst c124
                  have H1 : (some false) = some r := by rw [if_neg (show ¬ (false = true) by decide)] at H; exact H
                  clear H
                  have H := H1
                  clear H1
                  obtain rfl := Option.some.inj H
                  obtain ⟨Ao140, co140, eo140⟩ := Kd.R_slice HO_6.out
                  subst eo140
                  have hnb141 := NB236_237.out
                  have hnc141 := NB237_236.out
                  have hcz142_0 : wr.cell? ⟨gb236, 0, none⟩ = some (.int .i64 a0_0) := (blk_cell BK236.out 0).trans rfl
                  have hcz142_1 : wr.cell? ⟨gb236, 1, none⟩ = some (.slice A0_1 l0_1.length c0_1) := (blk_cell BK236.out 1).trans rfl
                  have hcz142_2 : wr.cell? ⟨gb236, 2, none⟩ = some (.int .i64 a0_2) := (blk_cell BK236.out 2).trans rfl
                  have hcz142_3 : wr.cell? ⟨gb236, 3, none⟩ = some (.int .i64 a0_3) := (blk_cell BK236.out 3).trans rfl
                  have hcz142_4 : wr.cell? ⟨gb236, 4, none⟩ = some (.slice A0_4 l0_4.length c0_4) := (blk_cell BK236.out 4).trans rfl
                  have hcz142_5 : wr.cell? ⟨gb236, 5, none⟩ = some (.int .i64 a0_5) := (blk_cell BK236.out 5).trans rfl
                  have hfz142_0 := blk_frozen BK236.out 0
                  have hfz142_1 := blk_frozen BK236.out 1
                  have hfz142_2 := blk_frozen BK236.out 2
                  have hfz142_3 := blk_frozen BK236.out 3
                  have hfz142_4 := blk_frozen BK236.out 4
                  have hfz142_5 := blk_frozen BK236.out 5
                  go_wp2
                  repeat (go_quiet (fail); try go_wp2)
                  go_ret
                  exact ⟨by first | rfl | (simp [errW_none, errW_some] <;> rfl) | (simp [*, errW_none, errW_some] <;> rfl), by repeat (first | (with_reducible first | exact HB.out | apply below_alloc | apply pw_below_drewN | apply below_drew1 | refine below_set ?_ GE236.out | refine below_set ?_ GE237.out) | exact HB.out)⟩
              · rw [if_neg c123] at H
                have c123b0 : (a0_0 == 5) = false := beq_eq_false_iff_ne.mpr c123
                have c123b1 : (a0_0 != 5) = true := bne_iff_ne.mpr c123
                by_cases c143 : a0_0 = 1
                · rw [if_pos c143] at H
                  have c143b0 : (a0_0 == 1) = true := beq_iff_eq.mpr c143
                  have c143b1 : (a0_0 != 1) = false := bne_eq_false_iff_eq.mpr c143
                  clear c143
                  by_cases c144 : t238 = true
                  · subst c144
                    have H1 : (if (t240.length : Int) = 1 then (if a0_0 = 3 then (if (t240.length : Int) ≤ 1 then (some (decide ((t240.length : Int) ≤ 4))) else (some false)) else (some (decide ((t240.length : Int) ≤ 4)))) else (some false)) = some r := by rw [if_pos rfl] at H; exact H
                    clear H
                    have H := H1
                    clear H1
                    by_cases c145 : (t240.length : Int) = 1
                    · rw [if_pos c145] at H
                      have c145b0 : ((t240.length : Int) == 1) = true := beq_iff_eq.mpr c145
                      have c145b1 : ((t240.length : Int) != 1) = false := bne_eq_false_iff_eq.mpr c145
                      clear c145
                      by_cases c146 : a0_0 = 3
                      · rw [if_pos c146] at H
                        have c146b0 : (a0_0 == 3) = true := beq_iff_eq.mpr c146
                        have c146b1 : (a0_0 != 3) = false := bne_eq_false_iff_eq.mpr c146
                        clear c146
                        by_cases c147 : (t240.length : Int) ≤ 1
                        · rw [if_pos c147] at H
                          have c147b0 : decide ((t240.length : Int) ≤ 1) = true := decide_eq_true c147
                          have c147b1 : decide (t240.length ≤ 1) = true := decide_eq_true (by omega)
                          clear c147
                          obtain rfl := Option.some.inj H
                          obtain ⟨Ao148, co148, eo148⟩ := Kd.R_slice HO_6.out
                          subst eo148
                          have hnb149 := NB236_237.out
                          have hnc149 := NB237_236.out
                          have hcz150_0 : wr.cell? ⟨gb236, 0, none⟩ = some (.int .i64 a0_0) := (blk_cell BK236.out 0).trans rfl
                          have hcz150_1 : wr.cell? ⟨gb236, 1, none⟩ = some (.slice A0_1 l0_1.length c0_1) := (blk_cell BK236.out 1).trans rfl
                          have hcz150_2 : wr.cell? ⟨gb236, 2, none⟩ = some (.int .i64 a0_2) := (blk_cell BK236.out 2).trans rfl
                          have hcz150_3 : wr.cell? ⟨gb236, 3, none⟩ = some (.int .i64 a0_3) := (blk_cell BK236.out 3).trans rfl
                          have hcz150_4 : wr.cell? ⟨gb236, 4, none⟩ = some (.slice A0_4 l0_4.length c0_4) := (blk_cell BK236.out 4).trans rfl
                          have hcz150_5 : wr.cell? ⟨gb236, 5, none⟩ = some (.int .i64 a0_5) := (blk_cell BK236.out 5).trans rfl
                          have hfz150_0 := blk_frozen BK236.out 0
                          have hfz150_1 := blk_frozen BK236.out 1
                          have hfz150_2 := blk_frozen BK236.out 2
                          have hfz150_3 := blk_frozen BK236.out 3
                          have hfz150_4 := blk_frozen BK236.out 4
                          have hfz150_5 := blk_frozen BK236.out 5
                          go_wp2
                          repeat (go_quiet (fail); try go_wp2)
                          go_ret
                          exact ⟨by first | rfl | (simp [errW_none, errW_some] <;> rfl) | (simp [*, errW_none, errW_some] <;> rfl), by repeat (first | (with_reducible first | exact HB.out | apply below_alloc | apply pw_below_drewN | apply below_drew1 | refine below_set ?_ GE236.out | refine below_set ?_ GE237.out) | exact HB.out)⟩
                        · rw [if_neg c147] at H
                          have c147b0 : decide ((t240.length : Int) ≤ 1) = false := decide_eq_false c147
                          have c147b1 : decide (t240.length ≤ 1) = false := decide_eq_false (by omega)
                          clear c147
                          obtain rfl := Option.some.inj H
                          obtain ⟨Ao151, co151, eo151⟩ := Kd.R_slice HO_6.out
                          subst eo151
                          have hnb152 := NB236_237.out
                          have hnc152 := NB237_236.out
                          have hcz153_0 : wr.cell? ⟨gb236, 0, none⟩ = some (.int .i64 a0_0) := (blk_cell BK236.out 0).trans rfl
                          have hcz153_1 : wr.cell? ⟨gb236, 1, none⟩ = some (.slice A0_1 l0_1.length c0_1) := (blk_cell BK236.out 1).trans rfl
                          have hcz153_2 : wr.cell? ⟨gb236, 2, none⟩ = some (.int .i64 a0_2) := (blk_cell BK236.out 2).trans rfl
                          have hcz153_3 : wr.cell? ⟨gb236, 3, none⟩ = some (.int .i64 a0_3) := (blk_cell BK236.out 3).trans rfl
                          have hcz153_4 : wr.cell? ⟨gb236, 4, none⟩ = some (.slice A0_4 l0_4.length c0_4) := (blk_cell BK236.out 4).trans rfl
                          have hcz153_5 : wr.cell? ⟨gb236, 5, none⟩ = some (.int .i64 a0_5) := (blk_cell BK236.out 5).trans rfl
                          have hfz153_0 := blk_frozen BK236.out 0
                          have hfz153_1 := blk_frozen BK236.out 1
                          have hfz153_2 := blk_frozen BK236.out 2
                          have hfz153_3 := blk_frozen BK236.out 3
                          have hfz153_4 := blk_frozen BK236.out 4
                          have hfz153_5 := blk_frozen BK236.out 5
                          go_wp2
                          repeat (go_quiet (fail); try go_wp2)
                          go_ret
                          exact ⟨by first | rfl | (simp [errW_none, errW_some] <;> rfl) | (simp [*, errW_none, errW_some] <;> rfl), by repeat (first | (with_reducible first | exact HB.out | apply below_alloc | apply pw_below_drewN | apply below_drew1 | refine below_set ?_ GE236.out | refine below_set ?_ GE237.out) | exact HB.out)⟩
                      · rw [if_neg c146] at H
                        have c146b0 : (a0_0 == 3) = false := beq_eq_false_iff_ne.mpr c146
                        have c146b1 : (a0_0 != 3) = true := bne_iff_ne.mpr c146
                        obtain rfl := Option.some.inj H
                        obtain ⟨Ao154, co154, eo154⟩ := Kd.R_slice HO_6.out
                        subst eo154
                        have hnb155 := NB236_237.out
                        have hnc155 := NB237_236.out
                        have hcz156_0 : wr.cell? ⟨gb236, 0, none⟩ = some (.int .i64 a0_0) := (blk_cell BK236.out 0).trans rfl
                        have hcz156_1 : wr.cell? ⟨gb236, 1, none⟩ = some (.slice A0_1 l0_1.length c0_1) := (blk_cell BK236.out 1).trans rfl
                        have hcz156_2 : wr.cell? ⟨gb236, 2, none⟩ = some (.int .i64 a0_2) := (blk_cell BK236.out 2).trans rfl
                        have hcz156_3 : wr.cell? ⟨gb236, 3, none⟩ = some (.int .i64 a0_3) := (blk_cell BK236.out 3).trans rfl
                        have hcz156_4 : wr.cell? ⟨gb236, 4, none⟩ = some (.slice A0_4 l0_4.length c0_4) := (blk_cell BK236.out 4).trans rfl
                        have hcz156_5 : wr.cell? ⟨gb236, 5, none⟩ = some (.int .i64 a0_5) := (blk_cell BK236.out 5).trans rfl
                        have hfz156_0 := blk_frozen BK236.out 0
                        have hfz156_1 := blk_frozen BK236.out 1
                        have hfz156_2 := blk_frozen BK236.out 2
                        have hfz156_3 := blk_frozen BK236.out 3
                        have hfz156_4 := blk_frozen BK236.out 4
                        have hfz156_5 := blk_frozen BK236.out 5
                        go_wp2
                        repeat (go_quiet (fail); try go_wp2)
                        go_ret
                        exact ⟨by first | rfl | (simp [errW_none, errW_some] <;> rfl) | (simp [*, errW_none, errW_some] <;> rfl), by repeat (first | (with_reducible first | exact HB.out | apply below_alloc | apply pw_below_drewN | apply below_drew1 | refine below_set ?_ GE236.out | refine below_set ?_ GE237.out) | exact HB.out)⟩
                    · rw [if_neg c145] at H
                      have c145b0 : ((t240.length : Int) == 1) = false := beq_eq_false_iff_ne.mpr c145
                      have c145b1 : ((t240.length : Int) != 1) = true := bne_iff_ne.mpr c145
                      obtain rfl := Option.some.inj H
                      obtain ⟨Ao157, co157, eo157⟩ := Kd.R_slice HO_6.out
                      subst eo157
                      have hnb158 := NB236_237.out
                      have hnc158 := NB237_236.out
                      have hcz159_0 : wr.cell? ⟨gb236, 0, none⟩ = some (.int .i64 a0_0) := (blk_cell BK236.out 0).trans rfl
                      have hcz159_1 : wr.cell? ⟨gb236, 1, none⟩ = some (.slice A0_1 l0_1.length c0_1) := (blk_cell BK236.out 1).trans rfl
                      have hcz159_2 : wr.cell? ⟨gb236, 2, none⟩ = some (.int .i64 a0_2) := (blk_cell BK236.out 2).trans rfl
                      have hcz159_3 : wr.cell? ⟨gb236, 3, none⟩ = some (.int .i64 a0_3) := (blk_cell BK236.out 3).trans rfl
                      have hcz159_4 : wr.cell? ⟨gb236, 4, none⟩ = some (.slice A0_4 l0_4.length c0_4) := (blk_cell BK236.out 4).trans rfl
                      have hcz159_5 : wr.cell? ⟨gb236, 5, none⟩ = some (.int .i64 a0_5) := (blk_cell BK236.out 5).trans rfl
                      have hfz159_0 := blk_frozen BK236.out 0
                      have hfz159_1 := blk_frozen BK236.out 1
                      have hfz159_2 := blk_frozen BK236.out 2
                      have hfz159_3 := blk_frozen BK236.out 3
                      have hfz159_4 := blk_frozen BK236.out 4
                      have hfz159_5 := blk_frozen BK236.out 5
                      go_wp2
                      repeat (go_quiet (fail); try go_wp2)
                      go_ret
                      exact ⟨by first | rfl | (simp [errW_none, errW_some] <;> rfl) | (simp [*, errW_none, errW_some] <;> rfl), by repeat (first | (with_reducible first | exact HB.out | apply below_alloc | apply pw_below_drewN | apply below_drew1 | refine below_set ?_ GE236.out | refine below_set ?_ GE237.out) | exact HB.out)⟩
                  · replace c144 := Bool.eq_false_iff.mpr c144
                    subst c144
                    have H1 : (some false) = some r := by rw [if_neg (show ¬ (false = true) by decide)] at H; exact H
                    clear H
                    have H := H1
                    clear H1
                    obtain rfl := Option.some.inj H
                    obtain ⟨Ao160, co160, eo160⟩ := Kd.R_slice HO_6.out
                    subst eo160
                    have hnb161 := NB236_237.out
                    have hnc161 := NB237_236.out
                    have hcz162_0 : wr.cell? ⟨gb236, 0, none⟩ = some (.int .i64 a0_0) := (blk_cell BK236.out 0).trans rfl
                    have hcz162_1 : wr.cell? ⟨gb236, 1, none⟩ = some (.slice A0_1 l0_1.length c0_1) := (blk_cell BK236.out 1).trans rfl
                    have hcz162_2 : wr.cell? ⟨gb236, 2, none⟩ = some (.int .i64 a0_2) := (blk_cell BK236.out 2).trans rfl
                    have hcz162_3 : wr.cell? ⟨gb236, 3, none⟩ = some (.int .i64 a0_3) := (blk_cell BK236.out 3).trans rfl
                    have hcz162_4 : wr.cell? ⟨gb236, 4, none⟩ = some (.slice A0_4 l0_4.length c0_4) := (blk_cell BK236.out 4).trans rfl
                    have hcz162_5 : wr.cell? ⟨gb236, 5, none⟩ = some (.int .i64 a0_5) := (blk_cell BK236.out 5).trans rfl
                    have hfz162_0 := blk_frozen BK236.out 0
                    have hfz162_1 := blk_frozen BK236.out 1
                    have hfz162_2 := blk_frozen BK236.out 2
                    have hfz162_3 := blk_frozen BK236.out 3
                    have hfz162_4 := blk_frozen BK236.out 4
                    have hfz162_5 := blk_frozen BK236.out 5
                    go_wp2
                    repeat (go_quiet (fail); try go_wp2)
                    go_ret
                    exact ⟨by first | rfl | (simp [errW_none, errW_some] <;> rfl) | (simp [*, errW_none, errW_some] <;> rfl), by repeat (first | (with_reducible first | exact HB.out | apply below_alloc | apply pw_below_drewN | apply below_drew1 | refine below_set ?_ GE236.out | refine below_set ?_ GE237.out) | exact HB.out)⟩
                · rw [if_neg c143] at H
                  have c143b0 : (a0_0 == 1) = false := beq_eq_false_iff_ne.mpr c143
                  have c143b1 : (a0_0 != 1) = true := bne_iff_ne.mpr c143
                  by_cases c163 : t238 = true
                  · subst c163
                    have H1 : (if a0_0 = 10 then (if (t240.length : Int) = 1 then (if a0_0 = 3 then (if (t240.length : Int) ≤ 1 then (some (decide ((t240.length : Int) ≤ 4))) else (some false)) else (some (decide ((t240.length : Int) ≤ 4)))) else (some false)) else (if a0_0 = 3 then (if (t240.length : Int) ≤ 1 then (some (decide ((t240.length : Int) ≤ 4))) else (some false)) else (some (decide ((t240.length : Int) ≤ 4))))) = some r := by rw [if_pos rfl] at H; exact H
                    clear H
                    have H := H1
                    clear H1
                    by_cases c164 : a0_0 = 10
                    · rw [if_pos c164] at H
                      have c164b0 : (a0_0 == 10) = true := beq_iff_eq.mpr c164
                      have c164b1 : (a0_0 != 10) = false := bne_eq_false_iff_eq.mpr c164
                      clear c164
                      by_cases c165 : (t240.length : Int) = 1
                      · rw [if_pos c165] at H
                        have c165b0 : ((t240.length : Int) == 1) = true := beq_iff_eq.mpr c165
                        have c165b1 : ((t240.length : Int) != 1) = false := bne_eq_false_iff_eq.mpr c165
                        clear c165
                        by_cases c166 : a0_0 = 3
                        · rw [if_pos c166] at H
                          have c166b0 : (a0_0 == 3) = true := beq_iff_eq.mpr c166
                          have c166b1 : (a0_0 != 3) = false := bne_eq_false_iff_eq.mpr c166
                          clear c166
                          by_cases c167 : (t240.length : Int) ≤ 1
                          · rw [if_pos c167] at H
                            have c167b0 : decide ((t240.length : Int) ≤ 1) = true := decide_eq_true c167
                            have c167b1 : decide (t240.length ≤ 1) = true := decide_eq_true (by omega)
                            clear c167
                            obtain rfl := Option.some.inj H
                            obtain ⟨Ao168, co168, eo168⟩ := Kd.R_slice HO_6.out
                            subst eo168
                            have hnb169 := NB236_237.out
                            have hnc169 := NB237_236.out
                            have hcz170_0 : wr.cell? ⟨gb236, 0, none⟩ = some (.int .i64 a0_0) := (blk_cell BK236.out 0).trans rfl
                            have hcz170_1 : wr.cell? ⟨gb236, 1, none⟩ = some (.slice A0_1 l0_1.length c0_1) := (blk_cell BK236.out 1).trans rfl
                            have hcz170_2 : wr.cell? ⟨gb236, 2, none⟩ = some (.int .i64 a0_2) := (blk_cell BK236.out 2).trans rfl
                            have hcz170_3 : wr.cell? ⟨gb236, 3, none⟩ = some (.int .i64 a0_3) := (blk_cell BK236.out 3).trans rfl
                            have hcz170_4 : wr.cell? ⟨gb236, 4, none⟩ = some (.slice A0_4 l0_4.length c0_4) := (blk_cell BK236.out 4).trans rfl
                            have hcz170_5 : wr.cell? ⟨gb236, 5, none⟩ = some (.int .i64 a0_5) := (blk_cell BK236.out 5).trans rfl
                            have hfz170_0 := blk_frozen BK236.out 0
                            have hfz170_1 := blk_frozen BK236.out 1
                            have hfz170_2 := blk_frozen BK236.out 2
                            have hfz170_3 := blk_frozen BK236.out 3
                            have hfz170_4 := blk_frozen BK236.out 4
                            have hfz170_5 := blk_frozen BK236.out 5
                            go_wp2
                            repeat (go_quiet (fail); try go_wp2)
                            go_ret
                            exact ⟨by first | rfl | (simp [errW_none, errW_some] <;> rfl) | (simp [*, errW_none, errW_some] <;> rfl), by repeat (first | (with_reducible first | exact HB.out | apply below_alloc | apply pw_below_drewN | apply below_drew1 | refine below_set ?_ GE236.out | refine below_set ?_ GE237.out) | exact HB.out)⟩
                          · rw [if_neg c167] at H
                            have c167b0 : decide ((t240.length : Int) ≤ 1) = false := decide_eq_false c167
                            have c167b1 : decide (t240.length ≤ 1) = false := decide_eq_false (by omega)
                            clear c167
                            obtain rfl := Option.some.inj H
                            obtain ⟨Ao171, co171, eo171⟩ := Kd.R_slice HO_6.out
                            subst eo171
                            have hnb172 := NB236_237.out
                            have hnc172 := NB237_236.out
                            have hcz173_0 : wr.cell? ⟨gb236, 0, none⟩ = some (.int .i64 a0_0) := (blk_cell BK236.out 0).trans rfl
                            have hcz173_1 : wr.cell? ⟨gb236, 1, none⟩ = some (.slice A0_1 l0_1.length c0_1) := (blk_cell BK236.out 1).trans rfl
                            have hcz173_2 : wr.cell? ⟨gb236, 2, none⟩ = some (.int .i64 a0_2) := (blk_cell BK236.out 2).trans rfl
                            have hcz173_3 : wr.cell? ⟨gb236, 3, none⟩ = some (.int .i64 a0_3) := (blk_cell BK236.out 3).trans rfl
                            have hcz173_4 : wr.cell? ⟨gb236, 4, none⟩ = some (.slice A0_4 l0_4.length c0_4) := (blk_cell BK236.out 4).trans rfl
                            have hcz173_5 : wr.cell? ⟨gb236, 5, none⟩ = some (.int .i64 a0_5) := (blk_cell BK236.out 5).trans rfl
                            have hfz173_0 := blk_frozen BK236.out 0
                            have hfz173_1 := blk_frozen BK236.out 1
                            have hfz173_2 := blk_frozen BK236.out 2
                            have hfz173_3 := blk_frozen BK236.out 3
                            have hfz173_4 := blk_frozen BK236.out 4
                            have hfz173_5 := blk_frozen BK236.out 5
                            go_wp2
                            repeat (go_quiet (fail); try go_wp2)
                            go_ret
                            exact ⟨by first | rfl | (simp [errW_none, errW_some] <;> rfl) | (simp [*, errW_none, errW_some] <;> rfl), by repeat (first | (with_reducible first | exact HB.out | apply below_alloc | apply pw_below_drewN | apply below_drew1 | refine below_set ?_ GE236.out | refine below_set ?_ GE237.out) | exact HB.out)⟩
                        · rw [if_neg c166] at H
                          have c166b0 : (a0_0 == 3) = false := beq_eq_false_iff_ne.mpr c166
                          have c166b1 : (a0_0 != 3) = true := bne_iff_ne.mpr c166
                          obtain rfl := Option.some.inj H
                          obtain ⟨Ao174, co174, eo174⟩ := Kd.R_slice HO_6.out
                          subst eo174
                          have hnb175 := NB236_237.out
                          have hnc175 := NB237_236.out
                          have hcz176_0 : wr.cell? ⟨gb236, 0, none⟩ = some (.int .i64 a0_0) := (blk_cell BK236.out 0).trans rfl
                          have hcz176_1 : wr.cell? ⟨gb236, 1, none⟩ = some (.slice A0_1 l0_1.length c0_1) := (blk_cell BK236.out 1).trans rfl
                          have hcz176_2 : wr.cell? ⟨gb236, 2, none⟩ = some (.int .i64 a0_2) := (blk_cell BK236.out 2).trans rfl
                          have hcz176_3 : wr.cell? ⟨gb236, 3, none⟩ = some (.int .i64 a0_3) := (blk_cell BK236.out 3).trans rfl
                          have hcz176_4 : wr.cell? ⟨gb236, 4, none⟩ = some (.slice A0_4 l0_4.length c0_4) := (blk_cell BK236.out 4).trans rfl
                          have hcz176_5 : wr.cell? ⟨gb236, 5, none⟩ = some (.int .i64 a0_5) := (blk_cell BK236.out 5).trans rfl
                          have hfz176_0 := blk_frozen BK236.out 0
                          have hfz176_1 := blk_frozen BK236.out 1
                          have hfz176_2 := blk_frozen BK236.out 2
                          have hfz176_3 := blk_frozen BK236.out 3
                          have hfz176_4 := blk_frozen BK236.out 4
                          have hfz176_5 := blk_frozen BK236.out 5
                          go_wp2
                          repeat (go_quiet (fail); try go_wp2)
                          go_ret
                          exact ⟨by first | rfl | (simp [errW_none, errW_some] <;> rfl) | (simp [*, errW_none, errW_some] <;> rfl), by repeat (first | (with_reducible first | exact HB.out | apply below_alloc | apply pw_below_drewN | apply below_drew1 | refine below_set ?_ GE236.out | refine below_set ?_ GE237.out) | exact HB.out)⟩
                      · rw [if_neg c165] at H
                        have c165b0 : ((t240.length : Int) == 1) = false := beq_eq_false_iff_ne.mpr c165
                        have c165b1 : ((t240.length : Int) != 1) = true := bne_iff_ne.mpr c165
                        obtain rfl := Option.some.inj H
                        obtain ⟨Ao177, co177, eo177⟩ := Kd.R_slice HO_6.out
                        subst eo177
                        have hnb178 := NB236_237.out
                        have hnc178 := NB237_236.out
                        have hcz179_0 : wr.cell? ⟨gb236, 0, none⟩ = some (.int .i64 a0_0) := (blk_cell BK236.out 0).trans rfl
                        have hcz179_1 : wr.cell? ⟨gb236, 1, none⟩ = some (.slice A0_1 l0_1.length c0_1) := (blk_cell BK236.out 1).trans rfl
                        have hcz179_2 : wr.cell? ⟨gb236, 2, none⟩ = some (.int .i64 a0_2) := (blk_cell BK236.out 2).trans rfl
                        have hcz179_3 : wr.cell? ⟨gb236, 3, none⟩ = some (.int .i64 a0_3) := (blk_cell BK236.out 3).trans rfl
                        have hcz179_4 : wr.cell? ⟨gb236, 4, none⟩ = some (.slice A0_4 l0_4.length c0_4) := (blk_cell BK236.out 4).trans rfl
                        have hcz179_5 : wr.cell? ⟨gb236, 5, none⟩ = some (.int .i64 a0_5) := (blk_cell BK236.out 5).trans rfl
                        have hfz179_0 := blk_frozen BK236.out 0
                        have hfz179_1 := blk_frozen BK236.out 1
                        have hfz179_2 := blk_frozen BK236.out 2
                        have hfz179_3 := blk_frozen BK236.out 3
                        have hfz179_4 := blk_frozen BK236.out 4
                        have hfz179_5 := blk_frozen BK236.out 5
                        go_wp2
                        repeat (go_quiet (fail); try go_wp2)
                        go_ret
                        exact ⟨by first | rfl | (simp [errW_none, errW_some] <;> rfl) | (simp [*, errW_none, errW_some] <;> rfl), by repeat (first | (with_reducible first | exact HB.out | apply below_alloc | apply pw_below_drewN | apply below_drew1 | refine below_set ?_ GE236.out | refine below_set ?_ GE237.out) | exact HB.out)⟩
                    · rw [if_neg c164] at H
                      have c164b0 : (a0_0 == 10) = false := beq_eq_false_iff_ne.mpr c164
                      have c164b1 : (a0_0 != 10) = true := bne_iff_ne.mpr c164
                      by_cases c180 : a0_0 = 3
                      · rw [if_pos c180] at H
                        have c180b0 : (a0_0 == 3) = true := beq_iff_eq.mpr c180
                        have c180b1 : (a0_0 != 3) = false := bne_eq_false_iff_eq.mpr c180
                        clear c180
                        by_cases c181 : (t240.length : Int) ≤ 1
                        · rw [if_pos c181] at H
                          have c181b0 : decide ((t240.length : Int) ≤ 1) = true := decide_eq_true c181
                          have c181b1 : decide (t240.length ≤ 1) = true := decide_eq_true (by omega)
                          clear c181
                          obtain rfl := Option.some.inj H
                          obtain ⟨Ao182, co182, eo182⟩ := Kd.R_slice HO_6.out
                          subst eo182
                          have hnb183 := NB236_237.out
                          have hnc183 := NB237_236.out
                          have hcz184_0 : wr.cell? ⟨gb236, 0, none⟩ = some (.int .i64 a0_0) := (blk_cell BK236.out 0).trans rfl
                          have hcz184_1 : wr.cell? ⟨gb236, 1, none⟩ = some (.slice A0_1 l0_1.length c0_1) := (blk_cell BK236.out 1).trans rfl
                          have hcz184_2 : wr.cell? ⟨gb236, 2, none⟩ = some (.int .i64 a0_2) := (blk_cell BK236.out 2).trans rfl
                          have hcz184_3 : wr.cell? ⟨gb236, 3, none⟩ = some (.int .i64 a0_3) := (blk_cell BK236.out 3).trans rfl
                          have hcz184_4 : wr.cell? ⟨gb236, 4, none⟩ = some (.slice A0_4 l0_4.length c0_4) := (blk_cell BK236.out 4).trans rfl
                          have hcz184_5 : wr.cell? ⟨gb236, 5, none⟩ = some (.int .i64 a0_5) := (blk_cell BK236.out 5).trans rfl
                          have hfz184_0 := blk_frozen BK236.out 0
                          have hfz184_1 := blk_frozen BK236.out 1
                          have hfz184_2 := blk_frozen BK236.out 2
                          have hfz184_3 := blk_frozen BK236.out 3
                          have hfz184_4 := blk_frozen BK236.out 4
                          have hfz184_5 := blk_frozen BK236.out 5
                          go_wp2
                          repeat (go_quiet (fail); try go_wp2)
                          go_ret
                          exact ⟨by first | rfl | (simp [errW_none, errW_some] <;> rfl) | (simp [*, errW_none, errW_some] <;> rfl), by repeat (first | (with_reducible first | exact HB.out | apply below_alloc | apply pw_below_drewN | apply below_drew1 | refine below_set ?_ GE236.out | refine below_set ?_ GE237.out) | exact HB.out)⟩
                        · rw [if_neg c181] at H
                          have c181b0 : decide ((t240.length : Int) ≤ 1) = false := decide_eq_false c181
                          have c181b1 : decide (t240.length ≤ 1) = false := decide_eq_false (by omega)
                          clear c181
                          obtain rfl := Option.some.inj H
                          obtain ⟨Ao185, co185, eo185⟩ := Kd.R_slice HO_6.out
                          subst eo185
                          have hnb186 := NB236_237.out
                          have hnc186 := NB237_236.out
                          have hcz187_0 : wr.cell? ⟨gb236, 0, none⟩ = some (.int .i64 a0_0) := (blk_cell BK236.out 0).trans rfl
                          have hcz187_1 : wr.cell? ⟨gb236, 1, none⟩ = some (.slice A0_1 l0_1.length c0_1) := (blk_cell BK236.out 1).trans rfl
                          have hcz187_2 : wr.cell? ⟨gb236, 2, none⟩ = some (.int .i64 a0_2) := (blk_cell BK236.out 2).trans rfl
                          have hcz187_3 : wr.cell? ⟨gb236, 3, none⟩ = some (.int .i64 a0_3) := (blk_cell BK236.out 3).trans rfl
                          have hcz187_4 : wr.cell? ⟨gb236, 4, none⟩ = some (.slice A0_4 l0_4.length c0_4) := (blk_cell BK236.out 4).trans rfl
                          have hcz187_5 : wr.cell? ⟨gb236, 5, none⟩ = some (.int .i64 a0_5) := (blk_cell BK236.out 5).trans rfl
                          have hfz187_0 := blk_frozen BK236.out 0
                          have hfz187_1 := blk_frozen BK236.out 1
                          have hfz187_2 := blk_frozen BK236.out 2
                          have hfz187_3 := blk_frozen BK236.out 3
                          have hfz187_4 := blk_frozen BK236.out 4
                          have hfz187_5 := blk_frozen BK236.out 5
                          go_wp2
                          repeat (go_quiet (fail); try go_wp2)
                          go_ret
                          exact ⟨by first | rfl | (simp [errW_none, errW_some] <;> rfl) | (simp [*, errW_none, errW_some] <;> rfl), by repeat (first | (with_reducible first | exact HB.out | apply below_alloc | apply pw_below_drewN | apply below_drew1 | refine below_set ?_ GE236.out | refine below_set ?_ GE237.out) | exact HB.out)⟩
                      · rw [if_neg c180] at H
                        have c180b0 : (a0_0 == 3) = false := beq_eq_false_iff_ne.mpr c180
                        have c180b1 : (a0_0 != 3) = true := bne_iff_ne.mpr c180
                        obtain rfl := Option.some.inj H
                        obtain ⟨Ao188, co188, eo188⟩ := Kd.R_slice HO_6.out
                        subst eo188
                        have hnb189 := NB236_237.out
                        have hnc189 := NB237_236.out
                        have hcz190_0 : wr.cell? ⟨gb236, 0, none⟩ = some (.int .i64 a0_0) := (blk_cell BK236.out 0).trans rfl
                        have hcz190_1 : wr.cell? ⟨gb236, 1, none⟩ = some (.slice A0_1 l0_1.length c0_1) := (blk_cell BK236.out 1).trans rfl
                        have hcz190_2 : wr.cell? ⟨gb236, 2, none⟩ = some (.int .i64 a0_2) := (blk_cell BK236.out 2).trans rfl
                        have hcz190_3 : wr.cell? ⟨gb236, 3, none⟩ = some (.int .i64 a0_3) := (blk_cell BK236.out 3).trans rfl
                        have hcz190_4 : wr.cell? ⟨gb236, 4, none⟩ = some (.slice A0_4 l0_4.length c0_4) := (blk_cell BK236.out 4).trans rfl
                        have hcz190_5 : wr.cell? ⟨gb236, 5, none⟩ = some (.int .i64 a0_5) := (blk_cell BK236.out 5).trans rfl
                        have hfz190_0 := blk_frozen BK236.out 0
                        have hfz190_1 := blk_frozen BK236.out 1
                        have hfz190_2 := blk_frozen BK236.out 2
                        have hfz190_3 := blk_frozen BK236.out 3
                        have hfz190_4 := blk_frozen BK236.out 4
                        have hfz190_5 := blk_frozen BK236.out 5
                        go_wp2
                        repeat (go_quiet (fail); try go_wp2)
                        go_ret
                        exact ⟨by first | rfl | (simp [errW_none, errW_some] <;> rfl) | (simp [*, errW_none, errW_some] <;> rfl), by repeat (first | (with_reducible first | exact HB.out | apply below_alloc | apply pw_below_drewN | apply below_drew1 | refine below_set ?_ GE236.out | refine below_set ?_ GE237.out) | exact HB.out)⟩
                  · replace c163 := Bool.eq_false_iff.mpr c163
                    subst c163
                    have H1 : (some false) = some r := by rw [if_neg (show ¬ (false = true) by decide)] at H; exact H
                    clear H
                    have H := H1
                    clear H1
                    obtain rfl := Option.some.inj H
                    obtain ⟨Ao191, co191, eo191⟩ := Kd.R_slice HO_6.out
                    subst eo191
                    have hnb192 := NB236_237.out
                    have hnc192 := NB237_236.out
                    have hcz193_0 : wr.cell? ⟨gb236, 0, none⟩ = some (.int .i64 a0_0) := (blk_cell BK236.out 0).trans rfl
                    have hcz193_1 : wr.cell? ⟨gb236, 1, none⟩ = some (.slice A0_1 l0_1.length c0_1) := (blk_cell BK236.out 1).trans rfl
                    have hcz193_2 : wr.cell? ⟨gb236, 2, none⟩ = some (.int .i64 a0_2) := (blk_cell BK236.out 2).trans rfl
                    have hcz193_3 : wr.cell? ⟨gb236, 3, none⟩ = some (.int .i64 a0_3) := (blk_cell BK236.out 3).trans rfl
                    have hcz193_4 : wr.cell? ⟨gb236, 4, none⟩ = some (.slice A0_4 l0_4.length c0_4) := (blk_cell BK236.out 4).trans rfl
                    have hcz193_5 : wr.cell? ⟨gb236, 5, none⟩ = some (.int .i64 a0_5) := (blk_cell BK236.out 5).trans rfl
                    have hfz193_0 := blk_frozen BK236.out 0
                    have hfz193_1 := blk_frozen BK236.out 1
                    have hfz193_2 := blk_frozen BK236.out 2
                    have hfz193_3 := blk_frozen BK236.out 3
                    have hfz193_4 := blk_frozen BK236.out 4
                    have hfz193_5 := blk_frozen BK236.out 5
                    go_wp2
                    repeat (go_quiet (fail); try go_wp2)
                    go_ret
                    exact ⟨by first | rfl | (simp [errW_none, errW_some] <;> rfl) | (simp [*, errW_none, errW_some] <;> rfl), by repeat (first | (with_reducible first | exact HB.out | apply below_alloc | apply pw_below_drewN | apply below_drew1 | refine below_set ?_ GE236.out | refine below_set ?_ GE237.out) | exact HB.out)⟩
    · rw [if_neg c13] at H
      have c13b0 : (t243 == 0) = false := beq_eq_false_iff_ne.mpr c13
      have c13b1 : (t243 != 0) = true := bne_iff_ne.mpr c13
      by_cases c194 : t238 = true
      · subst c194
        have H1 : (some ((t240.length : Int) == 0)) = some r := by rw [if_pos rfl] at H; exact H
        clear H
        have H := H1
        clear H1
        obtain rfl := Option.some.inj H
        go_enter Try.func4, Try.ntmps4
        go_wp2_with (first | ((with_reducible refine gate_dst (N := 2) rfl ?_); (try (refine gate_guard (by rfl) ?_; dsimp only)); refine box_event ?hg (N := 2) ?hd (cs := #[.int .i64 a0_0, .slice A0_1 l0_1.length c0_1, .int .i64 a0_2, .int .i64 a0_3, .slice A0_4 l0_4.length c0_4, .int .i64 a0_5]) (t := 27) ?hr ?_; (case hd => rfl); (case hg => rfl); (case hr => first | (go_simp; done) | (go_simp; rfl)); intro gb236 hg w195 hbox hb; have n0_ := Aside0.mk (below_step (by repeat (first | (with_reducible first | exact HB.out | apply below_alloc | apply pw_below_drewN | apply below_drew1) | exact HB.out)) hb); have n1_ := Aside0.mk (hbox); have n2_ := Aside0.mk ((by rw [hg]; exact (below_size (by repeat (first | (with_reducible first | exact HB.out | apply below_alloc | apply pw_below_drewN | apply below_drew1) | exact HB.out))) : w.heap.size ≤ gb236)); have n3_ := Aside0.mk ((by rw [hg]; exact (below_size (by repeat (first | (with_reducible first | exact HB.out | apply below_alloc | apply pw_below_drewN | apply below_drew1) | exact HB.out))) : w.heap.size ≤ gb236)); clear HB; have HB := n0_; have BK236 := n1_; have GW236 := n2_; have GE236 := n3_; clear n0_ n1_ n2_ n3_; clear hb hbox hg) | ((with_reducible refine gate_dst (N := 3) rfl ?_); (try (refine gate_guard (by rfl) ?_; dsimp only)); refine box_event ?hg (N := 3) ?hd (cs := #[.int .i64 a1_0, .int .i64 a1_1, .int .i64 a1_2]) (t := 29) ?hr ?_; (case hd => rfl); (case hg => rfl); (case hr => first | (go_simp; done) | (go_simp; rfl)); intro gb237 hg w196 hbox hb; have n0_ := Aside0.mk (blk_below (g := gb236) (o := .cells #[.int .i64 a0_0, .slice A0_1 l0_1.length c0_1, .int .i64 a0_2, .int .i64 a0_3, .slice A0_4 l0_4.length c0_4, .int .i64 a0_5] 27 (0, 0)) (by (with_reducible repeat (first | refine blk_drewN ?_ _ | refine blk_drew ?_ | refine blk_alloc ?_ _)); exact BK236.out) hb); have n1_ := Aside0.mk (below_step (by repeat (first | (with_reducible first | exact HB.out | apply below_alloc | apply pw_below_drewN | apply below_drew1 | refine below_set ?_ GE236.out) | exact HB.out)) hb); have n2_ := Aside0.mk (hbox); have n3_ := Aside0.mk ((by rw [hg]; exact (below_size (by repeat (first | (with_reducible first | exact HB.out | apply below_alloc | apply pw_below_drewN | apply below_drew1 | refine below_set ?_ GE236.out) | exact HB.out))) : w.heap.size ≤ gb237)); have n4_ := Aside0.mk ((by rw [hg]; exact (below_size (by repeat (first | (with_reducible first | exact HB.out | apply below_alloc | apply pw_below_drewN | apply below_drew1 | refine below_set ?_ GE236.out) | exact HB.out))) : w.heap.size ≤ gb237)); have n5_ := Aside0.mk ((by rw [hg]; exact Nat.ne_of_lt (blk_lt (g := gb236) (o := .cells #[.int .i64 a0_0, .slice A0_1 l0_1.length c0_1, .int .i64 a0_2, .int .i64 a0_3, .slice A0_4 l0_4.length c0_4, .int .i64 a0_5] 27 (0, 0)) (by (with_reducible repeat (first | refine blk_drewN ?_ _ | refine blk_drew ?_ | refine blk_alloc ?_ _)); exact BK236.out)) : gb236 ≠ gb237)); have n6_ := Aside0.mk ((by rw [hg]; exact Nat.ne_of_gt (blk_lt (g := gb236) (o := .cells #[.int .i64 a0_0, .slice A0_1 l0_1.length c0_1, .int .i64 a0_2, .int .i64 a0_3, .slice A0_4 l0_4.length c0_4, .int .i64 a0_5] 27 (0, 0)) (by (with_reducible repeat (first | refine blk_drewN ?_ _ | refine blk_drew ?_ | refine blk_alloc ?_ _)); exact BK236.out)) : gb237 ≠ gb236)); clear BK236; clear HB; have BK236 := n0_; have HB := n1_; have BK237 := n2_; have GW237 := n3_; have GE237 := n4_; have NB236_237 := n5_; have NB237_236 := n6_; clear n0_ n1_ n2_ n3_ n4_ n5_ n6_; clear hb hbox hg) | (go_at_call 9; (with_reducible refine (tidemilllaw17_shown.calls k  true _ A3.out).mono ?_); rintro e w197 ⟨rfl, hb⟩; have n0_ := Aside0.mk (blk_below (g := gb236) (o := .cells #[.int .i64 a0_0, .slice A0_1 l0_1.length c0_1, .int .i64 a0_2, .int .i64 a0_3, .slice A0_4 l0_4.length c0_4, .int .i64 a0_5] 27 (0, 0)) (by (with_reducible repeat (first | refine blk_drewN ?_ _ | refine blk_drew ?_ | refine blk_alloc ?_ _)); exact BK236.out) hb); have n1_ := Aside0.mk (blk_below (g := gb237) (o := .cells #[.int .i64 a1_0, .int .i64 a1_1, .int .i64 a1_2] 29 (0, 0)) (by (with_reducible repeat (first | refine blk_drewN ?_ _ | refine blk_drew ?_ | refine blk_alloc ?_ _)); exact BK237.out) hb); have n2_ := Aside0.mk (below_step (by repeat (first | (with_reducible first | exact HB.out | apply below_alloc | apply pw_below_drewN | apply below_drew1 | refine below_set ?_ GE236.out | refine below_set ?_ GE237.out) | exact HB.out)) hb); clear BK236; clear BK237; clear HB; have BK236 := n0_; have BK237 := n1_; have HB := n2_; clear n0_ n1_ n2_; (try clear hb); (try clear hb2); (try clear hk); (try clear hi); have hnb198 := NB236_237.out; have hnc198 := NB237_236.out; have hcz199_0 : w197.cell? ⟨gb236, 0, none⟩ = some (.int .i64 a0_0) := (blk_cell BK236.out 0).trans rfl; have hcz199_1 : w197.cell? ⟨gb236, 1, none⟩ = some (.slice A0_1 l0_1.length c0_1) := (blk_cell BK236.out 1).trans rfl; have hcz199_2 : w197.cell? ⟨gb236, 2, none⟩ = some (.int .i64 a0_2) := (blk_cell BK236.out 2).trans rfl; have hcz199_3 : w197.cell? ⟨gb236, 3, none⟩ = some (.int .i64 a0_3) := (blk_cell BK236.out 3).trans rfl; have hcz199_4 : w197.cell? ⟨gb236, 4, none⟩ = some (.slice A0_4 l0_4.length c0_4) := (blk_cell BK236.out 4).trans rfl; have hcz199_5 : w197.cell? ⟨gb236, 5, none⟩ = some (.int .i64 a0_5) := (blk_cell BK236.out 5).trans rfl; have hfz199_0 := blk_frozen BK236.out 0; have hfz199_1 := blk_frozen BK236.out 1; have hfz199_2 := blk_frozen BK236.out 2; have hfz199_3 := blk_frozen BK236.out 3; have hfz199_4 := blk_frozen BK236.out 4; have hfz199_5 := blk_frozen BK236.out 5) | (go_at_call 10; (with_reducible refine (tidemillref04_Count.calls k a0_2 a0_3 _ _ l0_4 t239 _ ?side1 ?side2 A4.out).mono ?_); (case side1 => repeat (first | exact (Kd.C_below HR0_4.out HB.out) | (with_reducible refine Kd.C_alloc ?_ _) | (with_reducible refine Kd.C_drewN ?_ _) | (with_reducible refine Kd.C_drew ?_))); (case side2 => exact HC0_4.out); rintro e w200 ⟨rfl, hb⟩; have n0_ := Aside0.mk (blk_below (g := gb236) (o := .cells #[.int .i64 a0_0, .slice A0_1 l0_1.length c0_1, .int .i64 a0_2, .int .i64 a0_3, .slice A0_4 l0_4.length c0_4, .int .i64 a0_5] 27 (0, 0)) (by (with_reducible repeat (first | refine blk_drewN ?_ _ | refine blk_drew ?_ | refine blk_alloc ?_ _)); exact BK236.out) hb); have n1_ := Aside0.mk (blk_below (g := gb237) (o := .cells #[.int .i64 a1_0, .int .i64 a1_1, .int .i64 a1_2] 29 (0, 0)) (by (with_reducible repeat (first | refine blk_drewN ?_ _ | refine blk_drew ?_ | refine blk_alloc ?_ _)); exact BK237.out) hb); have n2_ := Aside0.mk (below_step (by repeat (first | (with_reducible first | exact HB.out | apply below_alloc | apply pw_below_drewN | apply below_drew1 | refine below_set ?_ GE236.out | refine below_set ?_ GE237.out) | exact HB.out)) hb); clear BK236; clear BK237; clear HB; have BK236 := n0_; have BK237 := n1_; have HB := n2_; clear n0_ n1_ n2_; (try clear hb); (try clear hb2); (try clear hk); (try clear hi); have hcz201_0 : w200.cell? ⟨gb236, 0, none⟩ = some (.int .i64 a0_0) := (blk_cell BK236.out 0).trans rfl; have hcz201_1 : w200.cell? ⟨gb236, 1, none⟩ = some (.slice A0_1 l0_1.length c0_1) := (blk_cell BK236.out 1).trans rfl; have hcz201_2 : w200.cell? ⟨gb236, 2, none⟩ = some (.int .i64 a0_2) := (blk_cell BK236.out 2).trans rfl; have hcz201_3 : w200.cell? ⟨gb236, 3, none⟩ = some (.int .i64 a0_3) := (blk_cell BK236.out 3).trans rfl; have hcz201_4 : w200.cell? ⟨gb236, 4, none⟩ = some (.slice A0_4 l0_4.length c0_4) := (blk_cell BK236.out 4).trans rfl; have hcz201_5 : w200.cell? ⟨gb236, 5, none⟩ = some (.int .i64 a0_5) := (blk_cell BK236.out 5).trans rfl; have hfz201_0 := blk_frozen BK236.out 0; have hfz201_1 := blk_frozen BK236.out 1; have hfz201_2 := blk_frozen BK236.out 2; have hfz201_3 := blk_frozen BK236.out 3; have hfz201_4 := blk_frozen BK236.out 4; have hfz201_5 := blk_frozen BK236.out 5; have hcz202_0 : w200.cell? ⟨gb237, 0, none⟩ = some (.int .i64 a1_0) := (blk_cell BK237.out 0).trans rfl; have hcz202_1 : w200.cell? ⟨gb237, 1, none⟩ = some (.int .i64 a1_1) := (blk_cell BK237.out 1).trans rfl; have hcz202_2 : w200.cell? ⟨gb237, 2, none⟩ = some (.int .i64 a1_2) := (blk_cell BK237.out 2).trans rfl; have hfz202_0 := blk_frozen BK237.out 0; have hfz202_1 := blk_frozen BK237.out 1; have hfz202_2 := blk_frozen BK237.out 2) | (go_at_call 11; (with_reducible refine (flow_Apply.calls k a0_0 _ _ l0_1 a0_2 a0_3 _ _ l0_4 a0_5 a1_0 a1_1 a1_2 t240 t243 _ ?side1 ?side2 ?side3 ?side4 A12.out).mono ?_); (case side1 => repeat (first | exact (Kd.C_below HR0_1.out HB.out) | (with_reducible refine Kd.C_alloc ?_ _) | (with_reducible refine Kd.C_drewN ?_ _) | (with_reducible refine Kd.C_drew ?_))); (case side2 => exact HC0_1.out); (case side3 => repeat (first | exact (Kd.C_below HR0_4.out HB.out) | (with_reducible refine Kd.C_alloc ?_ _) | (with_reducible refine Kd.C_drewN ?_ _) | (with_reducible refine Kd.C_drew ?_))); (case side4 => exact HC0_4.out); rintro e w203 ⟨v241, rfl, ho0, hb⟩; have n0_ := Aside0.mk (Kd.R_lower (Kd.R_newB ho0 (g := gb237) (o := .cells #[.int .i64 a1_0, .int .i64 a1_1, .int .i64 a1_2] 29 (0, 0)) (by (with_reducible repeat (first | refine blk_drewN ?_ _ | refine blk_drew ?_ | refine blk_alloc ?_ _)); exact BK237.out)) (below_size (by repeat (first | (with_reducible first | exact HB.out | apply below_alloc | apply pw_below_drewN | apply below_drew1 | refine below_set ?_ GE236.out | refine below_set ?_ GE237.out) | exact HB.out)))); have n1_ := Aside0.mk (blk_below (g := gb236) (o := .cells #[.int .i64 a0_0, .slice A0_1 l0_1.length c0_1, .int .i64 a0_2, .int .i64 a0_3, .slice A0_4 l0_4.length c0_4, .int .i64 a0_5] 27 (0, 0)) (by (with_reducible repeat (first | refine blk_drewN ?_ _ | refine blk_drew ?_ | refine blk_alloc ?_ _)); exact BK236.out) hb); have n2_ := Aside0.mk (blk_below (g := gb237) (o := .cells #[.int .i64 a1_0, .int .i64 a1_1, .int .i64 a1_2] 29 (0, 0)) (by (with_reducible repeat (first | refine blk_drewN ?_ _ | refine blk_drew ?_ | refine blk_alloc ?_ _)); exact BK237.out) hb); have n3_ := Aside0.mk (below_step (by repeat (first | (with_reducible first | exact HB.out | apply below_alloc | apply pw_below_drewN | apply below_drew1 | refine below_set ?_ GE236.out | refine below_set ?_ GE237.out) | exact HB.out)) hb); clear BK236; clear BK237; clear HB; have HO242 := n0_; have BK236 := n1_; have BK237 := n2_; have HB := n3_; clear n0_ n1_ n2_ n3_; (try clear hb); (try clear hb2); (try clear hk); (try clear hi); (try clear ho0); obtain ⟨Ao204, co204, eo204⟩ := Kd.R_slice HO242.out; subst eo204))
        repeat (go_quiet (first | ((with_reducible refine gate_dst (N := 2) rfl ?_); (try (refine gate_guard (by rfl) ?_; dsimp only)); refine box_event ?hg (N := 2) ?hd (cs := #[.int .i64 a0_0, .slice A0_1 l0_1.length c0_1, .int .i64 a0_2, .int .i64 a0_3, .slice A0_4 l0_4.length c0_4, .int .i64 a0_5]) (t := 27) ?hr ?_; (case hd => rfl); (case hg => rfl); (case hr => first | (go_simp; done) | (go_simp; rfl)); intro gb236 hg w195 hbox hb; have n0_ := Aside0.mk (below_step (by repeat (first | (with_reducible first | exact HB.out | apply below_alloc | apply pw_below_drewN | apply below_drew1) | exact HB.out)) hb); have n1_ := Aside0.mk (hbox); have n2_ := Aside0.mk ((by rw [hg]; exact (below_size (by repeat (first | (with_reducible first | exact HB.out | apply below_alloc | apply pw_below_drewN | apply below_drew1) | exact HB.out))) : w.heap.size ≤ gb236)); have n3_ := Aside0.mk ((by rw [hg]; exact (below_size (by repeat (first | (with_reducible first | exact HB.out | apply below_alloc | apply pw_below_drewN | apply below_drew1) | exact HB.out))) : w.heap.size ≤ gb236)); clear HB; have HB := n0_; have BK236 := n1_; have GW236 := n2_; have GE236 := n3_; clear n0_ n1_ n2_ n3_; clear hb hbox hg) | ((with_reducible refine gate_dst (N := 3) rfl ?_); (try (refine gate_guard (by rfl) ?_; dsimp only)); refine box_event ?hg (N := 3) ?hd (cs := #[.int .i64 a1_0, .int .i64 a1_1, .int .i64 a1_2]) (t := 29) ?hr ?_; (case hd => rfl); (case hg => rfl); (case hr => first | (go_simp; done) | (go_simp; rfl)); intro gb237 hg w196 hbox hb; have n0_ := Aside0.mk (blk_below (g := gb236) (o := .cells #[.int .i64 a0_0, .slice A0_1 l0_1.length c0_1, .int .i64 a0_2, .int .i64 a0_3, .slice A0_4 l0_4.length c0_4, .int .i64 a0_5] 27 (0, 0)) (by (with_reducible repeat (first | refine blk_drewN ?_ _ | refine blk_drew ?_ | refine blk_alloc ?_ _)); exact BK236.out) hb); have n1_ := Aside0.mk (below_step (by repeat (first | (with_reducible first | exact HB.out | apply below_alloc | apply pw_below_drewN | apply below_drew1 | refine below_set ?_ GE236.out) | exact HB.out)) hb); have n2_ := Aside0.mk (hbox); have n3_ := Aside0.mk ((by rw [hg]; exact (below_size (by repeat (first | (with_reducible first | exact HB.out | apply below_alloc | apply pw_below_drewN | apply below_drew1 | refine below_set ?_ GE236.out) | exact HB.out))) : w.heap.size ≤ gb237)); have n4_ := Aside0.mk ((by rw [hg]; exact (below_size (by repeat (first | (with_reducible first | exact HB.out | apply below_alloc | apply pw_below_drewN | apply below_drew1 | refine below_set ?_ GE236.out) | exact HB.out))) : w.heap.size ≤ gb237)); have n5_ := Aside0.mk ((by rw [hg]; exact Nat.ne_of_lt (blk_lt (g := gb236) (o := .cells #[.int .i64 a0_0, .slice A0_1 l0_1.length c0_1, .int .i64 a0_2, .int .i64 a0_3, .slice A0_4 l0_4.length c0_4, .int .i64 a0_5] 27 (0, 0)) (by (with_reducible repeat (first | refine blk_drewN ?_ _ | refine blk_drew ?_ | refine blk_alloc ?_ _)); exact BK236.out)) : gb236 ≠ gb237)); have n6_ := Aside0.mk ((by rw [hg]; exact Nat.ne_of_gt (blk_lt (g := gb236) (o := .cells #[.int .i64 a0_0, .slice A0_1 l0_1.length c0_1, .int .i64 a0_2, .int .i64 a0_3, .slice A0_4 l0_4.length c0_4, .int .i64 a0_5] 27 (0, 0)) (by (with_reducible repeat (first | refine blk_drewN ?_ _ | refine blk_drew ?_ | refine blk_alloc ?_ _)); exact BK236.out)) : gb237 ≠ gb236)); clear BK236; clear HB; have BK236 := n0_; have HB := n1_; have BK237 := n2_; have GW237 := n3_; have GE237 := n4_; have NB236_237 := n5_; have NB237_236 := n6_; clear n0_ n1_ n2_ n3_ n4_ n5_ n6_; clear hb hbox hg) | (go_at_call 9; (with_reducible refine (tidemilllaw17_shown.calls k  true _ A3.out).mono ?_); rintro e w197 ⟨rfl, hb⟩; have n0_ := Aside0.mk (blk_below (g := gb236) (o := .cells #[.int .i64 a0_0, .slice A0_1 l0_1.length c0_1, .int .i64 a0_2, .int .i64 a0_3, .slice A0_4 l0_4.length c0_4, .int .i64 a0_5] 27 (0, 0)) (by (with_reducible repeat (first | refine blk_drewN ?_ _ | refine blk_drew ?_ | refine blk_alloc ?_ _)); exact BK236.out) hb); have n1_ := Aside0.mk (blk_below (g := gb237) (o := .cells #[.int .i64 a1_0, .int .i64 a1_1, .int .i64 a1_2] 29 (0, 0)) (by (with_reducible repeat (first | refine blk_drewN ?_ _ | refine blk_drew ?_ | refine blk_alloc ?_ _)); exact BK237.out) hb); have n2_ := Aside0.mk (below_step (by repeat (first | (with_reducible first | exact HB.out | apply below_alloc | apply pw_below_drewN | apply below_drew1 | refine below_set ?_ GE236.out | refine below_set ?_ GE237.out) | exact HB.out)) hb); clear BK236; clear BK237; clear HB; have BK236 := n0_; have BK237 := n1_; have HB := n2_; clear n0_ n1_ n2_; (try clear hb); (try clear hb2); (try clear hk); (try clear hi); have hnb198 := NB236_237.out; have hnc198 := NB237_236.out; have hcz199_0 : w197.cell? ⟨gb236, 0, none⟩ = some (.int .i64 a0_0) := (blk_cell BK236.out 0).trans rfl; have hcz199_1 : w197.cell? ⟨gb236, 1, none⟩ = some (.slice A0_1 l0_1.length c0_1) := (blk_cell BK236.out 1).trans rfl; have hcz199_2 : w197.cell? ⟨gb236, 2, none⟩ = some (.int .i64 a0_2) := (blk_cell BK236.out 2).trans rfl; have hcz199_3 : w197.cell? ⟨gb236, 3, none⟩ = some (.int .i64 a0_3) := (blk_cell BK236.out 3).trans rfl; have hcz199_4 : w197.cell? ⟨gb236, 4, none⟩ = some (.slice A0_4 l0_4.length c0_4) := (blk_cell BK236.out 4).trans rfl; have hcz199_5 : w197.cell? ⟨gb236, 5, none⟩ = some (.int .i64 a0_5) := (blk_cell BK236.out 5).trans rfl; have hfz199_0 := blk_frozen BK236.out 0; have hfz199_1 := blk_frozen BK236.out 1; have hfz199_2 := blk_frozen BK236.out 2; have hfz199_3 := blk_frozen BK236.out 3; have hfz199_4 := blk_frozen BK236.out 4; have hfz199_5 := blk_frozen BK236.out 5) | (go_at_call 10; (with_reducible refine (tidemillref04_Count.calls k a0_2 a0_3 _ _ l0_4 t239 _ ?side1 ?side2 A4.out).mono ?_); (case side1 => repeat (first | exact (Kd.C_below HR0_4.out HB.out) | (with_reducible refine Kd.C_alloc ?_ _) | (with_reducible refine Kd.C_drewN ?_ _) | (with_reducible refine Kd.C_drew ?_))); (case side2 => exact HC0_4.out); rintro e w200 ⟨rfl, hb⟩; have n0_ := Aside0.mk (blk_below (g := gb236) (o := .cells #[.int .i64 a0_0, .slice A0_1 l0_1.length c0_1, .int .i64 a0_2, .int .i64 a0_3, .slice A0_4 l0_4.length c0_4, .int .i64 a0_5] 27 (0, 0)) (by (with_reducible repeat (first | refine blk_drewN ?_ _ | refine blk_drew ?_ | refine blk_alloc ?_ _)); exact BK236.out) hb); have n1_ := Aside0.mk (blk_below (g := gb237) (o := .cells #[.int .i64 a1_0, .int .i64 a1_1, .int .i64 a1_2] 29 (0, 0)) (by (with_reducible repeat (first | refine blk_drewN ?_ _ | refine blk_drew ?_ | refine blk_alloc ?_ _)); exact BK237.out) hb); have n2_ := Aside0.mk (below_step (by repeat (first | (with_reducible first | exact HB.out | apply below_alloc | apply pw_below_drewN | apply below_drew1 | refine below_set ?_ GE236.out | refine below_set ?_ GE237.out) | exact HB.out)) hb); clear BK236; clear BK237; clear HB; have BK236 := n0_; have BK237 := n1_; have HB := n2_; clear n0_ n1_ n2_; (try clear hb); (try clear hb2); (try clear hk); (try clear hi); have hcz201_0 : w200.cell? ⟨gb236, 0, none⟩ = some (.int .i64 a0_0) := (blk_cell BK236.out 0).trans rfl; have hcz201_1 : w200.cell? ⟨gb236, 1, none⟩ = some (.slice A0_1 l0_1.length c0_1) := (blk_cell BK236.out 1).trans rfl; have hcz201_2 : w200.cell? ⟨gb236, 2, none⟩ = some (.int .i64 a0_2) := (blk_cell BK236.out 2).trans rfl; have hcz201_3 : w200.cell? ⟨gb236, 3, none⟩ = some (.int .i64 a0_3) := (blk_cell BK236.out 3).trans rfl; have hcz201_4 : w200.cell? ⟨gb236, 4, none⟩ = some (.slice A0_4 l0_4.length c0_4) := (blk_cell BK236.out 4).trans rfl; have hcz201_5 : w200.cell? ⟨gb236, 5, none⟩ = some (.int .i64 a0_5) := (blk_cell BK236.out 5).trans rfl; have hfz201_0 := blk_frozen BK236.out 0; have hfz201_1 := blk_frozen BK236.out 1; have hfz201_2 := blk_frozen BK236.out 2; have hfz201_3 := blk_frozen BK236.out 3; have hfz201_4 := blk_frozen BK236.out 4; have hfz201_5 := blk_frozen BK236.out 5; have hcz202_0 : w200.cell? ⟨gb237, 0, none⟩ = some (.int .i64 a1_0) := (blk_cell BK237.out 0).trans rfl; have hcz202_1 : w200.cell? ⟨gb237, 1, none⟩ = some (.int .i64 a1_1) := (blk_cell BK237.out 1).trans rfl; have hcz202_2 : w200.cell? ⟨gb237, 2, none⟩ = some (.int .i64 a1_2) := (blk_cell BK237.out 2).trans rfl; have hfz202_0 := blk_frozen BK237.out 0; have hfz202_1 := blk_frozen BK237.out 1; have hfz202_2 := blk_frozen BK237.out 2) | (go_at_call 11; (with_reducible refine (flow_Apply.calls k a0_0 _ _ l0_1 a0_2 a0_3 _ _ l0_4 a0_5 a1_0 a1_1 a1_2 t240 t243 _ ?side1 ?side2 ?side3 ?side4 A12.out).mono ?_); (case side1 => repeat (first | exact (Kd.C_below HR0_1.out HB.out) | (with_reducible refine Kd.C_alloc ?_ _) | (with_reducible refine Kd.C_drewN ?_ _) | (with_reducible refine Kd.C_drew ?_))); (case side2 => exact HC0_1.out); (case side3 => repeat (first | exact (Kd.C_below HR0_4.out HB.out) | (with_reducible refine Kd.C_alloc ?_ _) | (with_reducible refine Kd.C_drewN ?_ _) | (with_reducible refine Kd.C_drew ?_))); (case side4 => exact HC0_4.out); rintro e w203 ⟨v241, rfl, ho0, hb⟩; have n0_ := Aside0.mk (Kd.R_lower (Kd.R_newB ho0 (g := gb237) (o := .cells #[.int .i64 a1_0, .int .i64 a1_1, .int .i64 a1_2] 29 (0, 0)) (by (with_reducible repeat (first | refine blk_drewN ?_ _ | refine blk_drew ?_ | refine blk_alloc ?_ _)); exact BK237.out)) (below_size (by repeat (first | (with_reducible first | exact HB.out | apply below_alloc | apply pw_below_drewN | apply below_drew1 | refine below_set ?_ GE236.out | refine below_set ?_ GE237.out) | exact HB.out)))); have n1_ := Aside0.mk (blk_below (g := gb236) (o := .cells #[.int .i64 a0_0, .slice A0_1 l0_1.length c0_1, .int .i64 a0_2, .int .i64 a0_3, .slice A0_4 l0_4.length c0_4, .int .i64 a0_5] 27 (0, 0)) (by (with_reducible repeat (first | refine blk_drewN ?_ _ | refine blk_drew ?_ | refine blk_alloc ?_ _)); exact BK236.out) hb); have n2_ := Aside0.mk (blk_below (g := gb237) (o := .cells #[.int .i64 a1_0, .int .i64 a1_1, .int .i64 a1_2] 29 (0, 0)) (by (with_reducible repeat (first | refine blk_drewN ?_ _ | refine blk_drew ?_ | refine blk_alloc ?_ _)); exact BK237.out) hb); have n3_ := Aside0.mk (below_step (by repeat (first | (with_reducible first | exact HB.out | apply below_alloc | apply pw_below_drewN | apply below_drew1 | refine below_set ?_ GE236.out | refine below_set ?_ GE237.out) | exact HB.out)) hb); clear BK236; clear BK237; clear HB; have HO242 := n0_; have BK236 := n1_; have BK237 := n2_; have HB := n3_; clear n0_ n1_ n2_ n3_; (try clear hb); (try clear hb2); (try clear hk); (try clear hi); (try clear ho0); obtain ⟨Ao204, co204, eo204⟩ := Kd.R_slice HO242.out; subst eo204)); try go_wp2_with (first | ((with_reducible refine gate_dst (N := 2) rfl ?_); (try (refine gate_guard (by rfl) ?_; dsimp only)); refine box_event ?hg (N := 2) ?hd (cs := #[.int .i64 a0_0, .slice A0_1 l0_1.length c0_1, .int .i64 a0_2, .int .i64 a0_3, .slice A0_4 l0_4.length c0_4, .int .i64 a0_5]) (t := 27) ?hr ?_; (case hd => rfl); (case hg => rfl); (case hr => first | (go_simp; done) | (go_simp; rfl)); intro gb236 hg w195 hbox hb; have n0_ := Aside0.mk (below_step (by repeat (first | (with_reducible first | exact HB.out | apply below_alloc | apply pw_below_drewN | apply below_drew1) | exact HB.out)) hb); have n1_ := Aside0.mk (hbox); have n2_ := Aside0.mk ((by rw [hg]; exact (below_size (by repeat (first | (with_reducible first | exact HB.out | apply below_alloc | apply pw_below_drewN | apply below_drew1) | exact HB.out))) : w.heap.size ≤ gb236)); have n3_ := Aside0.mk ((by rw [hg]; exact (below_size (by repeat (first | (with_reducible first | exact HB.out | apply below_alloc | apply pw_below_drewN | apply below_drew1) | exact HB.out))) : w.heap.size ≤ gb236)); clear HB; have HB := n0_; have BK236 := n1_; have GW236 := n2_; have GE236 := n3_; clear n0_ n1_ n2_ n3_; clear hb hbox hg) | ((with_reducible refine gate_dst (N := 3) rfl ?_); (try (refine gate_guard (by rfl) ?_; dsimp only)); refine box_event ?hg (N := 3) ?hd (cs := #[.int .i64 a1_0, .int .i64 a1_1, .int .i64 a1_2]) (t := 29) ?hr ?_; (case hd => rfl); (case hg => rfl); (case hr => first | (go_simp; done) | (go_simp; rfl)); intro gb237 hg w196 hbox hb; have n0_ := Aside0.mk (blk_below (g := gb236) (o := .cells #[.int .i64 a0_0, .slice A0_1 l0_1.length c0_1, .int .i64 a0_2, .int .i64 a0_3, .slice A0_4 l0_4.length c0_4, .int .i64 a0_5] 27 (0, 0)) (by (with_reducible repeat (first | refine blk_drewN ?_ _ | refine blk_drew ?_ | refine blk_alloc ?_ _)); exact BK236.out) hb); have n1_ := Aside0.mk (below_step (by repeat (first | (with_reducible first | exact HB.out | apply below_alloc | apply pw_below_drewN | apply below_drew1 | refine below_set ?_ GE236.out) | exact HB.out)) hb); have n2_ := Aside0.mk (hbox); have n3_ := Aside0.mk ((by rw [hg]; exact (below_size (by repeat (first | (with_reducible first | exact HB.out | apply below_alloc | apply pw_below_drewN | apply below_drew1 | refine below_set ?_ GE236.out) | exact HB.out))) : w.heap.size ≤ gb237)); have n4_ := Aside0.mk ((by rw [hg]; exact (below_size (by repeat (first | (with_reducible first | exact HB.out | apply below_alloc | apply pw_below_drewN | apply below_drew1 | refine below_set ?_ GE236.out) | exact HB.out))) : w.heap.size ≤ gb237)); have n5_ := Aside0.mk ((by rw [hg]; exact Nat.ne_of_lt (blk_lt (g := gb236) (o := .cells #[.int .i64 a0_0, .slice A0_1 l0_1.length c0_1, .int .i64 a0_2, .int .i64 a0_3, .slice A0_4 l0_4.length c0_4, .int .i64 a0_5] 27 (0, 0)) (by (with_reducible repeat (first | refine blk_drewN ?_ _ | refine blk_drew ?_ | refine blk_alloc ?_ _)); exact BK236.out)) : gb236 ≠ gb237)); have n6_ := Aside0.mk ((by rw [hg]; exact Nat.ne_of_gt (blk_lt (g := gb236) (o := .cells #[.int .i64 a0_0, .slice A0_1 l0_1.length c0_1, .int .i64 a0_2, .int .i64 a0_3, .slice A0_4 l0_4.length c0_4, .int .i64 a0_5] 27 (0, 0)) (by (with_reducible repeat (first | refine blk_drewN ?_ _ | refine blk_drew ?_ | refine blk_alloc ?_ _)); exact BK236.out)) : gb237 ≠ gb236)); clear BK236; clear HB; have BK236 := n0_; have HB := n1_; have BK237 := n2_; have GW237 := n3_; have GE237 := n4_; have NB236_237 := n5_; have NB237_236 := n6_; clear n0_ n1_ n2_ n3_ n4_ n5_ n6_; clear hb hbox hg) | (go_at_call 9; (with_reducible refine (tidemilllaw17_shown.calls k  true _ A3.out).mono ?_); rintro e w197 ⟨rfl, hb⟩; have n0_ := Aside0.mk (blk_below (g := gb236) (o := .cells #[.int .i64 a0_0, .slice A0_1 l0_1.length c0_1, .int .i64 a0_2, .int .i64 a0_3, .slice A0_4 l0_4.length c0_4, .int .i64 a0_5] 27 (0, 0)) (by (with_reducible repeat (first | refine blk_drewN ?_ _ | refine blk_drew ?_ | refine blk_alloc ?_ _)); exact BK236.out) hb); have n1_ := Aside0.mk (blk_below (g := gb237) (o := .cells #[.int .i64 a1_0, .int .i64 a1_1, .int .i64 a1_2] 29 (0, 0)) (by (with_reducible repeat (first | refine blk_drewN ?_ _ | refine blk_drew ?_ | refine blk_alloc ?_ _)); exact BK237.out) hb); have n2_ := Aside0.mk (below_step (by repeat (first | (with_reducible first | exact HB.out | apply below_alloc | apply pw_below_drewN | apply below_drew1 | refine below_set ?_ GE236.out | refine below_set ?_ GE237.out) | exact HB.out)) hb); clear BK236; clear BK237; clear HB; have BK236 := n0_; have BK237 := n1_; have HB := n2_; clear n0_ n1_ n2_; (try clear hb); (try clear hb2); (try clear hk); (try clear hi); have hnb198 := NB236_237.out; have hnc198 := NB237_236.out; have hcz199_0 : w197.cell? ⟨gb236, 0, none⟩ = some (.int .i64 a0_0) := (blk_cell BK236.out 0).trans rfl; have hcz199_1 : w197.cell? ⟨gb236, 1, none⟩ = some (.slice A0_1 l0_1.length c0_1) := (blk_cell BK236.out 1).trans rfl; have hcz199_2 : w197.cell? ⟨gb236, 2, none⟩ = some (.int .i64 a0_2) := (blk_cell BK236.out 2).trans rfl; have hcz199_3 : w197.cell? ⟨gb236, 3, none⟩ = some (.int .i64 a0_3) := (blk_cell BK236.out 3).trans rfl; have hcz199_4 : w197.cell? ⟨gb236, 4, none⟩ = some (.slice A0_4 l0_4.length c0_4) := (blk_cell BK236.out 4).trans rfl; have hcz199_5 : w197.cell? ⟨gb236, 5, none⟩ = some (.int .i64 a0_5) := (blk_cell BK236.out 5).trans rfl; have hfz199_0 := blk_frozen BK236.out 0; have hfz199_1 := blk_frozen BK236.out 1; have hfz199_2 := blk_frozen BK236.out 2; have hfz199_3 := blk_frozen BK236.out 3; have hfz199_4 := blk_frozen BK236.out 4; have hfz199_5 := blk_frozen BK236.out 5) | (go_at_call 10; (with_reducible refine (tidemillref04_Count.calls k a0_2 a0_3 _ _ l0_4 t239 _ ?side1 ?side2 A4.out).mono ?_); (case side1 => repeat (first | exact (Kd.C_below HR0_4.out HB.out) | (with_reducible refine Kd.C_alloc ?_ _) | (with_reducible refine Kd.C_drewN ?_ _) | (with_reducible refine Kd.C_drew ?_))); (case side2 => exact HC0_4.out); rintro e w200 ⟨rfl, hb⟩; have n0_ := Aside0.mk (blk_below (g := gb236) (o := .cells #[.int .i64 a0_0, .slice A0_1 l0_1.length c0_1, .int .i64 a0_2, .int .i64 a0_3, .slice A0_4 l0_4.length c0_4, .int .i64 a0_5] 27 (0, 0)) (by (with_reducible repeat (first | refine blk_drewN ?_ _ | refine blk_drew ?_ | refine blk_alloc ?_ _)); exact BK236.out) hb); have n1_ := Aside0.mk (blk_below (g := gb237) (o := .cells #[.int .i64 a1_0, .int .i64 a1_1, .int .i64 a1_2] 29 (0, 0)) (by (with_reducible repeat (first | refine blk_drewN ?_ _ | refine blk_drew ?_ | refine blk_alloc ?_ _)); exact BK237.out) hb); have n2_ := Aside0.mk (below_step (by repeat (first | (with_reducible first | exact HB.out | apply below_alloc | apply pw_below_drewN | apply below_drew1 | refine below_set ?_ GE236.out | refine below_set ?_ GE237.out) | exact HB.out)) hb); clear BK236; clear BK237; clear HB; have BK236 := n0_; have BK237 := n1_; have HB := n2_; clear n0_ n1_ n2_; (try clear hb); (try clear hb2); (try clear hk); (try clear hi); have hcz201_0 : w200.cell? ⟨gb236, 0, none⟩ = some (.int .i64 a0_0) := (blk_cell BK236.out 0).trans rfl; have hcz201_1 : w200.cell? ⟨gb236, 1, none⟩ = some (.slice A0_1 l0_1.length c0_1) := (blk_cell BK236.out 1).trans rfl; have hcz201_2 : w200.cell? ⟨gb236, 2, none⟩ = some (.int .i64 a0_2) := (blk_cell BK236.out 2).trans rfl; have hcz201_3 : w200.cell? ⟨gb236, 3, none⟩ = some (.int .i64 a0_3) := (blk_cell BK236.out 3).trans rfl; have hcz201_4 : w200.cell? ⟨gb236, 4, none⟩ = some (.slice A0_4 l0_4.length c0_4) := (blk_cell BK236.out 4).trans rfl; have hcz201_5 : w200.cell? ⟨gb236, 5, none⟩ = some (.int .i64 a0_5) := (blk_cell BK236.out 5).trans rfl; have hfz201_0 := blk_frozen BK236.out 0; have hfz201_1 := blk_frozen BK236.out 1; have hfz201_2 := blk_frozen BK236.out 2; have hfz201_3 := blk_frozen BK236.out 3; have hfz201_4 := blk_frozen BK236.out 4; have hfz201_5 := blk_frozen BK236.out 5; have hcz202_0 : w200.cell? ⟨gb237, 0, none⟩ = some (.int .i64 a1_0) := (blk_cell BK237.out 0).trans rfl; have hcz202_1 : w200.cell? ⟨gb237, 1, none⟩ = some (.int .i64 a1_1) := (blk_cell BK237.out 1).trans rfl; have hcz202_2 : w200.cell? ⟨gb237, 2, none⟩ = some (.int .i64 a1_2) := (blk_cell BK237.out 2).trans rfl; have hfz202_0 := blk_frozen BK237.out 0; have hfz202_1 := blk_frozen BK237.out 1; have hfz202_2 := blk_frozen BK237.out 2) | (go_at_call 11; (with_reducible refine (flow_Apply.calls k a0_0 _ _ l0_1 a0_2 a0_3 _ _ l0_4 a0_5 a1_0 a1_1 a1_2 t240 t243 _ ?side1 ?side2 ?side3 ?side4 A12.out).mono ?_); (case side1 => repeat (first | exact (Kd.C_below HR0_1.out HB.out) | (with_reducible refine Kd.C_alloc ?_ _) | (with_reducible refine Kd.C_drewN ?_ _) | (with_reducible refine Kd.C_drew ?_))); (case side2 => exact HC0_1.out); (case side3 => repeat (first | exact (Kd.C_below HR0_4.out HB.out) | (with_reducible refine Kd.C_alloc ?_ _) | (with_reducible refine Kd.C_drewN ?_ _) | (with_reducible refine Kd.C_drew ?_))); (case side4 => exact HC0_4.out); rintro e w203 ⟨v241, rfl, ho0, hb⟩; have n0_ := Aside0.mk (Kd.R_lower (Kd.R_newB ho0 (g := gb237) (o := .cells #[.int .i64 a1_0, .int .i64 a1_1, .int .i64 a1_2] 29 (0, 0)) (by (with_reducible repeat (first | refine blk_drewN ?_ _ | refine blk_drew ?_ | refine blk_alloc ?_ _)); exact BK237.out)) (below_size (by repeat (first | (with_reducible first | exact HB.out | apply below_alloc | apply pw_below_drewN | apply below_drew1 | refine below_set ?_ GE236.out | refine below_set ?_ GE237.out) | exact HB.out)))); have n1_ := Aside0.mk (blk_below (g := gb236) (o := .cells #[.int .i64 a0_0, .slice A0_1 l0_1.length c0_1, .int .i64 a0_2, .int .i64 a0_3, .slice A0_4 l0_4.length c0_4, .int .i64 a0_5] 27 (0, 0)) (by (with_reducible repeat (first | refine blk_drewN ?_ _ | refine blk_drew ?_ | refine blk_alloc ?_ _)); exact BK236.out) hb); have n2_ := Aside0.mk (blk_below (g := gb237) (o := .cells #[.int .i64 a1_0, .int .i64 a1_1, .int .i64 a1_2] 29 (0, 0)) (by (with_reducible repeat (first | refine blk_drewN ?_ _ | refine blk_drew ?_ | refine blk_alloc ?_ _)); exact BK237.out) hb); have n3_ := Aside0.mk (below_step (by repeat (first | (with_reducible first | exact HB.out | apply below_alloc | apply pw_below_drewN | apply below_drew1 | refine below_set ?_ GE236.out | refine below_set ?_ GE237.out) | exact HB.out)) hb); clear BK236; clear BK237; clear HB; have HO242 := n0_; have BK236 := n1_; have BK237 := n2_; have HB := n3_; clear n0_ n1_ n2_ n3_; (try clear hb); (try clear hb2); (try clear hk); (try clear hi); (try clear ho0); obtain ⟨Ao204, co204, eo204⟩ := Kd.R_slice HO242.out; subst eo204)))
        go_ret
        exact ⟨by first | rfl | (simp [errW_none, errW_some] <;> rfl) | (simp [*, errW_none, errW_some] <;> rfl), by repeat (first | (with_reducible first | exact HB.out | apply below_alloc | apply pw_below_drewN | apply below_drew1 | refine below_set ?_ GE236.out | refine below_set ?_ GE237.out) | exact HB.out)⟩
      · replace c194 := Bool.eq_false_iff.mpr c194
        subst c194
        have H1 : (some false) = some r := by rw [if_neg (show ¬ (false = true) by decide)] at H; exact H
        clear H
        have H := H1
        clear H1
        obtain rfl := Option.some.inj H
        go_enter Try.func4, Try.ntmps4
        go_wp2_with (first | ((with_reducible refine gate_dst (N := 2) rfl ?_); (try (refine gate_guard (by rfl) ?_; dsimp only)); refine box_event ?hg (N := 2) ?hd (cs := #[.int .i64 a0_0, .slice A0_1 l0_1.length c0_1, .int .i64 a0_2, .int .i64 a0_3, .slice A0_4 l0_4.length c0_4, .int .i64 a0_5]) (t := 27) ?hr ?_; (case hd => rfl); (case hg => rfl); (case hr => first | (go_simp; done) | (go_simp; rfl)); intro gb236 hg w205 hbox hb; have n0_ := Aside0.mk (below_step (by repeat (first | (with_reducible first | exact HB.out | apply below_alloc | apply pw_below_drewN | apply below_drew1) | exact HB.out)) hb); have n1_ := Aside0.mk (hbox); have n2_ := Aside0.mk ((by rw [hg]; exact (below_size (by repeat (first | (with_reducible first | exact HB.out | apply below_alloc | apply pw_below_drewN | apply below_drew1) | exact HB.out))) : w.heap.size ≤ gb236)); have n3_ := Aside0.mk ((by rw [hg]; exact (below_size (by repeat (first | (with_reducible first | exact HB.out | apply below_alloc | apply pw_below_drewN | apply below_drew1) | exact HB.out))) : w.heap.size ≤ gb236)); clear HB; have HB := n0_; have BK236 := n1_; have GW236 := n2_; have GE236 := n3_; clear n0_ n1_ n2_ n3_; clear hb hbox hg) | ((with_reducible refine gate_dst (N := 3) rfl ?_); (try (refine gate_guard (by rfl) ?_; dsimp only)); refine box_event ?hg (N := 3) ?hd (cs := #[.int .i64 a1_0, .int .i64 a1_1, .int .i64 a1_2]) (t := 29) ?hr ?_; (case hd => rfl); (case hg => rfl); (case hr => first | (go_simp; done) | (go_simp; rfl)); intro gb237 hg w206 hbox hb; have n0_ := Aside0.mk (blk_below (g := gb236) (o := .cells #[.int .i64 a0_0, .slice A0_1 l0_1.length c0_1, .int .i64 a0_2, .int .i64 a0_3, .slice A0_4 l0_4.length c0_4, .int .i64 a0_5] 27 (0, 0)) (by (with_reducible repeat (first | refine blk_drewN ?_ _ | refine blk_drew ?_ | refine blk_alloc ?_ _)); exact BK236.out) hb); have n1_ := Aside0.mk (below_step (by repeat (first | (with_reducible first | exact HB.out | apply below_alloc | apply pw_below_drewN | apply below_drew1 | refine below_set ?_ GE236.out) | exact HB.out)) hb); have n2_ := Aside0.mk (hbox); have n3_ := Aside0.mk ((by rw [hg]; exact (below_size (by repeat (first | (with_reducible first | exact HB.out | apply below_alloc | apply pw_below_drewN | apply below_drew1 | refine below_set ?_ GE236.out) | exact HB.out))) : w.heap.size ≤ gb237)); have n4_ := Aside0.mk ((by rw [hg]; exact (below_size (by repeat (first | (with_reducible first | exact HB.out | apply below_alloc | apply pw_below_drewN | apply below_drew1 | refine below_set ?_ GE236.out) | exact HB.out))) : w.heap.size ≤ gb237)); have n5_ := Aside0.mk ((by rw [hg]; exact Nat.ne_of_lt (blk_lt (g := gb236) (o := .cells #[.int .i64 a0_0, .slice A0_1 l0_1.length c0_1, .int .i64 a0_2, .int .i64 a0_3, .slice A0_4 l0_4.length c0_4, .int .i64 a0_5] 27 (0, 0)) (by (with_reducible repeat (first | refine blk_drewN ?_ _ | refine blk_drew ?_ | refine blk_alloc ?_ _)); exact BK236.out)) : gb236 ≠ gb237)); have n6_ := Aside0.mk ((by rw [hg]; exact Nat.ne_of_gt (blk_lt (g := gb236) (o := .cells #[.int .i64 a0_0, .slice A0_1 l0_1.length c0_1, .int .i64 a0_2, .int .i64 a0_3, .slice A0_4 l0_4.length c0_4, .int .i64 a0_5] 27 (0, 0)) (by (with_reducible repeat (first | refine blk_drewN ?_ _ | refine blk_drew ?_ | refine blk_alloc ?_ _)); exact BK236.out)) : gb237 ≠ gb236)); clear BK236; clear HB; have BK236 := n0_; have HB := n1_; have BK237 := n2_; have GW237 := n3_; have GE237 := n4_; have NB236_237 := n5_; have NB237_236 := n6_; clear n0_ n1_ n2_ n3_ n4_ n5_ n6_; clear hb hbox hg) | (go_at_call 9; (with_reducible refine (tidemilllaw17_shown.calls k  false _ A3.out).mono ?_); rintro e w207 ⟨rfl, hb⟩; have n0_ := Aside0.mk (blk_below (g := gb236) (o := .cells #[.int .i64 a0_0, .slice A0_1 l0_1.length c0_1, .int .i64 a0_2, .int .i64 a0_3, .slice A0_4 l0_4.length c0_4, .int .i64 a0_5] 27 (0, 0)) (by (with_reducible repeat (first | refine blk_drewN ?_ _ | refine blk_drew ?_ | refine blk_alloc ?_ _)); exact BK236.out) hb); have n1_ := Aside0.mk (blk_below (g := gb237) (o := .cells #[.int .i64 a1_0, .int .i64 a1_1, .int .i64 a1_2] 29 (0, 0)) (by (with_reducible repeat (first | refine blk_drewN ?_ _ | refine blk_drew ?_ | refine blk_alloc ?_ _)); exact BK237.out) hb); have n2_ := Aside0.mk (below_step (by repeat (first | (with_reducible first | exact HB.out | apply below_alloc | apply pw_below_drewN | apply below_drew1 | refine below_set ?_ GE236.out | refine below_set ?_ GE237.out) | exact HB.out)) hb); clear BK236; clear BK237; clear HB; have BK236 := n0_; have BK237 := n1_; have HB := n2_; clear n0_ n1_ n2_; (try clear hb); (try clear hb2); (try clear hk); (try clear hi); have hnb208 := NB236_237.out; have hnc208 := NB237_236.out; have hcz209_0 : w207.cell? ⟨gb236, 0, none⟩ = some (.int .i64 a0_0) := (blk_cell BK236.out 0).trans rfl; have hcz209_1 : w207.cell? ⟨gb236, 1, none⟩ = some (.slice A0_1 l0_1.length c0_1) := (blk_cell BK236.out 1).trans rfl; have hcz209_2 : w207.cell? ⟨gb236, 2, none⟩ = some (.int .i64 a0_2) := (blk_cell BK236.out 2).trans rfl; have hcz209_3 : w207.cell? ⟨gb236, 3, none⟩ = some (.int .i64 a0_3) := (blk_cell BK236.out 3).trans rfl; have hcz209_4 : w207.cell? ⟨gb236, 4, none⟩ = some (.slice A0_4 l0_4.length c0_4) := (blk_cell BK236.out 4).trans rfl; have hcz209_5 : w207.cell? ⟨gb236, 5, none⟩ = some (.int .i64 a0_5) := (blk_cell BK236.out 5).trans rfl; have hfz209_0 := blk_frozen BK236.out 0; have hfz209_1 := blk_frozen BK236.out 1; have hfz209_2 := blk_frozen BK236.out 2; have hfz209_3 := blk_frozen BK236.out 3; have hfz209_4 := blk_frozen BK236.out 4; have hfz209_5 := blk_frozen BK236.out 5) | (go_at_call 10; (with_reducible refine (tidemillref04_Count.calls k a0_2 a0_3 _ _ l0_4 t239 _ ?side1 ?side2 A4.out).mono ?_); (case side1 => repeat (first | exact (Kd.C_below HR0_4.out HB.out) | (with_reducible refine Kd.C_alloc ?_ _) | (with_reducible refine Kd.C_drewN ?_ _) | (with_reducible refine Kd.C_drew ?_))); (case side2 => exact HC0_4.out); rintro e w210 ⟨rfl, hb⟩; have n0_ := Aside0.mk (blk_below (g := gb236) (o := .cells #[.int .i64 a0_0, .slice A0_1 l0_1.length c0_1, .int .i64 a0_2, .int .i64 a0_3, .slice A0_4 l0_4.length c0_4, .int .i64 a0_5] 27 (0, 0)) (by (with_reducible repeat (first | refine blk_drewN ?_ _ | refine blk_drew ?_ | refine blk_alloc ?_ _)); exact BK236.out) hb); have n1_ := Aside0.mk (blk_below (g := gb237) (o := .cells #[.int .i64 a1_0, .int .i64 a1_1, .int .i64 a1_2] 29 (0, 0)) (by (with_reducible repeat (first | refine blk_drewN ?_ _ | refine blk_drew ?_ | refine blk_alloc ?_ _)); exact BK237.out) hb); have n2_ := Aside0.mk (below_step (by repeat (first | (with_reducible first | exact HB.out | apply below_alloc | apply pw_below_drewN | apply below_drew1 | refine below_set ?_ GE236.out | refine below_set ?_ GE237.out) | exact HB.out)) hb); clear BK236; clear BK237; clear HB; have BK236 := n0_; have BK237 := n1_; have HB := n2_; clear n0_ n1_ n2_; (try clear hb); (try clear hb2); (try clear hk); (try clear hi); have hcz211_0 : w210.cell? ⟨gb236, 0, none⟩ = some (.int .i64 a0_0) := (blk_cell BK236.out 0).trans rfl; have hcz211_1 : w210.cell? ⟨gb236, 1, none⟩ = some (.slice A0_1 l0_1.length c0_1) := (blk_cell BK236.out 1).trans rfl; have hcz211_2 : w210.cell? ⟨gb236, 2, none⟩ = some (.int .i64 a0_2) := (blk_cell BK236.out 2).trans rfl; have hcz211_3 : w210.cell? ⟨gb236, 3, none⟩ = some (.int .i64 a0_3) := (blk_cell BK236.out 3).trans rfl; have hcz211_4 : w210.cell? ⟨gb236, 4, none⟩ = some (.slice A0_4 l0_4.length c0_4) := (blk_cell BK236.out 4).trans rfl; have hcz211_5 : w210.cell? ⟨gb236, 5, none⟩ = some (.int .i64 a0_5) := (blk_cell BK236.out 5).trans rfl; have hfz211_0 := blk_frozen BK236.out 0; have hfz211_1 := blk_frozen BK236.out 1; have hfz211_2 := blk_frozen BK236.out 2; have hfz211_3 := blk_frozen BK236.out 3; have hfz211_4 := blk_frozen BK236.out 4; have hfz211_5 := blk_frozen BK236.out 5; have hcz212_0 : w210.cell? ⟨gb237, 0, none⟩ = some (.int .i64 a1_0) := (blk_cell BK237.out 0).trans rfl; have hcz212_1 : w210.cell? ⟨gb237, 1, none⟩ = some (.int .i64 a1_1) := (blk_cell BK237.out 1).trans rfl; have hcz212_2 : w210.cell? ⟨gb237, 2, none⟩ = some (.int .i64 a1_2) := (blk_cell BK237.out 2).trans rfl; have hfz212_0 := blk_frozen BK237.out 0; have hfz212_1 := blk_frozen BK237.out 1; have hfz212_2 := blk_frozen BK237.out 2) | (go_at_call 11; (with_reducible refine (flow_Apply.calls k a0_0 _ _ l0_1 a0_2 a0_3 _ _ l0_4 a0_5 a1_0 a1_1 a1_2 t240 t243 _ ?side1 ?side2 ?side3 ?side4 A12.out).mono ?_); (case side1 => repeat (first | exact (Kd.C_below HR0_1.out HB.out) | (with_reducible refine Kd.C_alloc ?_ _) | (with_reducible refine Kd.C_drewN ?_ _) | (with_reducible refine Kd.C_drew ?_))); (case side2 => exact HC0_1.out); (case side3 => repeat (first | exact (Kd.C_below HR0_4.out HB.out) | (with_reducible refine Kd.C_alloc ?_ _) | (with_reducible refine Kd.C_drewN ?_ _) | (with_reducible refine Kd.C_drew ?_))); (case side4 => exact HC0_4.out); rintro e w213 ⟨v241, rfl, ho0, hb⟩; have n0_ := Aside0.mk (Kd.R_lower (Kd.R_newB ho0 (g := gb237) (o := .cells #[.int .i64 a1_0, .int .i64 a1_1, .int .i64 a1_2] 29 (0, 0)) (by (with_reducible repeat (first | refine blk_drewN ?_ _ | refine blk_drew ?_ | refine blk_alloc ?_ _)); exact BK237.out)) (below_size (by repeat (first | (with_reducible first | exact HB.out | apply below_alloc | apply pw_below_drewN | apply below_drew1 | refine below_set ?_ GE236.out | refine below_set ?_ GE237.out) | exact HB.out)))); have n1_ := Aside0.mk (blk_below (g := gb236) (o := .cells #[.int .i64 a0_0, .slice A0_1 l0_1.length c0_1, .int .i64 a0_2, .int .i64 a0_3, .slice A0_4 l0_4.length c0_4, .int .i64 a0_5] 27 (0, 0)) (by (with_reducible repeat (first | refine blk_drewN ?_ _ | refine blk_drew ?_ | refine blk_alloc ?_ _)); exact BK236.out) hb); have n2_ := Aside0.mk (blk_below (g := gb237) (o := .cells #[.int .i64 a1_0, .int .i64 a1_1, .int .i64 a1_2] 29 (0, 0)) (by (with_reducible repeat (first | refine blk_drewN ?_ _ | refine blk_drew ?_ | refine blk_alloc ?_ _)); exact BK237.out) hb); have n3_ := Aside0.mk (below_step (by repeat (first | (with_reducible first | exact HB.out | apply below_alloc | apply pw_below_drewN | apply below_drew1 | refine below_set ?_ GE236.out | refine below_set ?_ GE237.out) | exact HB.out)) hb); clear BK236; clear BK237; clear HB; have HO242 := n0_; have BK236 := n1_; have BK237 := n2_; have HB := n3_; clear n0_ n1_ n2_ n3_; (try clear hb); (try clear hb2); (try clear hk); (try clear hi); (try clear ho0)))
        repeat (go_quiet (first | ((with_reducible refine gate_dst (N := 2) rfl ?_); (try (refine gate_guard (by rfl) ?_; dsimp only)); refine box_event ?hg (N := 2) ?hd (cs := #[.int .i64 a0_0, .slice A0_1 l0_1.length c0_1, .int .i64 a0_2, .int .i64 a0_3, .slice A0_4 l0_4.length c0_4, .int .i64 a0_5]) (t := 27) ?hr ?_; (case hd => rfl); (case hg => rfl); (case hr => first | (go_simp; done) | (go_simp; rfl)); intro gb236 hg w205 hbox hb; have n0_ := Aside0.mk (below_step (by repeat (first | (with_reducible first | exact HB.out | apply below_alloc | apply pw_below_drewN | apply below_drew1) | exact HB.out)) hb); have n1_ := Aside0.mk (hbox); have n2_ := Aside0.mk ((by rw [hg]; exact (below_size (by repeat (first | (with_reducible first | exact HB.out | apply below_alloc | apply pw_below_drewN | apply below_drew1) | exact HB.out))) : w.heap.size ≤ gb236)); have n3_ := Aside0.mk ((by rw [hg]; exact (below_size (by repeat (first | (with_reducible first | exact HB.out | apply below_alloc | apply pw_below_drewN | apply below_drew1) | exact HB.out))) : w.heap.size ≤ gb236)); clear HB; have HB := n0_; have BK236 := n1_; have GW236 := n2_; have GE236 := n3_; clear n0_ n1_ n2_ n3_; clear hb hbox hg) | ((with_reducible refine gate_dst (N := 3) rfl ?_); (try (refine gate_guard (by rfl) ?_; dsimp only)); refine box_event ?hg (N := 3) ?hd (cs := #[.int .i64 a1_0, .int .i64 a1_1, .int .i64 a1_2]) (t := 29) ?hr ?_; (case hd => rfl); (case hg => rfl); (case hr => first | (go_simp; done) | (go_simp; rfl)); intro gb237 hg w206 hbox hb; have n0_ := Aside0.mk (blk_below (g := gb236) (o := .cells #[.int .i64 a0_0, .slice A0_1 l0_1.length c0_1, .int .i64 a0_2, .int .i64 a0_3, .slice A0_4 l0_4.length c0_4, .int .i64 a0_5] 27 (0, 0)) (by (with_reducible repeat (first | refine blk_drewN ?_ _ | refine blk_drew ?_ | refine blk_alloc ?_ _)); exact BK236.out) hb); have n1_ := Aside0.mk (below_step (by repeat (first | (with_reducible first | exact HB.out | apply below_alloc | apply pw_below_drewN | apply below_drew1 | refine below_set ?_ GE236.out) | exact HB.out)) hb); have n2_ := Aside0.mk (hbox); have n3_ := Aside0.mk ((by rw [hg]; exact (below_size (by repeat (first | (with_reducible first | exact HB.out | apply below_alloc | apply pw_below_drewN | apply below_drew1 | refine below_set ?_ GE236.out) | exact HB.out))) : w.heap.size ≤ gb237)); have n4_ := Aside0.mk ((by rw [hg]; exact (below_size (by repeat (first | (with_reducible first | exact HB.out | apply below_alloc | apply pw_below_drewN | apply below_drew1 | refine below_set ?_ GE236.out) | exact HB.out))) : w.heap.size ≤ gb237)); have n5_ := Aside0.mk ((by rw [hg]; exact Nat.ne_of_lt (blk_lt (g := gb236) (o := .cells #[.int .i64 a0_0, .slice A0_1 l0_1.length c0_1, .int .i64 a0_2, .int .i64 a0_3, .slice A0_4 l0_4.length c0_4, .int .i64 a0_5] 27 (0, 0)) (by (with_reducible repeat (first | refine blk_drewN ?_ _ | refine blk_drew ?_ | refine blk_alloc ?_ _)); exact BK236.out)) : gb236 ≠ gb237)); have n6_ := Aside0.mk ((by rw [hg]; exact Nat.ne_of_gt (blk_lt (g := gb236) (o := .cells #[.int .i64 a0_0, .slice A0_1 l0_1.length c0_1, .int .i64 a0_2, .int .i64 a0_3, .slice A0_4 l0_4.length c0_4, .int .i64 a0_5] 27 (0, 0)) (by (with_reducible repeat (first | refine blk_drewN ?_ _ | refine blk_drew ?_ | refine blk_alloc ?_ _)); exact BK236.out)) : gb237 ≠ gb236)); clear BK236; clear HB; have BK236 := n0_; have HB := n1_; have BK237 := n2_; have GW237 := n3_; have GE237 := n4_; have NB236_237 := n5_; have NB237_236 := n6_; clear n0_ n1_ n2_ n3_ n4_ n5_ n6_; clear hb hbox hg) | (go_at_call 9; (with_reducible refine (tidemilllaw17_shown.calls k  false _ A3.out).mono ?_); rintro e w207 ⟨rfl, hb⟩; have n0_ := Aside0.mk (blk_below (g := gb236) (o := .cells #[.int .i64 a0_0, .slice A0_1 l0_1.length c0_1, .int .i64 a0_2, .int .i64 a0_3, .slice A0_4 l0_4.length c0_4, .int .i64 a0_5] 27 (0, 0)) (by (with_reducible repeat (first | refine blk_drewN ?_ _ | refine blk_drew ?_ | refine blk_alloc ?_ _)); exact BK236.out) hb); have n1_ := Aside0.mk (blk_below (g := gb237) (o := .cells #[.int .i64 a1_0, .int .i64 a1_1, .int .i64 a1_2] 29 (0, 0)) (by (with_reducible repeat (first | refine blk_drewN ?_ _ | refine blk_drew ?_ | refine blk_alloc ?_ _)); exact BK237.out) hb); have n2_ := Aside0.mk (below_step (by repeat (first | (with_reducible first | exact HB.out | apply below_alloc | apply pw_below_drewN | apply below_drew1 | refine below_set ?_ GE236.out | refine below_set ?_ GE237.out) | exact HB.out)) hb); clear BK236; clear BK237; clear HB; have BK236 := n0_; have BK237 := n1_; have HB := n2_; clear n0_ n1_ n2_; (try clear hb); (try clear hb2); (try clear hk); (try clear hi); have hnb208 := NB236_237.out; have hnc208 := NB237_236.out; have hcz209_0 : w207.cell? ⟨gb236, 0, none⟩ = some (.int .i64 a0_0) := (blk_cell BK236.out 0).trans rfl; have hcz209_1 : w207.cell? ⟨gb236, 1, none⟩ = some (.slice A0_1 l0_1.length c0_1) := (blk_cell BK236.out 1).trans rfl; have hcz209_2 : w207.cell? ⟨gb236, 2, none⟩ = some (.int .i64 a0_2) := (blk_cell BK236.out 2).trans rfl; have hcz209_3 : w207.cell? ⟨gb236, 3, none⟩ = some (.int .i64 a0_3) := (blk_cell BK236.out 3).trans rfl; have hcz209_4 : w207.cell? ⟨gb236, 4, none⟩ = some (.slice A0_4 l0_4.length c0_4) := (blk_cell BK236.out 4).trans rfl; have hcz209_5 : w207.cell? ⟨gb236, 5, none⟩ = some (.int .i64 a0_5) := (blk_cell BK236.out 5).trans rfl; have hfz209_0 := blk_frozen BK236.out 0; have hfz209_1 := blk_frozen BK236.out 1; have hfz209_2 := blk_frozen BK236.out 2; have hfz209_3 := blk_frozen BK236.out 3; have hfz209_4 := blk_frozen BK236.out 4; have hfz209_5 := blk_frozen BK236.out 5) | (go_at_call 10; (with_reducible refine (tidemillref04_Count.calls k a0_2 a0_3 _ _ l0_4 t239 _ ?side1 ?side2 A4.out).mono ?_); (case side1 => repeat (first | exact (Kd.C_below HR0_4.out HB.out) | (with_reducible refine Kd.C_alloc ?_ _) | (with_reducible refine Kd.C_drewN ?_ _) | (with_reducible refine Kd.C_drew ?_))); (case side2 => exact HC0_4.out); rintro e w210 ⟨rfl, hb⟩; have n0_ := Aside0.mk (blk_below (g := gb236) (o := .cells #[.int .i64 a0_0, .slice A0_1 l0_1.length c0_1, .int .i64 a0_2, .int .i64 a0_3, .slice A0_4 l0_4.length c0_4, .int .i64 a0_5] 27 (0, 0)) (by (with_reducible repeat (first | refine blk_drewN ?_ _ | refine blk_drew ?_ | refine blk_alloc ?_ _)); exact BK236.out) hb); have n1_ := Aside0.mk (blk_below (g := gb237) (o := .cells #[.int .i64 a1_0, .int .i64 a1_1, .int .i64 a1_2] 29 (0, 0)) (by (with_reducible repeat (first | refine blk_drewN ?_ _ | refine blk_drew ?_ | refine blk_alloc ?_ _)); exact BK237.out) hb); have n2_ := Aside0.mk (below_step (by repeat (first | (with_reducible first | exact HB.out | apply below_alloc | apply pw_below_drewN | apply below_drew1 | refine below_set ?_ GE236.out | refine below_set ?_ GE237.out) | exact HB.out)) hb); clear BK236; clear BK237; clear HB; have BK236 := n0_; have BK237 := n1_; have HB := n2_; clear n0_ n1_ n2_; (try clear hb); (try clear hb2); (try clear hk); (try clear hi); have hcz211_0 : w210.cell? ⟨gb236, 0, none⟩ = some (.int .i64 a0_0) := (blk_cell BK236.out 0).trans rfl; have hcz211_1 : w210.cell? ⟨gb236, 1, none⟩ = some (.slice A0_1 l0_1.length c0_1) := (blk_cell BK236.out 1).trans rfl; have hcz211_2 : w210.cell? ⟨gb236, 2, none⟩ = some (.int .i64 a0_2) := (blk_cell BK236.out 2).trans rfl; have hcz211_3 : w210.cell? ⟨gb236, 3, none⟩ = some (.int .i64 a0_3) := (blk_cell BK236.out 3).trans rfl; have hcz211_4 : w210.cell? ⟨gb236, 4, none⟩ = some (.slice A0_4 l0_4.length c0_4) := (blk_cell BK236.out 4).trans rfl; have hcz211_5 : w210.cell? ⟨gb236, 5, none⟩ = some (.int .i64 a0_5) := (blk_cell BK236.out 5).trans rfl; have hfz211_0 := blk_frozen BK236.out 0; have hfz211_1 := blk_frozen BK236.out 1; have hfz211_2 := blk_frozen BK236.out 2; have hfz211_3 := blk_frozen BK236.out 3; have hfz211_4 := blk_frozen BK236.out 4; have hfz211_5 := blk_frozen BK236.out 5; have hcz212_0 : w210.cell? ⟨gb237, 0, none⟩ = some (.int .i64 a1_0) := (blk_cell BK237.out 0).trans rfl; have hcz212_1 : w210.cell? ⟨gb237, 1, none⟩ = some (.int .i64 a1_1) := (blk_cell BK237.out 1).trans rfl; have hcz212_2 : w210.cell? ⟨gb237, 2, none⟩ = some (.int .i64 a1_2) := (blk_cell BK237.out 2).trans rfl; have hfz212_0 := blk_frozen BK237.out 0; have hfz212_1 := blk_frozen BK237.out 1; have hfz212_2 := blk_frozen BK237.out 2) | (go_at_call 11; (with_reducible refine (flow_Apply.calls k a0_0 _ _ l0_1 a0_2 a0_3 _ _ l0_4 a0_5 a1_0 a1_1 a1_2 t240 t243 _ ?side1 ?side2 ?side3 ?side4 A12.out).mono ?_); (case side1 => repeat (first | exact (Kd.C_below HR0_1.out HB.out) | (with_reducible refine Kd.C_alloc ?_ _) | (with_reducible refine Kd.C_drewN ?_ _) | (with_reducible refine Kd.C_drew ?_))); (case side2 => exact HC0_1.out); (case side3 => repeat (first | exact (Kd.C_below HR0_4.out HB.out) | (with_reducible refine Kd.C_alloc ?_ _) | (with_reducible refine Kd.C_drewN ?_ _) | (with_reducible refine Kd.C_drew ?_))); (case side4 => exact HC0_4.out); rintro e w213 ⟨v241, rfl, ho0, hb⟩; have n0_ := Aside0.mk (Kd.R_lower (Kd.R_newB ho0 (g := gb237) (o := .cells #[.int .i64 a1_0, .int .i64 a1_1, .int .i64 a1_2] 29 (0, 0)) (by (with_reducible repeat (first | refine blk_drewN ?_ _ | refine blk_drew ?_ | refine blk_alloc ?_ _)); exact BK237.out)) (below_size (by repeat (first | (with_reducible first | exact HB.out | apply below_alloc | apply pw_below_drewN | apply below_drew1 | refine below_set ?_ GE236.out | refine below_set ?_ GE237.out) | exact HB.out)))); have n1_ := Aside0.mk (blk_below (g := gb236) (o := .cells #[.int .i64 a0_0, .slice A0_1 l0_1.length c0_1, .int .i64 a0_2, .int .i64 a0_3, .slice A0_4 l0_4.length c0_4, .int .i64 a0_5] 27 (0, 0)) (by (with_reducible repeat (first | refine blk_drewN ?_ _ | refine blk_drew ?_ | refine blk_alloc ?_ _)); exact BK236.out) hb); have n2_ := Aside0.mk (blk_below (g := gb237) (o := .cells #[.int .i64 a1_0, .int .i64 a1_1, .int .i64 a1_2] 29 (0, 0)) (by (with_reducible repeat (first | refine blk_drewN ?_ _ | refine blk_drew ?_ | refine blk_alloc ?_ _)); exact BK237.out) hb); have n3_ := Aside0.mk (below_step (by repeat (first | (with_reducible first | exact HB.out | apply below_alloc | apply pw_below_drewN | apply below_drew1 | refine below_set ?_ GE236.out | refine below_set ?_ GE237.out) | exact HB.out)) hb); clear BK236; clear BK237; clear HB; have HO242 := n0_; have BK236 := n1_; have BK237 := n2_; have HB := n3_; clear n0_ n1_ n2_ n3_; (try clear hb); (try clear hb2); (try clear hk); (try clear hi); (try clear ho0))); try go_wp2_with (first | ((with_reducible refine gate_dst (N := 2) rfl ?_); (try (refine gate_guard (by rfl) ?_; dsimp only)); refine box_event ?hg (N := 2) ?hd (cs := #[.int .i64 a0_0, .slice A0_1 l0_1.length c0_1, .int .i64 a0_2, .int .i64 a0_3, .slice A0_4 l0_4.length c0_4, .int .i64 a0_5]) (t := 27) ?hr ?_; (case hd => rfl); (case hg => rfl); (case hr => first | (go_simp; done) | (go_simp; rfl)); intro gb236 hg w205 hbox hb; have n0_ := Aside0.mk (below_step (by repeat (first | (with_reducible first | exact HB.out | apply below_alloc | apply pw_below_drewN | apply below_drew1) | exact HB.out)) hb); have n1_ := Aside0.mk (hbox); have n2_ := Aside0.mk ((by rw [hg]; exact (below_size (by repeat (first | (with_reducible first | exact HB.out | apply below_alloc | apply pw_below_drewN | apply below_drew1) | exact HB.out))) : w.heap.size ≤ gb236)); have n3_ := Aside0.mk ((by rw [hg]; exact (below_size (by repeat (first | (with_reducible first | exact HB.out | apply below_alloc | apply pw_below_drewN | apply below_drew1) | exact HB.out))) : w.heap.size ≤ gb236)); clear HB; have HB := n0_; have BK236 := n1_; have GW236 := n2_; have GE236 := n3_; clear n0_ n1_ n2_ n3_; clear hb hbox hg) | ((with_reducible refine gate_dst (N := 3) rfl ?_); (try (refine gate_guard (by rfl) ?_; dsimp only)); refine box_event ?hg (N := 3) ?hd (cs := #[.int .i64 a1_0, .int .i64 a1_1, .int .i64 a1_2]) (t := 29) ?hr ?_; (case hd => rfl); (case hg => rfl); (case hr => first | (go_simp; done) | (go_simp; rfl)); intro gb237 hg w206 hbox hb; have n0_ := Aside0.mk (blk_below (g := gb236) (o := .cells #[.int .i64 a0_0, .slice A0_1 l0_1.length c0_1, .int .i64 a0_2, .int .i64 a0_3, .slice A0_4 l0_4.length c0_4, .int .i64 a0_5] 27 (0, 0)) (by (with_reducible repeat (first | refine blk_drewN ?_ _ | refine blk_drew ?_ | refine blk_alloc ?_ _)); exact BK236.out) hb); have n1_ := Aside0.mk (below_step (by repeat (first | (with_reducible first | exact HB.out | apply below_alloc | apply pw_below_drewN | apply below_drew1 | refine below_set ?_ GE236.out) | exact HB.out)) hb); have n2_ := Aside0.mk (hbox); have n3_ := Aside0.mk ((by rw [hg]; exact (below_size (by repeat (first | (with_reducible first | exact HB.out | apply below_alloc | apply pw_below_drewN | apply below_drew1 | refine below_set ?_ GE236.out) | exact HB.out))) : w.heap.size ≤ gb237)); have n4_ := Aside0.mk ((by rw [hg]; exact (below_size (by repeat (first | (with_reducible first | exact HB.out | apply below_alloc | apply pw_below_drewN | apply below_drew1 | refine below_set ?_ GE236.out) | exact HB.out))) : w.heap.size ≤ gb237)); have n5_ := Aside0.mk ((by rw [hg]; exact Nat.ne_of_lt (blk_lt (g := gb236) (o := .cells #[.int .i64 a0_0, .slice A0_1 l0_1.length c0_1, .int .i64 a0_2, .int .i64 a0_3, .slice A0_4 l0_4.length c0_4, .int .i64 a0_5] 27 (0, 0)) (by (with_reducible repeat (first | refine blk_drewN ?_ _ | refine blk_drew ?_ | refine blk_alloc ?_ _)); exact BK236.out)) : gb236 ≠ gb237)); have n6_ := Aside0.mk ((by rw [hg]; exact Nat.ne_of_gt (blk_lt (g := gb236) (o := .cells #[.int .i64 a0_0, .slice A0_1 l0_1.length c0_1, .int .i64 a0_2, .int .i64 a0_3, .slice A0_4 l0_4.length c0_4, .int .i64 a0_5] 27 (0, 0)) (by (with_reducible repeat (first | refine blk_drewN ?_ _ | refine blk_drew ?_ | refine blk_alloc ?_ _)); exact BK236.out)) : gb237 ≠ gb236)); clear BK236; clear HB; have BK236 := n0_; have HB := n1_; have BK237 := n2_; have GW237 := n3_; have GE237 := n4_; have NB236_237 := n5_; have NB237_236 := n6_; clear n0_ n1_ n2_ n3_ n4_ n5_ n6_; clear hb hbox hg) | (go_at_call 9; (with_reducible refine (tidemilllaw17_shown.calls k  false _ A3.out).mono ?_); rintro e w207 ⟨rfl, hb⟩; have n0_ := Aside0.mk (blk_below (g := gb236) (o := .cells #[.int .i64 a0_0, .slice A0_1 l0_1.length c0_1, .int .i64 a0_2, .int .i64 a0_3, .slice A0_4 l0_4.length c0_4, .int .i64 a0_5] 27 (0, 0)) (by (with_reducible repeat (first | refine blk_drewN ?_ _ | refine blk_drew ?_ | refine blk_alloc ?_ _)); exact BK236.out) hb); have n1_ := Aside0.mk (blk_below (g := gb237) (o := .cells #[.int .i64 a1_0, .int .i64 a1_1, .int .i64 a1_2] 29 (0, 0)) (by (with_reducible repeat (first | refine blk_drewN ?_ _ | refine blk_drew ?_ | refine blk_alloc ?_ _)); exact BK237.out) hb); have n2_ := Aside0.mk (below_step (by repeat (first | (with_reducible first | exact HB.out | apply below_alloc | apply pw_below_drewN | apply below_drew1 | refine below_set ?_ GE236.out | refine below_set ?_ GE237.out) | exact HB.out)) hb); clear BK236; clear BK237; clear HB; have BK236 := n0_; have BK237 := n1_; have HB := n2_; clear n0_ n1_ n2_; (try clear hb); (try clear hb2); (try clear hk); (try clear hi); have hnb208 := NB236_237.out; have hnc208 := NB237_236.out; have hcz209_0 : w207.cell? ⟨gb236, 0, none⟩ = some (.int .i64 a0_0) := (blk_cell BK236.out 0).trans rfl; have hcz209_1 : w207.cell? ⟨gb236, 1, none⟩ = some (.slice A0_1 l0_1.length c0_1) := (blk_cell BK236.out 1).trans rfl; have hcz209_2 : w207.cell? ⟨gb236, 2, none⟩ = some (.int .i64 a0_2) := (blk_cell BK236.out 2).trans rfl; have hcz209_3 : w207.cell? ⟨gb236, 3, none⟩ = some (.int .i64 a0_3) := (blk_cell BK236.out 3).trans rfl; have hcz209_4 : w207.cell? ⟨gb236, 4, none⟩ = some (.slice A0_4 l0_4.length c0_4) := (blk_cell BK236.out 4).trans rfl; have hcz209_5 : w207.cell? ⟨gb236, 5, none⟩ = some (.int .i64 a0_5) := (blk_cell BK236.out 5).trans rfl; have hfz209_0 := blk_frozen BK236.out 0; have hfz209_1 := blk_frozen BK236.out 1; have hfz209_2 := blk_frozen BK236.out 2; have hfz209_3 := blk_frozen BK236.out 3; have hfz209_4 := blk_frozen BK236.out 4; have hfz209_5 := blk_frozen BK236.out 5) | (go_at_call 10; (with_reducible refine (tidemillref04_Count.calls k a0_2 a0_3 _ _ l0_4 t239 _ ?side1 ?side2 A4.out).mono ?_); (case side1 => repeat (first | exact (Kd.C_below HR0_4.out HB.out) | (with_reducible refine Kd.C_alloc ?_ _) | (with_reducible refine Kd.C_drewN ?_ _) | (with_reducible refine Kd.C_drew ?_))); (case side2 => exact HC0_4.out); rintro e w210 ⟨rfl, hb⟩; have n0_ := Aside0.mk (blk_below (g := gb236) (o := .cells #[.int .i64 a0_0, .slice A0_1 l0_1.length c0_1, .int .i64 a0_2, .int .i64 a0_3, .slice A0_4 l0_4.length c0_4, .int .i64 a0_5] 27 (0, 0)) (by (with_reducible repeat (first | refine blk_drewN ?_ _ | refine blk_drew ?_ | refine blk_alloc ?_ _)); exact BK236.out) hb); have n1_ := Aside0.mk (blk_below (g := gb237) (o := .cells #[.int .i64 a1_0, .int .i64 a1_1, .int .i64 a1_2] 29 (0, 0)) (by (with_reducible repeat (first | refine blk_drewN ?_ _ | refine blk_drew ?_ | refine blk_alloc ?_ _)); exact BK237.out) hb); have n2_ := Aside0.mk (below_step (by repeat (first | (with_reducible first | exact HB.out | apply below_alloc | apply pw_below_drewN | apply below_drew1 | refine below_set ?_ GE236.out | refine below_set ?_ GE237.out) | exact HB.out)) hb); clear BK236; clear BK237; clear HB; have BK236 := n0_; have BK237 := n1_; have HB := n2_; clear n0_ n1_ n2_; (try clear hb); (try clear hb2); (try clear hk); (try clear hi); have hcz211_0 : w210.cell? ⟨gb236, 0, none⟩ = some (.int .i64 a0_0) := (blk_cell BK236.out 0).trans rfl; have hcz211_1 : w210.cell? ⟨gb236, 1, none⟩ = some (.slice A0_1 l0_1.length c0_1) := (blk_cell BK236.out 1).trans rfl; have hcz211_2 : w210.cell? ⟨gb236, 2, none⟩ = some (.int .i64 a0_2) := (blk_cell BK236.out 2).trans rfl; have hcz211_3 : w210.cell? ⟨gb236, 3, none⟩ = some (.int .i64 a0_3) := (blk_cell BK236.out 3).trans rfl; have hcz211_4 : w210.cell? ⟨gb236, 4, none⟩ = some (.slice A0_4 l0_4.length c0_4) := (blk_cell BK236.out 4).trans rfl; have hcz211_5 : w210.cell? ⟨gb236, 5, none⟩ = some (.int .i64 a0_5) := (blk_cell BK236.out 5).trans rfl; have hfz211_0 := blk_frozen BK236.out 0; have hfz211_1 := blk_frozen BK236.out 1; have hfz211_2 := blk_frozen BK236.out 2; have hfz211_3 := blk_frozen BK236.out 3; have hfz211_4 := blk_frozen BK236.out 4; have hfz211_5 := blk_frozen BK236.out 5; have hcz212_0 : w210.cell? ⟨gb237, 0, none⟩ = some (.int .i64 a1_0) := (blk_cell BK237.out 0).trans rfl; have hcz212_1 : w210.cell? ⟨gb237, 1, none⟩ = some (.int .i64 a1_1) := (blk_cell BK237.out 1).trans rfl; have hcz212_2 : w210.cell? ⟨gb237, 2, none⟩ = some (.int .i64 a1_2) := (blk_cell BK237.out 2).trans rfl; have hfz212_0 := blk_frozen BK237.out 0; have hfz212_1 := blk_frozen BK237.out 1; have hfz212_2 := blk_frozen BK237.out 2) | (go_at_call 11; (with_reducible refine (flow_Apply.calls k a0_0 _ _ l0_1 a0_2 a0_3 _ _ l0_4 a0_5 a1_0 a1_1 a1_2 t240 t243 _ ?side1 ?side2 ?side3 ?side4 A12.out).mono ?_); (case side1 => repeat (first | exact (Kd.C_below HR0_1.out HB.out) | (with_reducible refine Kd.C_alloc ?_ _) | (with_reducible refine Kd.C_drewN ?_ _) | (with_reducible refine Kd.C_drew ?_))); (case side2 => exact HC0_1.out); (case side3 => repeat (first | exact (Kd.C_below HR0_4.out HB.out) | (with_reducible refine Kd.C_alloc ?_ _) | (with_reducible refine Kd.C_drewN ?_ _) | (with_reducible refine Kd.C_drew ?_))); (case side4 => exact HC0_4.out); rintro e w213 ⟨v241, rfl, ho0, hb⟩; have n0_ := Aside0.mk (Kd.R_lower (Kd.R_newB ho0 (g := gb237) (o := .cells #[.int .i64 a1_0, .int .i64 a1_1, .int .i64 a1_2] 29 (0, 0)) (by (with_reducible repeat (first | refine blk_drewN ?_ _ | refine blk_drew ?_ | refine blk_alloc ?_ _)); exact BK237.out)) (below_size (by repeat (first | (with_reducible first | exact HB.out | apply below_alloc | apply pw_below_drewN | apply below_drew1 | refine below_set ?_ GE236.out | refine below_set ?_ GE237.out) | exact HB.out)))); have n1_ := Aside0.mk (blk_below (g := gb236) (o := .cells #[.int .i64 a0_0, .slice A0_1 l0_1.length c0_1, .int .i64 a0_2, .int .i64 a0_3, .slice A0_4 l0_4.length c0_4, .int .i64 a0_5] 27 (0, 0)) (by (with_reducible repeat (first | refine blk_drewN ?_ _ | refine blk_drew ?_ | refine blk_alloc ?_ _)); exact BK236.out) hb); have n2_ := Aside0.mk (blk_below (g := gb237) (o := .cells #[.int .i64 a1_0, .int .i64 a1_1, .int .i64 a1_2] 29 (0, 0)) (by (with_reducible repeat (first | refine blk_drewN ?_ _ | refine blk_drew ?_ | refine blk_alloc ?_ _)); exact BK237.out) hb); have n3_ := Aside0.mk (below_step (by repeat (first | (with_reducible first | exact HB.out | apply below_alloc | apply pw_below_drewN | apply below_drew1 | refine below_set ?_ GE236.out | refine below_set ?_ GE237.out) | exact HB.out)) hb); clear BK236; clear BK237; clear HB; have HO242 := n0_; have BK236 := n1_; have BK237 := n2_; have HB := n3_; clear n0_ n1_ n2_ n3_; (try clear hb); (try clear hb2); (try clear hk); (try clear hi); (try clear ho0))))
        go_ret
        exact ⟨by first | rfl | (simp [errW_none, errW_some] <;> rfl) | (simp [*, errW_none, errW_some] <;> rfl), by repeat (first | (with_reducible first | exact HB.out | apply below_alloc | apply pw_below_drewN | apply below_drew1 | refine below_set ?_ GE236.out | refine below_set ?_ GE237.out) | exact HB.out)⟩

end Go.Proofs.Ythkilejcddgodaa.Ex
