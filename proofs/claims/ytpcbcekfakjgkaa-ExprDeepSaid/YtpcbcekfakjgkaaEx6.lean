-- Written by a program of this work (wip/given.py) out of the translation; Lean checks it.
import Derived.Test.YtpcbcekfakjgkaaEx0
import Derived.Test.YtpcbcekfakjgkaaWN
import Derived.Test.YtpcbcekfakjgkaaWKept
import Derived.Test.YtpcbcekfakjgkaaWFoot
import Derived.Test.YtpcbcekfakjgkaaWShare
import Derived.Test.YtpcbcekfakjgkaaWRepsOne
import Derived.Test.YtpcbcekfakjgkaaWApart
import Derived.Test.YtpcbcekfakjgkaaEx4
import Derived.Test.YtpcbcekfakjgkaaEx5
namespace Go.Proofs.Ytpcbcekfakjgkaa.Ex
open Go.RowKit Go.Proofs.YtpcbcekfakjgkaaW.PrintWords Go.Proofs.YtpcbcekfakjgkaaW.PrintLast Go.Proofs.YtpcbcekfakjgkaaW.PrintMore
attribute [local go_sem] max2_int min2_int max_two min_two max_three min_three max_four min_four   -- for this text's walks alone
set_option linter.unusedVariables false
set_option linter.unusedSimpArgs false

/-! ### tidemillref04_May: function 15 -/
def tidemillref04_May.f (k : Nat) (a0_0 : Int) (a0_1 : Int) (l0_2 : List (S27)) : Option (Bool) := (tidemillref04_deep.f k a0_0 a0_1 l0_2 16).bind fun t203 => (if t203 = true then ((tidemillref04_Count.f k a0_0 a0_1 l0_2).bind fun t204 => (some (decide (t204 ≤ 64)))) else (some false))
theorem tidemillref04_May.mono : ∀ a0 a1 a2 k, LeO (tidemillref04_May.f k a0 a1 a2) (tidemillref04_May.f (k + 1) a0 a1 a2) := by
  intro a0 a1 a2 k
  unfold tidemillref04_May.f
  repeat' first
      | (with_reducible exact tidemillref04_Count.mono _ _ _ _)
      | (with_reducible exact tidemillref04_deep.mono _ _ _ _ _)
      | (with_reducible exact LeO.refl _)
      | (with_reducible exact LeO.none _)
      | (with_reducible refine LeO.ite ?_ ?_)
      | (with_reducible refine LeO.bind ?_ (fun _ => ?_))
      | exact tidemillref04_Count.mono _ _ _ _
      | exact tidemillref04_deep.mono _ _ _ _ _
      | exact LeO.none _
      | refine LeO.ite ?_ ?_
      | refine LeO.bind ?_ (fun _ => ?_)
set_option maxHeartbeats 8000000 in
set_option maxRecDepth 100000 in
theorem tidemillref04_May.calls (k : Nat) (a0_0 : Int) (a0_1 : Int) (A0_2 : Option Addr) (c0_2 : Nat) (l0_2 : List (S27)) (r : Bool) (w : World) (hr0_2 : Kd.C k27 w A0_2 l0_2.length l0_2) (hc0_2 : l0_2.length ≤ c0_2) (h : tidemillref04_May.f k a0_0 a0_1 l0_2 = some r) :
    Calls Try.prog 15 #[.agg #[.int .i64 a0_0, .int .i64 a0_1, .slice A0_2 l0_2.length c0_2]] w fun e w' => e = .returned (.bool r) ∧ Below w.heap.size w w' := by
  have hu27 := Try.underlying27
  have HR0_2 := Aside0.mk hr0_2
  have HC0_2 := Aside0.mk hc0_2
  clear hr0_2 hc0_2
  have HB := Aside0.mk (Below.refl w.heap.size w)
  have H : ((tidemillref04_deep.f k a0_0 a0_1 l0_2 16).bind fun t203 => (if t203 = true then ((tidemillref04_Count.f k a0_0 a0_1 l0_2).bind fun t204 => (some (decide (t204 ≤ 64)))) else (some false))) = some r := h
  clear h
  replace H := Option.bind_eq_some_iff.mp H
  obtain ⟨t203, A20, H⟩ := H
  replace H : (if t203 = true then ((tidemillref04_Count.f k a0_0 a0_1 l0_2).bind fun t204 => (some (decide (t204 ≤ 64)))) else (some false)) = some r := H
  have A2 := Aside0.mk A20
  clear A20
  by_cases c3 : t203 = true
  · subst c3
    have H1 : ((tidemillref04_Count.f k a0_0 a0_1 l0_2).bind fun t204 => (some (decide (t204 ≤ 64)))) = some r := by rw [if_pos rfl] at H; exact H
    clear H
    have H := H1
    clear H1
    replace H := Option.bind_eq_some_iff.mp H
    obtain ⟨t204, A40, H⟩ := H
    replace H : (some (decide (t204 ≤ 64))) = some r := H
    have A4 := Aside0.mk A40
    clear A40
    obtain rfl := Option.some.inj H
    go_enter Try.func15, Try.ntmps15
    go_wp2_with (first | ((with_reducible refine gate_dst (N := 1) rfl ?_); refine box_event ?hg (N := 1) ?hd (cs := #[.int .i64 a0_0, .int .i64 a0_1, .slice A0_2 l0_2.length c0_2]) (t := 27) ?hr ?_; (case hd => rfl); (case hg => rfl); (case hr => first | (go_simp; done) | (go_simp; rfl)); intro gb202 hg w5 hbox hb; have n0_ := Aside0.mk (below_step (by repeat (first | (with_reducible first | exact HB.out | apply below_alloc | apply pw_below_drewN | apply below_drew1) | exact HB.out)) hb); have n1_ := Aside0.mk (hbox); have n2_ := Aside0.mk ((by rw [hg]; exact (below_size (by repeat (first | (with_reducible first | exact HB.out | apply below_alloc | apply pw_below_drewN | apply below_drew1) | exact HB.out))) : w.heap.size ≤ gb202)); have n3_ := Aside0.mk ((by rw [hg]; exact (below_size (by repeat (first | (with_reducible first | exact HB.out | apply below_alloc | apply pw_below_drewN | apply below_drew1) | exact HB.out))) : w.heap.size ≤ gb202)); clear HB; have HB := n0_; have BK202 := n1_; have GW202 := n2_; have GE202 := n3_; clear n0_ n1_ n2_ n3_; clear hb hbox hg; have hcz6_0 : w5.cell? ⟨gb202, 0, none⟩ = some (.int .i64 a0_0) := (blk_cell BK202.out 0).trans rfl; have hcz6_1 : w5.cell? ⟨gb202, 1, none⟩ = some (.int .i64 a0_1) := (blk_cell BK202.out 1).trans rfl; have hcz6_2 : w5.cell? ⟨gb202, 2, none⟩ = some (.slice A0_2 l0_2.length c0_2) := (blk_cell BK202.out 2).trans rfl; have hfz6_0 := blk_frozen BK202.out 0; have hfz6_1 := blk_frozen BK202.out 1; have hfz6_2 := blk_frozen BK202.out 2) | ((with_reducible refine gate_callee (f := 29) rfl ?_); refine goesL_ (some 4) rfl rfl Try.func29 (by kernel_rfl) rfl #[.agg #[.int .i64 a0_0, .int .i64 a0_1, .slice A0_2 l0_2.length c0_2], .int .i64 16] rfl (by (try simp only [List.map_toArray, List.map_cons, List.map_nil]); first | done | rfl | (simp only [List.length_drop, List.length_take]; rfl)) ?_; (with_reducible refine (tidemillref04_deep.calls k a0_0 a0_1 _ _ l0_2 16 true _ ?side1 ?side2 A2.out).mono ?_); (case side1 => repeat (first | exact (Kd.C_below HR0_2.out HB.out) | (with_reducible refine Kd.C_alloc ?_ _) | (with_reducible refine Kd.C_drewN ?_ _) | (with_reducible refine Kd.C_drew ?_))); (case side2 => exact HC0_2.out); rintro e w7 ⟨rfl, hb⟩; refine ⟨_, rfl, ?_⟩; have n0_ := Aside0.mk (blk_below (g := gb202) (o := .cells #[.int .i64 a0_0, .int .i64 a0_1, .slice A0_2 l0_2.length c0_2] 27 (0, 0)) (by (with_reducible repeat (first | refine blk_drewN ?_ _ | refine blk_drew ?_ | refine blk_alloc ?_ _)); exact BK202.out) hb); have n1_ := Aside0.mk (below_step (by repeat (first | (with_reducible first | exact HB.out | apply below_alloc | apply pw_below_drewN | apply below_drew1 | refine below_set ?_ GE202.out) | exact HB.out)) hb); clear BK202; clear HB; have BK202 := n0_; have HB := n1_; clear n0_ n1_; (try clear hb); (try clear hb2); (try clear hk); (try clear hi); have hcz8_0 : w7.cell? ⟨gb202, 0, none⟩ = some (.int .i64 a0_0) := (blk_cell BK202.out 0).trans rfl; have hcz8_1 : w7.cell? ⟨gb202, 1, none⟩ = some (.int .i64 a0_1) := (blk_cell BK202.out 1).trans rfl; have hcz8_2 : w7.cell? ⟨gb202, 2, none⟩ = some (.slice A0_2 l0_2.length c0_2) := (blk_cell BK202.out 2).trans rfl; have hfz8_0 := blk_frozen BK202.out 0; have hfz8_1 := blk_frozen BK202.out 1; have hfz8_2 := blk_frozen BK202.out 2) | (go_at_call 13; (with_reducible refine (tidemillref04_Count.calls k a0_0 a0_1 _ _ l0_2 t204 _ ?side1 ?side2 A4.out).mono ?_); (case side1 => repeat (first | exact (Kd.C_below HR0_2.out HB.out) | (with_reducible refine Kd.C_alloc ?_ _) | (with_reducible refine Kd.C_drewN ?_ _) | (with_reducible refine Kd.C_drew ?_))); (case side2 => exact HC0_2.out); rintro e w9 ⟨rfl, hb⟩; have n0_ := Aside0.mk (blk_below (g := gb202) (o := .cells #[.int .i64 a0_0, .int .i64 a0_1, .slice A0_2 l0_2.length c0_2] 27 (0, 0)) (by (with_reducible repeat (first | refine blk_drewN ?_ _ | refine blk_drew ?_ | refine blk_alloc ?_ _)); exact BK202.out) hb); have n1_ := Aside0.mk (below_step (by repeat (first | (with_reducible first | exact HB.out | apply below_alloc | apply pw_below_drewN | apply below_drew1 | refine below_set ?_ GE202.out) | exact HB.out)) hb); clear BK202; clear HB; have BK202 := n0_; have HB := n1_; clear n0_ n1_; (try clear hb); (try clear hb2); (try clear hk); (try clear hi)))
    go_ret
    exact ⟨by first | rfl | (simp [errW_none, errW_some] <;> rfl) | (simp [*, errW_none, errW_some] <;> rfl), by repeat (first | (with_reducible first | exact HB.out | apply below_alloc | apply pw_below_drewN | apply below_drew1 | refine below_set ?_ GE202.out) | exact HB.out)⟩
  · replace c3 := Bool.eq_false_iff.mpr c3
    subst c3
    have H1 : (some false) = some r := by rw [if_neg (show ¬ (false = true) by decide)] at H; exact H
    clear H
    have H := H1
    clear H1
    obtain rfl := Option.some.inj H
    go_enter Try.func15, Try.ntmps15
    go_wp2_with (first | ((with_reducible refine gate_dst (N := 1) rfl ?_); refine box_event ?hg (N := 1) ?hd (cs := #[.int .i64 a0_0, .int .i64 a0_1, .slice A0_2 l0_2.length c0_2]) (t := 27) ?hr ?_; (case hd => rfl); (case hg => rfl); (case hr => first | (go_simp; done) | (go_simp; rfl)); intro gb202 hg w10 hbox hb; have n0_ := Aside0.mk (below_step (by repeat (first | (with_reducible first | exact HB.out | apply below_alloc | apply pw_below_drewN | apply below_drew1) | exact HB.out)) hb); have n1_ := Aside0.mk (hbox); have n2_ := Aside0.mk ((by rw [hg]; exact (below_size (by repeat (first | (with_reducible first | exact HB.out | apply below_alloc | apply pw_below_drewN | apply below_drew1) | exact HB.out))) : w.heap.size ≤ gb202)); have n3_ := Aside0.mk ((by rw [hg]; exact (below_size (by repeat (first | (with_reducible first | exact HB.out | apply below_alloc | apply pw_below_drewN | apply below_drew1) | exact HB.out))) : w.heap.size ≤ gb202)); clear HB; have HB := n0_; have BK202 := n1_; have GW202 := n2_; have GE202 := n3_; clear n0_ n1_ n2_ n3_; clear hb hbox hg; have hcz11_0 : w10.cell? ⟨gb202, 0, none⟩ = some (.int .i64 a0_0) := (blk_cell BK202.out 0).trans rfl; have hcz11_1 : w10.cell? ⟨gb202, 1, none⟩ = some (.int .i64 a0_1) := (blk_cell BK202.out 1).trans rfl; have hcz11_2 : w10.cell? ⟨gb202, 2, none⟩ = some (.slice A0_2 l0_2.length c0_2) := (blk_cell BK202.out 2).trans rfl; have hfz11_0 := blk_frozen BK202.out 0; have hfz11_1 := blk_frozen BK202.out 1; have hfz11_2 := blk_frozen BK202.out 2) | ((with_reducible refine gate_callee (f := 29) rfl ?_); refine goesL_ (some 4) rfl rfl Try.func29 (by kernel_rfl) rfl #[.agg #[.int .i64 a0_0, .int .i64 a0_1, .slice A0_2 l0_2.length c0_2], .int .i64 16] rfl (by (try simp only [List.map_toArray, List.map_cons, List.map_nil]); first | done | rfl | (simp only [List.length_drop, List.length_take]; rfl)) ?_; (with_reducible refine (tidemillref04_deep.calls k a0_0 a0_1 _ _ l0_2 16 false _ ?side1 ?side2 A2.out).mono ?_); (case side1 => repeat (first | exact (Kd.C_below HR0_2.out HB.out) | (with_reducible refine Kd.C_alloc ?_ _) | (with_reducible refine Kd.C_drewN ?_ _) | (with_reducible refine Kd.C_drew ?_))); (case side2 => exact HC0_2.out); rintro e w12 ⟨rfl, hb⟩; refine ⟨_, rfl, ?_⟩; have n0_ := Aside0.mk (blk_below (g := gb202) (o := .cells #[.int .i64 a0_0, .int .i64 a0_1, .slice A0_2 l0_2.length c0_2] 27 (0, 0)) (by (with_reducible repeat (first | refine blk_drewN ?_ _ | refine blk_drew ?_ | refine blk_alloc ?_ _)); exact BK202.out) hb); have n1_ := Aside0.mk (below_step (by repeat (first | (with_reducible first | exact HB.out | apply below_alloc | apply pw_below_drewN | apply below_drew1 | refine below_set ?_ GE202.out) | exact HB.out)) hb); clear BK202; clear HB; have BK202 := n0_; have HB := n1_; clear n0_ n1_; (try clear hb); (try clear hb2); (try clear hk); (try clear hi)))
    go_ret
    exact ⟨by first | rfl | (simp [errW_none, errW_some] <;> rfl) | (simp [*, errW_none, errW_some] <;> rfl), by repeat (first | (with_reducible first | exact HB.out | apply below_alloc | apply pw_below_drewN | apply below_drew1 | refine below_set ?_ GE202.out) | exact HB.out)⟩

-- NOT PRINTED: function 4 (tidemilllaw04_ExprDeep)

-- NOT PRINTED: function 5 (tidemilllaw04_ExprIfs)

/-! ### tidemilllaw04_small: function 17 -/
def tidemilllaw04_small.f (k : Nat) (a0_0 : Int) (a0_1 : Int) (l0_2 : List (S27)) : Option (Bool) := (tidemillref04_Count.f k a0_0 a0_1 l0_2).bind fun t294 => (some (decide (t294 ≤ 2000)))
theorem tidemilllaw04_small.mono : ∀ a0 a1 a2 k, LeO (tidemilllaw04_small.f k a0 a1 a2) (tidemilllaw04_small.f (k + 1) a0 a1 a2) := by
  intro a0 a1 a2 k
  unfold tidemilllaw04_small.f
  repeat' first
      | (with_reducible exact tidemillref04_Count.mono _ _ _ _)
      | (with_reducible exact LeO.refl _)
      | (with_reducible exact LeO.none _)
      | (with_reducible refine LeO.ite ?_ ?_)
      | (with_reducible refine LeO.bind ?_ (fun _ => ?_))
      | exact tidemillref04_Count.mono _ _ _ _
      | exact LeO.none _
      | refine LeO.ite ?_ ?_
      | refine LeO.bind ?_ (fun _ => ?_)
set_option maxHeartbeats 8000000 in
set_option maxRecDepth 100000 in
theorem tidemilllaw04_small.calls (k : Nat) (a0_0 : Int) (a0_1 : Int) (A0_2 : Option Addr) (c0_2 : Nat) (l0_2 : List (S27)) (r : Bool) (w : World) (hr0_2 : Kd.C k27 w A0_2 l0_2.length l0_2) (hc0_2 : l0_2.length ≤ c0_2) (h : tidemilllaw04_small.f k a0_0 a0_1 l0_2 = some r) :
    Calls Try.prog 17 #[.agg #[.int .i64 a0_0, .int .i64 a0_1, .slice A0_2 l0_2.length c0_2]] w fun e w' => e = .returned (.bool r) ∧ Below w.heap.size w w' := by
  have hu27 := Try.underlying27
  have HR0_2 := Aside0.mk hr0_2
  have HC0_2 := Aside0.mk hc0_2
  clear hr0_2 hc0_2
  have HB := Aside0.mk (Below.refl w.heap.size w)
  have H : ((tidemillref04_Count.f k a0_0 a0_1 l0_2).bind fun t294 => (some (decide (t294 ≤ 2000)))) = some r := h
  clear h
  replace H := Option.bind_eq_some_iff.mp H
  obtain ⟨t294, A20, H⟩ := H
  replace H : (some (decide (t294 ≤ 2000))) = some r := H
  have A2 := Aside0.mk A20
  clear A20
  obtain rfl := Option.some.inj H
  go_enter Try.func17, Try.ntmps17
  go_wp2_with (first | ((with_reducible refine gate_dst (N := 1) rfl ?_); refine box_event ?hg (N := 1) ?hd (cs := #[.int .i64 a0_0, .int .i64 a0_1, .slice A0_2 l0_2.length c0_2]) (t := 27) ?hr ?_; (case hd => rfl); (case hg => rfl); (case hr => first | (go_simp; done) | (go_simp; rfl)); intro gb293 hg w3 hbox hb; have n0_ := Aside0.mk (below_step (by repeat (first | (with_reducible first | exact HB.out | apply below_alloc | apply pw_below_drewN | apply below_drew1) | exact HB.out)) hb); have n1_ := Aside0.mk (hbox); have n2_ := Aside0.mk ((by rw [hg]; exact (below_size (by repeat (first | (with_reducible first | exact HB.out | apply below_alloc | apply pw_below_drewN | apply below_drew1) | exact HB.out))) : w.heap.size ≤ gb293)); have n3_ := Aside0.mk ((by rw [hg]; exact (below_size (by repeat (first | (with_reducible first | exact HB.out | apply below_alloc | apply pw_below_drewN | apply below_drew1) | exact HB.out))) : w.heap.size ≤ gb293)); clear HB; have HB := n0_; have BK293 := n1_; have GW293 := n2_; have GE293 := n3_; clear n0_ n1_ n2_ n3_; clear hb hbox hg; have hcz4_0 : w3.cell? ⟨gb293, 0, none⟩ = some (.int .i64 a0_0) := (blk_cell BK293.out 0).trans rfl; have hcz4_1 : w3.cell? ⟨gb293, 1, none⟩ = some (.int .i64 a0_1) := (blk_cell BK293.out 1).trans rfl; have hcz4_2 : w3.cell? ⟨gb293, 2, none⟩ = some (.slice A0_2 l0_2.length c0_2) := (blk_cell BK293.out 2).trans rfl; have hfz4_0 := blk_frozen BK293.out 0; have hfz4_1 := blk_frozen BK293.out 1; have hfz4_2 := blk_frozen BK293.out 2) | ((with_reducible refine gate_callee (f := 13) rfl ?_); refine goesL_ (some 4) rfl rfl Try.func13 (by kernel_rfl) rfl #[.agg #[.int .i64 a0_0, .int .i64 a0_1, .slice A0_2 l0_2.length c0_2]] rfl (by (try simp only [List.map_toArray, List.map_cons, List.map_nil]); first | done | rfl | (simp only [List.length_drop, List.length_take]; rfl)) ?_; (with_reducible refine (tidemillref04_Count.calls k a0_0 a0_1 _ _ l0_2 t294 _ ?side1 ?side2 A2.out).mono ?_); (case side1 => repeat (first | exact (Kd.C_below HR0_2.out HB.out) | (with_reducible refine Kd.C_alloc ?_ _) | (with_reducible refine Kd.C_drewN ?_ _) | (with_reducible refine Kd.C_drew ?_))); (case side2 => exact HC0_2.out); rintro e w5 ⟨rfl, hb⟩; refine ⟨_, rfl, ?_⟩; have n0_ := Aside0.mk (blk_below (g := gb293) (o := .cells #[.int .i64 a0_0, .int .i64 a0_1, .slice A0_2 l0_2.length c0_2] 27 (0, 0)) (by (with_reducible repeat (first | refine blk_drewN ?_ _ | refine blk_drew ?_ | refine blk_alloc ?_ _)); exact BK293.out) hb); have n1_ := Aside0.mk (below_step (by repeat (first | (with_reducible first | exact HB.out | apply below_alloc | apply pw_below_drewN | apply below_drew1 | refine below_set ?_ GE293.out) | exact HB.out)) hb); clear BK293; clear HB; have BK293 := n0_; have HB := n1_; clear n0_ n1_; (try clear hb); (try clear hb2); (try clear hk); (try clear hi)))
  go_ret
  exact ⟨by first | rfl | (simp [errW_none, errW_some] <;> rfl) | (simp [*, errW_none, errW_some] <;> rfl), by repeat (first | (with_reducible first | exact HB.out | apply below_alloc | apply pw_below_drewN | apply below_drew1 | refine below_set ?_ GE293.out) | exact HB.out)⟩

/-! ### tidemillref04_bit: function 50 -/
def tidemillref04_bit.f (a0 : Bool) : Option (Int) := if a0 = true then (some 1) else (some 0)
set_option maxHeartbeats 8000000 in
set_option maxRecDepth 100000 in
theorem tidemillref04_bit.calls (a0 : Bool) (r : Int) (w : World) (h : tidemillref04_bit.f a0 = some r) :
    Calls Try.prog 50 #[.bool a0] w fun e w' => e = .returned (.int .i64 r) ∧ Drawn0 w w' := by
  have H : (if a0 = true then (some 1) else (some 0)) = some r := h
  clear h
  by_cases c2 : a0 = true
  · subst c2
    have H1 : (some 1) = some r := by rw [if_pos rfl] at H; exact H
    clear H
    have H := H1
    clear H1
    obtain rfl := Option.some.inj H
    go_enter Try.func50, Try.ntmps50
    go_wp2
    go_ret
    exact ⟨by first | rfl | (simp; done) | (simp [*]; done), by repeat (first | exact Drawn0.refl _ | apply Drawn0.step)⟩
  · replace c2 := Bool.eq_false_iff.mpr c2
    subst c2
    have H1 : (some 0) = some r := by rw [if_neg (show ¬ (false = true) by decide)] at H; exact H
    clear H
    have H := H1
    clear H1
    obtain rfl := Option.some.inj H
    go_enter Try.func50, Try.ntmps50
    go_wp2
    go_ret
    exact ⟨by first | rfl | (simp; done) | (simp [*]; done), by repeat (first | exact Drawn0.refl _ | apply Drawn0.step)⟩

/-! ### tidemillref04_Two: function 40 -/
def tidemillref04_Two.j0 : Nat → Int → Int → Int → Bool → Option (Int × Int)
  | 0, _, _, _, _ => none
  | k + 1, x0, x1, x2, x17 => if x17 = true then (some (0, 10)) else (if x0 = 6 then (some (wrap64 (x1 + x2), 0)) else (if x0 = 7 then (some (wrap64 (x1 - x2), 0)) else (if x0 = 8 then (some (wrap64 (x1 * x2), 0)) else (if x0 = 9 then (if x2 = 0 then (none) else (some (wrap64 (Int.tdiv x1 x2), 0))) else (if x0 = 10 then (if x2 = 0 then (none) else (some (wrap64 (x1 - (wrap64 ((wrap64 (Int.tdiv x1 x2)) * x2))), 0))) else (if x0 = 11 then ((tidemillref04_bit.f (decide (x1 < x2))).bind fun t295 => (some (t295, 0))) else (if x0 = 12 then ((tidemillref04_bit.f (x1 == x2)).bind fun t296 => (some (t296, 0))) else (if x0 = 15 then (if x2 < x1 then (some (x2, 0)) else (some (x1, 0))) else (if x2 > x1 then (some (x2, 0)) else (some (x1, 0)))))))))))
def tidemillref04_Two.f (k : Nat) (a0 : Int) (a1 : Int) (a2 : Int) : Option (Int × Int) := if a0 = 9 then (tidemillref04_Two.j0 k a0 a1 a2 (a2 == 0)) else (if a0 = 10 then (tidemillref04_Two.j0 k a0 a1 a2 (a2 == 0)) else (tidemillref04_Two.j0 k a0 a1 a2 false))
theorem tidemillref04_Two.mono_l : ∀ k, (∀ y0 y1 y2 y3, LeO (tidemillref04_Two.j0 k y0 y1 y2 y3) (tidemillref04_Two.j0 (k + 1) y0 y1 y2 y3))
  | 0 => fun _ _ _ _ r h => by simp [tidemillref04_Two.j0] at h
  | k + 1 => by
    have ih0 := tidemillref04_Two.mono_l k
    · intro y0 y1 y2 y3
      unfold tidemillref04_Two.j0
      repeat' first
      | (with_reducible exact ih0 _ _ _ _)
      | (with_reducible exact LeO.refl _)
      | (with_reducible exact LeO.none _)
      | (with_reducible refine LeO.ite ?_ ?_)
      | (with_reducible refine LeO.bind ?_ (fun _ => ?_))
      | exact ih0 _ _ _ _
      | exact LeO.none _
      | refine LeO.ite ?_ ?_
      | refine LeO.bind ?_ (fun _ => ?_)
theorem tidemillref04_Two.mono : ∀ a0 a1 a2 k, LeO (tidemillref04_Two.f k a0 a1 a2) (tidemillref04_Two.f (k + 1) a0 a1 a2) := by
  intro a0 a1 a2 k
  have ih0 := tidemillref04_Two.mono_l k
  unfold tidemillref04_Two.f
  repeat' first
      | (with_reducible exact ih0 _ _ _ _)
      | (with_reducible exact LeO.refl _)
      | (with_reducible exact LeO.none _)
      | (with_reducible refine LeO.ite ?_ ?_)
      | (with_reducible refine LeO.bind ?_ (fun _ => ?_))
      | exact ih0 _ _ _ _
      | exact LeO.none _
      | refine LeO.ite ?_ ?_
      | refine LeO.bind ?_ (fun _ => ?_)
set_option maxHeartbeats 8000000 in
set_option maxRecDepth 100000 in
theorem tidemillref04_Two.calls (k : Nat) (a0 : Int) (a1 : Int) (a2 : Int) (r1 : Int) (r2 : Int) (w : World) (h : tidemillref04_Two.f k a0 a1 a2 = some (r1, r2)) :
    Calls Try.prog 40 #[.int .i64 a0, .int .i64 a1, .int .i64 a2] w fun e w' => e = .returned (.tuple #[.int .i64 r1, .int .i64 r2]) ∧ Drawn0 w w' := by
  have H : (if a0 = 9 then (tidemillref04_Two.j0 k a0 a1 a2 (a2 == 0)) else (if a0 = 10 then (tidemillref04_Two.j0 k a0 a1 a2 (a2 == 0)) else (tidemillref04_Two.j0 k a0 a1 a2 false))) = some (r1, r2) := h
  clear h
  have HC4 := Aside0.mk H
  clear H
  go_enter Try.func40, Try.ntmps40
  go_upto_region 1 with (fail)
  go_cut [17] (fun v17 wc => ∃ (kq : Nat) (x17_3 : Bool), v17 = .bool x17_3 ∧ Aside0 (tidemillref04_Two.j0 kq a0 a1 a2 x17_3 = some (r1, r2)) ∧ Aside0 (kq ≤ k) ∧ Drawn0 w wc)
  case first =>
    have H := HC4.out
    clear HC4
    by_cases c5 : a0 = 9
    · rw [if_pos c5] at H
      have c5b0 : (a0 == 9) = true := beq_iff_eq.mpr c5
      have c5b1 : (a0 != 9) = false := bne_eq_false_iff_eq.mpr c5
      clear c5
      (first | rw [c5b0] | (simp only [i64_w, i32_w]; rw [c5b0]) | skip)
      have H' := Aside0.mk H
      clear H
      go_wp2
      go_meet
      case rel => exact ⟨_, ((a2 == 0)), (by first | rfl | (simp; done) | (simp [*]; done)), H', ⟨by first | omega | exact Nat.le_refl _⟩, by repeat (first | exact Drawn0.refl _ | apply Drawn0.step)⟩
    · rw [if_neg c5] at H
      have c5b0 : (a0 == 9) = false := beq_eq_false_iff_ne.mpr c5
      have c5b1 : (a0 != 9) = true := bne_iff_ne.mpr c5
      (first | rw [c5b0] | (simp only [i64_w, i32_w]; rw [c5b0]) | skip)
      by_cases c6 : a0 = 10
      · rw [if_pos c6] at H
        have c6b0 : (a0 == 10) = true := beq_iff_eq.mpr c6
        have c6b1 : (a0 != 10) = false := bne_eq_false_iff_eq.mpr c6
        clear c6
        have H' := Aside0.mk H
        clear H
        go_wp2
        go_meet
        case rel => exact ⟨_, ((a2 == 0)), (by first | rfl | (simp; done) | (simp [*]; done)), H', ⟨by first | omega | exact Nat.le_refl _⟩, by repeat (first | exact Drawn0.refl _ | apply Drawn0.step)⟩
      · rw [if_neg c6] at H
        have c6b0 : (a0 == 10) = false := beq_eq_false_iff_ne.mpr c6
        have c6b1 : (a0 != 10) = true := bne_iff_ne.mpr c6
        have H' := Aside0.mk H
        clear H
        go_wp2
        go_meet
        case rel => exact ⟨_, (false), (by first | rfl | (simp; done) | (simp [*]; done)), H', ⟨by first | omega | exact Nat.le_refl _⟩, by repeat (first | exact Drawn0.refl _ | apply Drawn0.step)⟩
  case rest =>
    clear HC4
    try clear p2
    try clear c4
    try clear c5
    try clear c5b0
    try clear c5b1
    try clear c6
    try clear c6b0
    try clear c6b1
    obtain ⟨kq, x17_3, rfl, HA, HJ3, ⟨mc3, rfl⟩⟩ := hcut
    cases kq with
    | zero => exact absurd HA.out (by simp [tidemillref04_Two.j0])
    | succ kj3 =>
      have H := HA.out
      clear HA
      simp only [tidemillref04_Two.j0] at H
      by_cases c7 : x17_3 = true
      · subst c7
        have H1 : (some (0, 10)) = some (r1, r2) := by rw [if_pos rfl] at H; exact H
        clear H
        have H := H1
        clear H1
        simp only [Option.some.injEq, Prod.mk.injEq] at H
        obtain ⟨rfl, rfl⟩ := H
        go_wp2
        go_ret2
        exact ⟨by first | rfl | (simp; done) | (simp [*]; done), by repeat (first | exact Drawn0.refl _ | apply Drawn0.step)⟩
      · replace c7 := Bool.eq_false_iff.mpr c7
        subst c7
        have H1 : (if a0 = 6 then (some (wrap64 (a1 + a2), 0)) else (if a0 = 7 then (some (wrap64 (a1 - a2), 0)) else (if a0 = 8 then (some (wrap64 (a1 * a2), 0)) else (if a0 = 9 then (if a2 = 0 then (none) else (some (wrap64 (Int.tdiv a1 a2), 0))) else (if a0 = 10 then (if a2 = 0 then (none) else (some (wrap64 (a1 - (wrap64 ((wrap64 (Int.tdiv a1 a2)) * a2))), 0))) else (if a0 = 11 then ((tidemillref04_bit.f (decide (a1 < a2))).bind fun t295 => (some (t295, 0))) else (if a0 = 12 then ((tidemillref04_bit.f (a1 == a2)).bind fun t296 => (some (t296, 0))) else (if a0 = 15 then (if a2 < a1 then (some (a2, 0)) else (some (a1, 0))) else (if a2 > a1 then (some (a2, 0)) else (some (a1, 0))))))))))) = some (r1, r2) := by rw [if_neg (show ¬ (false = true) by decide)] at H; exact H
        clear H
        have H := H1
        clear H1
        by_cases c8 : a0 = 6
        · rw [if_pos c8] at H
          have c8b0 : (a0 == 6) = true := beq_iff_eq.mpr c8
          have c8b1 : (a0 != 6) = false := bne_eq_false_iff_eq.mpr c8
          clear c8
          simp only [Option.some.injEq, Prod.mk.injEq] at H
          obtain ⟨rfl, rfl⟩ := H
          go_wp2
          go_ret2
          exact ⟨by first | rfl | (simp; done) | (simp [*]; done), by repeat (first | exact Drawn0.refl _ | apply Drawn0.step)⟩
        · rw [if_neg c8] at H
          have c8b0 : (a0 == 6) = false := beq_eq_false_iff_ne.mpr c8
          have c8b1 : (a0 != 6) = true := bne_iff_ne.mpr c8
          by_cases c9 : a0 = 7
          · rw [if_pos c9] at H
            have c9b0 : (a0 == 7) = true := beq_iff_eq.mpr c9
            have c9b1 : (a0 != 7) = false := bne_eq_false_iff_eq.mpr c9
            clear c9
            simp only [Option.some.injEq, Prod.mk.injEq] at H
            obtain ⟨rfl, rfl⟩ := H
            go_wp2
            go_ret2
            exact ⟨by first | rfl | (simp; done) | (simp [*]; done), by repeat (first | exact Drawn0.refl _ | apply Drawn0.step)⟩
          · rw [if_neg c9] at H
            have c9b0 : (a0 == 7) = false := beq_eq_false_iff_ne.mpr c9
            have c9b1 : (a0 != 7) = true := bne_iff_ne.mpr c9
            by_cases c10 : a0 = 8
            · rw [if_pos c10] at H
              have c10b0 : (a0 == 8) = true := beq_iff_eq.mpr c10
              have c10b1 : (a0 != 8) = false := bne_eq_false_iff_eq.mpr c10
              clear c10
              simp only [Option.some.injEq, Prod.mk.injEq] at H
              obtain ⟨rfl, rfl⟩ := H
              go_wp2
              go_ret2
              exact ⟨by first | rfl | (simp; done) | (simp [*]; done), by repeat (first | exact Drawn0.refl _ | apply Drawn0.step)⟩
            · rw [if_neg c10] at H
              have c10b0 : (a0 == 8) = false := beq_eq_false_iff_ne.mpr c10
              have c10b1 : (a0 != 8) = true := bne_iff_ne.mpr c10
              by_cases c11 : a0 = 9
              · rw [if_pos c11] at H
                have c11b0 : (a0 == 9) = true := beq_iff_eq.mpr c11
                have c11b1 : (a0 != 9) = false := bne_eq_false_iff_eq.mpr c11
                clear c11
                by_cases c12 : a2 = 0
                · rw [if_pos c12] at H
                  exact absurd H (by simp)
                · rw [if_neg c12] at H
                  have c12b0 : (a2 == 0) = false := beq_eq_false_iff_ne.mpr c12
                  have c12b1 : (a2 != 0) = true := bne_iff_ne.mpr c12
                  simp only [Option.some.injEq, Prod.mk.injEq] at H
                  obtain ⟨rfl, rfl⟩ := H
                  go_wp2
                  go_ret2
                  exact ⟨by first | rfl | (simp; done) | (simp [*]; done), by repeat (first | exact Drawn0.refl _ | apply Drawn0.step)⟩
              · rw [if_neg c11] at H
                have c11b0 : (a0 == 9) = false := beq_eq_false_iff_ne.mpr c11
                have c11b1 : (a0 != 9) = true := bne_iff_ne.mpr c11
                by_cases c13 : a0 = 10
                · rw [if_pos c13] at H
                  have c13b0 : (a0 == 10) = true := beq_iff_eq.mpr c13
                  have c13b1 : (a0 != 10) = false := bne_eq_false_iff_eq.mpr c13
                  clear c13
                  by_cases c14 : a2 = 0
                  · rw [if_pos c14] at H
                    exact absurd H (by simp)
                  · rw [if_neg c14] at H
                    have c14b0 : (a2 == 0) = false := beq_eq_false_iff_ne.mpr c14
                    have c14b1 : (a2 != 0) = true := bne_iff_ne.mpr c14
                    simp only [Option.some.injEq, Prod.mk.injEq] at H
                    obtain ⟨rfl, rfl⟩ := H
                    go_wp2
                    go_ret2
                    exact ⟨by first | rfl | (simp; done) | (simp [*]; done), by repeat (first | exact Drawn0.refl _ | apply Drawn0.step)⟩
                · rw [if_neg c13] at H
                  have c13b0 : (a0 == 10) = false := beq_eq_false_iff_ne.mpr c13
                  have c13b1 : (a0 != 10) = true := bne_iff_ne.mpr c13
                  by_cases c15 : a0 = 11
                  · rw [if_pos c15] at H
                    have c15b0 : (a0 == 11) = true := beq_iff_eq.mpr c15
                    have c15b1 : (a0 != 11) = false := bne_eq_false_iff_eq.mpr c15
                    clear c15
                    replace H := Option.bind_eq_some_iff.mp H
                    obtain ⟨t295, A160, H⟩ := H
                    replace H : (some (t295, 0)) = some (r1, r2) := H
                    have A16 := Aside0.mk A160
                    clear A160
                    simp only [Option.some.injEq, Prod.mk.injEq] at H
                    obtain ⟨rfl, rfl⟩ := H
                    go_wp2_with (first | ((with_reducible refine gate_callee (f := 50) rfl ?_); refine goesL_ (some 53) rfl rfl Try.func50 (by kernel_rfl) rfl #[.bool (decide (a1 < a2))] rfl (by (try simp only [List.map_toArray, List.map_cons, List.map_nil]); first | done | rfl | (simp only [List.length_drop, List.length_take]; rfl)) ?_; (with_reducible refine (tidemillref04_bit.calls (decide (a1 < a2)) t295 _ A16.out).mono ?_); rintro e w' ⟨rfl, ⟨nd, rfl⟩⟩; refine ⟨_, rfl, ?_⟩))
                    go_ret2
                    exact ⟨by first | rfl | (simp; done) | (simp [*]; done), by repeat (first | exact Drawn0.refl _ | apply Drawn0.step)⟩
                  · rw [if_neg c15] at H
                    have c15b0 : (a0 == 11) = false := beq_eq_false_iff_ne.mpr c15
                    have c15b1 : (a0 != 11) = true := bne_iff_ne.mpr c15
                    by_cases c17 : a0 = 12
                    · rw [if_pos c17] at H
                      have c17b0 : (a0 == 12) = true := beq_iff_eq.mpr c17
                      have c17b1 : (a0 != 12) = false := bne_eq_false_iff_eq.mpr c17
                      clear c17
                      replace H := Option.bind_eq_some_iff.mp H
                      obtain ⟨t296, A180, H⟩ := H
                      replace H : (some (t296, 0)) = some (r1, r2) := H
                      have A18 := Aside0.mk A180
                      clear A180
                      simp only [Option.some.injEq, Prod.mk.injEq] at H
                      obtain ⟨rfl, rfl⟩ := H
                      go_wp2_with (first | ((with_reducible refine gate_callee (f := 50) rfl ?_); refine goesL_ (some 59) rfl rfl Try.func50 (by kernel_rfl) rfl #[.bool (a1 == a2)] rfl (by (try simp only [List.map_toArray, List.map_cons, List.map_nil]); first | done | rfl | (simp only [List.length_drop, List.length_take]; rfl)) ?_; (with_reducible refine (tidemillref04_bit.calls (a1 == a2) t296 _ A18.out).mono ?_); rintro e w' ⟨rfl, ⟨nd, rfl⟩⟩; refine ⟨_, rfl, ?_⟩))
                      go_ret2
                      exact ⟨by first | rfl | (simp; done) | (simp [*]; done), by repeat (first | exact Drawn0.refl _ | apply Drawn0.step)⟩
                    · rw [if_neg c17] at H
                      have c17b0 : (a0 == 12) = false := beq_eq_false_iff_ne.mpr c17
                      have c17b1 : (a0 != 12) = true := bne_iff_ne.mpr c17
                      by_cases c19 : a0 = 15
                      · rw [if_pos c19] at H
                        have c19b0 : (a0 == 15) = true := beq_iff_eq.mpr c19
                        have c19b1 : (a0 != 15) = false := bne_eq_false_iff_eq.mpr c19
                        clear c19
                        by_cases c20 : a2 < a1
                        · rw [if_pos c20] at H
                          have c20b0 : decide (a2 < a1) = true := decide_eq_true c20
                          clear c20
                          simp only [Option.some.injEq, Prod.mk.injEq] at H
                          obtain ⟨rfl, rfl⟩ := H
                          go_wp2
                          go_ret2
                          exact ⟨by first | rfl | (simp; done) | (simp [*]; done), by repeat (first | exact Drawn0.refl _ | apply Drawn0.step)⟩
                        · rw [if_neg c20] at H
                          have c20b0 : decide (a2 < a1) = false := decide_eq_false c20
                          clear c20
                          simp only [Option.some.injEq, Prod.mk.injEq] at H
                          obtain ⟨rfl, rfl⟩ := H
                          go_wp2
                          go_ret2
                          exact ⟨by first | rfl | (simp; done) | (simp [*]; done), by repeat (first | exact Drawn0.refl _ | apply Drawn0.step)⟩
                      · rw [if_neg c19] at H
                        have c19b0 : (a0 == 15) = false := beq_eq_false_iff_ne.mpr c19
                        have c19b1 : (a0 != 15) = true := bne_iff_ne.mpr c19
                        by_cases c21 : a2 > a1
                        · rw [if_pos c21] at H
                          have c21b0 : decide (a1 < a2) = true := decide_eq_true c21
                          clear c21
                          simp only [Option.some.injEq, Prod.mk.injEq] at H
                          obtain ⟨rfl, rfl⟩ := H
                          go_wp2
                          go_ret2
                          exact ⟨by first | rfl | (simp; done) | (simp [*]; done), by repeat (first | exact Drawn0.refl _ | apply Drawn0.step)⟩
                        · rw [if_neg c21] at H
                          have c21b0 : decide (a1 < a2) = false := decide_eq_false c21
                          clear c21
                          simp only [Option.some.injEq, Prod.mk.injEq] at H
                          obtain ⟨rfl, rfl⟩ := H
                          go_wp2
                          go_ret2
                          exact ⟨by first | rfl | (simp; done) | (simp [*]; done), by repeat (first | exact Drawn0.refl _ | apply Drawn0.step)⟩

end Go.Proofs.Ytpcbcekfakjgkaa.Ex
